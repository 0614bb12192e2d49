/- Models, plain laws and contracts of functions of the given program; conditions as stated in each theorem. By an AI agent. -/
import Derived.Test.YtkhjcnjicjgfiaaGreatDoorW19
import Derived.Test.YtkhjcnjicjgfiaaGreatDoorW13
import Derived.Test.YtkhjcnjicjgfiaaGreatDoorW12
import Derived.Deep.RegionLaw
import Derived.Lib.SliceRun
import Derived.Laws.Tables
import Derived.Laws.CopyRow
import Derived.Sort.WalkB12
import Derived.Laws.StructEq
import Derived.Tactics
import Derived.Test.YtkhjcnjicjgfiaaGreatDoorW17
import Derived.Test.YtkhjcnjicjgfiaaGreatDoorW18
set_option linter.unusedSimpArgs false
set_option linter.unusedVariables false
namespace Go.Proofs.Heir
open Go Go.Am Go.RowKit Go.Lib
set_option maxRecDepth 100000
set_option maxHeartbeats 8000000
set_option maxHeartbeats 8000000
def c7 (l:List ai)(gone:Int)(cs:List Int)(kd:Int):Nat:=cs.countP fun k=>decide (k≠gone)&&decide ((nd l k).kind=kd)
def dU (l:List ai)(p gone:Int)(cs:List Int):Bool:=decide (0<c7 l gone cs 2)||(decide (0<c7 l gone cs 1)&&decide (1<c7 l gone cs 1+c7 l gone (nd l p).kids 1))
def fI (l:List ai)(a b:Int):Bool:=decide (a∈U.bT l b)
def k8 (l:List ai)(n p:Int):Bool:=decide ((nd l p).kind≠2)&& !fI l n p
def dI (l:List ai)(p child gone n:Int):Int:=
  if(!dS (nd l p).kind||fI l n p)=true then 5
  else if child≠-1∧(nd l child).parent≠p then 6
  else if(nd l n).kind=0∨(nd l n).kind=4 then 5
  else if(nd l n).kind=3 then(if(decide ((nd l p).kind=0)&&dU l p gone (nd l n).kids)=true then 5 else 0)
  else if(decide ((nd l p).kind=0)&&dU l p gone [n])=true then 5 else 0
def dh (f:ForM)(n p child:Int):Bool:=(bC f&&(af f.nodes n&&af f.nodes p))&&(decide (child=-1)||af f.nodes child)
def kV (f:ForM)(n p child:Int):Int:=if dh f n p child=true then dI f.nodes p child (-1) n else 1
def iw (f:ForM)(n p child:Int):Int:=if dh f n p child=true then(if(decide (child=-1)&&(decide (dI f.nodes p child child n=0)||k8 f.nodes n p))=true then 6 else dI f.nodes p child child n) else 1
def cu:List Int→Int→Int
  |[],_=> -1
  |a::r,c=>if a=c then(r.head?).getD (-1) else cu r c
def ej (f:ForM)(n p child:Int):Int:=if kV f n p child≠0 then-1 else if child≠n then child else cu (nd f.nodes p).kids n
def tF (l:List ai)(n p child:Int)(swap:Bool):Int:=
  if(nd l p).kind=2 then 5
  else if fI l n p=true then 5
  else if((decide (child=-1)&&swap)||(decide (child≠-1)&&decide (((nd l p).kids.count child:Int)=0)))=true then 6
  else if(nd l n).kind=0∨(nd l n).kind=4 then 5
  else if(nd l p).kind≠0 then 0
  else if(decide (0<c7 l (if swap=true then child else-1) (cC l n) 2)||(decide (1<c7 l (if swap=true then child else-1) (cC l n) 1)||(decide (c7 l (if swap=true then child else-1) (cC l n) 1=1)&&decide (0<c7 l (if swap=true then child else-1) (nd l p).kids 1))))=true then 5 else 0
section
variable {l : List ai} {m : Int}
theorem RF.kinds (R:RF l m){n:Int}(hn:af l n=true):0≤ (nd l n).kind∧(nd l n).kind≤4:=(l9.1 (R.Ib n hn)).1
theorem RF.I2 (R:RF l m){n:Int}(hn:af l n=true):dS (nd l n).kind=decide ((nd l n).kind≠2):=by
  rw[Bool.eq_iff_iff,pJ (R.kinds hn),aP]
theorem RF.child (R:RF l m){p c:Int}(hp:af l p=true)(hc:af l c=true):(nd l c).parent=p↔c∈ (nd l p).kids:=by
  constructor
  · intro h
    have:=br hp
    have q:=(R.par c hc (by omega)).2.2.2
    rwa [h] at q
  ·intro h;exact(R.kid p hp c h).2.1
theorem yO (p gone:Int)(cs:List Int):(decide (0<c7 l gone cs 2)||(decide (1<c7 l gone cs 1)||(decide (c7 l gone cs 1=1)&&decide (0<c7 l gone (nd l p).kids 1))))=dU l p gone cs:=by
  unfold dU
  rw[Bool.eq_iff_iff]
  simp only[dw,bg,aP]
  omega
theorem tail_eq (p gone n:Int):(if(nd l n).kind=3 then(if(decide ((nd l p).kind=0)&&dU l p gone (nd l n).kids)=true then(5:Int) else 0) else if(decide ((nd l p).kind=0)&&dU l p gone [n])=true then 5 else 0)=if(nd l p).kind≠0 then 0 else if dU l p gone (cC l n)=true then 5 else 0:=by
  unfold cC
  by_cases e0:(nd l p).kind=0<;>by_cases e3:(nd l n).kind=3<;>simp[e0,e3]
theorem Et (R:RF l m){n p child:Int}(hn:af l n=true)(hp:af l p=true)(hc:child=-1∨af l child=true):dI l p child (-1) n=tF l n p child false:=by
  unfold dI tF
  rw[R.I2 hp]
  by_cases e2:(nd l p).kind=2
  ·rw[if_pos e2,e2];simp
  rw[if_neg e2]
  by_cases eo:fI l n p=true
  ·rw[eo];simp[e2]
  have eo':fI l n p=false:=by simpa using eo
  rw[eo',if_neg (show ¬ ((!decide ((nd l p).kind≠2)||false)=true) by simp[e2]),if_neg (show ¬ (false=true) by simp)]
  have hcc:(child≠-1∧(nd l child).parent≠p)↔ ((decide (child=-1)&&false)||(decide (child≠-1)&&decide (((nd l p).kids.count child:Int)=0)))=true:=by
    simp only[Bool.and_false,Bool.false_or,bg,aP]
    constructor
    · rintro⟨h1,h2⟩
      refine⟨h1,?_⟩
      have:=fun q=>h2 ((R.child hp (hc.resolve_left h1)).2 q)
      rw[List.count_eq_zero.2 this];rfl
    · rintro⟨h1,h2⟩
      refine⟨h1,fun q=>?_⟩
      have:=(R.child hp (hc.resolve_left h1)).1 q
      have:=List.count_pos_iff.2 this
      omega
  by_cases ec:child≠-1∧(nd l child).parent≠p
  ·rw[if_pos ec,if_pos (hcc.1 ec)]
  rw[if_neg ec,if_neg (fun q=>ec (hcc.2 q))]
  by_cases ek:(nd l n).kind=0∨(nd l n).kind=4
  ·rw[if_pos ek,if_pos ek]
  rw[if_neg ek,if_neg ek]
  simp only[yO]
  rw[tail_eq,if_neg (show ¬ (false=true) by simp)]
theorem C8 (R:RF l m){n p child:Int}(hn:af l n=true)(hp:af l p=true)(hc:child=-1∨af l child=true):(if(decide (child=-1)&&(decide (dI l p child child n=0)||k8 l n p))=true then 6 else dI l p child child n)=tF l n p child true:=by
  unfold dI tF k8
  rw[R.I2 hp]
  by_cases e2:(nd l p).kind=2
  ·rw[if_pos e2,e2];simp
  rw[if_neg e2]
  by_cases eo:fI l n p=true
  ·rw[eo];simp[e2]
  have eo':fI l n p=false:=by simpa using eo
  rw[eo',if_neg (show ¬ (false=true) by simp)]
  by_cases e1:child=-1
  ·rw[if_pos (by simp[e1,e2]),if_pos (by simp[e1])]
  rw[if_neg (show ¬ ((decide (child=-1)&&(decide ((if(!decide ((nd l p).kind≠2)||false)=true then 5 else if child≠-1∧(nd l child).parent≠p then 6 else if(nd l n).kind=0∨(nd l n).kind=4 then 5 else if(nd l n).kind=3 then if(decide ((nd l p).kind=0)&&dU l p child (nd l n).kids)=true then 5 else 0 else if(decide ((nd l p).kind=0)&&dU l p child [n])=true then 5 else 0)=(0:Int))||(decide ((nd l p).kind≠2)&& !false)))=true) by simp[e1]),if_neg (show ¬ ((!decide ((nd l p).kind≠2)||false)=true) by simp[e2])]
  have hct:=hc.resolve_left e1
  by_cases ec:(nd l child).parent=p
  · have hm:=(R.child hp hct).1 ec
    have hg:¬ (((decide (child=-1)&&true)||(decide (child≠-1)&&decide (((nd l p).kids.count child:Int)=0)))=true):=by
      have:=List.count_pos_iff.2 hm
      simp only[Bool.and_true,dw,bg,aP]
      rintro(h|⟨_,h⟩)
      ·exact e1 h
      ·omega
    rw[if_neg (fun q:child≠-1∧(nd l child).parent≠p=>q.2 ec),if_neg hg]
    by_cases ek:(nd l n).kind=0∨(nd l n).kind=4
    ·rw[if_pos ek,if_pos ek]
    rw[if_neg ek,if_neg ek]
    simp only[yO]
    rw[tail_eq]
    simp only[if_true]
  · have hm:child∉ (nd l p).kids:=fun q=>ec ((R.child hp hct).2 q)
    have hg:((decide (child=-1)&&true)||(decide (child≠-1)&&decide (((nd l p).kids.count child:Int)=0)))=true:=by
      have:=List.count_eq_zero.2 hm
      simp only[Bool.and_true,dw,bg,aP]
      exact .inr ⟨e1,by omega⟩
    rw[if_pos ⟨e1,ec⟩,if_pos hg]
theorem jP:∀ {cs:List Int} {c:Int},cs.Nodup→cu cs c=-1∨(cu cs c∈cs∧cu cs c≠c)
  |[],c,_=>.inl rfl
  | a ::r,c,h=>by
    rw[List.nodup_cons] at h
    unfold cu
    by_cases e:a=c
    · subst e
      rw[if_pos rfl]
      cases r with
      |nil=>exact .inl rfl
      |cons b t=>exact .inr ⟨by simp,fun q=>h.1 (by simp at q;simp[q])⟩
    · rw[if_neg e]
      rcases jP (c:=c) h.2 with q|⟨q1,q2⟩
      ·exact .inl q
      ·exact .inr ⟨fJ _ q1,q2⟩
theorem wC (a:Int)(r:List Int)(c:Int):cu (a::r) c=if a=c then(r.head?).getD (-1) else cu r c:=rfl
theorem zw:∀ {cs:List Int} {c:Int},c∉cs→cu cs c=-1
  |[],c,_=>rfl
  | a::r,c,h=>by
    unfold cu
    rw[if_neg (fun e:a=c=>h (by rw[e];exact gE))]
    exact zw fun q=>h (fJ _ q)
theorem wc:∀ {cs:List Int} {c:Int},c≠-1→cs.Nodup→cu cs c≠-1→cu cs (cu cs c)≠c
  |[],c,_,_,h=>absurd rfl h
  | a :: r,c,hc,hd,h=>by
    rw[List.nodup_cons] at hd
    by_cases e:a=c
    · subst e
      cases r with
      |nil=>unfold cu at h;simp at h
      | cons b t=>
        have hab:¬a=b:=fun q=>hd.1 (by simp[q])
        have e1:cu (a::b::t) a=b:=by unfold cu;rw[if_pos rfl];rfl
        rw[e1]
        show(if a=b then _ else cu (b::t) b)≠a
        rw[if_neg hab]
        show(if b=b then(t.head?).getD (-1) else _)≠a
        rw[if_pos rfl]
        cases t with
        |nil=>exact fun q=>hc q.symm
        |cons d u=>exact fun q=>hd.1 (by simp at q;simp[q])
    · have e1:cu (a::r) c=cu r c:=by
        show(if a=c then _ else cu r c)=_
        rw[if_neg e]
      rw[e1] at h ⊢
      have hin:cu r c∈r:=((jP (c:=c) hd.2).resolve_left h).1
      have hne:¬a=cu r c:=fun q=>hd.1 (q▸hin)
      show(if a=cu r c then _ else cu r (cu r c))≠c
      rw[if_neg hne];exact wc hc hd.2 h
theorem jM (l:List ai){cs:List Int}{gone:Int}(h:gone∉cs)(kd:Int):c7 l gone cs kd=cs.countP fun k=>decide ((nd l k).kind=kd):=by
  unfold c7
  refine List.countP_congr fun c hc=>?_
  have:c≠gone:=fun e=>h (e▸hc)
  simp[this]
theorem rE {cs:List Int}(h1:∀c∈cs,(nd l c).kind=1∨(nd l c).kind=2)(h2:cs.countP (fun k=>decide ((nd l k).kind=2))=0):(∀c∈cs,(nd l c).kind=1)∧cs.countP (fun k=>decide ((nd l k).kind=1))=cs.length:=by
  have h3:∀c∈cs,(nd l c).kind=1:=fun c hc=>(h1 c hc).resolve_right fun q=>by
    have:=List.countP_eq_zero.1 h2 c hc
    simp[q] at this
  exact⟨h3,List.countP_eq_length.2 fun c hc=>by simp[h3 c hc]⟩
theorem yx (R:RF l m){p c:Int}(hp:af l p=true)(hc:c∈ (nd l p).kids):c∉U.bT l p:=fun h=>by
  have q:=R.kid p hp c hc
  have h0:=br hp
  have hw:U.bT l c=c::U.bT l p:=by
    have hu:cZ (nd l c)=p:=by rw[R.fj q.1 (by omega),q.2.1]
    rw[U.cB R.tree q.1 (by omega),hu]
  obtain⟨t,ht⟩:=U.ia R.tree p hp c h
  have:=congrArg List.length ht
  rw[jN,hw,List.length_cons] at this
  omega
theorem xw (R:RF l m){n p child:Int}(hn:af l n=true)(hp:af l p=true)(hc:child=-1∨af l child=true)(h:dI l p child (-1) n=0):oh l n p (if child≠n then child else cu (nd l p).kids n):=by
  have hn0:=br hn
  unfold dI at h
  by_cases e1:(!dS (nd l p).kind||fI l n p)=true
  ·rw[if_pos e1] at h;omega
  rw[if_neg e1] at h
  have e1':dS (nd l p).kind=true∧fI l n p=false:=by simpa using e1
  by_cases e2:child≠-1∧(nd l child).parent≠p
  ·rw[if_pos e2] at h;omega
  rw[if_neg e2] at h
  by_cases e3:(nd l n).kind=0∨(nd l n).kind=4
  ·rw[if_pos e3] at h;omega
  rw[if_neg e3] at h
  have hk:=R.kinds hn
  have hch:child=-1∨child∈ (nd l p).kids:=by
    by_cases c:child=-1
    ·exact .inl c
    · refine .inr ((R.child hp (hc.resolve_left c)).1 ?_)
      exact Classical.byContradiction fun q=>e2 ⟨c,q⟩
  have hno:∀cs:List Int,(∀c∈cs,af l c=true)→(-1:Int)∉cs:=fun cs hcs q=>by have:=br (hcs _ q);omega
  refine⟨hn,hp,by omega,e1'.1,by have:=e1'.2;unfold fI at this;simpa using this,?_,fun h0=>?_⟩
  · by_cases e:child≠n
    · rw[if_pos e]
      rcases hch with q|q
      ·exact .inl q
      ·exact .inr ⟨e,q⟩
    · rw[if_neg e]
      rcases jP (c:=n) (R.dup p hp) with q|⟨q1,q2⟩
      ·exact .inl q
      ·exact .inr ⟨q2,q1⟩
  · have hkids:∀c∈ (nd l p).kids,af l c=true:=fun c hc=>(R.kid p hp c hc).1
    have hel:=R.elems p hp h0
    have hle:cA l ((nd l p).kids.erase n)≤cA l (nd l p).kids:=List.Sublist.countP_le List.erase_sublist
    have hek:c7 l (-1) (nd l p).kids 1=cA l (nd l p).kids:=jM l (hno _ hkids) 1
    have fin:∀cs:List Int,(∀c∈cs,af l c=true)→(∀c∈cs,(nd l c).kind=1∨(nd l c).kind=2)→dU l p (-1) cs=false→(∀k∈cs,(nd l k).kind=1)∧cs.length+cA l ((nd l p).kids.erase n)≤1:=by
      intro cs hcs hkd hcr
      unfold dU at hcr
      rw[jM l (hno _ hcs) 1,jM l (hno _ hcs) 2,hek] at hcr
      simp only[Bool.or_eq_false_iff,Bool.and_eq_false_iff,cj] at hcr
      have:=rE hkd (by omega)
      refine⟨this.1,?_⟩
      rw[this.2] at hcr
      omega
    by_cases e5:(nd l n).kind=3
    · have hpar:cC l n=(nd l n).kids:=by unfold cC;rw[if_pos e5]
      rw[if_pos e5] at h
      rw[hpar]
      refine fin _ (fun c hc=>(R.kid n hn c hc).1) (fun c hc=>by have:=(R.kid n hn c hc).2.2.2;omega) ?_
      by_cases q:dU l p (-1) (nd l n).kids=true
      ·rw[if_pos (by simp[h0,q])] at h;omega
      ·simpa using q
    · rw[if_neg e5] at h
      rw[gO e5]
      refine fin _ (fun c hc=>by rw[je.1 hc];exact hn) (fun c hc=>by rw[je.1 hc];omega) ?_
      by_cases q:dU l p (-1) [n]=true
      ·rw[if_pos (by simp[h0,q])] at h;omega
      ·simpa using q
theorem uF (R:RF l m){n p child:Int}(hn:af l n=true)(hp:af l p=true)(hct:af l child=true)(h:dI l p child child n=0):child∈ (nd l p).kids∧oh (bj l child) n p (if cu (nd l p).kids child≠n then cu (nd l p).kids child else cu (nd l p).kids n):=by
  have hn0:=br hn
  have hc0:=br hct
  unfold dI at h
  by_cases e1:(!dS (nd l p).kind||fI l n p)=true
  ·rw[if_pos e1] at h;omega
  rw[if_neg e1] at h
  have e1':dS (nd l p).kind=true∧fI l n p=false:=by simpa using e1
  by_cases e2:child≠-1∧(nd l child).parent≠p
  ·rw[if_pos e2] at h;omega
  rw[if_neg e2] at h
  by_cases e3:(nd l n).kind=0∨(nd l n).kind=4
  ·rw[if_pos e3] at h;omega
  rw[if_neg e3] at h
  have hk:=R.kinds hn
  have hpar:(nd l child).parent=p:=Classical.byContradiction fun q=>e2 ⟨by omega,q⟩
  have hch:child∈ (nd l p).kids:=(R.child hp hct).1 hpar
  have L:=gB R hct
  have T:=bk (c9 l child)
  have hw:=yx R hp hch
  have hkp:(nd (bj l child) p).kids=(nd l p).kids.erase child:=by rw[(L p hp).2.2.2,if_pos hpar.symm]
  have hpe:cC (bj l child) n=cC l n:=by
    unfold cC
    rw[(L n hn).1.kind]
    by_cases e:(nd l n).kind=3
    · rw [if_pos e,if_pos e,(L n hn).2.2.2]
      split
      · rename_i q
        rw[←q.trans hpar.symm.symm] at e1'
        exact absurd (U.cM R.tree hn) (by have:=e1'.2;rw[q,hpar] at*;unfold fI at this;simpa using this)
      ·rfl
    ·rw[if_neg e,if_neg e]
  refine⟨hch,by rw[T];exact hn,by rw[T];exact hp,by rw[(L n hn).1.kind];omega,by rw[(L p hp).1.kind];exact e1'.1,?_,?_,fun h0=>?_⟩
  ·rw[xA R hct hp hw];have:=e1'.2;unfold fI at this;simpa using this
  · rw [hkp]
    rcases jP (c:=child) (R.dup p hp) with q|⟨q1,q2⟩
    ·rw[q,if_pos (by omega)];exact .inl rfl
    · by_cases e:cu (nd l p).kids child≠n
      ·rw[if_pos e];exact .inr ⟨e,(List.mem_erase_of_ne q2).2 q1⟩
      · rw [if_neg e]
        have e':cu (nd l p).kids child=n:=Classical.not_not.1 e
        rcases jP (c:=n) (R.dup p hp) with r|⟨r1,r2⟩
        ·exact .inl r
        · refine .inr ⟨r2,(List.mem_erase_of_ne fun q=>?_).2 r1⟩
          -- the next of the next is not the first again
          exact wc (c:=child) (by omega) (R.dup p hp) (by rw[e'];omega) (by rw[e'];exact q)
  · rw [(L p hp).1.kind] at h0
    have hkids:∀c∈ (nd l p).kids,af l c=true:=fun c hc=>(R.kid p hp c hc).1
    have hel:=R.elems p hp h0
    rw[hpe,hkp]
    have hee:∀cs:List Int,(∀c∈cs,af l c=true)→cA (bj l child) cs=cA l cs:=fun cs hcs=>nP (fun x hx=>(L x hx).1) hcs
    rw[hee _ fun c hc=>hkids c (List.mem_of_mem_erase (List.mem_of_mem_erase hc))]
    have hcd:(nd l child).kind=1:=by
      rcases(R.kid p hp child hch).2.2.2 with q|q
      ·exact q
      ·exact absurd h0 q.2
    have hone:cA l ((nd l p).kids.erase child)=0:=by
      have hp2:=(List.perm_cons_erase hch).countP_eq (fun c=>decide ((nd l c).kind=1))
      rw[List.countP_cons,if_pos (by simpa using hcd)] at hp2
      unfold cA at hel ⊢;omega
    have hz:cA l (((nd l p).kids.erase child).erase n)=0:=by
      have:cA l (((nd l p).kids.erase child).erase n)≤cA l ((nd l p).kids.erase child):=List.Sublist.countP_le List.erase_sublist
      omega
    rw[hz]
    have hks:∀k,af l k=true→(nd (bj l child) k).kind=(nd l k).kind:=fun k hk=>(L k hk).1.kind
    have fin:∀cs:List Int,(∀c∈cs,af l c=true)→(∀c∈cs,(nd l c).kind=1∨(nd l c).kind=2)→child∉cs→dU l p child cs=false→(∀k∈cs,(nd (bj l child) k).kind=1)∧cs.length+0≤1:=by
      intro cs hcs hkd hno hcr
      unfold dU at hcr
      rw[jM l hno 1,jM l hno 2] at hcr
      simp only[Bool.or_eq_false_iff,Bool.and_eq_false_iff,cj] at hcr
      have:=rE hkd (by omega)
      refine⟨fun k hk=>by rw[hks k (hcs k hk)];exact this.1 k hk,?_⟩
      rw[this.2] at hcr
      omega
    by_cases e5:(nd l n).kind=3
    · have hpar2:cC l n=(nd l n).kids:=by unfold cC;rw[if_pos e5]
      rw[if_pos e5] at h
      rw[hpar2]
      have hnp:n≠p:=fun q=>by
        have:=e1'.2
        unfold fI at this
        rw[q] at this
        simp[U.cM R.tree hp] at this
      refine fin _ (fun c hc=>(R.kid n hn c hc).1) (fun c hc=>by have:=(R.kid n hn c hc).2.2.2;omega) (fun q=>hnp ((R.kid n hn child q).2.1.symm.trans hpar)) ?_
      by_cases q:dU l p child (nd l n).kids=true
      ·rw[if_pos (by simp[h0,q])] at h;omega
      ·simpa using q
    · rw [if_neg e5] at h
      rw[gO e5]
      by_cases en:child=n
      · subst en
        exact⟨fun k hk=>by rw[je.1 hk,hks child hn];exact hcd,by simp⟩
      · refine fin _ (fun c hc=>by rw[je.1 hc];exact hn) (fun c hc=>by rw[je.1 hc];omega) (by simpa using en) ?_
        by_cases q:dU l p child [n]=true
        ·rw[if_pos (by simp[h0,q])] at h;omega
        ·simpa using q
end
section
variable {l l' : List ai} {m : Int}
theorem EV (R:RF l m){p:Int}(hp:af l p=true):∀c∈ (nd l p).kids,c≠-1:=fun c hc=>by have:=br (R.kid p hp c hc).1;omega
end
def dD (f:ForM)(n p child:Int):ForM×List aO×Int:=if kV f n p child=0 then(⟨(cJ (f.nodes,[]) n p (ej f n p child)).1,f.most⟩,(cJ (f.nodes,[]) n p (ej f n p child)).2,0) else(f,[],kV f n p child)
def dm (f:ForM)(n:Int):ForM×List aO×Int:=if(bC f&&af f.nodes n)=true then(if(nd f.nodes n).parent=-1 then(f,[],6) else(⟨(bW (f.nodes,[]) n).1,f.most⟩,(bW (f.nodes,[]) n).2,0)) else(f,[],1)
def fg (l:List ai)(n p child:Int):Int:=if cu (nd l p).kids child≠n then cu (nd l p).kids child else cu (nd l p).kids n
def replaceM (f:ForM)(n p child:Int):ForM×List aO×Int:=if iw f n p child=0 then(⟨(cJ (bW (f.nodes,[]) child) n p (fg f.nodes n p child)).1,f.most⟩,(cJ (bW (f.nodes,[]) child) n p (fg f.nodes n p child)).2,0) else(f,[],iw f n p child)
section
variable {l l' : List ai} {m : Int}
theorem nO {f:ForM}{n p child:Int}(h:kV f n p child≠0):dD f n p child=(f,[],kV f n p child):=by unfold dD;rw[if_neg h]
theorem nM (R:RF l m){n p child:Int}:dh ⟨l,m⟩ n p child=true↔ (af l n=true∧af l p=true)∧(child=-1∨af l child=true):=by
  unfold dh
  rw[dB.2 R]
  simp only[bg,dw,aP,Bool.true_and]
theorem tM (R:RF l m){n p child:Int}(hn:af l n=true)(hp:af l p=true)(hc:child=-1∨af l child=true):kV ⟨l,m⟩ n p child=dI l p child (-1) n:=by
  unfold kV;rw[if_pos ((nM R).2 ⟨⟨hn,hp⟩,hc⟩)]
theorem s8 (R:RF l m){n:Int}(hn:af l n=true)(hp:(nd l n).parent≠-1):dm ⟨l,m⟩ n=(⟨bj l n,m⟩,(if ju l n=true then k9 l n (dY 2 0 0) else[]),0):=by
  unfold dm
  rw[if_pos (by rw[dB.2 R,hn];rfl),if_neg hp,gl]
  unfold bW
  rw[if_neg hp,List.nil_append]
theorem oJ (R:RF l m){n:Int}(hn:af l n=true)(hp:(nd l n).parent=-1):dm ⟨l,m⟩ n=(⟨l,m⟩,[],6):=by
  unfold dm
  rw[if_pos (by rw[dB.2 R,hn];rfl),if_pos hp]
theorem uC {n p b:Int}(h:(nd l n).kind≠3)(t:List aO):cJ (l,t) n p b=cz p b (l,t) n:=by
  unfold cJ
  rw[gO h,if_neg h];rfl
end
section
variable {l l' : List ai} {m : Int}
end
def LX (b:Bool):Int:=if b=true then 1 else 0
def BI (s:Int×Int)(x:aO):Option (Int×Int):=
  match(if x.kind=1 then some (s.1+1,s.2) else if x.kind=2 then some (s.1-1,s.2) else if x.kind=3 then(if x.src≠s.2∨x.dst=s.2∨s.1≠0 then none else some (s.1,x.dst)) else some s:Option (Int×Int)) with
  |none=>none
  |some t=>if t.1<0∨1<t.1 then none else some t
def runN:Int×Int→List aO→Option (Int×Int)
  |s,[]=>some s
  | s,x::r=>match BI s x with
    |none=>none
    |some t=>runN t r
theorem zk:∀ (a b:List aO) (s:Int×Int),runN s (a++b)=match runN s a with
    |none=>none
    |some t=>runN t b
  |[],b,s=>rfl
  | x::a,b,s=>by
    show(match BI s x with|none=>none|some t=>runN t (a++b))=match(match BI s x with|none=>none|some t=>runN t a) with|none=>none|some t=>runN t b
    cases BI s x with
    |none=>rfl
    |some t=>exact zk a b t
def qc (n:Int)(ns:List aO):List aO:=ns.filter fun x=>decide (x.node=n)
theorem zB (n:Int)(a b:List aO):qc n (a++b)=qc n a++qc n b:=List.filter_append ..
structure Told (l l':List ai) (ns:List aO):Prop where
  el:∀x∈ns,af l x.node=true∧(nd l x.node).kind=1
  run:∀n,af l n=true→(nd l n).kind=1→runN (LX (ju l n),(nd l n).doc) (qc n ns)=some (LX (ju l' n),(nd l' n).doc)
theorem Told.nil (l:List ai):Told l l []:=⟨fun x hx=>by simp at hx,fun n _ _=>rfl⟩
theorem Told.trans {a b c:List ai}{x y:List aO}(hl:b.length=a.length)(hk:∀n,af a n=true→(nd b n).kind=(nd a n).kind)(h:Told a b x)(k:Told b c y):Told a c (x++y):=by
  have T:=bk hl
  refine⟨fun z hz=>?_,fun n hn h1=>?_⟩
  · rcases List.mem_append.1 hz with q|q
    ·exact h.el z q
    · have:=k.el z q
      rw[T] at this
      exact⟨this.1,by rw[←hk _ this.1];exact this.2⟩
  · rw[zB,zk,h.run n hn h1]
    exact k.run n (by rw[T];exact hn) (by rw[hk n hn];exact h1)
section
variable {l l' : List ai} {m : Int}
def tO (ns:List aO):Prop:=∀x∈ns,x.kind≠4
theorem tO.nil:tO []:=fun x hx=>by simp at hx
theorem tO.app {a b:List aO}(h:tO a)(k:tO b):tO (a++b):=fun x hx=>(List.mem_append.1 hx).elim (h x) (k x)
end
section
variable {l l' : List ai} {m : Int}
end
structure yu (x y:ai):Prop where
  kind:x.kind=y.kind
  parent:x.parent=y.parent
  kids:x.kids=y.kids
  host:x.host=y.host
  under:x.under=y.under
  doc:x.doc=y.doc
theorem yu.refl (x:ai):yu x x:=⟨rfl,rfl,rfl,rfl,rfl,rfl⟩
section
variable {l l' : List ai} {m : Int}
theorem Ey (hl:l'.length=l.length)(hs:∀x,af l x=true→yu (nd l' x) (nd l x))(a k:Int):gL l' a k=gL l a k:=by
  unfold gL
  rw[bk hl]
  cases h:af l a with
  |false=>rfl
  |true=>rw[(hs a h).kind]
theorem EX {x y:ai}(h:yu x y):cZ x=cZ y:=by unfold cZ;rw[h.parent,h.host]
theorem RF.same (R:RF l m)(hl:l'.length=l.length)(hs:∀x,af l x=true→yu (nd l' x) (nd l x))(hn:∀x,af l x=true→fV (nd l' x)=true):RF l' m:=by
  have T:=bk hl
  have I:=Ey hl hs
  have isT:∀ {a k:Int},gL l a k=true→af l a=true:=fun h=>by unfold gL at h;rw[bg] at h;exact h.1
  refine⟨?_,fun n h0=>?_,fun n h0=>?_,fun n h0 h=>?_,fun n h0 c hc=>?_,fun n h0=>?_,fun n h0 h=>?_,fun n h0 h=>?_,fun n h0 h=>?_,fun n h0 h=>?_,fun n h0 h=>?_,fun n h0=>?_⟩
  · have:=R.head
    unfold jh at this ⊢
    rw[hl,(hs 0 R.pos).kind];exact this
  all_goals rw[T] at h0
  all_goals have S:=hs n h0
  ·exact hn n h0
  ·rw[I,S.kind,S.doc];exact R.own n h0
  · rw[S.parent] at h ⊢
    have q:=R.par n h0 h
    rw[T,S.kind,(hs _ q.2.1).kind,(hs _ q.2.1).kids];exact q
  · rw[S.kids] at hc
    have q:=R.kid n h0 c hc
    rw[T,S.kind,S.doc,(hs c q.1).kind,(hs c q.1).parent,(hs c q.1).doc];exact q
  ·rw[S.kids];exact R.dup n h0
  ·rw[S.kids] at h;rw[S.kind];exact R.hold n h0 h
  · rw [S.kind] at h
    rw[S.kids]
    have:cA l' (nd l n).kids=cA l (nd l n).kids:=by
      unfold cA
      exact List.countP_congr fun c hc=>by rw[(hs c (R.kid n h0 c hc).1).kind]
    rw[this];exact R.elems n h0 h
  · rw[S.kind] at h
    have q:=R.host n h0 h
    rw[I,S.host,S.doc,(hs _ (isT q.1)).under,(hs _ (isT q.1)).doc];exact q
  · rw[S.kind] at h
    rw[S.host];exact R.noh n h0 h
  · rw[S.under] at h
    have q:=R.und n h0 h
    rw[I,S.kind,S.under,(hs _ (isT q.2.1)).host];exact q
  · rw[hl,gY]
    refine sC (g:=fun n=>cZ (nd l n)) (P:=fun x=>af l x=true) (fun y hy=>.inl (EX (hs y hy))) (fun y hy h=>R.up hy h) h0 (by rw[←gY];exact R.ends n h0)
def uV (l:List ai)(n:Int)(xs:List AttrM):List ai:=kg l n fun x=>{x with attrs:=xs}
theorem xU (l:List ai)(n:Int)(xs:List AttrM):(uV l n xs).length=l.length:=gW ..
end
section
variable {l l' : List ai} {m : Int}
theorem RF.Lg (R:RF l m):Tree l:=jz (f:=⟨l,m⟩) (dB.2 R)
end
section
variable {l l' : List ai} {m : Int}
end
end Go.Proofs.Heir
namespace Go.Proofs.Heir
open Go.Am Go.RowKit Go.Lib
set_option maxRecDepth 100000
theorem GF (l:List AttrM)(hl:l.length≤100000):aj Tryz.prog 123 [] [cO l] [F2 l] (.own 0 0 l.length):=by
  have hlm:(l.map dn).length=l.length:=bP ..
  refine aj.aA (rvs:=[.tmp 2]) G ak Tryz.func123 rfl Tryz.ntmps123 rfl rfl ?_;with_reducible refine wD ?_
  refine nD.mk (fun h=>?_) (fun _=>?_)<;>with_reducible refine wK ?_
  · obtain rfl:l=[]:=by simpa using h
    (refine eK ?_ ?_<;>with_reducible repeat' (first|exact trivial|(show _∧_;refine aK ?_ ?_)))
    all_goals first|rfl|trivial
  · refine dO.mk [] (l.map dn) ⟨rfl,rfl,rfl⟩ ⟨rfl,rfl,rfl⟩ (CU l) (by simp;omega) (by simp;omega) ?_;with_reducible refine wK ?_
    (refine eK ?_ ?_<;>with_reducible repeat' (first|exact trivial|(show _∧_;refine aK ?_ ?_)))
    ·exact hlm.symm
    ·exact cq (kD l)
end Go.Proofs.Heir
namespace Go.Proofs.Heir
open Go.Am Go.RowKit Go.Lib
set_option maxRecDepth 100000
set_option maxHeartbeats 8000000
theorem gr (b:Nat)(e:TypeId)(fz:Nat×Nat):∀ (vs:List Value) (o:Nat) (C:Array Value) (w:World),w.heap[b]? =some (.cells C e fz)→o+vs.length≤C.size→
    ∃C',w.setCells b o vs=w.setRow b C'∧C'.size=C.size∧∀q,C'[q]? =if o≤q∧q<o+vs.length then vs[q-o]? else C[q]?
  |[],o,C,w,h,_=>⟨C,(setRow_self w b C e fz h).symm,rfl,fun q=>by rw[if_neg (by simp only[List.length_nil];omega)]⟩
  | v ::r,o,C,w,h,hl=>by
    have h1:w.setCell ⟨b,o,none⟩ v=w.setRow b (C.setIfInBounds o v):=by
      have hb:=(Array.getElem?_eq_some_iff.1 h)
      unfold World.setCell World.setRow
      congr 1
      apply Array.ext_getElem?
      intro k
      rw[Array.getElem?_modify,Array.getElem?_modify]
      by_cases hk:b=k
      ·subst hk;simp[h]
      ·simp[hk]
    have h2:=setRow_heap w b C (C.setIfInBounds o v) e fz h
    obtain⟨C',k1,k2,k3⟩:=gr b e fz r (o+1) (C.setIfInBounds o v) (w.setRow b (C.setIfInBounds o v)) h2 (by simp at hl ⊢;omega)
    refine⟨C',by rw[World.setCells,h1,k1,setRow_setRow],by simp[k2],fun q=>?_⟩
    rw[k3 q,Array.getElem?_setIfInBounds]
    simp only[List.length_cons] at hl ⊢
    by_cases hq:q=o
    · subst hq
      rw[if_neg (by omega),if_pos rfl,if_pos (by omega),if_pos (by omega),Nat.sub_self];rfl
    · by_cases hq2:o+1≤q∧q<o+1+r.length
      ·rw[if_pos hq2,if_pos (by omega),show q-o=(q- (o+1))+1 from by omega,List.getElem?_cons_succ]
      ·rw[if_neg hq2,if_neg (fun h=>hq h.symm),if_neg (by omega)]
end Go.Proofs.Heir
namespace Go.Proofs.Heir
open Go.Am Go.RowKit Go.Lib
set_option maxRecDepth 100000
theorem E0 (l:List AttrM)(hl:l.length≤100000)(n v:ByteArray):aj Tryz.prog 59 [] [cO l,cn n,cn v] [] (.tup [cO (eV l n v).1,ah (eV l n v).2]):=by
  have hlm:(l.map dn).length=l.length:=bP ..
  refine aj.aA (rvs:=[.tmp 6,.tmp 7]) G ak Tryz.func59 rfl Tryz.ntmps59 rfl rfl ?_;with_reducible refine wD ?_
  refine ae.lit [] (EK l hl n) MZ ⟨rfl,rfl,trivial⟩ rfl rfl ?_;with_reducible refine wK ?_
  refine ae.new 201 [] (GF l hl) Li ⟨rfl,trivial⟩ rfl rfl rfl (AT l) rfl ?_;with_reducible refine wK ?_
  refine aM.mk (fun h1=>?_) (fun h1=>?_)<;>(try simp only[aq] at h1)<;>with_reducible refine wK ?_
  · have e:eV l n v=(l,pq l n):=by unfold eV;rw[if_neg (by simpa using h1)]
    rw[e]
    (refine eK ?_ ?_<;>with_reducible repeat' (first|exact trivial|(show _∧_;refine aK ?_ ?_)))
    exact jC rfl rfl rfl rfl
  · have h1':pq l n=0:=by simpa using h1
    obtain⟨hr,hn,hs⟩:=oS h1'
    refine aM.mk (fun h2=>?_) (fun h2=>?_)<;>(try simp only[aq] at h2)<;>with_reducible refine wK ?_
    · have e:eV l n v=(l,3):=by unfold eV;rw[if_pos h1',if_neg (by simp only[aP] at h2;omega)]
      rw[e]
      (refine eK ?_ ?_<;>with_reducible repeat' (first|exact trivial|(show _∧_;refine aK ?_ ?_)))
      exact jC rfl rfl rfl rfl
    · have hv:v.size≤200:=by simp only[cj] at h2;omega
      rcases nE l n with h|⟨k,a,h,ha,hnm⟩
      · simp only[h]
        refine aM.no rfl ?_;with_reducible refine wK ?_
        refine aM.mk (fun h3=>?_) (fun h3=>?_)<;>(try simp only[aq] at h3)<;>with_reducible refine wK ?_
        · have e:eV l n v=(l,3):=by unfold eV;rw[if_pos h1',if_pos hv,h,if_neg (by decide),if_pos (by simp only[aP] at h3;omega)]
          rw[e]
          (refine eK ?_ ?_<;>with_reducible repeat' (first|exact trivial|(show _∧_;refine aK ?_ ?_)))
          exact jC rfl rfl rfl rfl
        · have e:eV l n v=(l++ [⟨dQ n,v⟩],0):=by unfold eV;rw[if_pos h1',if_pos hv,h,if_neg (by decide),if_neg (by simp only[cj] at h3;omega)]
          rw[e]
          simp only[hs]
          refine dO.mk (l.map dn) [iN ⟨dQ n,v⟩] ⟨rfl,hlm.symm,rfl⟩ ⟨rfl,rfl,rfl⟩ rfl (by simp;omega) (by simp;omega) ?_;with_reducible refine wK ?_
          (refine eK ?_ ?_<;>with_reducible repeat' (first|exact trivial|(show _∧_;refine aK ?_ ?_)))
          exact jC rfl rfl (AJ l _ v) (by simp)
      · simp only[h]
        refine aM.yes (bO (by(try simp only[aq]);omega)) ?_;with_reducible refine wK ?_
        have hk:=(aZ ha).1
        have e:eV l n v=(l.set k ⟨dQ n,v⟩,0):=by unfold eV;rw[if_pos h1',if_pos hv,h,if_pos (by omega),Int.toNat_natCast]
        rw[e]
        refine fM.mk k rfl hk ?_;with_reducible refine wK ?_
        obtain⟨an,av⟩:=a
        refine bu.mk (iN ⟨an,av⟩) (by rw[Nat.zero_add];exact iO ha) ?_;with_reducible refine wK ?_
        (refine eK ?_ ?_<;>with_reducible repeat' (first|exact trivial|(show _∧_;refine aK ?_ ?_)))
        simp only at hnm
        subst hnm
        exact jC rfl rfl (by rw[Nat.zero_add];exact C6 l k _ v) (by simp)
end Go.Proofs.Heir
namespace Go.Proofs.Heir
open Go.Am Go.RowKit Go.Lib
set_option maxRecDepth 100000
set_option maxHeartbeats 8000000

end Go.Proofs.Heir
namespace Go.Proofs.Heir
open Go.Am Go.RowKit Go.Lib
set_option maxRecDepth 100000

end Go.Proofs.Heir
namespace Go.Proofs.Heir
open Go.Am Go.RowKit Go.Lib
set_option maxRecDepth 100000
set_option maxHeartbeats 8000000
def xo (a b:AttrM):Bool:=(a.name.toList==b.name.toList)&&(a.value.toList==b.value.toList)
theorem attr_eq (a b:AttrM)(w:World):(Op.equalIn 10000 90 (.agg #[.string a.name,.string a.value]) (.agg #[.string b.name,.string b.value])).run Tryz.prog w=.ok (xo a b) w:=by
  have hS:Tryz.prog.underlying 90=some (.struct (Tryz.prog.fieldsOf 90)):=by kernel_rfl
  have hp:Tryz.prog.stoodInHeld 90=false:=by kernel_rfl
  have u9:=Tryz.underlying9
  have a9:=Tryz.isAgg9
  have z9:=Tryz.sizeOf9
  rw[show(10000:Nat)=9999+1 from rfl,run_equalIn_agg w 9999 90 _ _ hS hp]
  clear hS hp
  simp only[Program.fieldsOf,Tryz.underlying90]
  go_simp
  clear u9 a9 z9
  unfold xo
  by_cases h1:a.name.toList=b.name.toList<;>by_cases h2:a.value.toList=b.value.toList<;>simp[h1,h2]
theorem bytes_inj {a b:ByteArray}(h:a.toList=b.toList):a=b:=by
  rw[ByteArray.toList_eq,ByteArray.toList_eq] at h
  cases a;cases b
  simp only[ByteArray.mk.injEq]
  exact Array.toList_inj.1 h
theorem Bm (a b:AttrM):xo a b=decide (a=b):=by
  rw[Bool.eq_iff_iff,aP]
  unfold xo
  simp only[bg,beq_iff_eq]
  constructor
  · rintro⟨h1,h2⟩
    cases a;cases b
    simp only at*
    rw[bytes_inj h1,bytes_inj h2]
  ·rintro rfl;simp
theorem EY (a b:AttrM)(y z:Operand)(w:World):((do eqGuard .neq 90 y z (.agg #[.string a.name,.string a.value]) (.agg #[.string b.name,.string b.value]);binOp .neq 90 (.agg #[.string a.name,.string a.value]) (.agg #[.string b.name,.string b.value]):Sem Value)).run Tryz.prog w=.ok (.bool (!decide (a=b))) w:=by
  rw[Sem.run_bind,run_eqGuard_agg w .neq 90 y z _ _ (by kernel_rfl),Result.andThen_ok,run_neq_struct,attr_eq,Bm];rfl
theorem GV (x y:List AttrM)(hx:x.length≤100000):aj Tryz.prog 146 [] [cO x,cO y] [] (bA (decide (x=y))):=by
  have hlx:(x.map dn).length=x.length:=bP ..
  have hly:(y.map dn).length=y.length:=bP ..
  refine aj.aA (rvs:=[.tmp 4]) G ak Tryz.func146 rfl Tryz.ntmps146 rfl rfl ?_;with_reducible refine wD ?_
  refine aM.mk (fun h0=>?_) (fun h0=>?_)<;>(try simp only[aq] at h0)<;>with_reducible refine wK ?_
  · (refine eK ?_ ?_<;>with_reducible repeat' (first|exact trivial|(show _∧_;refine aK ?_ ?_)))
    have:x≠y:=by
      rintro rfl
      simp at h0
    exact bB this
  · have hxy:x.length=y.length:=by simp only[hlx,hly,Bool.not_eq_false',aP] at h0;omega
    refine bE.use G ak (fun(k:Nat)=>[(0,cO x),(1,cO y),(5,ah k)]) (fun _=>[]) (fun k=>k≤x.length∧∀ (j:Nat),j<k→x[j]? =y[j]?) (fun k=>x.length-k) 0 ⟨Nat.zero_le _,fun j h=>by omega⟩
      ⟨⟨rfl,rfl⟩,⟨rfl,rfl,rfl,trivial⟩,trivial⟩ ?_
    rintro k ⟨hk,hok⟩
    with_reducible refine wK ?_
    refine aM.mk (fun h1=>?_) (fun h1=>?_)<;>(try simp only[aq] at h1)<;>with_reducible refine wK ?_
    · simp only[aP] at h1
      have hk':k<x.length:=by omega
      obtain⟨⟨an,av⟩,ha⟩:∃a,x[k]? =some a:=⟨_,bH hk'⟩
      obtain⟨⟨bn,bv⟩,hb⟩:∃a,y[k]? =some a:=⟨_,bH (by omega)⟩
      refine aH.mk k (iN ⟨an,av⟩) rfl (iO ha) ?_;with_reducible refine wK ?_
      refine aH.mk k (iN ⟨bn,bv⟩) rfl (iO hb) ?_;with_reducible refine wK ?_
      refine Gr.mk _ (fun y z w=>EY ⟨an,av⟩ ⟨bn,bv⟩ y z w) ?_;with_reducible refine wK ?_
      refine dK ?_;with_reducible refine wK ?_
      refine aM.mk (fun h2=>?_) (fun h2=>?_)<;>(try simp only[aq] at h2)<;>with_reducible refine wK ?_
      · (refine eK ?_ ?_<;>with_reducible repeat' (first|exact trivial|(show _∧_;refine aK ?_ ?_)))
        have:x≠y:=by
          rintro rfl
          rw[ha] at hb;cases hb
          simp at h2
        exact bB this
      · have he:(⟨an,av⟩:AttrM)=⟨bn,bv⟩:=by simpa using h2
        refine nK ?_;with_reducible refine wK ?_
        refine aW.mk (k+1) ⟨by omega,fun j hj=>?_⟩ (by omega) ⟨⟨rfl,rfl⟩,⟨rfl,rfl,by show((k+1:Nat):Int)=(k:Int)+1;omega,trivial⟩,trivial⟩
        rcases Nat.lt_or_ge j k with h6|h6
        ·exact hok j h6
        · have:j=k:=by omega
          subst this
          rw[ha,hb,he]
    · (refine eK ?_ ?_<;>with_reducible repeat' (first|exact trivial|(show _∧_;refine aK ?_ ?_)))
      have hk2:k=x.length:=by simp only[hlx,cj] at h1;omega
      refine bO (List.ext_getElem? fun j=>?_)
      rcases Nat.lt_or_ge j x.length with h6|h6
      ·exact hok j (by omega)
      ·rw[pX h6,pX (by omega)]



end Go.Proofs.Heir
namespace Go.Proofs.Heir
open Go Go.Am Go.RowKit Go.Lib
set_option maxRecDepth 100000
theorem xD {l:List AttrM}(h:c6 l=true):(l.map AttrM.name).Nodup:=by
  unfold c6 at h;simp only[bg,aP] at h;exact h.2
theorem AF {l:List AttrM}{n:ByteArray}(h:∀a∈l,a.name≠n):sP l n=-1:=
  gx fun j x hx=>by unfold hasName;exact bB (h x (bV hx))
theorem sM {l:List AttrM}(hn:(l.map AttrM.name).Nodup){i:Nat}{a:AttrM}(h:l[i]? =some a):sP l a.name=i:=(vG l).1 hn i a h
theorem rC (l:List AttrM)(n:ByteArray):(sP l n=-1∧∀a∈l,a.name≠n)∨∃ (k:Nat) (a:AttrM),sP l n=k∧l[k]? =some a∧a.name=n:=by
  by_cases hx:∃b∈l,b.name=n
  · right
    rcases sH (hasName n) l with h|⟨k,a,h1,h2,h3⟩
    · obtain⟨b,hb,e⟩:=hx
      exfalso
      unfold fU at h
      cases hf:l.findIdx? (hasName n) with
      |some i=>rw[hf] at h;simp only at h;omega
      | none=>
        rw[List.findIdx?_eq_none_iff] at hf
        have:=hf b hb
        unfold hasName at this;simp[e] at this
    ·exact⟨k,a,h1,h2,by unfold hasName at h3;simpa using h3⟩
  · have h:∀a∈l,a.name≠n:=fun a ha e=>hx ⟨a,ha,e⟩
    exact .inl ⟨AF h,h⟩
theorem BS {n v:ByteArray}(hn:cm n=true)(hv:v.size≤200):D3 ⟨dQ n,v⟩=true:=by
  unfold D3;simp only[Ad,hn,Gk,hv,decide_true,Bool.and_self]
theorem vk {l:List AttrM}(h1:l.length≤40)(h2:∀a∈l,D3 a=true)(h3:(l.map AttrM.name).Nodup):c6 l=true:=by
  unfold c6
  rw[bO h1,bO h3,List.all_eq_true.2 h2];rfl
theorem sR {l:List AttrM}(h:c6 l=true):l.length≤40∧(∀a∈l,D3 a=true)∧(l.map AttrM.name).Nodup:=by
  unfold c6 at h;simp only[bg,aP,List.all_eq_true] at h;exact⟨h.1.1,h.1.2,h.2⟩
theorem DC {l:List AttrM}(hn:(l.map AttrM.name).Nodup){i j:Nat}{a b:AttrM}(ha:l[i]? =some a)(hb:l[j]? =some b)(e:a.name=b.name):i=j:=by
  have h1:=sM hn ha
  have h2:=sM hn hb
  rw[e] at h1;omega
theorem sy {l:List AttrM}{k:Nat}(hk:k<l.length)(x:AttrM)(i:Nat):(l.set k x)[i]? =if i=k then some x else l[i]? :=by
  by_cases h:i=k
  ·subst h;simp[hk]
  ·rw[if_neg h,List.getElem?_set_ne (by omega)]
theorem rA {l:List AttrM}{k:Nat}{o:AttrM}(hn:(l.map AttrM.name).Nodup)(hk:l[k]? =some o)(v:ByteArray)(a:AttrM):a∈l.set k ⟨o.name,v⟩↔a=⟨o.name,v⟩∨(a∈l∧a.name≠o.name):=by
  have hkl:=(aZ hk).1
  constructor
  · intro h
    obtain⟨i,hi⟩:=List.getElem?_of_mem h
    rw[sy hkl] at hi
    split at hi
    ·exact .inl (Option.some.inj hi).symm
    · rename_i hne
      exact .inr ⟨bV hi,fun e=>hne (DC hn hi hk e)⟩
  · rintro(rfl|⟨h1,h2⟩)
    ·exact bV (i:=k) (by rw[sy hkl,if_pos rfl])
    · obtain⟨i,hi⟩:=List.getElem?_of_mem h1
      refine bV (i:=i) ?_
      rw[sy hkl,if_neg,hi]
      rintro rfl
      rw[hi] at hk;cases hk;exact h2 rfl
theorem Df {l:List AttrM}{k:Nat}{o:AttrM}(hk:l[k]? =some o)(v:ByteArray):(l.set k ⟨o.name,v⟩).map AttrM.name=l.map AttrM.name:=by
  apply List.ext_getElem?
  intro i
  have hkl:=(aZ hk).1
  rw[fZ,fZ,sy hkl]
  split
  ·rename_i h;subst h;rw[hk];rfl
  ·rfl
structure Ld (l:List AttrM) (n v:ByteArray) (m:List AttrM):Prop where
  right:c6 m=true
  name:cm n=true
  value:v.size≤200
  mem:∀a,a∈m↔a=⟨dQ n,v⟩∨(a∈l∧a.name≠dQ n)
theorem Kw {l:List AttrM}{n v:ByteArray}(h:(eV l n v).2=0):c6 l=true∧Ld l n v (eV l n v).1:=by
  unfold eV at h ⊢
  split at h
  · rename_i hE
    obtain⟨h1,h2,_⟩:=oS hE
    obtain⟨r1,r2,r3⟩:=sR h1
    refine⟨h1,?_⟩
    rw[if_pos hE]
    split at h
    · rename_i hv
      rw[if_pos hv]
      split at h
      · rename_i hP
        rw[if_pos hP]
        rw[qw h1 h2] at hP ⊢
        rcases rC l (dQ n) with⟨e,_⟩|⟨k,o,e1,e2,e3⟩
        ·omega
        · rw[e1,Int.toNat_natCast]
          rw[←e3]
          refine⟨vk (by simpa using r1) (fun a ha=>?_) (by rw[Df e2];exact r3),h2,hv,fun a=>by rw[e3,←e3];exact rA r3 e2 v a⟩
          rcases(rA r3 e2 v a).1 ha with rfl|⟨ha,_⟩
          ·rw[e3];exact BS h2 hv
          ·exact r2 a ha
      · rename_i hP
        rw[if_neg hP]
        split at h
        ·cases h
        · rename_i hl
          rw[if_neg hl]
          rw[qw h1 h2] at hP
          have hno:∀a∈l,a.name≠dQ n:=by
            rcases rC l (dQ n) with⟨_,e⟩|⟨k,o,e1,_,_⟩
            ·exact e
            ·omega
          refine⟨vk (by simp;omega) (fun a ha=>?_) ?_,h2,hv,fun a=>?_⟩
          · rcases List.mem_append.1 ha with ha|ha
            ·exact r2 a ha
            ·simp at ha;subst ha;exact BS h2 hv
          · rw[gm,List.nodup_append]
            refine⟨r3,by simp,fun x hx y hy=>?_⟩
            simp at hy;subst hy
            obtain⟨a,ha,rfl⟩:=List.mem_map.1 hx
            exact hno a ha
          · rw [List.mem_append]
            constructor
            · rintro(h|h)
              ·exact .inr ⟨h,hno a h⟩
              ·simp at h;exact .inl h
            · rintro(h|h)
              ·right;simp[h]
              ·exact .inl h.1
    ·cases h
  ·exact absurd h (by assumption)
theorem D6 (l:List AttrM)(n v:ByteArray):(eV l n v).1.length≤l.length+1:=by
  unfold eV;repeat' split
  all_goals simp
end Go.Proofs.Heir
namespace Go.Proofs.Heir
open Go Go.Am Go.RowKit Go.Lib
set_option maxRecDepth 100000
set_option maxHeartbeats 8000000
set_option maxHeartbeats 8000000
def CC (old new:List AttrM)(n:Int)(s:ByteArray):List aO:=if 0≤eW old s∨0≤eW new s then[⟨4,n,0,0,dQ s,decide (0≤eW old s),decide (0≤eW new s),yP old s,yP new s⟩] else[]
def Ca (f:ForM)(n:Int)(s:ByteArray)(l:List AttrM):ForM×List aO×Int:=(⟨uV f.nodes n l,f.most⟩,CC (nd f.nodes n).attrs l n s,0)
def tY (f:ForM)(n:Int):Int:=if(bC f&&af f.nodes n)=true then(if(nd f.nodes n).kind=1 then 0 else 5) else 1
def rQ (f:ForM)(n:Int)(s v:ByteArray):ForM×List aO×Int:=if tY f n≠0 then(f,[],tY f n) else if(eV (nd f.nodes n).attrs s v).2≠0 then(f,[],(eV (nd f.nodes n).attrs s v).2) else Ca f n s (eV (nd f.nodes n).attrs s v).1
section
variable {l l' : List ai} {m : Int}
theorem RF.attrs (R:RF l m){n:Int}(hn:af l n=true)(hk:(nd l n).kind=1):c6 (nd l n).attrs=true:=by
  have h:=R.Ib n hn
  unfold fV at h
  rw[if_pos hk] at h
  simp only[bg] at h
  exact h.2
theorem RF.none (R:RF l m){n:Int}(hn:af l n=true)(hk:(nd l n).kind≠1):(nd l n).attrs=[]∧(nd l n).name=⟨#[]⟩:=by
  rcases zb R.Lg hn with h|h
  ·exact absurd h hk
  ·exact⟨h.2.2,h.2.1⟩
theorem cD (R:RF l m)(h:l.length≤60):bq l:=by
  have key:∀x∈l,x.kids.length≤60∧x.attrs.length≤60∧x.name.size≤300:=fun x hx=>by
    obtain⟨i,hi⟩:=List.getElem?_of_mem hx
    have hn:=fR hi
    have he:=cI hi
    have hk:=nC (n:=l.length) (R.dup i hn) (fun c hc=>br (R.kid i hn c hc).1)
    rw[he] at hk
    refine⟨by omega,?_⟩
    by_cases e:x.kind=1
    · have ha:=R.attrs hn (by rw[he];exact e)
      rw[he] at ha
      have h1:=(sR ha).1
      refine⟨by omega,?_⟩
      have hN:=R.Ib i hn
      rw[he] at hN
      unfold fV at hN
      rw[if_pos e] at hN
      simp only[bg] at hN
      have h2:=hN.1.1.1.1
      unfold cm iz at h2
      simp only[bg,aP] at h2
      have:x.name.size=x.name.data.toList.length:=by rw[Array.length_toList];rfl
      omega
    · have:=R.none hn (by rw[he];exact e)
      rw[he] at this
      rw[this.1,this.2]
      exact⟨by simp,by decide⟩
  exact⟨by omega,fun x hx=>(key x hx).1,fun x hx=>(key x hx).2.1,fun x hx=>(key x hx).2.2⟩
end
end Go.Proofs.Heir
namespace Go.Proofs.Heir
open Go Go.Am Go.RowKit Go.Lib
set_option maxRecDepth 100000
set_option maxHeartbeats 8000000
@[reducible] def lF : AV := .lit (.slice none 0 0)
theorem HU {l:List ai}{k:Nat}{y:ai}(hy:l[k]? =some y)(xs:List AttrM):(l.map bM).set (0+k) (bM {y with attrs:=xs})=(uV l k xs).map bM:=by
  show _=(l.set ((k:Int).toNat) {nd l k with attrs:=xs}).map bM
  rw[cI hy,Int.toNat_natCast,Nat.zero_add,List.map_set]
@[reducible] def xb (y : ai) (k : Nat) (s : ByteArray) (xs : List AttrM) : aO := ⟨4, k, 0, 0, dQ s, decide (0 ≤ eW y.attrs s), decide (0 ≤ eW xs s), yP y.attrs s, yP xs s⟩
theorem AX (l:List ai)(m:Int)(hs:bq l)(k:Nat)(y:ai)(hy:l[k]? =some y)(s:ByteArray)(hs3:s.size≤100000)(xs:List AttrM)(hx:xs.length≤100000)(hh:0≤eW y.attrs s∨0≤eW xs s):
    aj Tryz.prog 61 [aT m l.length 1 lF,ef l] [.ptr 0 0 0,ah k,cn s,cO xs] [aT m l.length 1 (.own 2 0 1),ef (uV l k xs),.live 9 [dN (xb y k s xs)] false] (.tup []):=by
  have h124:=Cm s hs3
  have h23:=ED y.attrs (by have:=hs.attrs y (bV hy);omega) s
  have h23x:=ED xs hx s
  have hkl:k<l.length:=(aZ hy).1
  have hrow:=HU hy xs
  have hlm:(l.map bM).length=l.length:=bP ..
  have ha:(uV l k xs).length=l.length:=xU ..
  generalize uV l k xs=l' at hrow ha
  obtain⟨y1,y2,y3,y4,y5,y6,y7,y8,y9,y10⟩:=y
  simp only at h23 hh hrow
  refine aj.fW [(2,591)] (rvs:=[]) G ak Tryz.func61 rfl Tryz.ntmps61 rfl rfl ?_;with_reducible refine wD ?_
  cases hb:decide (0≤eW y5 s) with
  | true=>
    (have fct:=hb;(repeat' (first
    |refine gF ?_
    | ((first
      |((with_reducible show ae _ _ 124 _ _ _ _);refine ae.lit [] h124 KO ⟨rfl,trivial⟩ rfl rfl ?_)
      |((with_reducible show fM _ _ _ _ _);refine fM.mk k rfl hkl ?_)
      |((with_reducible show bu _ _ _ _ _);first|refine bu.mk (aG ⟨y1,y2,y3,y4,y5,y6,y7,y8,y9,y10⟩) (by first|exact az hy|(rw[Nat.zero_add];exact az hy)) ?_|refine bu.mk _ rfl ?_)
      |((with_reducible show dO _ _ _ _ _ _ _ _ _ _);refine dO.mk [] [_] ⟨rfl,rfl,rfl⟩ ⟨rfl,rfl,rfl⟩ rfl (by simp) (by simp) ?_)
      |((with_reducible show aB _ _ _ _);refine dK ?_)
      |((with_reducible show ae _ _ 23 _ _ _ _);first|(refine ae.lit [] h23 LW ⟨rfl,rfl,trivial⟩ rfl rfl ?_)|(refine ae.lit [] h23x LW ⟨rfl,rfl,trivial⟩ rfl rfl ?_)))<;>with_reducible refine wK ?_)
    |((with_reducible show(_∧_)∧_∧_);(refine eK ?_ ?_<;>with_reducible repeat' (first|exact trivial|(show _∧_;refine aK ?_ ?_))))));all_goals clear fct)
    all_goals first
      |rfl
      |exact⟨.refl rfl,rfl⟩
      |exact(.inl rfl:rY _)
      |(refine cast (congrArg (qK _ _) hrow.symm) ?_;exact⟨.refl (aQ _),aQ _⟩)
      |trace_state
  | false=>
    have hbx:decide (0≤eW xs s)=true:=bO (hh.resolve_left (of_decide_eq_false hb))
    (have fct:=And.intro hb (hbx);(repeat' (first
    |refine gF ?_
    | ((first
      |((with_reducible show ae _ _ 124 _ _ _ _);refine ae.lit [] h124 KO ⟨rfl,trivial⟩ rfl rfl ?_)
      |((with_reducible show fM _ _ _ _ _);refine fM.mk k rfl hkl ?_)
      |((with_reducible show bu _ _ _ _ _);first|refine bu.mk (aG ⟨y1,y2,y3,y4,y5,y6,y7,y8,y9,y10⟩) (by first|exact az hy|(rw[Nat.zero_add];exact az hy)) ?_|refine bu.mk _ rfl ?_)
      |((with_reducible show dO _ _ _ _ _ _ _ _ _ _);refine dO.mk [] [_] ⟨rfl,rfl,rfl⟩ ⟨rfl,rfl,rfl⟩ rfl (by simp) (by simp) ?_)
      |((with_reducible show aB _ _ _ _);refine dK ?_)
      |((with_reducible show ae _ _ 23 _ _ _ _);first|(refine ae.lit [] h23 LW ⟨rfl,rfl,trivial⟩ rfl rfl ?_)|(refine ae.lit [] h23x LW ⟨rfl,rfl,trivial⟩ rfl rfl ?_)))<;>with_reducible refine wK ?_)
    |((with_reducible show(_∧_)∧_∧_);(refine eK ?_ ?_<;>with_reducible repeat' (first|exact trivial|(show _∧_;refine aK ?_ ?_))))));all_goals clear fct)
    all_goals first
      |rfl
      |exact⟨.refl rfl,rfl⟩
      |exact(.inl rfl:rY _)
      |(refine cast (congrArg (qK _ _) hrow.symm) ?_;exact⟨.refl (aQ _),aQ _⟩)
      |trace_state
end Go.Proofs.Heir
