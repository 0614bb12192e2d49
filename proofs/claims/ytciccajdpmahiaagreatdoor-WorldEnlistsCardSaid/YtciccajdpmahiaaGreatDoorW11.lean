/- Models, plain laws and contracts of functions of the given program; conditions as stated in each theorem. By an AI agent. -/
import Derived.Test.YtciccajdpmahiaaGreatDoorW10
import Derived.Test.YtciccajdpmahiaaGreatDoorW8
set_option linter.unusedSimpArgs false
set_option linter.unusedVariables false
namespace Go.Am
open Go Go.ChangeShapes Go.WideShapes
section
variable {P : Program} {t : TypeId} {α : Type} {E : α → AV} {ok : α → Prop}
theorem Reads.topOne {H : Type} {enc : TypeId × Value → H} {w : World} {base : Nat} {sp : Nat → Bool} {held : Bool} {v : Value} {d : DataW H} {ps : List MemPlace} (h : Reads P t 1 E ok) (hE : ∀ a, cells (E a) = [E a])
    (hv : v.cells.toList = [v]) (hd : DataW.Trod enc P w base sp held t v d ps) : ∃ a, ok a ∧ ∀ (W : Nat → Prop) (μ : Mu), (∀ b, ¬ W b) → cq W μ w (E a) v := by
  obtain ⟨fuel, hf⟩ := hd
  obtain ⟨hl, a, h1, h2⟩ := h.2.2 hf
  refine ⟨a, h1, fun W μ hW => h2 W μ hW 0 _ _ (by rw [hE]; rfl) (by rw [hv]; rfl)⟩
end
end Go.Am
namespace Go.Proofs.Heir
open Go Go.Am Go.RowKit Go.Lib
set_option maxRecDepth 100000
set_option maxHeartbeats 8000000

theorem yZ {w:ai}(S:uw w)(due:List bB)(h:due.length≤1000):bh (bN w due):=kB S.small (mP S.l) (by have:=S.ta;omega) due (by omega)
theorem yA {w:ai}(S:uw w)(due:List bB)(h:due.length≤1000):bh (bV w due).1:=by
 cases e:cW w due with
 |true=>rw[dm e];exact yZ S due h
 |false=>rw[iq e];exact S.small
theorem Cq {w:ai}(R:aP w)(due:List bB)(k:Nat):((bV w due).2=1∧((bV w (due.take k)).2=1∨(bV w (due.take k)).2=0∧(bV (bV w (due.take k)).1 (due.drop k)).2=1))∨
  ((bV w due).2=0∧(bV w (due.take k)).2=0∧(bV (bV w (due.take k)).1 (due.drop k)).2=0∧(bV (bV w (due.take k)).1 (due.drop k)).1=(bV w due).1):=by
 have L:=HJ w due k
 cases e:cW w due with
 | false=>
   left
   refine⟨by rw[iq e],?_⟩
   cases e2:cW w (due.take k) with
   |false=>exact .inl (by rw[iq e2])
   |true=>exact .inr ⟨by rw[dm e2],by rw[dm e2,iq (L.2 R e e2)]⟩
 | true=>
   right
   obtain⟨l1,l2,l3⟩:=L.1 e
   refine⟨by rw[dm e],by rw[dm l1],by rw[dm l1,dm l2],by rw[dm l1,dm l2,dm e];exact l3⟩
def Pf (due:List bB)(n:Int)(k:Nat):List br:=((due.take k).filter fun d=>decide (d.node=n)).map bB.todo
theorem forN_yes {due:List bB}{n:Int}{k:Nat}{x:bB}(h:due[k]? =some x)(e:x.node=n):Pf due n (k+1)=Pf due n k++ [x.todo]:=by
 unfold Pf
 rw[List.take_add_one,h]
 simp[List.filter_append,e]
theorem forN_no {due:List bB}{n:Int}{k:Nat}{x:bB}(h:due[k]? =some x)(e:¬x.node=n):Pf due n (k+1)=Pf due n k:=by
 unfold Pf
 rw[List.take_add_one,h]
 simp[List.filter_append,e]
theorem forN_len (due:List bB)(n:Int)(k:Nat):(Pf due n k).length≤due.length:=by
 unfold Pf
 rw[List.length_map]
 exact Nat.le_trans (List.length_filter_le ..) (by rw[List.length_take];omega)
theorem IF {w:ai}(R:aP w)(due:List bB)(hd:∀x∈due,dW w x=true):∃va vb vc vd vt,bN w due=⟨w.f,w.states,w.desk,⟨va,vb,vc,vd⟩,vt,w.builds,w.classes⟩∧va.length=w.line.todos.length∧vb.length=w.line.stack.length∧
  (∀ (n:Nat) y,w.line.todos[n]? =some y→va[n]? =some (y++Pf due n due.length))∧
  (∀ (q:Nat) s,w.line.stack.length=q+1→w.line.stack[q]? =some s→vb[q]? =some (s++due.map bB.node)∧vc=w.line.back∧vt.length=w.tasks.length∧vd=w.line.busy)∧
  (w.line.stack=[]→vc=w.line.back++due.map bB.node∧vt.length=w.tasks.length+ (if due≠ []∧w.line.busy=false then 1 else 0)∧vd=(w.line.busy||decide (due≠ []))):=by
 have p1:=nT due w
 have p2:=gI due w
 have p3:=gH due w
 have p4:=gE due w
 have p5:=dF due w
 have p6:=Ks due w
 have p7:=Io due w
 have p8:=qb due w
 have p9:=H9 due w
 have P6:=IY due w
 have p11:=Mr due w
 have hin:∀x∈due,dG w.line x.node=true:=fun x hx=>by
  have:=hd x hx
  unfold dW ak at this
  simp only[Bool.and_eq_true,decide_eq_true_eq] at this
  unfold dG
  rw[decide_eq_true this.1.1,decide_eq_true (by have:=R.tl;omega)];rfl
 have p12:=fun n=>I0 due w n hin
 generalize bN w due=v at*
 obtain⟨v1,v2,v3,⟨va,vb,vc,vd⟩,vt,v6,v7⟩:=v
 simp only at p1 p2 p3 p4 p5 p6 p7 p8 p9 P6 p11 p12
 subst p1;subst p2;subst p3;subst p4;subst p5;subst p9;subst P6;subst p8
 refine⟨va,vb,_,_,_,rfl,p6,p7,fun n y hy=>?_,fun q s hq hs=>?_,fun h0=>?_⟩
 ·have hn:=(List.getElem?_eq_some_iff.1 hy).1
  have:=p12 (n:Int) (by unfold dG;simp;omega)
  have hg:va[n]? =some (va[n]'(by omega)):=List.getElem?_eq_getElem _
  rw[kG rfl hy] at this
  rw[kG (l:=⟨va,vb,_,_⟩) rfl hg] at this
  rw[hg,this]
  unfold Pf
  rw[List.take_length]
 ·have hne:w.line.stack≠ []:=fun e=>by rw[e] at hq;cases hq
  have h:=p11 hne
  rw[uA (k:=q) (s:=s) (a:=w.line.todos) (b:=w.line.stack) (c:=w.line.back) (d:=w.line.busy) hq hs] at h
  have hg:vb[q]? =some (vb[q]'(by omega)):=List.getElem?_eq_getElem _
  rw[uA (k:=q) (by omega) hg] at h
  refine⟨by rw[hg,h],by rw[if_neg hne],?_,by rw[if_neg hne]⟩
  have:fV w.line=false:=by unfold fV;rw[decide_eq_false hne];rfl
  rw[this];simp
 ·rw[if_pos h0,if_pos h0]
  refine⟨rfl,?_,rfl⟩
  have:fV w.line=!w.line.busy:=by unfold fV;rw[decide_eq_true h0];rfl
  rw[this,List.length_append]
  cases w.line.busy<;>by_cases e:due=[]<;>simp[e]
end Go.Proofs.Heir
namespace Go.Proofs.Heir
open Go Go.Am Go.RowKit Go.Lib
set_option maxRecDepth 100000
set_option maxHeartbeats 8000000
set_option maxHeartbeats 32000000
theorem for_zero (due:List bB)(n:Int):Pf due n 0=[]:=rfl
theorem f5_ok (w:ai)(due:List bB):ah Tryz.prog 5 [] [aT w,jM due] [] (aA true):=by
 have h15:=HO
 have h16:=kp w
 have hdm:(due.map gV).length=due.length:=List.length_map ..
 cases e1:nj w with
 | false=>
   rw[e1] at h16
   obtain⟨⟨l,m⟩,st,⟨d1,d2,d3,d4⟩,⟨a,b,c,d⟩,ta,bu,cs⟩:=w
   refine ah.af (rvs:=[.tmp 4]) G aa Tryz.func5 rfl Tryz.ntmps5 rfl rfl ?_;with_reducible refine wD ?_
   repeat' (first
  |refine gK ?_|refine aE ?_ ?_
  | ((first
   |((with_reducible refine kQ 15 ?_);refine cL h15 Sm ?_)
   | ((with_reducible refine kQ 16 ?_);refine aj.lit [] h16 rM ⟨
       ⟨rfl,rfl,rfl,rfl,rfl,rfl,rfl,rfl,rfl,rfl,rfl,rfl,rfl,rfl,trivial⟩
       ,trivial⟩ rfl rfl ?_))<;>with_reducible refine wK ?_)
  |apply trivial)
 |true=>
 rw[e1] at h16
 have S:=jg.1 e1
 by_cases e2:(80:Int)< (due.length:Int)
 ·clear S
  obtain⟨⟨l,m⟩,st,⟨d1,d2,d3,d4⟩,⟨a,b,c,d⟩,ta,bu,cs⟩:=w
  refine ah.af (rvs:=[.tmp 4]) G aa Tryz.func5 rfl Tryz.ntmps5 rfl rfl ?_;with_reducible refine wD ?_
  (have fct:=And.intro hdm (e2);(repeat' (first
  |refine gF ?_|refine aE ?_ ?_
  | ((first
   |((with_reducible refine kQ 15 ?_);refine cL h15 Sm ?_)
   | ((with_reducible refine kQ 16 ?_);refine aj.lit [] h16 rM ⟨
       ⟨rfl,rfl,rfl,rfl,rfl,rfl,rfl,rfl,rfl,rfl,rfl,rfl,rfl,rfl,trivial⟩
       ,trivial⟩ rfl rfl ?_))<;>with_reducible refine wK ?_)
  |apply trivial));all_goals clear fct)
 have h19:=cr w S.small
 cases e3:cf w with
 | false=>
   rw[e3] at h19
   clear S
   obtain⟨⟨l,m⟩,st,⟨d1,d2,d3,d4⟩,⟨a,b,c,d⟩,ta,bu,cs⟩:=w
   refine ah.af (rvs:=[.tmp 4]) G aa Tryz.func5 rfl Tryz.ntmps5 rfl rfl ?_;with_reducible refine wD ?_
   (have fct:=And.intro hdm ((eq_false e2));(repeat' (first
  |refine gF ?_|refine aE ?_ ?_
  | ((first
   |((with_reducible refine kQ 15 ?_);refine cL h15 Sm ?_)
   | ((with_reducible refine kQ 16 ?_);refine aj.lit [] h16 rM ⟨
       ⟨rfl,rfl,rfl,rfl,rfl,rfl,rfl,rfl,rfl,rfl,rfl,rfl,rfl,rfl,trivial⟩
       ,trivial⟩ rfl rfl ?_)
   | ((with_reducible refine kQ 19 ?_);refine aj.lit [] h19 gZ ⟨
    ⟨rfl,rfl,rfl,rfl,rfl,rfl,rfl,rfl,rfl,rfl,rfl,rfl,rfl,rfl,trivial⟩
    ,trivial⟩ rfl rfl ?_))<;>with_reducible refine wK ?_)
  |apply trivial));all_goals clear fct)
 |true=>
 rw[e3] at h19
 have R:=bH.1 e3
 have hsm:=S.small
 have h31:=nI w hsm due (by omega)
 cases e4:cW w due with
 | false=>
   rw[iq e4] at h31
   have hne:due≠ []:=fun q=>by
    subst q
    rw[dB.2 ⟨R,fun d hd=>by cases hd⟩] at e4;cases e4
   have hpos:0<due.length:=List.length_pos_iff.2 hne
   have hSw:=nJ w hsm
   clear S R hsm e1 e3 e4
   obtain⟨⟨l,m⟩,st,⟨d1,d2,d3,d4⟩,⟨a,b,c,d⟩,ta,bu,cs⟩:=w
   simp only at h31 hSw
   refine ah.af (rvs:=[.tmp 4]) G aa Tryz.func5 rfl Tryz.ntmps5 rfl rfl ?_;with_reducible refine wD ?_
   (have fct:=And.intro hdm ((eq_false e2));(repeat' (first
  |refine gF ?_|refine aE ?_ ?_
  | ((first
   |((with_reducible refine kQ 15 ?_);refine cL h15 Sm ?_)
   | ((with_reducible refine kQ 16 ?_);refine aj.lit [] h16 rM ⟨
       ⟨rfl,rfl,rfl,rfl,rfl,rfl,rfl,rfl,rfl,rfl,rfl,rfl,rfl,rfl,trivial⟩
       ,trivial⟩ rfl rfl ?_)
   | ((with_reducible refine kQ 31 ?_);refine aj.val [] h31 P4 ⟨
       ⟨rfl,rfl,rfl,rfl,rfl,rfl,rfl,rfl,rfl,rfl,rfl,rfl,rfl,rfl,trivial⟩
       ,rfl,trivial⟩ rfl rfl rfl ?_)
   | ((with_reducible refine kQ 19 ?_);refine aj.lit [] h19 gZ ⟨
    ⟨rfl,rfl,rfl,rfl,rfl,rfl,rfl,rfl,rfl,rfl,rfl,rfl,rfl,rfl,trivial⟩
    ,trivial⟩ rfl rfl ?_)
   | ((with_reducible refine kQ 23 ?_);refine aj.lit [] hSw Qi ⟨
    ⟨rfl,rfl,rfl,rfl,rfl,rfl,rfl,rfl,rfl,rfl,rfl,rfl,rfl,rfl,trivial⟩
    ,
    ⟨rfl,rfl,rfl,rfl,rfl,rfl,rfl,rfl,rfl,rfl,rfl,rfl,rfl,rfl,trivial⟩
    ,trivial⟩ rfl rfl ?_))<;>with_reducible refine wK ?_)
  | apply trivial));all_goals clear fct)
   all_goals first
    |rfl
    |(rw[decide_eq_true (by omega)];done)
    |(simp;done)
    |(simp;omega)
 |true=>
 rw[dm e4] at h31
 have hdue:=(dB.1 e4).2
 have hR2:=cr (bN w due) (yZ S due (by omega))
 rw[bH.2 (jj _ w R hdue)] at hR2
 obtain⟨va,vb,vc,vd,vt,hv,p1,p2,p3,p4,p5⟩:=IF R due hdue
 rw[hv] at h31 hR2
 have hfs:=oV w.f hsm.f
 have h42:=IV w.states w.states (by have:=hsm.st;omega)
 rw[decide_eq_true rfl] at h42
 have hl6:=mP S.l
 have htd:∀ (n:Nat) y,w.line.todos[n]? =some y→y.length≤60:=fun n y hy=>hl6.todo y (List.mem_of_getElem? hy)
 have hst6:∀ (n:Nat) y,w.line.stack[n]? =some y→y.length≤60:=fun n y hy=>hl6.list y (List.mem_of_getElem? hy)
 have hbk6:w.line.back.length≤60:=hl6.back
 have hsk6:w.line.stack.length≤60:=hl6.stack
 have htl6:w.line.todos.length≤60:=hl6.todos
 have hta6:=S.ta
 obtain⟨NF,hNF⟩:∃NF:Nat→List Int,NF=fun k=>(due.take k).map bB.node:=⟨_,rfl⟩
 have hN0:NF 0=[]:=by rw[hNF];simp
 have hNs:∀ (k:Nat) x,due[k]? =some x→NF (k+1)=NF k++ [x.node]:=fun k x hx=>by
  rw[hNF];show(due.take (k+1)).map bB.node=(due.take k).map bB.node++ [x.node]
  rw[List.take_add_one,hx,List.map_append];rfl
 have hNl:∀k,k≤due.length→(NF k).length=k:=fun k hk=>by rw[hNF];show((due.take k).map bB.node).length=k;simp;omega
 have hNe:NF due.length=due.map bB.node:=by rw[hNF];show(due.take due.length).map bB.node=_;rw[List.take_length]
 rw[←hNe] at p4 p5
 obtain⟨ND,hND⟩:∃ND,NF due.length=ND:=⟨_,rfl⟩
 have hNDl:ND.length=due.length:=by rw[←hND];exact hNl _ (Nat.le_refl _)
 rw[hND] at p4 p5
 clear hNF hNe S R hsm e1 e3 e4 hl6 hdue hv
 have hd80:due.length≤80:=by omega
 obtain⟨⟨l,m⟩,st,⟨d1,d2,d3,d4⟩,⟨a,b,c,d⟩,ta,bu,cs⟩:=w
 simp only at h31 hR2 hfs h42 htd hst6 hbk6 hsk6 htl6 hta6 p1 p2 p3 p4 p5 h19
 have ham:(a.map cI).length=a.length:=List.length_map ..
 have hbm:(b.map gg).length=b.length:=List.length_map ..
 have hvbm:(vb.map gg).length=b.length:=by rw[List.length_map,p2]
 have htam:(ta.map gx).length=ta.length:=List.length_map ..
 have hvtm:(vt.map gx).length=vt.length:=List.length_map ..
 refine ah.af (rvs:=[.tmp 4]) G aa Tryz.func5 rfl Tryz.ntmps5 rfl rfl ?_;with_reducible refine wD ?_
 (have fct:=And.intro hdm (And.intro (eq_false e2) (And.intro hbm (hvbm)));(repeat' (first
  |refine gF ?_|refine aE ?_ ?_
  | ((first
   |((with_reducible refine kQ 15 ?_);refine cL h15 Sm ?_)
   | ((with_reducible refine kQ 16 ?_);refine aj.lit [] h16 rM ⟨
      ⟨rfl,rfl,rfl,rfl,rfl,rfl,rfl,rfl,rfl,rfl,rfl,rfl,rfl,rfl,trivial⟩
      ,trivial⟩ rfl rfl ?_)
   | ((with_reducible refine kQ 31 ?_);refine aj.val [] h31 P4 ⟨
      ⟨rfl,rfl,rfl,rfl,rfl,rfl,rfl,rfl,rfl,rfl,rfl,rfl,rfl,rfl,trivial⟩
      ,rfl,trivial⟩ rfl rfl rfl ?_)
   |((with_reducible refine kQ 19 ?_);first
   | refine aj.lit [] h19 gZ ⟨
    ⟨rfl,rfl,rfl,rfl,rfl,rfl,rfl,rfl,rfl,rfl,rfl,rfl,rfl,rfl,trivial⟩
    ,trivial⟩ rfl rfl ?_
   | refine aj.lit [] hR2 gZ ⟨
    ⟨rfl,rfl,rfl,rfl,rfl,rfl,rfl,rfl,rfl,rfl,rfl,rfl,rfl,rfl,trivial⟩
    ,trivial⟩ rfl rfl ?_)
   |((with_reducible refine kQ 37 ?_);refine cL hfs OH ?_)
   |((with_reducible refine kQ 42 ?_);refine cL h42 Sa ?_))<;>with_reducible refine wK ?_)
  |apply trivial));all_goals clear fct)
 clear h31 hR2 hfs h42 h15 h16 h19
 refine aU.ghost 7 71 1 rfl rfl ?_
 refine aU.use G aa (fun(k:Nat)=>[(1,jM due),(2,.ptr 20 0 0),(5,.ptr 50 0 0),(7,.own 71 0 k),(8,aq k)])
  (fun k=>[(20,mW ⟨⟨l,m⟩,st,⟨d1,d2,d3,d4⟩,⟨a,b,c,d⟩,ta,bu,cs⟩),(50,mW ⟨⟨l,m⟩,st,⟨d1,d2,d3,d4⟩,⟨va,vb,vc,vd⟩,vt,bu,cs⟩),(71,gX (NF k))])
  (fun k=>k≤due.length) (fun k=>due.length-k) 0 (Nat.zero_le _) ?_ ?_
 ·rw[hN0]
  (refine fK ?_;(with_reducible repeat' (first|exact trivial|(show _∧_;refine aK ?_ ?_)));(all_goals try rfl))
  all_goals first
   |rfl
   |exact⟨.refl (aQ _),aQ _⟩
 intro k hk
 with_reducible refine wK ?_
 refine bq.mk (fun h9=>?_) (fun h9=>?_)<;>(try simp only[aF] at h9)<;>with_reducible refine wK ?_
 ·have hk':k<due.length:=by simp only[decide_eq_true_eq] at h9;omega
  obtain⟨⟨z0,⟨z1,z2,z3,z4,z5,z6,z7,z8,z9,z10⟩⟩,hz⟩:∃z,due[k]? =some z:=⟨_,List.getElem?_eq_getElem hk'⟩
  have hnl:=hNl k (by omega)
  have hnm:((NF k).map bF).length=(NF k).length:=List.length_map ..
  have hns:=hNs k _ hz
  have e3:(NF k).map bF++ [aq z0]=(NF (k+1)).map bF:=by rw[hns,List.map_append];rfl
  have e4:=hNl (k+1) (by omega)
  generalize hWn:NF (k+1)=W2 at*
  clear hNs hNl hN0 h9 p3 p4 p5
  repeat' (first
  |refine gK ?_|refine aE ?_ ?_
  | ((first
   |((with_reducible show ay _ _ _ _ _);refine ay.mk k (kE ⟨z0,⟨z1,z2,z3,z4,z5,z6,z7,z8,z9,z10⟩⟩) rfl (oU hz) ?_)
   |((with_reducible show dI _ _ _ _ _ _ _ _ _ _);refine dI.mk ((NF k).map bF) [aq z0] ⟨rfl,by omega,rfl⟩ ⟨rfl,rfl,rfl⟩ rfl (by simp;omega) (by simp;omega) ?_)
   |((with_reducible show bI _ _ _ _);refine dK ?_))<;>with_reducible refine wK ?_)
  |apply trivial)
  refine aL.mk (k+1) (by omega) (by omega) ?_
  rw[hWn,e3]
  (refine fK ?_;(with_reducible repeat' (first|exact trivial|(show _∧_;refine aK ?_ ?_)));(all_goals try rfl))
  all_goals first
   |rfl
   |(simp;done)
   |(simp;omega)
   |exact⟨.refl (aQ _),aQ _⟩
   |(rw[List.length_map,e4];done)
   |(rw[List.length_map];omega)
 have hke:k=due.length:=by simp only[decide_eq_false_iff_not] at h9;omega
 subst hke
 rw[hND]
 clear h9 hNs hNl hN0
 refine aU.use G aa (fun(n:Nat)=>[(1,jM due),(2,.ptr 20 0 0),(5,.ptr 50 0 0),(7,.own 71 0 due.length),(9,aq n)])
  (fun n=>[(20,mW ⟨⟨l,m⟩,st,⟨d1,d2,d3,d4⟩,⟨a,b,c,d⟩,ta,bu,cs⟩),(50,mW ⟨⟨l,m⟩,st,⟨d1,d2,d3,d4⟩,⟨va,vb,vc,vd⟩,vt,bu,cs⟩),(71,gX ND)])
  (fun n=>n≤a.length) (fun n=>a.length-n) 0 (Nat.zero_le _) ?_ ?_
 ·(refine fK ?_;(with_reducible repeat' (first|exact trivial|(show _∧_;refine aK ?_ ?_)));(all_goals try rfl))
  all_goals first
   |rfl
   |exact⟨.refl (aQ _),aQ _⟩
 intro n hn
 with_reducible refine wK ?_
 refine bq.mk (fun h9=>?_) (fun h9=>?_)<;>(try simp only[aF] at h9)<;>with_reducible refine wK ?_
 ·have hn':n<a.length:=by simp only[decide_eq_true_eq] at h9;omega
  obtain⟨y,hy⟩:∃z,a[n]? =some z:=⟨_,List.getElem?_eq_getElem hn'⟩
  have hy6:=htd n y hy
  have hvy:=p3 n y hy
  have hym:(y.map eM).length=y.length:=List.length_map ..
  obtain⟨WF,hWF⟩:∃WF:Nat→List br,WF=fun i=>y++Pf due n i:=⟨_,rfl⟩
  have hW0:WF 0=y:=by rw[hWF];show y++Pf due n 0=y;rw[for_zero,List.append_nil]
  have hWy:∀ (i:Nat) x,due[i]? =some x→x.node=n→WF (i+1)=WF i++ [x.todo]:=fun i x hx e=>by
   rw[hWF];show y++Pf due n (i+1)=y++Pf due n i++ [x.todo]
   rw[forN_yes hx e,List.append_assoc]
  have hWn:∀ (i:Nat) x,due[i]? =some x→¬x.node=n→WF (i+1)=WF i:=fun i x hx e=>by
   rw[hWF];show y++Pf due n (i+1)=y++Pf due n i
   rw[forN_no hx e]
  have hWl:∀i,(WF i).length≤60+due.length:=fun i=>by
   rw[hWF];show(y++Pf due n i).length≤_
   rw[List.length_append];have:=forN_len due n i;omega
  have hWe:y++Pf due n due.length=WF due.length:=by rw[hWF]
  rw[hWe] at hvy
  have hT:=mN (WF due.length) (by have:=hWl due.length;omega)
  clear hWF hWe h9 p3 p4 p5
  repeat' (first
  |refine gK ?_|refine aE ?_ ?_
  | ((first
   |((with_reducible show ay _ _ _ _ _);refine ay.mk n (cF y) rfl (cz hy) ?_)
   |((with_reducible show dI _ _ _ _ _ _ _ _ _ _);refine dI.mk [] (y.map eM) ⟨rfl,rfl,rfl⟩ ⟨rfl,rfl,rfl⟩ (gj eM (fun _=>rfl) y) (by simp;omega) (by simp;omega) ?_)
   |((with_reducible show bI _ _ _ _);refine dK ?_))<;>with_reducible refine wK ?_)
  |apply trivial)
  refine aU.use G aa (fun(i:Nat)=>[(1,jM due),(2,.ptr 20 0 0),(5,.ptr 50 0 0),(7,.own 71 0 due.length),(9,aq n),(10,.own 101 0 (WF i).length),(11,aq i)])
   (fun i=>[(20,mW ⟨⟨l,m⟩,st,⟨d1,d2,d3,d4⟩,⟨a,b,c,d⟩,ta,bu,cs⟩),(50,mW ⟨⟨l,m⟩,st,⟨d1,d2,d3,d4⟩,⟨va,vb,vc,vd⟩,vt,bu,cs⟩),(71,gX ND),(101,AR (WF i))])
   (fun i=>i≤due.length) (fun i=>due.length-i) 0 (Nat.zero_le _) ?_ ?_
  ·rw[hW0]
   (refine fK ?_;(with_reducible repeat' (first|exact trivial|(show _∧_;refine aK ?_ ?_)));(all_goals try rfl))
   all_goals first
    |rfl
    |(simp;done)
    |exact⟨.refl (aQ _),aQ _⟩
    |exact⟨.refl (dV _),dV _⟩
  intro i hi
  with_reducible refine wK ?_
  refine bq.mk (fun h9=>?_) (fun h9=>?_)<;>(try simp only[aF] at h9)<;>with_reducible refine wK ?_
  ·have hi':i<due.length:=by simp only[decide_eq_true_eq] at h9;omega
   obtain⟨⟨z0,⟨z1,z2,z3,z4,z5,z6,z7,z8,z9,z10⟩⟩,hz⟩:∃z,due[i]? =some z:=⟨_,List.getElem?_eq_getElem hi'⟩
   have hwl:=hWl i
   have hwm:((WF i).map eM).length=(WF i).length:=List.length_map ..
   by_cases ez:z0=(n:Int)
   ·have hws:=hWy i _ hz ez
    have e3:(WF i).map eM++ [iD ⟨z1,z2,z3,z4,z5,z6,z7,z8,z9,z10⟩]=(WF (i+1)).map eM:=by rw[hws,List.map_append];rfl
    have e4:(WF (i+1)).length=(WF i).length+1:=by rw[hws];simp
    generalize hWn2:WF (i+1)=W2 at*
    clear hWy hWn hWl hW0 h9 hT hvy
    (have fct:=ez;(repeat' (first
  |refine gF ?_|refine aE ?_ ?_
  | ((first
   |((with_reducible show ay _ _ _ _ _);refine ay.mk i (kE ⟨z0,⟨z1,z2,z3,z4,z5,z6,z7,z8,z9,z10⟩⟩) rfl (oU hz) ?_)
   |((with_reducible show dI _ _ _ _ _ _ _ _ _ _);refine dI.mk ((WF i).map eM) [iD ⟨z1,z2,z3,z4,z5,z6,z7,z8,z9,z10⟩] ⟨rfl,by omega,rfl⟩ ⟨rfl,rfl,rfl⟩ rfl (by simp;omega) (by simp;omega) ?_)
   |((with_reducible show bI _ _ _ _);refine dK ?_))<;>with_reducible refine wK ?_)
  | apply trivial));all_goals clear fct)
    refine aL.mk (i+1) (by omega) (by omega) ?_
    rw[hWn2,e3]
    (refine fK ?_;(with_reducible repeat' (first|exact trivial|(show _∧_;refine aK ?_ ?_)));(all_goals try rfl))
    all_goals first
     |rfl
     |(simp;done)
     |(simp;omega)
     |exact⟨.refl (aQ _),aQ _⟩
     |exact⟨.refl (dV _),dV _⟩
     |(rw[List.length_map,e4];done)
     |(rw[List.length_map];omega)
   ·have hws:=hWn i _ hz ez
    clear hWy hWn hWl hW0 h9 hT hvy
    (have fct:=(eq_false ez);(repeat' (first
  |refine gF ?_|refine aE ?_ ?_
  | ((first
   |((with_reducible show ay _ _ _ _ _);refine ay.mk i (kE ⟨z0,⟨z1,z2,z3,z4,z5,z6,z7,z8,z9,z10⟩⟩) rfl (oU hz) ?_)
   |((with_reducible show bI _ _ _ _);refine dK ?_))<;>with_reducible refine wK ?_)
  | apply trivial));all_goals clear fct)
    refine aL.mk (i+1) (by omega) (by omega) ?_
    rw[hws]
    (refine fK ?_;(with_reducible repeat' (first|exact trivial|(show _∧_;refine aK ?_ ?_)));(all_goals try rfl))
    all_goals first
     |rfl
     |(simp;done)
     |exact⟨.refl (aQ _),aQ _⟩
     |exact⟨.refl (dV _),dV _⟩
  have hie:i=due.length:=by simp only[decide_eq_false_iff_not] at h9;omega
  subst hie
  clear h9 hWy hWn hWl hW0
  generalize WF due.length=W2 at*
  repeat' (first
  |refine gK ?_|refine aE ?_ ?_
  | ((first
   |((with_reducible show ay _ _ _ _ _);refine ay.mk n (cF W2) rfl (cz hvy) ?_)
   |((with_reducible refine kQ 43 ?_);refine aj.lit [101] hT Qe ⟨rfl,qf rfl rfl rfl rfl,trivial⟩ rfl rfl ?_)
   |((with_reducible show bI _ _ _ _);refine dK ?_))<;>with_reducible refine wK ?_)
  |apply trivial)
  refine aL.mk (n+1) (by omega) (by omega) ?_
  (refine fK ?_;(with_reducible repeat' (first|exact trivial|(show _∧_;refine aK ?_ ?_)));(all_goals try rfl))
  all_goals first
   |rfl
   |(simp;done)
   |exact⟨.refl (aQ _),aQ _⟩
 clear h9 p3 htd
 (have fct:=hbm;(repeat' (first
  |refine gF ?_|refine aE ?_ ?_
  |apply trivial));all_goals clear fct)
 refine bq.mk (fun h9=>?_) (fun h9=>?_)<;>(try simp only[aF] at h9)<;>with_reducible refine wK ?_
 ·have hb1:0<b.length:=by simp only[decide_eq_true_eq,ge_iff_le] at h9;omega
  obtain⟨q,hq⟩:∃q,b.length=q+1:=⟨b.length-1,by omega⟩
  obtain⟨s,hs⟩:∃s,b[q]? =some s:=⟨_,List.getElem?_eq_getElem (by omega)⟩
  obtain⟨g1,g2,g3,g4⟩:=p4 q s hq hs
  subst g2;subst g4
  have hs6:=hst6 q s hs
  have hsm2:(s.map bF).length=s.length:=List.length_map ..
  have hnm2:(ND.map bF).length=due.length:=by rw[List.length_map,hNDl]
  have h44:=Bf (s++ND) (s++ND) (by rw[List.length_append];omega)
  rw[decide_eq_true rfl] at h44
  have h45:=Bf vc vc (by omega)
  rw[decide_eq_true rfl] at h45
  clear h9 p4 p5
  (have fct:=And.intro hvtm (And.intro htam (g3));(repeat' (first
  |refine gF ?_|refine aE ?_ ?_
  | ((first
   |((with_reducible show ay _ _ _ _ _);first|refine ay.mk q (bY (s++ND)) (by(try simp only[aF]);omega) (lD g1) ?_|refine ay.mk q (bY s) (by(try simp only[aF]);omega) (lD hs) ?_)
   |((with_reducible show dI _ _ _ _ _ _ _ _ _ _);first|refine dI.mk [] (s.map bF) ⟨rfl,rfl,rfl⟩ ⟨rfl,rfl,rfl⟩ (gj bF (fun _=>rfl) s) (by simp;omega) (by simp;omega) ?_|refine dI.mk (s.map bF) (ND.map bF) ⟨rfl,by simp,rfl⟩ ⟨rfl,by omega,rfl⟩ (gj bF (fun _=>rfl) ND) (by simp;omega) (by simp;omega) ?_)
   |((with_reducible refine kQ 44 ?_);first|refine aj.lit [1611] h44 P8 ⟨rfl,eG (l:=s++ND) rfl rfl List.map_append.symm (by simp),trivial⟩ rfl rfl ?_|refine cL h45 P8 ?_)
   |((with_reducible show bI _ _ _ _);refine dK ?_))<;>with_reducible refine wK ?_)
  |apply trivial));all_goals clear fct)
  all_goals first
   |rfl
   |(rw[decide_eq_true (by omega)];done)
   |(simp;done)
   |(simp;omega)
 ·have hb0:b=[]:=by
   simp only[decide_eq_false_iff_not,ge_iff_le] at h9
   exact List.length_eq_zero_iff.1 (by omega)
  obtain⟨g1,g2,g3⟩:=p5 hb0
  have hcm:(c.map bF).length=c.length:=List.length_map ..
  have hnm2:(ND.map bF).length=due.length:=by rw[List.length_map,hNDl]
  have h44:=Bf (c++ND) (c++ND) (by rw[List.length_append];omega)
  rw[decide_eq_true rfl] at h44
  rw[g1,g3]
  clear h9 p4 p5 g1 g3
  by_cases ed:due=[]
  ·have hd0:due.length=0:=by rw[ed];rfl
   rw[if_neg (fun q=>q.1 ed)] at g2
   rw[decide_eq_false (show ¬due≠ [] from fun q=>q ed)]
   cases d
   all_goals ((have fct:=And.intro hdm (And.intro hd0 (And.intro hvtm (htam)));(repeat' (first
  |refine gF ?_|refine aE ?_ ?_
  | ((first
   |((with_reducible show dI _ _ _ _ _ _ _ _ _ _);first|refine dI.mk [] (c.map bF) ⟨rfl,rfl,rfl⟩ ⟨rfl,rfl,rfl⟩ (gj bF (fun _=>rfl) c) (by simp;omega) (by simp;omega) ?_|refine dI.mk (c.map bF) (ND.map bF) ⟨rfl,by simp,rfl⟩ ⟨rfl,by omega,rfl⟩ (gj bF (fun _=>rfl) ND) (by simp;omega) (by simp;omega) ?_)
   |((with_reducible refine kQ 44 ?_);refine aj.lit [2081] h44 P8 ⟨rfl,eG (l:=c++ND) rfl rfl List.map_append.symm (by simp),trivial⟩ rfl rfl ?_)
   |((with_reducible show bI _ _ _ _);refine dK ?_))<;>with_reducible refine wK ?_)
  | apply trivial));all_goals clear fct))
   all_goals first
    |rfl
    |(rw[decide_eq_true (by omega)];done)
    |(simp;done)
    |(simp;omega)
  ·have hd0:0<due.length:=List.length_pos_iff.2 ed
   rw[decide_eq_true (show due≠ [] from ed)]
   cases d
   ·rw[if_pos ⟨ed,rfl⟩] at g2
    (have fct:=And.intro hdm (And.intro hvtm (htam));(repeat' (first
  |refine gF ?_|refine aE ?_ ?_
  | ((first
   |((with_reducible show dI _ _ _ _ _ _ _ _ _ _);first|refine dI.mk [] (c.map bF) ⟨rfl,rfl,rfl⟩ ⟨rfl,rfl,rfl⟩ (gj bF (fun _=>rfl) c) (by simp;omega) (by simp;omega) ?_|refine dI.mk (c.map bF) (ND.map bF) ⟨rfl,by simp,rfl⟩ ⟨rfl,by omega,rfl⟩ (gj bF (fun _=>rfl) ND) (by simp;omega) (by simp;omega) ?_)
   |((with_reducible refine kQ 44 ?_);refine aj.lit [2081] h44 P8 ⟨rfl,eG (l:=c++ND) rfl rfl List.map_append.symm (by simp),trivial⟩ rfl rfl ?_)
   |((with_reducible show bI _ _ _ _);refine dK ?_))<;>with_reducible refine wK ?_)
  | apply trivial));all_goals clear fct)
    all_goals first
     |rfl
     |(rw[decide_eq_true (by omega)];done)
     |(simp;done)
     |(simp;omega)
   ·rw[if_neg (by simp)] at g2
    (have fct:=And.intro hdm (And.intro hvtm (htam));(repeat' (first
  |refine gF ?_|refine aE ?_ ?_
  | ((first
   |((with_reducible show dI _ _ _ _ _ _ _ _ _ _);first|refine dI.mk [] (c.map bF) ⟨rfl,rfl,rfl⟩ ⟨rfl,rfl,rfl⟩ (gj bF (fun _=>rfl) c) (by simp;omega) (by simp;omega) ?_|refine dI.mk (c.map bF) (ND.map bF) ⟨rfl,by simp,rfl⟩ ⟨rfl,by omega,rfl⟩ (gj bF (fun _=>rfl) ND) (by simp;omega) (by simp;omega) ?_)
   |((with_reducible refine kQ 44 ?_);refine aj.lit [2081] h44 P8 ⟨rfl,eG (l:=c++ND) rfl rfl List.map_append.symm (by simp),trivial⟩ rfl rfl ?_)
   |((with_reducible show bI _ _ _ _);refine dK ?_))<;>with_reducible refine wK ?_)
  | apply trivial));all_goals clear fct)
    all_goals first
     |rfl
     |(rw[decide_eq_true (by omega)];done)
     |(simp;done)
     |(simp;omega)
end Go.Proofs.Heir
