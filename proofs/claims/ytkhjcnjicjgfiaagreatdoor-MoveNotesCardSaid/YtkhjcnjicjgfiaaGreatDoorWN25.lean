/- Walks of functions by unfolding over abstract states; runs of functions by an evaluator that is proved. By an AI agent. -/
import Derived.Test.YtkhjcnjicjgfiaaGreatDoorWN11
set_option linter.unusedSimpArgs false
set_option linter.unusedVariables false
section
namespace Go.Am
open Go Go.RowKit Go.Lib
set_option maxRecDepth 100000
variable {P : Program} {N : Nat} {σ : az} {o : Oper}
theorem uG {zv:Value}(hz:zv.cells= #[zv])(n:Nat):(Builtin.zeroCells zv.cells n).toList=List.replicate n zv:=by
  rw[hz]
  unfold Builtin.zeroCells
  apply List.ext_getElem
  ·simp
  · intro i h1 h2
    simp[Nat.mod_one]
theorem aH.IU {y:Operand}{t e:TypeId}{tk off len:Nat}{rows:List AV}{zv:Value}(ho:o.op=.call {callee:=.builtin .clear,args:= #[y],argTypes:= #[t]})(ht:me P t e)
    (hz:∀w,(zeroValue e).run P w=.ok zv w) (hzc:zv.cells= #[zv]) (hone:zv.oneCell'=true) (hcl:cells (.lit zv)=[.lit zv]) (he:σ.eval y=.own tk off len) (hpos:0<len) (hm:σ.mem tk=.live 1 rows false) (hfit:off+len=rows.length) (hd:o.dst=none):
    aH P N o σ [tk] .any [(tk,.live 1 (rows.take off++List.replicate len (.lit zv)) false)]:=by
  intro σ2 he2 hrd w0 W0 L μ a w K Q hs hK
  have k1:=hs.eval y
  rw[he2 y (by simp[ho,Op.operands,Call.operands]),he] at k1
  have hm2:σ2.mem tk=.live 1 rows false:=by rw[hrd tk (by simp)];exact hm
  obtain⟨B,hB,hobj⟩:=hs.objs tk 1 rows false hm2
  generalize hv:a.eval y=v at k1
  cases k1 with
  |ownNil _=>omega
  | @own _ _ _ cap e' n B' a1 av ap a2 a3 a4=>
    rw[hB] at a1;cases a1
    obtain⟨C,e1,fz,c1,c2,c3⟩:=hobj.blk av ap
    rw[c2 rfl] at c1
    have hw1:B.wd=1:=hobj.width
    have hle:B.o+off+0+ (List.replicate len zv).length≤C.size:=by
      rw[List.length_replicate];omega
    have hst:=run_storeCells_at (P:=P) B.b (B.o+off) e1 (List.replicate len zv) 0 C w c1 hle (fun v hv=>by rw[List.eq_of_mem_replicate hv];exact hone)
    simp only[Nat.add_zero] at hst hle
    obtain⟨m,rfl⟩:∃m,len=m+1:=⟨len-1,by omega⟩
    have hrun:(execOp a.eval o).run P w=.ok (.value (.tuple #[])) (w.setRow B.b (C.toList.take (B.o+off)++List.replicate (m+1) zv++C.toList.drop (B.o+off+ (List.replicate (m+1) zv).length)).toArray):=by
      simp[execOp,ho,resolve,invoke,builtin,hv,Builtin.clear_,run_underlying ht,hz w,uG hzc,hw1]
      rw[hst]
      simp[Result.andThen]
    have hw:bG 1 (rows.take off++List.replicate (m+1) (.lit zv)):=bG.ja fun r hr=>by
      rcases List.mem_append.1 hr with h|h
      · obtain⟨i,hi⟩:=List.mem_iff_getElem?.1 (List.mem_of_mem_take h)
        exact hobj.wide i r hi
      ·rw[List.eq_of_mem_replicate h,hcl];rfl
    have hs' :=hs.setObj (rows':=rows.take off++List.replicate (m+1) (.lit zv)) hm2 hB av ap c1 (C':=(C.toList.take (B.o+off)++List.replicate (m+1) zv++C.toList.drop (B.o+off+ (List.replicate (m+1) zv).length)).toArray)
      (by simp only[List.size_toArray,kf,gh,List.length_drop,Array.length_toList];rw[Nat.min_eq_left (by omega)];omega) (by simp;omega) hw (fun q c hq=>by
        obtain⟨i',j,s,q1,q2,q3,q4⟩:=qo hw hq
        subst q1
        obtain rfl:j=0:=by omega
        simp only[List.getElem?_toArray,Nat.mul_one,Nat.add_zero]
        rw[List.append_assoc]
        by_cases hi:i'<off
        · rw[List.getElem?_append_left (by simp;omega),List.getElem?_take,if_pos hi] at q2
          obtain⟨v,v1,v2⟩:=hobj.cell ap _ c (eE hobj.wide q2 q3)
          refine⟨v,?_,v2⟩
          rw[List.getElem?_append_left (by simp;omega),List.getElem?_take,if_pos (by omega),Array.getElem?_toList]
          simpa[World.cell?,c1] using v1
        · rw [List.getElem?_append_right (by simp;omega),gh,Nat.min_eq_left (by omega)] at q2
          rw[List.getElem?_replicate] at q2
          split at q2
          · rename_i hk
            cases q2
            rw[hcl] at q3
            cases q3
            refine⟨zv,?_,.lit⟩
            rw[List.getElem?_append_right (by simp;omega),gh,Nat.min_eq_left (by simp only[List.length_replicate] at hle;simp;omega),List.getElem?_append_left (by simp;omega),List.getElem?_replicate,if_pos (by omega)]
          ·cases q2)
    unfold Oper.wp
    rw[hrun]
    refine hK μ _ _ ?_
    rw[hd]
    exact hs'
theorem aW.clear {acc:Tk}{sl:SL}{m:ML}{R:Rest}{y:Operand}{t e:TypeId}{tk off len:Nat}{rows:List AV}{zv:Value}(rows':List AV)(hrw:rows'=rows.take off++List.replicate len (.lit zv))(ho:o.op=.call {callee:=.builtin .clear,args:= #[y],argTypes:= #[t]})
    (ht:me P t e) (hz:∀w,(zeroValue e).run P w=.ok zv w) (hzc:zv.cells= #[zv]) (hone:zv.oneCell'=true) (hcl:cells (.lit zv)=[.lit zv]) (hy:eZ sl y=.own tk off len) (hpos:0<len) (hm:eD m tk=.live 1 rows false) (hfit:off+len=rows.length) (hd:o.dst=none)
    (h:R [tk] .any [(tk,.live 1 rows' false)] acc sl m):aW P N acc sl m (o:=o) (R:=R):=by
  rw[dG] at hy
  subst hrw
  exact⟨_,_,_,aH.IU ho ht hz hzc hone hcl hy hpos (by rw[mem_eq];exact hm) hfit hd,h⟩
end Go.Am
end
