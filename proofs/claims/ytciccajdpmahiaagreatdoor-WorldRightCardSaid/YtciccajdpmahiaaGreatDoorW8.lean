/- Walks of functions by unfolding over abstract states; runs of functions by an evaluator that is proved. By an AI agent. -/
import Derived.Test.YtciccajdpmahiaaGreatDoorW3
set_option linter.unusedSimpArgs false
set_option linter.unusedVariables false
section
namespace Go.Am
open Go Go.RowKit Go.Lib
set_option maxRecDepth 100000
variable {P : Program} {N : Nat} {σ : aC} {o : Oper}
theorem xE {zv:Value}(hz:zv.cells= #[zv])(n:Nat):(Builtin.zeroCells zv.cells n).toList=List.replicate n zv:=by
  rw[hz]
  unfold Builtin.zeroCells
  apply List.ext_getElem
  ·simp
  · intro i h1 h2
    simp[Nat.mod_one]
theorem aN.OY {y:Operand}{t e:TypeId}{tk off len:Nat}{rows:List AV}{zv:Value}(ho:o.op=.call {callee:=.builtin .clear,args:= #[y],argTypes:= #[t]})(ht:nG P t e)
    (hz:∀w,(zeroValue e).run P w=.ok zv w) (hzc:zv.cells= #[zv]) (hone:zv.oneCell'=true) (hcl:cells (.lit zv)=[.lit zv]) (he:σ.eval y=.own tk off len) (hpos:0<len) (hm:σ.mem tk=.live 1 rows false) (hfit:off+len=rows.length) (hd:o.dst=none):
    aN P N o σ [tk] .any [(tk,.live 1 (rows.take off++List.replicate len (.lit zv)) false)]:=by
  intro σ2 he2 hrd w0 W0 L μ a w K Q hs hK
  have k1:=hs.eval y
  rw[he2 y (by simp[ho,Op.operands,Call.operands]),he] at k1
  have hm2:σ2.mem tk=.live 1 rows false:=by rw[hrd tk (by simp)];exact hm
  obtain⟨B,hB,hobj⟩:=hs.objs tk 1 rows false hm2
  generalize hv:a.eval y=v at k1
  cases k1 with
  |ownNil _=>omega
  | @own _ _ _ cap e' n B' a1 av ap a2 a3 a4=>
    rw[hB] at a1;cases a1
    obtain⟨C,e1,fz,c1,c2,c3⟩:=hobj.blk av ap
    rw[c2 rfl] at c1
    have hw1:B.wd=1:=hobj.width
    have hle:B.o+off+0+ (List.replicate len zv).length≤C.size:=by
      rw[List.length_replicate];omega
    have hst:=run_storeCells_at (P:=P) B.b (B.o+off) e1 (List.replicate len zv) 0 C w c1 hle (fun v hv=>by rw[List.eq_of_mem_replicate hv];exact hone)
    simp only[Nat.add_zero] at hst hle
    obtain⟨m,rfl⟩:∃m,len=m+1:=⟨len-1,by omega⟩
    have hrun:(execOp a.eval o).run P w=.ok (.value (.tuple #[])) (w.setRow B.b (C.toList.take (B.o+off)++List.replicate (m+1) zv++C.toList.drop (B.o+off+ (List.replicate (m+1) zv).length)).toArray):=by
      simp[execOp,ho,resolve,invoke,builtin,hv,Builtin.clear_,run_underlying ht,hz w,xE hzc,hw1]
      rw[hst]
      simp[Result.andThen]
    have hw:bI 1 (rows.take off++List.replicate (m+1) (.lit zv)):=bI.fM fun r hr=>by
      rcases List.mem_append.1 hr with h|h
      · obtain⟨i,hi⟩:=List.mem_iff_getElem?.1 (List.mem_of_mem_take h)
        exact hobj.wide i r hi
      ·rw[List.eq_of_mem_replicate h,hcl];rfl
    have hs' :=hs.setObj (rows':=rows.take off++List.replicate (m+1) (.lit zv)) hm2 hB av ap c1 (C':=(C.toList.take (B.o+off)++List.replicate (m+1) zv++C.toList.drop (B.o+off+ (List.replicate (m+1) zv).length)).toArray)
      (by simp only[List.size_toArray,jg,jD,List.length_drop,Array.length_toList];rw[Nat.min_eq_left (by omega)];omega) (by simp;omega) hw (fun q c hq=>by
        obtain⟨i',j,s,q1,q2,q3,q4⟩:=p6 hw hq
        subst q1
        obtain rfl:j=0:=by omega
        simp only[List.getElem?_toArray,Nat.mul_one,Nat.add_zero]
        rw[List.append_assoc]
        by_cases hi:i'<off
        · rw[List.getElem?_append_left (by simp;omega),List.getElem?_take,if_pos hi] at q2
          obtain⟨v,v1,v2⟩:=hobj.cell ap _ c (dV hobj.wide q2 q3)
          refine⟨v,?_,v2⟩
          rw[List.getElem?_append_left (by simp;omega),List.getElem?_take,if_pos (by omega),Array.getElem?_toList]
          simpa[World.cell?,c1] using v1
        · rw [List.getElem?_append_right (by simp;omega),jD,Nat.min_eq_left (by omega)] at q2
          rw[List.getElem?_replicate] at q2
          split at q2
          · rename_i hk
            cases q2
            rw[hcl] at q3
            cases q3
            refine⟨zv,?_,.lit⟩
            rw[List.getElem?_append_right (by simp;omega),jD,Nat.min_eq_left (by simp only[List.length_replicate] at hle;simp;omega),List.getElem?_append_left (by simp;omega),List.getElem?_replicate,if_pos (by omega)]
          ·cases q2)
    unfold Oper.wp
    rw[hrun]
    refine hK μ _ _ ?_
    rw[hd]
    exact hs'
theorem bV.clear {acc:Tk}{sl:SL}{m:ML}{R:Rest}{y:Operand}{t e:TypeId}{tk off len:Nat}{rows:List AV}{zv:Value}(rows':List AV)(hrw:rows'=rows.take off++List.replicate len (.lit zv))(ho:o.op=.call {callee:=.builtin .clear,args:= #[y],argTypes:= #[t]})
    (ht:nG P t e) (hz:∀w,(zeroValue e).run P w=.ok zv w) (hzc:zv.cells= #[zv]) (hone:zv.oneCell'=true) (hcl:cells (.lit zv)=[.lit zv]) (hy:gj sl y=.own tk off len) (hpos:0<len) (hm:eC m tk=.live 1 rows false) (hfit:off+len=rows.length) (hd:o.dst=none)
    (h:R [tk] .any [(tk,.live 1 rows' false)] acc sl m):bV P N acc sl m (o:=o) (R:=R):=by
  rw[eJ] at hy
  subst hrw
  exact⟨_,_,_,aN.OY ho ht hz hzc hone hcl hy hpos (by rw[mem_eq];exact hm) hfit hd,h⟩
end Go.Am
end
section
namespace Go.Am
open Go Go.RowKit Go.Lib
set_option maxRecDepth 100000
variable {P : Program} {N : Nat} {σ : aC} {o : Oper}
theorem aN.Dm {y z:Operand}{t e:TypeId}{n bytes:Nat}{i:TypeInfo}{zv:Value}{tk:Nat}(ho:o.op=.makeSlice t y z)(ht:wL P t e 1 bytes i zv)(hzc:zv.cells= #[zv])(hcl:cells (.lit zv)=[.lit zv])
    (hy:σ.eval y=.lit (.int .i64 n)) (hz:σ.eval z=.lit (.int .i64 n)) (hn:n≤100000) (hb:i.bytes≤100000) (hfree:σ.mem tk=.free) (hd:∀d,o.dst=some d→d<N):aN P N o σ [tk] (.own tk 0 n) [(tk,.live 1 (List.replicate n (.lit zv)) false)]:=by
  have hlr:(List.replicate n (AV.lit zv)).length=n:=by simp
  have key:aN P N o σ [tk] (.own tk 0 (List.replicate n (AV.lit zv)).length) [(tk,.live 1 (List.replicate n (.lit zv)) false)]:=by
    refine .new hfree (bI.fM fun r hr=>by rw[List.eq_of_mem_replicate hr,hcl];rfl) (fun σ2 he2 w0 W0 L μ a w hs=>?_) hd
    obtain⟨h1,h2,h3,h4,h5,h6⟩:=ht
    have e1:=hs.eval y
    have e2:=hs.eval z
    rw[he2 y (by simp[ho,Op.operands]),hy] at e1
    rw[he2 z (by simp[ho,Op.operands]),hz] at e2
    have lit1:∀ {W:Nat→Prop} {v:Value},cH W μ w (.lit (.int .i64 n)) v→v=.int .i64 n:=fun h=>by cases h;rfl
    have v1:a.eval y=.int .i64 n:=lit1 e1
    have v2:a.eval z=.int .i64 n:=lit1 e2
    refine⟨(Array.range n).map ((#[zv]:Array Value)[· %1]!),e,.slice (some ⟨w.heap.size,0,none⟩) (List.replicate n (AV.lit zv)).length n,w.drawn,?_,by simp,fun q c hq=>?_,.inr ⟨n,rfl,rfl,by simp,by simp⟩⟩
    · have hwr:IntKind.i64.wrap (n:Int)=n:=IntWalk.i64_in _ (by omega)
      have hmul:(i.bytes:Int)* (n:Int)≤100000*100000:=Int.mul_le_mul (by omega) (by omega) (by omega) (by omega)
      have hbn:((281474976710656:Int)< (i.bytes:Int)* (n:Int))=False:=eq_false (by omega)
      have hneg:((n:Int)<0)=False:=eq_false (by omega)
      have hsize:(sizeOf e).run P w=.ok 1 w:=by simp[sizeOf,typeInfo,h2,h3]
      by_cases h0:n=0
      · subst h0
        have hw0:IntKind.i64.wrap (0:Int)=0:=by decide
        simp[execOp,ho,v1,v2,Instr.makeSlice,run_underlying h1,typeInfo,h2,asInt,asIntOf,hsize,newRow,hw0,Array.range_zero',Array.map_empty]
      · simp[execOp,ho,v1,v2,Instr.makeSlice,run_underlying h1,typeInfo,h2,asInt,asIntOf,hsize,newRow,hwr,hbn,hneg,h0,zeroValue,h5,hzc]
        trace_state
    · obtain⟨i',j,s,q1,q2,q3,q4⟩:=p6 (bI.fM fun r hr=>by rw[List.eq_of_mem_replicate hr,hcl];rfl:bI 1 (List.replicate n (AV.lit zv))) hq
      obtain rfl:j=0:=by omega
      subst q1
      rw[List.getElem?_replicate] at q2
      split at q2
      · rename_i hk
        cases q2
        rw[hcl] at q3
        cases q3
        refine⟨zv,?_,.lit⟩
        simp[hk,Nat.mod_one]
      ·cases q2
  rw[hlr] at key
  exact key
theorem bV.makeSlice {acc:Tk}{sl:SL}{m:ML}{R:Rest}{y z:Operand}{t e:TypeId}{bytes:Nat}{i:TypeInfo}{zv:Value}(n tk:Nat)(ho:o.op=.makeSlice t y z)(ht:wL P t e 1 bytes i zv)(hzc:zv.cells= #[zv])(hcl:cells (.lit zv)=[.lit zv])
    (hy:gj sl y=.lit (.int .i64 n)) (hz:gj sl z=.lit (.int .i64 n)) (hn:n≤100000) (hb:i.bytes≤100000) (hfree:eC m tk=.free) (hd:∀d,o.dst=some d→d<N)
    (h:R [tk] (.own tk 0 n) [(tk,.live 1 (List.replicate n (.lit zv)) false)] acc sl m):bV P N acc sl m (o:=o) (R:=R):=by
  rw[eJ] at hy hz
  exact⟨_,_,_,aN.Dm ho ht hzc hcl hy hz hn hb (by rw[mem_eq];exact hfree) hd,h⟩
theorem bV.Dn {acc:Tk}{sl:SL}{m:ML}{R:Rest}{y z:Operand}{Γ:cT}(hΓ:Γ.Good P){t e e2 wd2 b2 bytes:Nat}(n tk:Nat)(ho:o.op=.makeSlice t y z)(h1:da Γ t=some (.sl e 1 bytes))(h2:da Γ e=some (.sl e2 wd2 b2))
    (hy:gj sl y=.lit (.int .i64 n)) (hz:gj sl z=.lit (.int .i64 n)) (hn:n≤100000) (hb:bytes≤100000) (hfree:eC m tk=.free) (hd:∀d,o.dst=some d→d<N)
    (h:R [tk] (.own tk 0 n) [(tk,.live 1 (List.replicate n (.lit (.slice none 0 0))) false)] acc sl m):bV P N acc sl m (o:=o) (R:=R):=by
  obtain⟨_,_,_,_,i,zv,ht⟩:=hΓ.look h1
  have hz0:=(hΓ.look h2).2.2.1 default
  have ht':=ht
  obtain⟨g1,g2,g3,g4,g5,g6⟩:=ht'
  have hzv:zv=.slice none 0 0:=by
    simp[zeroValue,typeInfo,g2,g5] at hz0
    exact hz0
  subst hzv
  exact bV.makeSlice n tk ho ht rfl rfl hy hz hn (by rw[g4];exact hb) hfree hd h
end Go.Am
end
