/- Walks of functions by unfolding over abstract states; runs of functions by an evaluator that is proved. By an AI agent. -/
import Derived.Test.YtkhjcnjicjgfiaaGreatDoorWD22
set_option linter.unusedSimpArgs false
set_option linter.unusedVariables false
namespace Go.Am
open Go
section
variable {P : Program}
@[reducible] def w4 (P : Program) (N nL : Nat) (b : Code) (Q : Exit → SL → ML → Prop) : Exit → SL → ML → Prop := fun e sl m => match e with
  |.normal=>bD P N nL sl m (c:=b) (Q:=Q)
  |e=>Q e sl m
theorem w4.ok {N nL:Nat}{Γ:bL}(hΓ:Γ.Good P){a b:Code}{sl:SL}{m:ML}{Q:Exit→SL→ML→Prop}(h:rO P N nL Γ a sl m (w4 P N nL b Q)):ek P N nL (.seq a b) (Nk Q) (St sl m):=by
  refine ek.seq ((lI hΓ _ _ _ _ h).mono ?_)
  rintro e σ ⟨sl',m',rfl,h'⟩
  cases e with
  |normal=>exact h'
  |_=>exact⟨sl',m',rfl,h'⟩
theorem bD.run {N nL:Nat}{sl:SL}{m:ML}{c:Code}{Q:Exit→SL→ML→Prop}(Γ:bL)(hΓ:Γ.Good P)(h:rO P N nL Γ c sl m Q):bD P N nL sl m (c:=c) (Q:=Q):=lI hΓ _ _ _ _ h
theorem an.Ll {f:FuncId}{fn:Func}{a1 b1:Code}{ins outs:List MS}{args:List AV}{res:AV}{N:Nat}{rvs:List ResultVar}(Γ:bL)(hΓ:Γ.Good P)(hf:P.funcs[f]? =some fn)(hb:fn.body=some (.seq a1 b1))(hN:fn.ntmps=N)(hr:fn.results.toList=rvs)
    (hlen:Nat.ble (dD args) N=true) (h:rO P N (dD ins) Γ a1 (sI 0 args) (aW 0 ins) (w4 P N (dD ins) b1 (M5 Γ (dD ins) rvs outs res))):an P f ins args outs res:=by
  subst hN;subst hr
  have hlen:args.length≤fn.ntmps:=by rw[←cq];exact bT hlen
  intro w W0 L vs hL hs hr
  have h:=w4.ok hΓ h
  rw[nn,iE,cq] at h
  have hst:(⟨fun i=>args.getD i .any,aD ins⟩:au)=St (og 0 args) (nB 0 ins):=by
    unfold St
    congr 1
    ·funext i;rw[jD];simp
    ·exact(cW ins).symm
  have hsim:bV P fn.ntmps w W0 L L ⟨fun i=>args.getD i .any,aD ins⟩ {tmps:=vs.toArray++Array.replicate (fn.ntmps-vs.toArray.size) undef,defers:=[]} w:=by
    refine⟨?_,.nil,hs.os,hs.tape,hs.output,hs.hsize,hs.shp,hs.keep,hs.w0lt,hs.lentμ,hs.free,fun i=>?_,hs.objs,hs.inj,hs.out,hs.tabs⟩
    ·simp[hr.1];omega
    · by_cases hi:i<args.length
      · have h1:args[i]? =some args[i]:=bh hi
        have h2:vs[i]? =some (vs[i]'(by rw[hr.1];exact hi)):=bh _
        have:=hr.2 i _ _ h1 h2
        have hv:(vs.toArray++Array.replicate (fn.ntmps-vs.toArray.size) undef).getD i undef=vs[i]'(by rw[hr.1];exact hi):=by
          rw[Array.getD_eq_getD_getElem?,Array.getElem?_append_left (by simp;rw[hr.1];exact hi)]
          simp[h2]
        simp only[hv,List.getD_eq_getElem?_getD,h1,Option.getD_some]
        exact this
      · simp only[List.getD_eq_getElem?_getD,mg (Nat.le_of_not_lt hi),Option.getD_none]
        exact .any
  rw[hst] at hsim
  refine gR hf hb h (fun t ht=>hL t (by omega)) hsim (fun e σ' ⟨sl,m,_,hend⟩=>?_) ?_
  · cases e with
    |normal=>exact .inl rfl
    |ret=>exact .inr rfl
    |_=>exact hend.elim
  rintro e σ' μ' a' w' ⟨sl,m,rfl,hend⟩ hs' hd
  have key:Ew Γ ins.length fn.results.toList outs res (eJ outs fn.results.toList (jg fn.results.toList res) sl m)→∃v,(results fn a'.tmps).run P w'=.ok v w'∧∃v_1 μ',Ending.returned v=.returned v_1∧bV P 0 w W0 L μ' (bare outs) gl w'∧cm (Wr W0 μ' (aD outs)) μ' w' res v_1:=by
    intro hend
    obtain⟨μ2,hs2⟩:=kP (outs:=outs) fn.results.toList (jg fn.results.toList res) sl m μ' hs'
    generalize eJ outs fn.results.toList (jg fn.results.toList res) sl m=q at hend hs2
    obtain⟨sl2,m2⟩:=q
    simp only[Ew] at hend
    split at hend
    · rename_i xs hxs
      have hres:=(qd hΓ hxs).get
      obtain⟨v,v1,v2⟩:=iF hs2 hres.1 hres.2
      rw[pq] at hend
      obtain⟨μ'',h1,h2⟩:=hend.end (fun t ht _=>hL t ht) hs2 v2
      exact⟨v,v1,v,μ'',rfl,h1,h2⟩
    ·exact hend.elim
  cases e with
  |normal=>exact key hend
  |ret=>exact key hend
  |_=>exact hend.elim
end
end Go.Am
