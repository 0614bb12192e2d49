/- Walks of functions by unfolding over abstract states; runs of functions by an evaluator that is proved. By an AI agent. -/
import Derived.Test.YtkhjcnjicjgfiaaGreatDoorWO10
set_option linter.unusedSimpArgs false
set_option linter.unusedVariables false
namespace Go.Am
open Go
def JY (nL:Nat)(sl:SL)(m:ML)(S:SL)(m':ML)(A:Prop):Prop:=Fit nL sl m S m'∧A
theorem JY.mk {nL:Nat}{sl:SL}{m:ML}{S:SL}{m':ML}{A:Prop}(h:Fit nL sl m S m')(ha:A):JY nL sl m S m' A:=⟨h,ha⟩
@[reducible] def FD (hint : List (Nat × Nat)) (nL : Nat) (sl : SL) (m : ML) (sl' : SL) (m' : ML) : Prop :=
  (kZ (gP m' (cP (dL hint (iF m' m sl sl')) m'))=true∧n5 m (cP (dL hint (iF m' m sl sl')) m') nL=true)∧
    JI (cP (dL hint (iF m' m sl sl')) m') (js (cP (dL hint (iF m' m sl sl')) m')) m sl sl'∧qb (cP (dL hint (iF m' m sl sl')) m') (js (cP (dL hint (iF m' m sl sl')) m')) m m'
theorem FD.uV {P:Program}{nL:Nat}{sl sl':SL}{m m':ML}{hint:List (Nat×Nat)}(h:FD hint nL sl m sl' m'):gX P nL (St sl m) (St sl' m'):=by
  intro N w0 W0 L μ a w hL hs
  obtain⟨⟨h1,h2⟩,h3,h4⟩:=h
  have hk:∀i u,(i,u)∈cP (dL hint (iF m' m sl sl')) m'→i∈m'.map (·.1):=fun i u h=>gp h
  have hD:∀t u,oN (cP (dL hint (iF m' m sl sl')) m') t=some u→aO m' t≠ .free:=by
    intro t u ht e
    rcases fV h4 t with⟨_,b⟩|⟨b,_⟩
    ·exact b (hk _ _ (iB ht))
    ·rw[e] at b;exact b
  have hw:=qb.qv hs h1 h2 hk (fun t h=>h) h4 (cq sl') (fun i=>by
    rcases qN h3 i with h|h
    ·rw[h];exact .any
    · rw[←gR sl]
      exact kI (fun t wd rows ro h _=>tZ hs t wd rows ro h) hD (fun t wd rows ro h1 h2=>⟨⟨wd,rows,ro,h1⟩,h2⟩) 12 _ _ h)
  obtain⟨μ',hs',_⟩:=hw.Gc hL hs (.inl ⟨rfl,rfl⟩)
  exact⟨μ',hs'⟩
def my {ι:Type}(sl:SL)(m:ML){nL:Nat}{S:ι→SL}{M:ι→ML}{I:ι→Prop}{μ:ι→Nat}{i:ι}:Prop:=∃j hint,I j∧μ j<μ i∧FD hint nL sl m (S j) (M j)
theorem my.mk {ι:Type}{sl:SL}{m:ML}{nL:Nat}{S:ι→SL}{M:ι→ML}{I:ι→Prop}{μ:ι→Nat}{i:ι}(j:ι)(hint:List (Nat×Nat))(h1:I j)(h2:μ j<μ i)(h3:FD hint nL sl m (S j) (M j)):my sl m (nL:=nL) (S:=S) (M:=M) (I:=I) (μ:=μ) (i:=i):=⟨j,hint,h1,h2,h3⟩
@[reducible] def K6 {ι : Type} (nL : Nat) (S : ι → SL) (M : ι → ML) (I : ι → Prop) (μ : ι → Nat) (i : ι) (Q : Exit → SL → ML → Prop) (e : Exit) (sl : SL) (m : ML) : Prop :=
  match e with
  |.normal=>my sl m (nL:=nL) (S:=S) (M:=M) (I:=I) (μ:=μ) (i:=i)
  |e=>Q e sl m
theorem cn.G6 {P:Program}{N nL:Nat}{sl:SL}{m:ML}{c:Code}{Q:Exit→SL→ML→Prop}{ι:Type}(Γ:bZ)(hΓ:Γ.Good P)(S:ι→SL)(M:ι→ML)(I:ι→Prop)(μ:ι→Nat)(i0:ι)(hint0:List (Nat×Nat))(hI:I i0)(h0:FD hint0 nL sl m (S i0) (M i0))
    (round:∀i,I i→ug P N nL Γ c (S i) (M i) (K6 nL S M I μ i Q)):cn P N nL sl m (c:=.loop c) (Q:=Q):=by
  refine eH.Kl (C:=fun i=>St (S i) (M i)) I μ i0 hI h0.uV ?_
  intro i hi
  refine(mN hΓ _ _ _ _ (round i hi)).mono ?_
  rintro e σ ⟨sl',m',rfl,h⟩
  cases e with
  | normal=>
    obtain⟨j,hint,h1,h2,h3⟩:=h
    exact⟨j,h1,h2,h3.uV⟩
  |_=>exact⟨sl',m',rfl,h⟩
section
variable {P : Program} {Γ : bZ} {sl : SL} {m : ML}
@[reducible] def LU (hint : List (Nat × Nat)) (nL : Nat) (x : AV) (m : ML) (outs : List MS) (res : AV) : Prop :=
  (kZ (gP (bj 0 outs) (cP (dL hint (dL (eB (bj 0 outs) m 6 res x) (iH (bj 0 outs) m (gw nL (bj 0 outs))))) (bj 0 outs)))=true∧n5 m (cP (dL hint (dL (eB (bj 0 outs) m 6 res x) (iH (bj 0 outs) m (gw nL (bj 0 outs))))) (bj 0 outs)) nL=true)∧
    MF (cP (dL hint (dL (eB (bj 0 outs) m 6 res x) (iH (bj 0 outs) m (gw nL (bj 0 outs))))) (bj 0 outs)) (js (cP (dL hint (dL (eB (bj 0 outs) m 6 res x) (iH (bj 0 outs) m (gw nL (bj 0 outs))))) (bj 0 outs))) m 12 res x∧
    qb (cP (dL hint (dL (eB (bj 0 outs) m 6 res x) (iH (bj 0 outs) m (gw nL (bj 0 outs))))) (bj 0 outs)) (js (cP (dL hint (dL (eB (bj 0 outs) m 6 res x) (iH (bj 0 outs) m (gw nL (bj 0 outs))))) (bj 0 outs))) m (bj 0 outs)
@[reducible] def IK (hint : List (Nat × Nat)) (Γ : bZ) (nL : Nat) (rvs : List ResultVar) (outs : List MS) (res : AV) : SL × ML → Prop
  | (sl,m)=>match Dy Γ sl m rvs with
    |some xs=>LU hint nL (EW xs) m outs res
    |none=>False
@[reducible] def NY (hint : List (Nat × Nat)) (Γ : bZ) (nL : Nat) (rvs : List ResultVar) (outs : List MS) (res : AV) (e : Exit) (sl : SL) (m : ML) : Prop :=
  match e with
  |.normal=>IK hint Γ nL rvs outs res (gA outs rvs (n3 rvs res) sl m)
  |.ret=>IK hint Γ nL rvs outs res (gA outs rvs (n3 rvs res) sl m)
  |_=>False
theorem LU.end {hint:List (Nat×Nat)}{nL:Nat}{x:AV}{outs:List MS}{res:AV}(h:LU hint nL x m outs res){N:Nat}{w0:World}{W0:Nat→Prop}{L μ:Mu}{a:Act}{w:World}{v:Value}(hL:∀t,nL≤t→t<iY→L t=none)
    (hs:ck P N w0 W0 L μ (St sl m) a w) (hv:ct (Wr W0 μ (aO m)) μ w x v):∃μ',ck P 0 w0 W0 L μ' (bare outs) gi w∧ct (Wr W0 μ' (aH outs)) μ' w res v:=by
  obtain⟨⟨h1,h2⟩,h3,h4⟩:=h
  generalize ht:cP (dL hint (dL (eB (bj 0 outs) m 6 res x) (iH (bj 0 outs) m (gw nL (bj 0 outs))))) (bj 0 outs)=tab at h1 h2 h3 h4
  have hk:∀i u,(i,u)∈tab→i∈ (bj 0 outs).map (·.1):=fun i u h=>by rw[←ht] at h;exact gp h
  have hD:∀t u,oN tab t=some u→aO (bj 0 outs) t≠ .free:=by
    intro t u ht e
    rcases fV h4 t with⟨_,b⟩|⟨b,_⟩
    ·exact b (hk _ _ (iB ht))
    ·rw[e] at b;exact b
  have hw:=qb.qv hs h1 h2 hk (fun t h=>h) h4 (fun _=>.any) (fun i=>.any)
  have hcv:=kI (fun t wd rows ro h _=>tZ hs t wd rows ro h) hD (F:=fun t=>(∃wd rows ro,dX m t=.live wd rows ro)∧js tab t=true) (fun t wd rows ro h1 h2=>⟨⟨wd,rows,ro,h1⟩,h2⟩) 12 _ _ h3
  obtain⟨μ',hs',hrep⟩:=hw.Gc hL hs (N':=0) (a':=gi) (.inr ⟨fun _=>rfl,rfl,rfl⟩)
  have e:aO (bj 0 outs)=aH outs:=by rw[kx,ee]
  rw[e] at hs' hrep hcv
  exact⟨μ',hs',hrep _ _ _ hcv hv⟩
theorem an.fA (hint:List (Nat×Nat)){f:FuncId}{fn:Func}{c:Code}{ins outs:List MS}{args:List AV}{res:AV}{N:Nat}{rvs:List ResultVar}(Γ:bZ)(hΓ:Γ.Good P)(hf:P.funcs[f]? =some fn)(hb:fn.body=some c)(hN:fn.ntmps=N)(hr:fn.results.toList=rvs)
    (hlen:Nat.ble (eL args) N=true) (h:ug P N (eL ins) Γ c (zi 0 args) (bj 0 ins) (NY hint Γ (eL ins) rvs outs res)):an P f ins args outs res:=by
  subst hN;subst hr
  have hlen:args.length≤fn.ntmps:=by rw[←cR];exact cr hlen
  intro w W0 L vs hL hs hr
  have h:=mN hΓ _ _ _ _ h
  rw[tQ,kx,cR] at h
  have hst:(⟨fun i=>args.getD i .any,aH ins⟩:aA)=St (rN 0 args) (pJ 0 ins):=by
    unfold St
    congr 1
    ·funext i;rw[oM];simp
    ·exact(ee ins).symm
  have hsim:ck P fn.ntmps w W0 L L ⟨fun i=>args.getD i .any,aH ins⟩ {tmps:=vs.toArray++Array.replicate (fn.ntmps-vs.toArray.size) undef,defers:=[]} w:=by
    refine⟨?_,.nil,hs.os,hs.tape,hs.output,hs.hsize,hs.shp,hs.keep,hs.w0lt,hs.lentμ,hs.free,fun i=>?_,hs.objs,hs.inj,hs.out,hs.tabs⟩
    ·simp[hr.1];omega
    · by_cases hi:i<args.length
      · have h1:args[i]? =some args[i]:=bz hi
        have h2:vs[i]? =some (vs[i]'(by rw[hr.1];exact hi)):=bz _
        have:=hr.2 i _ _ h1 h2
        have hv:(vs.toArray++Array.replicate (fn.ntmps-vs.toArray.size) undef).getD i undef=vs[i]'(by rw[hr.1];exact hi):=by
          rw[Array.getD_eq_getD_getElem?,Array.getElem?_append_left (by simp;rw[hr.1];exact hi)]
          simp[h2]
        simp only[hv,List.getD_eq_getElem?_getD,h1,Option.getD_some]
        exact this
      · simp only[List.getD_eq_getElem?_getD,ni (Nat.le_of_not_lt hi),Option.getD_none]
        exact .any
  rw[hst] at hsim
  refine lz hf hb h (fun t ht=>hL t (by omega)) hsim (fun e σ' ⟨sl,m,_,hend⟩=>?_) ?_
  · cases e with
    |normal=>exact .inl rfl
    |ret=>exact .inr rfl
    |_=>exact hend.elim
  rintro e σ' μ' a' w' ⟨sl,m,rfl,hend⟩ hs' hd
  have key:IK hint Γ ins.length fn.results.toList outs res (gA outs fn.results.toList (n3 fn.results.toList res) sl m)→∃v,(results fn a'.tmps).run P w'=.ok v w'∧∃v_1 μ',Ending.returned v=.returned v_1∧ck P 0 w W0 L μ' (bare outs) gi w'∧ct (Wr W0 μ' (aH outs)) μ' w' res v_1:=by
    intro hend
    obtain⟨μ2,hs2⟩:=qR (outs:=outs) fn.results.toList (n3 fn.results.toList res) sl m μ' hs'
    generalize gA outs fn.results.toList (n3 fn.results.toList res) sl m=q at hend hs2
    obtain⟨sl2,m2⟩:=q
    simp only[IK] at hend
    split at hend
    · rename_i xs hxs
      have hres:=(xE hΓ hxs).get
      obtain⟨v,v1,v2⟩:=mJ hs2 hres.1 hres.2
      rw[zF] at hend
      obtain⟨μ'',h1,h2⟩:=hend.end (fun t ht _=>hL t ht) hs2 v2
      exact⟨v,v1,v,μ'',rfl,h1,h2⟩
    ·exact hend.elim
  cases e with
  |normal=>exact key hend
  |ret=>exact key hend
  |_=>exact hend.elim
end
end Go.Am
