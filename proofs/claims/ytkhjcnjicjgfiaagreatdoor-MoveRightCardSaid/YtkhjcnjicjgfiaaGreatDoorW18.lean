/- Walks of functions by unfolding over abstract states; runs of functions by an evaluator that is proved. By an AI agent. -/
import Derived.Test.YtkhjcnjicjgfiaaGreatDoorW10
set_option linter.unusedSimpArgs false
set_option linter.unusedVariables false
namespace Go.Am
open Go
def I6 (nL:Nat)(sl:SL)(m:ML)(S:SL)(m':ML)(A:Prop):Prop:=Fit nL sl m S m'∧A
theorem I6.mk {nL:Nat}{sl:SL}{m:ML}{S:SL}{m':ML}{A:Prop}(h:Fit nL sl m S m')(ha:A):I6 nL sl m S m' A:=⟨h,ha⟩
@[reducible] def EH (hint : List (Nat × Nat)) (nL : Nat) (sl : SL) (m : ML) (sl' : SL) (m' : ML) : Prop :=
  (lP (ig m' (cV (dR hint (iQ m' m sl sl')) m'))=true∧oo m (cV (dR hint (iQ m' m sl sl')) m') nL=true)∧
    Ho (cV (dR hint (iQ m' m sl sl')) m') (j6 (cV (dR hint (iQ m' m sl sl')) m')) m sl sl'∧pT (cV (dR hint (iQ m' m sl sl')) m') (j6 (cV (dR hint (iQ m' m sl sl')) m')) m m'
theorem EH.tZ {P:Program}{nL:Nat}{sl sl':SL}{m m':ML}{hint:List (Nat×Nat)}(h:EH hint nL sl m sl' m'):ir P nL (St sl m) (St sl' m'):=by
  intro N w0 W0 L μ a w hL hs
  obtain⟨⟨h1,h2⟩,h3,h4⟩:=h
  have hk:∀i u,(i,u)∈cV (dR hint (iQ m' m sl sl')) m'→i∈m'.map (·.1):=fun i u h=>gH h
  have hD:∀t u,o4 (cV (dR hint (iQ m' m sl sl')) m') t=some u→aX m' t≠ .free:=by
    intro t u ht e
    rcases gu h4 t with⟨_,b⟩|⟨b,_⟩
    ·exact b (hk _ _ (iL ht))
    ·rw[e] at b;exact b
  have hw:=pT.qC hs h1 h2 hk (fun t h=>h) h4 (cE sl') (fun i=>by
    rcases qP h3 i with h|h
    ·rw[h];exact .any
    · rw[←ic sl]
      exact lp (fun t wd rows ro h _=>sQ hs t wd rows ro h) hD (fun t wd rows ro h1 h2=>⟨⟨wd,rows,ro,h1⟩,h2⟩) 12 _ _ h)
  obtain⟨μ',hs',_⟩:=hw.Gu hL hs (.inl ⟨rfl,rfl⟩)
  exact⟨μ',hs'⟩
def nn {ι:Type}(sl:SL)(m:ML){nL:Nat}{S:ι→SL}{M:ι→ML}{I:ι→Prop}{μ:ι→Nat}{i:ι}:Prop:=∃j hint,I j∧μ j<μ i∧EH hint nL sl m (S j) (M j)
theorem nn.mk {ι:Type}{sl:SL}{m:ML}{nL:Nat}{S:ι→SL}{M:ι→ML}{I:ι→Prop}{μ:ι→Nat}{i:ι}(j:ι)(hint:List (Nat×Nat))(h1:I j)(h2:μ j<μ i)(h3:EH hint nL sl m (S j) (M j)):nn sl m (nL:=nL) (S:=S) (M:=M) (I:=I) (μ:=μ) (i:=i):=⟨j,hint,h1,h2,h3⟩
@[reducible] def JX {ι : Type} (nL : Nat) (S : ι → SL) (M : ι → ML) (I : ι → Prop) (μ : ι → Nat) (i : ι) (Q : Exit → SL → ML → Prop) (e : Exit) (sl : SL) (m : ML) : Prop :=
  match e with
  |.normal=>nn sl m (nL:=nL) (S:=S) (M:=M) (I:=I) (μ:=μ) (i:=i)
  |e=>Q e sl m
theorem bE.Fs {P:Program}{N nL:Nat}{sl:SL}{m:ML}{c:Code}{Q:Exit→SL→ML→Prop}{ι:Type}(Γ:cR)(hΓ:Γ.Good P)(S:ι→SL)(M:ι→ML)(I:ι→Prop)(μ:ι→Nat)(i0:ι)(hint0:List (Nat×Nat))(hI:I i0)(h0:EH hint0 nL sl m (S i0) (M i0))
    (round:∀i,I i→tP P N nL Γ c (S i) (M i) (JX nL S M I μ i Q)):bE P N nL sl m (c:=.loop c) (Q:=Q):=by
  refine gg.Jc (C:=fun i=>St (S i) (M i)) I μ i0 hI h0.tZ ?_
  intro i hi
  refine(mQ hΓ _ _ _ _ (round i hi)).mono ?_
  rintro e σ ⟨sl',m',rfl,h⟩
  cases e with
  | normal=>
    obtain⟨j,hint,h1,h2,h3⟩:=h
    exact⟨j,h1,h2,h3.tZ⟩
  |_=>exact⟨sl',m',rfl,h⟩
section
variable {P : Program} {Γ : cR} {sl : SL} {m : ML}
@[reducible] def JW (hint : List (Nat × Nat)) (nL : Nat) (x : AV) (m : ML) (outs : List MS) (res : AV) : Prop :=
  (lP (ig (bt 0 outs) (cV (dR hint (dR (eX (bt 0 outs) m 6 res x) (iR (bt 0 outs) m (gN nL (bt 0 outs))))) (bt 0 outs)))=true∧oo m (cV (dR hint (dR (eX (bt 0 outs) m 6 res x) (iR (bt 0 outs) m (gN nL (bt 0 outs))))) (bt 0 outs)) nL=true)∧
    MF (cV (dR hint (dR (eX (bt 0 outs) m 6 res x) (iR (bt 0 outs) m (gN nL (bt 0 outs))))) (bt 0 outs)) (j6 (cV (dR hint (dR (eX (bt 0 outs) m 6 res x) (iR (bt 0 outs) m (gN nL (bt 0 outs))))) (bt 0 outs))) m 12 res x∧
    pT (cV (dR hint (dR (eX (bt 0 outs) m 6 res x) (iR (bt 0 outs) m (gN nL (bt 0 outs))))) (bt 0 outs)) (j6 (cV (dR hint (dR (eX (bt 0 outs) m 6 res x) (iR (bt 0 outs) m (gN nL (bt 0 outs))))) (bt 0 outs))) m (bt 0 outs)
@[reducible] def HN (hint : List (Nat × Nat)) (Γ : cR) (nL : Nat) (rvs : List ResultVar) (outs : List MS) (res : AV) : SL × ML → Prop
  | (sl,m)=>match uW Γ sl m rvs with
    |some xs=>JW hint nL (Fw xs) m outs res
    |none=>False
@[reducible] def MQ (hint : List (Nat × Nat)) (Γ : cR) (nL : Nat) (rvs : List ResultVar) (outs : List MS) (res : AV) (e : Exit) (sl : SL) (m : ML) : Prop :=
  match e with
  |.normal=>HN hint Γ nL rvs outs res (gQ outs rvs (lG rvs res) sl m)
  |.ret=>HN hint Γ nL rvs outs res (gQ outs rvs (lG rvs res) sl m)
  |_=>False
theorem JW.end {hint:List (Nat×Nat)}{nL:Nat}{x:AV}{outs:List MS}{res:AV}(h:JW hint nL x m outs res){N:Nat}{w0:World}{W0:Nat→Prop}{L μ:Mu}{a:Act}{w:World}{v:Value}(hL:∀t,nL≤t→t<ko→L t=none)
    (hs:cF P N w0 W0 L μ (St sl m) a w) (hv:cH (Wr W0 μ (aX m)) μ w x v):∃μ',cF P 0 w0 W0 L μ' (bare outs) iM w∧cH (Wr W0 μ' (aJ outs)) μ' w res v:=by
  obtain⟨⟨h1,h2⟩,h3,h4⟩:=h
  generalize ht:cV (dR hint (dR (eX (bt 0 outs) m 6 res x) (iR (bt 0 outs) m (gN nL (bt 0 outs))))) (bt 0 outs)=tab at h1 h2 h3 h4
  have hk:∀i u,(i,u)∈tab→i∈ (bt 0 outs).map (·.1):=fun i u h=>by rw[←ht] at h;exact gH h
  have hD:∀t u,o4 tab t=some u→aX (bt 0 outs) t≠ .free:=by
    intro t u ht e
    rcases gu h4 t with⟨_,b⟩|⟨b,_⟩
    ·exact b (hk _ _ (iL ht))
    ·rw[e] at b;exact b
  have hw:=pT.qC hs h1 h2 hk (fun t h=>h) h4 (fun _=>.any) (fun i=>.any)
  have hcv:=lp (fun t wd rows ro h _=>sQ hs t wd rows ro h) hD (F:=fun t=>(∃wd rows ro,eM m t=.live wd rows ro)∧j6 tab t=true) (fun t wd rows ro h1 h2=>⟨⟨wd,rows,ro,h1⟩,h2⟩) 12 _ _ h3
  obtain⟨μ',hs',hrep⟩:=hw.Gu hL hs (N':=0) (a':=iM) (.inr ⟨fun _=>rfl,rfl,rfl⟩)
  have e:aX (bt 0 outs)=aJ outs:=by rw[lg,eO]
  rw[e] at hs' hrep hcv
  exact⟨μ',hs',hrep _ _ _ hcv hv⟩
theorem aj.fW (hint:List (Nat×Nat)){f:FuncId}{fn:Func}{c:Code}{ins outs:List MS}{args:List AV}{res:AV}{N:Nat}{rvs:List ResultVar}(Γ:cR)(hΓ:Γ.Good P)(hf:P.funcs[f]? =some fn)(hb:fn.body=some c)(hN:fn.ntmps=N)(hr:fn.results.toList=rvs)
    (hlen:Nat.ble (fu args) N=true) (h:tP P N (fu ins) Γ c (zU 0 args) (bt 0 ins) (MQ hint Γ (fu ins) rvs outs res)):aj P f ins args outs res:=by
  subst hN;subst hr
  have hlen:args.length≤fn.ntmps:=by rw[←cW];exact ga hlen
  intro w W0 L vs hL hs hr
  have h:=mQ hΓ _ _ _ _ h
  rw[tQ,lg,cW] at h
  have hst:(⟨fun i=>args.getD i .any,aJ ins⟩:aD)=St (rm 0 args) (qq 0 ins):=by
    unfold St
    congr 1
    ·funext i;rw[oQ];simp
    ·exact(eO ins).symm
  have hsim:cF P fn.ntmps w W0 L L ⟨fun i=>args.getD i .any,aJ ins⟩ {tmps:=vs.toArray++Array.replicate (fn.ntmps-vs.toArray.size) undef,defers:=[]} w:=by
    refine⟨?_,.nil,hs.os,hs.tape,hs.output,hs.hsize,hs.shp,hs.keep,hs.w0lt,hs.lentμ,hs.free,fun i=>?_,hs.objs,hs.inj,hs.out,hs.tabs⟩
    ·simp[hr.1];omega
    · by_cases hi:i<args.length
      · have h1:args[i]? =some args[i]:=bH hi
        have h2:vs[i]? =some (vs[i]'(by rw[hr.1];exact hi)):=bH _
        have:=hr.2 i _ _ h1 h2
        have hv:(vs.toArray++Array.replicate (fn.ntmps-vs.toArray.size) undef).getD i undef=vs[i]'(by rw[hr.1];exact hi):=by
          rw[Array.getD_eq_getD_getElem?,Array.getElem?_append_left (by simp;rw[hr.1];exact hi)]
          simp[h2]
        simp only[hv,List.getD_eq_getElem?_getD,h1,Option.getD_some]
        exact this
      · simp only[List.getD_eq_getElem?_getD,pX (Nat.le_of_not_lt hi),Option.getD_none]
        exact .any
  rw[hst] at hsim
  refine pQ hf hb h (fun t ht=>hL t (by omega)) hsim (fun e σ' ⟨sl,m,_,hend⟩=>?_) ?_
  · cases e with
    |normal=>exact .inl rfl
    |ret=>exact .inr rfl
    |_=>exact hend.elim
  rintro e σ' μ' a' w' ⟨sl,m,rfl,hend⟩ hs' hd
  have key:HN hint Γ ins.length fn.results.toList outs res (gQ outs fn.results.toList (lG fn.results.toList res) sl m)→∃v,(results fn a'.tmps).run P w'=.ok v w'∧∃v_1 μ',Ending.returned v=.returned v_1∧cF P 0 w W0 L μ' (bare outs) iM w'∧cH (Wr W0 μ' (aJ outs)) μ' w' res v_1:=by
    intro hend
    obtain⟨μ2,hs2⟩:=rj (outs:=outs) fn.results.toList (lG fn.results.toList res) sl m μ' hs'
    generalize gQ outs fn.results.toList (lG fn.results.toList res) sl m=q at hend hs2
    obtain⟨sl2,m2⟩:=q
    simp only[HN] at hend
    split at hend
    · rename_i xs hxs
      have hres:=(xm hΓ hxs).get
      obtain⟨v,v1,v2⟩:=rN hs2 hres.1 hres.2
      rw[zx] at hend
      obtain⟨μ'',h1,h2⟩:=hend.end (fun t ht _=>hL t ht) hs2 v2
      exact⟨v,v1,v,μ'',rfl,h1,h2⟩
    ·exact hend.elim
  cases e with
  |normal=>exact key hend
  |ret=>exact key hend
  |_=>exact hend.elim
end
end Go.Am
