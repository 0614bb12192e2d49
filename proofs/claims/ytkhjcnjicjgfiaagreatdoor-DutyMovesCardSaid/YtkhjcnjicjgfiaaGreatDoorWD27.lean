/- Walks of functions by unfolding over abstract states; runs of functions by an evaluator that is proved. By an AI agent. -/
import Derived.Test.YtkhjcnjicjgfiaaGreatDoorWD11
set_option linter.unusedSimpArgs false
set_option linter.unusedVariables false
namespace Go.Am
open Go
def KM (nL:Nat)(sl:SL)(m:ML)(S:SL)(m':ML)(A:Prop):Prop:=Fit nL sl m S m'∧A
theorem KM.mk {nL:Nat}{sl:SL}{m:ML}{S:SL}{m':ML}{A:Prop}(h:Fit nL sl m S m')(ha:A):KM nL sl m S m' A:=⟨h,ha⟩
@[reducible] def Gn (hint : List (Nat × Nat)) (nL : Nat) (sl : SL) (m : ML) (sl' : SL) (m' : ML) : Prop :=
  (lp (gS m' (cE (dH hint (iz m' m sl sl')) m'))=true∧oa m (cE (dH hint (iz m' m sl sl')) m') nL=true)∧
    H7 (cE (dH hint (iz m' m sl sl')) m') (jM (cE (dH hint (iz m' m sl sl')) m')) m sl sl'∧pO (cE (dH hint (iz m' m sl sl')) m') (jM (cE (dH hint (iz m' m sl sl')) m')) m m'
theorem Gn.sE {P:Program}{nL:Nat}{sl sl':SL}{m m':ML}{hint:List (Nat×Nat)}(h:Gn hint nL sl m sl' m'):gY P nL (St sl m) (St sl' m'):=by
  intro N w0 W0 L μ a w hL hs
  obtain⟨⟨h1,h2⟩,h3,h4⟩:=h
  have hk:∀i u,(i,u)∈cE (dH hint (iz m' m sl sl')) m'→i∈m'.map (·.1):=fun i u h=>gx h
  have hD:∀t u,mJ (cE (dH hint (iz m' m sl sl')) m') t=some u→aN m' t≠ .free:=by
    intro t u ht e
    rcases fI h4 t with⟨_,b⟩|⟨b,_⟩
    ·exact b (hk _ _ (iw ht))
    ·rw[e] at b;exact b
  have hw:=pO.qk hs h1 h2 hk (fun t h=>h) h4 (bX sl') (fun i=>by
    rcases qn h3 i with h|h
    ·rw[h];exact .any
    · rw[←gQ sl]
      exact kL (fun t wd rows ro h _=>uE hs t wd rows ro h) hD (fun t wd rows ro h1 h2=>⟨⟨wd,rows,ro,h1⟩,h2⟩) 12 _ _ h)
  obtain⟨μ',hs',_⟩:=hw.E1 hL hs (.inl ⟨rfl,rfl⟩)
  exact⟨μ',hs'⟩
def CG {ι:Type}(sl:SL)(m:ML){nL:Nat}{S:ι→SL}{M:ι→ML}{I:ι→Prop}{μ:ι→Nat}{i:ι}:Prop:=∃j hint,I j∧μ j<μ i∧Gn hint nL sl m (S j) (M j)
theorem CG.mk {ι:Type}{sl:SL}{m:ML}{nL:Nat}{S:ι→SL}{M:ι→ML}{I:ι→Prop}{μ:ι→Nat}{i:ι}(j:ι)(hint:List (Nat×Nat))(h1:I j)(h2:μ j<μ i)(h3:Gn hint nL sl m (S j) (M j)):CG sl m (nL:=nL) (S:=S) (M:=M) (I:=I) (μ:=μ) (i:=i):=⟨j,hint,h1,h2,h3⟩
@[reducible] def LK {ι : Type} (nL : Nat) (S : ι → SL) (M : ι → ML) (I : ι → Prop) (μ : ι → Nat) (i : ι) (Q : Exit → SL → ML → Prop) (e : Exit) (sl : SL) (m : ML) : Prop :=
  match e with
  |.normal=>CG sl m (nL:=nL) (S:=S) (M:=M) (I:=I) (μ:=μ) (i:=i)
  |e=>Q e sl m
theorem bD.OO {P:Program}{N nL:Nat}{sl:SL}{m:ML}{c:Code}{Q:Exit→SL→ML→Prop}{ι:Type}(Γ:bL)(hΓ:Γ.Good P)(S:ι→SL)(M:ι→ML)(I:ι→Prop)(μ:ι→Nat)(i0:ι)(hint0:List (Nat×Nat))(hI:I i0)(h0:Gn hint0 nL sl m (S i0) (M i0))
    (round:∀i,I i→rO P N nL Γ c (S i) (M i) (LK nL S M I μ i Q)):bD P N nL sl m (c:=.loop c) (Q:=Q):=by
  refine ek.Kk (C:=fun i=>St (S i) (M i)) I μ i0 hI h0.sE ?_
  intro i hi
  refine(lI hΓ _ _ _ _ (round i hi)).mono ?_
  rintro e σ ⟨sl',m',rfl,h⟩
  cases e with
  | normal=>
    obtain⟨j,hint,h1,h2,h3⟩:=h
    exact⟨j,h1,h2,h3.sE⟩
  |_=>exact⟨sl',m',rfl,h⟩
section
variable {P : Program} {Γ : bL} {sl : SL} {m : ML}
@[reducible] def L8 (hint : List (Nat × Nat)) (nL : Nat) (x : AV) (m : ML) (outs : List MS) (res : AV) : Prop :=
  (lp (gS (aW 0 outs) (cE (dH hint (dH (ee (aW 0 outs) m 6 res x) (iB (aW 0 outs) m (gA nL (aW 0 outs))))) (aW 0 outs)))=true∧oa m (cE (dH hint (dH (ee (aW 0 outs) m 6 res x) (iB (aW 0 outs) m (gA nL (aW 0 outs))))) (aW 0 outs)) nL=true)∧
    MF (cE (dH hint (dH (ee (aW 0 outs) m 6 res x) (iB (aW 0 outs) m (gA nL (aW 0 outs))))) (aW 0 outs)) (jM (cE (dH hint (dH (ee (aW 0 outs) m 6 res x) (iB (aW 0 outs) m (gA nL (aW 0 outs))))) (aW 0 outs))) m 12 res x∧
    pO (cE (dH hint (dH (ee (aW 0 outs) m 6 res x) (iB (aW 0 outs) m (gA nL (aW 0 outs))))) (aW 0 outs)) (jM (cE (dH hint (dH (ee (aW 0 outs) m 6 res x) (iB (aW 0 outs) m (gA nL (aW 0 outs))))) (aW 0 outs))) m (aW 0 outs)
@[reducible] def I3 (hint : List (Nat × Nat)) (Γ : bL) (nL : Nat) (rvs : List ResultVar) (outs : List MS) (res : AV) : SL × ML → Prop
  | (sl,m)=>match AN Γ sl m rvs with
    |some xs=>L8 hint nL (CD xs) m outs res
    |none=>False
@[reducible] def NV (hint : List (Nat × Nat)) (Γ : bL) (nL : Nat) (rvs : List ResultVar) (outs : List MS) (res : AV) (e : Exit) (sl : SL) (m : ML) : Prop :=
  match e with
  |.normal=>I3 hint Γ nL rvs outs res (eJ outs rvs (jg rvs res) sl m)
  |.ret=>I3 hint Γ nL rvs outs res (eJ outs rvs (jg rvs res) sl m)
  |_=>False
theorem L8.end {hint:List (Nat×Nat)}{nL:Nat}{x:AV}{outs:List MS}{res:AV}(h:L8 hint nL x m outs res){N:Nat}{w0:World}{W0:Nat→Prop}{L μ:Mu}{a:Act}{w:World}{v:Value}(hL:∀t,nL≤t→t<jf→L t=none)
    (hs:bV P N w0 W0 L μ (St sl m) a w) (hv:cm (Wr W0 μ (aN m)) μ w x v):∃μ',bV P 0 w0 W0 L μ' (bare outs) gl w∧cm (Wr W0 μ' (aD outs)) μ' w res v:=by
  obtain⟨⟨h1,h2⟩,h3,h4⟩:=h
  generalize ht:cE (dH hint (dH (ee (aW 0 outs) m 6 res x) (iB (aW 0 outs) m (gA nL (aW 0 outs))))) (aW 0 outs)=tab at h1 h2 h3 h4
  have hk:∀i u,(i,u)∈tab→i∈ (aW 0 outs).map (·.1):=fun i u h=>by rw[←ht] at h;exact gx h
  have hD:∀t u,mJ tab t=some u→aN (aW 0 outs) t≠ .free:=by
    intro t u ht e
    rcases fI h4 t with⟨_,b⟩|⟨b,_⟩
    ·exact b (hk _ _ (iw ht))
    ·rw[e] at b;exact b
  have hw:=pO.qk hs h1 h2 hk (fun t h=>h) h4 (fun _=>.any) (fun i=>.any)
  have hcv:=kL (fun t wd rows ro h _=>uE hs t wd rows ro h) hD (F:=fun t=>(∃wd rows ro,dc m t=.live wd rows ro)∧jM tab t=true) (fun t wd rows ro h1 h2=>⟨⟨wd,rows,ro,h1⟩,h2⟩) 12 _ _ h3
  obtain⟨μ',hs',hrep⟩:=hw.E1 hL hs (N':=0) (a':=gl) (.inr ⟨fun _=>rfl,rfl,rfl⟩)
  have e:aN (aW 0 outs)=aD outs:=by rw[iE,cW]
  rw[e] at hs' hrep hcv
  exact⟨μ',hs',hrep _ _ _ hcv hv⟩
theorem an.sS (hint:List (Nat×Nat)){f:FuncId}{fn:Func}{c:Code}{ins outs:List MS}{args:List AV}{res:AV}{N:Nat}{rvs:List ResultVar}(Γ:bL)(hΓ:Γ.Good P)(hf:P.funcs[f]? =some fn)(hb:fn.body=some c)(hN:fn.ntmps=N)(hr:fn.results.toList=rvs)
    (hlen:Nat.ble (dD args) N=true) (h:rO P N (dD ins) Γ c (sI 0 args) (aW 0 ins) (NV hint Γ (dD ins) rvs outs res)):an P f ins args outs res:=by
  subst hN;subst hr
  have hlen:args.length≤fn.ntmps:=by rw[←cq];exact bT hlen
  intro w W0 L vs hL hs hr
  have h:=lI hΓ _ _ _ _ h
  rw[nn,iE,cq] at h
  have hst:(⟨fun i=>args.getD i .any,aD ins⟩:au)=St (og 0 args) (nB 0 ins):=by
    unfold St
    congr 1
    ·funext i;rw[jD];simp
    ·exact(cW ins).symm
  have hsim:bV P fn.ntmps w W0 L L ⟨fun i=>args.getD i .any,aD ins⟩ {tmps:=vs.toArray++Array.replicate (fn.ntmps-vs.toArray.size) undef,defers:=[]} w:=by
    refine⟨?_,.nil,hs.os,hs.tape,hs.output,hs.hsize,hs.shp,hs.keep,hs.w0lt,hs.lentμ,hs.free,fun i=>?_,hs.objs,hs.inj,hs.out,hs.tabs⟩
    ·simp[hr.1];omega
    · by_cases hi:i<args.length
      · have h1:args[i]? =some args[i]:=bh hi
        have h2:vs[i]? =some (vs[i]'(by rw[hr.1];exact hi)):=bh _
        have:=hr.2 i _ _ h1 h2
        have hv:(vs.toArray++Array.replicate (fn.ntmps-vs.toArray.size) undef).getD i undef=vs[i]'(by rw[hr.1];exact hi):=by
          rw[Array.getD_eq_getD_getElem?,Array.getElem?_append_left (by simp;rw[hr.1];exact hi)]
          simp[h2]
        simp only[hv,List.getD_eq_getElem?_getD,h1,Option.getD_some]
        exact this
      · simp only[List.getD_eq_getElem?_getD,mg (Nat.le_of_not_lt hi),Option.getD_none]
        exact .any
  rw[hst] at hsim
  refine gR hf hb h (fun t ht=>hL t (by omega)) hsim (fun e σ' ⟨sl,m,_,hend⟩=>?_) ?_
  · cases e with
    |normal=>exact .inl rfl
    |ret=>exact .inr rfl
    |_=>exact hend.elim
  rintro e σ' μ' a' w' ⟨sl,m,rfl,hend⟩ hs' hd
  have key:I3 hint Γ ins.length fn.results.toList outs res (eJ outs fn.results.toList (jg fn.results.toList res) sl m)→∃v,(results fn a'.tmps).run P w'=.ok v w'∧∃v_1 μ',Ending.returned v=.returned v_1∧bV P 0 w W0 L μ' (bare outs) gl w'∧cm (Wr W0 μ' (aD outs)) μ' w' res v_1:=by
    intro hend
    obtain⟨μ2,hs2⟩:=kP (outs:=outs) fn.results.toList (jg fn.results.toList res) sl m μ' hs'
    generalize eJ outs fn.results.toList (jg fn.results.toList res) sl m=q at hend hs2
    obtain⟨sl2,m2⟩:=q
    simp only[I3] at hend
    split at hend
    · rename_i xs hxs
      have hres:=(qd hΓ hxs).get
      obtain⟨v,v1,v2⟩:=iF hs2 hres.1 hres.2
      rw[pq] at hend
      obtain⟨μ'',h1,h2⟩:=hend.end (fun t ht _=>hL t ht) hs2 v2
      exact⟨v,v1,v,μ'',rfl,h1,h2⟩
    ·exact hend.elim
  cases e with
  |normal=>exact key hend
  |ret=>exact key hend
  |_=>exact hend.elim
end
end Go.Am
