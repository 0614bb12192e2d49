/- Walks of functions by unfolding over abstract states; runs of functions by an evaluator that is proved. By an AI agent. -/
import Derived.Test.YtkhjcnjicjgfiaaGreatDoorWN11
set_option linter.unusedSimpArgs false
set_option linter.unusedVariables false
namespace Go.Am
open Go
def Iz (nL:Nat)(sl:SL)(m:ML)(S:SL)(m':ML)(A:Prop):Prop:=Fit nL sl m S m'∧A
theorem Iz.mk {nL:Nat}{sl:SL}{m:ML}{S:SL}{m':ML}{A:Prop}(h:Fit nL sl m S m')(ha:A):Iz nL sl m S m' A:=⟨h,ha⟩
@[reducible] def FY (hint : List (Nat × Nat)) (nL : Nat) (sl : SL) (m : ML) (sl' : SL) (m' : ML) : Prop :=
  (lR (gX m' (cW (dR hint (iL m' m sl sl')) m'))=true∧oo m (cW (dR hint (iL m' m sl sl')) m') nL=true)∧
    Ia (cW (dR hint (iL m' m sl sl')) m') (jR (cW (dR hint (iL m' m sl sl')) m')) m sl sl'∧qn (cW (dR hint (iL m' m sl sl')) m') (jR (cW (dR hint (iL m' m sl sl')) m')) m m'
theorem FY.uJ {P:Program}{nL:Nat}{sl sl':SL}{m m':ML}{hint:List (Nat×Nat)}(h:FY hint nL sl m sl' m'):ik P nL (St sl m) (St sl' m'):=by
  intro N w0 W0 L μ a w hL hs
  obtain⟨⟨h1,h2⟩,h3,h4⟩:=h
  have hk:∀i u,(i,u)∈cW (dR hint (iL m' m sl sl')) m'→i∈m'.map (·.1):=fun i u h=>gy h
  have hD:∀t u,oG (cW (dR hint (iL m' m sl sl')) m') t=some u→aR m' t≠ .free:=by
    intro t u ht e
    rcases gi h4 t with⟨_,b⟩|⟨b,_⟩
    ·exact b (hk _ _ (iF ht))
    ·rw[e] at b;exact b
  have hw:=qn.qZ hs h1 h2 hk (fun t h=>h) h4 (ct sl') (fun i=>by
    rcases qX h3 i with h|h
    ·rw[h];exact .any
    · rw[←gS sl]
      exact lA (fun t wd rows ro h _=>tf hs t wd rows ro h) hD (fun t wd rows ro h1 h2=>⟨⟨wd,rows,ro,h1⟩,h2⟩) 12 _ _ h)
  obtain⟨μ',hs',_⟩:=hw.Gk hL hs (.inl ⟨rfl,rfl⟩)
  exact⟨μ',hs'⟩
def mH {ι:Type}(sl:SL)(m:ML){nL:Nat}{S:ι→SL}{M:ι→ML}{I:ι→Prop}{μ:ι→Nat}{i:ι}:Prop:=∃j hint,I j∧μ j<μ i∧FY hint nL sl m (S j) (M j)
theorem mH.mk {ι:Type}{sl:SL}{m:ML}{nL:Nat}{S:ι→SL}{M:ι→ML}{I:ι→Prop}{μ:ι→Nat}{i:ι}(j:ι)(hint:List (Nat×Nat))(h1:I j)(h2:μ j<μ i)(h3:FY hint nL sl m (S j) (M j)):mH sl m (nL:=nL) (S:=S) (M:=M) (I:=I) (μ:=μ) (i:=i):=⟨j,hint,h1,h2,h3⟩
@[reducible] def IW {ι : Type} (nL : Nat) (S : ι → SL) (M : ι → ML) (I : ι → Prop) (μ : ι → Nat) (i : ι) (Q : Exit → SL → ML → Prop) (e : Exit) (sl : SL) (m : ML) : Prop :=
  match e with
  |.normal=>mH sl m (nL:=nL) (S:=S) (M:=M) (I:=I) (μ:=μ) (i:=i)
  |e=>Q e sl m
theorem bX.FW {P:Program}{N nL:Nat}{sl:SL}{m:ML}{c:Code}{Q:Exit→SL→ML→Prop}{ι:Type}(Γ:cQ)(hΓ:Γ.Good P)(S:ι→SL)(M:ι→ML)(I:ι→Prop)(μ:ι→Nat)(i0:ι)(hint0:List (Nat×Nat))(hI:I i0)(h0:FY hint0 nL sl m (S i0) (M i0))
    (round:∀i,I i→tI P N nL Γ c (S i) (M i) (IW nL S M I μ i Q)):bX P N nL sl m (c:=.loop c) (Q:=Q):=by
  refine ga.It (C:=fun i=>St (S i) (M i)) I μ i0 hI h0.uJ ?_
  intro i hi
  refine(mN hΓ _ _ _ _ (round i hi)).mono ?_
  rintro e σ ⟨sl',m',rfl,h⟩
  cases e with
  | normal=>
    obtain⟨j,hint,h1,h2,h3⟩:=h
    exact⟨j,h1,h2,h3.uJ⟩
  |_=>exact⟨sl',m',rfl,h⟩
section
variable {P : Program} {Γ : cQ} {sl : SL} {m : ML}
@[reducible] def Jp (hint : List (Nat × Nat)) (nL : Nat) (x : AV) (m : ML) (outs : List MS) (res : AV) : Prop :=
  (lR (gX (bh 0 outs) (cW (dR hint (dR (eO (bh 0 outs) m 6 res x) (iJ (bh 0 outs) m (gG nL (bh 0 outs))))) (bh 0 outs)))=true∧oo m (cW (dR hint (dR (eO (bh 0 outs) m 6 res x) (iJ (bh 0 outs) m (gG nL (bh 0 outs))))) (bh 0 outs)) nL=true)∧
    MF (cW (dR hint (dR (eO (bh 0 outs) m 6 res x) (iJ (bh 0 outs) m (gG nL (bh 0 outs))))) (bh 0 outs)) (jR (cW (dR hint (dR (eO (bh 0 outs) m 6 res x) (iJ (bh 0 outs) m (gG nL (bh 0 outs))))) (bh 0 outs))) m 12 res x∧
    qn (cW (dR hint (dR (eO (bh 0 outs) m 6 res x) (iJ (bh 0 outs) m (gG nL (bh 0 outs))))) (bh 0 outs)) (jR (cW (dR hint (dR (eO (bh 0 outs) m 6 res x) (iJ (bh 0 outs) m (gG nL (bh 0 outs))))) (bh 0 outs))) m (bh 0 outs)
@[reducible] def HV (hint : List (Nat × Nat)) (Γ : cQ) (nL : Nat) (rvs : List ResultVar) (outs : List MS) (res : AV) : SL × ML → Prop
  | (sl,m)=>match DN Γ sl m rvs with
    |some xs=>Jp hint nL (Fc xs) m outs res
    |none=>False
@[reducible] def LH (hint : List (Nat × Nat)) (Γ : cQ) (nL : Nat) (rvs : List ResultVar) (outs : List MS) (res : AV) (e : Exit) (sl : SL) (m : ML) : Prop :=
  match e with
  |.normal=>HV hint Γ nL rvs outs res (gN outs rvs (n3 rvs res) sl m)
  |.ret=>HV hint Γ nL rvs outs res (gN outs rvs (n3 rvs res) sl m)
  |_=>False
theorem Jp.end {hint:List (Nat×Nat)}{nL:Nat}{x:AV}{outs:List MS}{res:AV}(h:Jp hint nL x m outs res){N:Nat}{w0:World}{W0:Nat→Prop}{L μ:Mu}{a:Act}{w:World}{v:Value}(hL:∀t,nL≤t→t<j9→L t=none)
    (hs:cB P N w0 W0 L μ (St sl m) a w) (hv:cE (Wr W0 μ (aR m)) μ w x v):∃μ',cB P 0 w0 W0 L μ' (bare outs) iH w∧cE (Wr W0 μ' (aG outs)) μ' w res v:=by
  obtain⟨⟨h1,h2⟩,h3,h4⟩:=h
  generalize ht:cW (dR hint (dR (eO (bh 0 outs) m 6 res x) (iJ (bh 0 outs) m (gG nL (bh 0 outs))))) (bh 0 outs)=tab at h1 h2 h3 h4
  have hk:∀i u,(i,u)∈tab→i∈ (bh 0 outs).map (·.1):=fun i u h=>by rw[←ht] at h;exact gy h
  have hD:∀t u,oG tab t=some u→aR (bh 0 outs) t≠ .free:=by
    intro t u ht e
    rcases gi h4 t with⟨_,b⟩|⟨b,_⟩
    ·exact b (hk _ _ (iF ht))
    ·rw[e] at b;exact b
  have hw:=qn.qZ hs h1 h2 hk (fun t h=>h) h4 (fun _=>.any) (fun i=>.any)
  have hcv:=lA (fun t wd rows ro h _=>tf hs t wd rows ro h) hD (F:=fun t=>(∃wd rows ro,eD m t=.live wd rows ro)∧jR tab t=true) (fun t wd rows ro h1 h2=>⟨⟨wd,rows,ro,h1⟩,h2⟩) 12 _ _ h3
  obtain⟨μ',hs',hrep⟩:=hw.Gk hL hs (N':=0) (a':=iH) (.inr ⟨fun _=>rfl,rfl,rfl⟩)
  have e:aR (bh 0 outs)=aG outs:=by rw[k7,eG]
  rw[e] at hs' hrep hcv
  exact⟨μ',hs',hrep _ _ _ hcv hv⟩
theorem ak.eA (hint:List (Nat×Nat)){f:FuncId}{fn:Func}{c:Code}{ins outs:List MS}{args:List AV}{res:AV}{N:Nat}{rvs:List ResultVar}(Γ:cQ)(hΓ:Γ.Good P)(hf:P.funcs[f]? =some fn)(hb:fn.body=some c)(hN:fn.ntmps=N)(hr:fn.results.toList=rvs)
    (hlen:Nat.ble (eV args) N=true) (h:tI P N (eV ins) Γ c (zy 0 args) (bh 0 ins) (LH hint Γ (eV ins) rvs outs res)):ak P f ins args outs res:=by
  subst hN;subst hr
  have hlen:args.length≤fn.ntmps:=by rw[←c6];exact fO hlen
  intro w W0 L vs hL hs hr
  have h:=mN hΓ _ _ _ _ h
  rw[uj,k7,c6] at h
  have hst:(⟨fun i=>args.getD i .any,aG ins⟩:az)=St (rH 0 args) (pA 0 ins):=by
    unfold St
    congr 1
    ·funext i;rw[oH];simp
    ·exact(eG ins).symm
  have hsim:cB P fn.ntmps w W0 L L ⟨fun i=>args.getD i .any,aG ins⟩ {tmps:=vs.toArray++Array.replicate (fn.ntmps-vs.toArray.size) undef,defers:=[]} w:=by
    refine⟨?_,.nil,hs.os,hs.tape,hs.output,hs.hsize,hs.shp,hs.keep,hs.w0lt,hs.lentμ,hs.free,fun i=>?_,hs.objs,hs.inj,hs.out,hs.tabs⟩
    ·simp[hr.1];omega
    · by_cases hi:i<args.length
      · have h1:args[i]? =some args[i]:=bD hi
        have h2:vs[i]? =some (vs[i]'(by rw[hr.1];exact hi)):=bD _
        have:=hr.2 i _ _ h1 h2
        have hv:(vs.toArray++Array.replicate (fn.ntmps-vs.toArray.size) undef).getD i undef=vs[i]'(by rw[hr.1];exact hi):=by
          rw[Array.getD_eq_getD_getElem?,Array.getElem?_append_left (by simp;rw[hr.1];exact hi)]
          simp[h2]
        simp only[hv,List.getD_eq_getElem?_getD,h1,Option.getD_some]
        exact this
      · simp only[List.getD_eq_getElem?_getD,mD (Nat.le_of_not_lt hi),Option.getD_none]
        exact .any
  rw[hst] at hsim
  refine qb hf hb h (fun t ht=>hL t (by omega)) hsim (fun e σ' ⟨sl,m,_,hend⟩=>?_) ?_
  · cases e with
    |normal=>exact .inl rfl
    |ret=>exact .inr rfl
    |_=>exact hend.elim
  rintro e σ' μ' a' w' ⟨sl,m,rfl,hend⟩ hs' hd
  have key:HV hint Γ ins.length fn.results.toList outs res (gN outs fn.results.toList (n3 fn.results.toList res) sl m)→∃v,(results fn a'.tmps).run P w'=.ok v w'∧∃v_1 μ',Ending.returned v=.returned v_1∧cB P 0 w W0 L μ' (bare outs) iH w'∧cE (Wr W0 μ' (aG outs)) μ' w' res v_1:=by
    intro hend
    obtain⟨μ2,hs2⟩:=qI (outs:=outs) fn.results.toList (n3 fn.results.toList res) sl m μ' hs'
    generalize gN outs fn.results.toList (n3 fn.results.toList res) sl m=q at hend hs2
    obtain⟨sl2,m2⟩:=q
    simp only[HV] at hend
    split at hend
    · rename_i xs hxs
      have hres:=(xn hΓ hxs).get
      obtain⟨v,v1,v2⟩:=rF hs2 hres.1 hres.2
      rw[yB] at hend
      obtain⟨μ'',h1,h2⟩:=hend.end (fun t ht _=>hL t ht) hs2 v2
      exact⟨v,v1,v,μ'',rfl,h1,h2⟩
    ·exact hend.elim
  cases e with
  |normal=>exact key hend
  |ret=>exact key hend
  |_=>exact hend.elim
end
end Go.Am
