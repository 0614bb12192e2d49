/- Walks of functions by unfolding over abstract states; runs of functions by an evaluator that is proved. By an AI agent. -/
import Derived.Test.YtkhjcnjicjgfiaaGreatDoorW3
set_option linter.unusedSimpArgs false
set_option linter.unusedVariables false
namespace Go.Am
open Go
def Ly (nL:Nat)(sl:SL)(m:ML)(S:SL)(m':ML)(A:Prop):Prop:=Fit nL sl m S m'∧A
theorem Ly.mk {nL:Nat}{sl:SL}{m:ML}{S:SL}{m':ML}{A:Prop}(h:Fit nL sl m S m')(ha:A):Ly nL sl m S m' A:=⟨h,ha⟩
@[reducible] def HF (hint : List (Nat × Nat)) (nL : Nat) (sl : SL) (m : ML) (sl' : SL) (m' : ML) : Prop :=
  (mG (ir m' (dh (ee hint (iY m' m sl sl')) m'))=true∧oO m (dh (ee hint (iY m' m sl sl')) m') nL=true)∧
    Li (dh (ee hint (iY m' m sl sl')) m') (j9 (dh (ee hint (iY m' m sl sl')) m')) m sl sl'∧qV (dh (ee hint (iY m' m sl sl')) m') (j9 (dh (ee hint (iY m' m sl sl')) m')) m m'
theorem HF.wB {P:Program}{nL:Nat}{sl sl':SL}{m m':ML}{hint:List (Nat×Nat)}(h:HF hint nL sl m sl' m'):iH P nL (St sl m) (St sl' m'):=by
  intro N w0 W0 L μ a w hL hs
  obtain⟨⟨h1,h2⟩,h3,h4⟩:=h
  have hk:∀i u,(i,u)∈dh (ee hint (iY m' m sl sl')) m'→i∈m'.map (·.1):=fun i u h=>gQ h
  have hD:∀t u,o8 (dh (ee hint (iY m' m sl sl')) m') t=some u→aX m' t≠ .free:=by
    intro t u ht e
    rcases gD h4 t with⟨_,b⟩|⟨b,_⟩
    ·exact b (hk _ _ (iT ht))
    ·rw[e] at b;exact b
  have hw:=qV.rP hs h1 h2 hk (fun t h=>h) h4 (cB sl') (fun i=>by
    rcases si h3 i with h|h
    ·rw[h];exact .any
    · rw[←iq sl]
      exact lq (fun t wd rows ro h _=>um hs t wd rows ro h) hD (fun t wd rows ro h1 h2=>⟨⟨wd,rows,ro,h1⟩,h2⟩) 12 _ _ h)
  obtain⟨μ',hs',_⟩:=hw.GF hL hs (.inl ⟨rfl,rfl⟩)
  exact⟨μ',hs'⟩
def nq {ι:Type}(sl:SL)(m:ML){nL:Nat}{S:ι→SL}{M:ι→ML}{I:ι→Prop}{μ:ι→Nat}{i:ι}:Prop:=∃j hint,I j∧μ j<μ i∧HF hint nL sl m (S j) (M j)
theorem nq.mk {ι:Type}{sl:SL}{m:ML}{nL:Nat}{S:ι→SL}{M:ι→ML}{I:ι→Prop}{μ:ι→Nat}{i:ι}(j:ι)(hint:List (Nat×Nat))(h1:I j)(h2:μ j<μ i)(h3:HF hint nL sl m (S j) (M j)):nq sl m (nL:=nL) (S:=S) (M:=M) (I:=I) (μ:=μ) (i:=i):=⟨j,hint,h1,h2,h3⟩
@[reducible] def MX {ι : Type} (nL : Nat) (S : ι → SL) (M : ι → ML) (I : ι → Prop) (μ : ι → Nat) (i : ι) (Q : Exit → SL → ML → Prop) (e : Exit) (sl : SL) (m : ML) : Prop :=
  match e with
  |.normal=>nq sl m (nL:=nL) (S:=S) (M:=M) (I:=I) (μ:=μ) (i:=i)
  |e=>Q e sl m
theorem bW.Gw {P:Program}{N nL:Nat}{sl:SL}{m:ML}{c:Code}{Q:Exit→SL→ML→Prop}{ι:Type}(Γ:ct)(hΓ:Γ.Good P)(S:ι→SL)(M:ι→ML)(I:ι→Prop)(μ:ι→Nat)(i0:ι)(hint0:List (Nat×Nat))(hI:I i0)(h0:HF hint0 nL sl m (S i0) (M i0))
    (round:∀i,I i→vL P N nL Γ c (S i) (M i) (MX nL S M I μ i Q)):bW P N nL sl m (c:=.loop c) (Q:=Q):=by
  refine fj.LL (C:=fun i=>St (S i) (M i)) I μ i0 hI h0.wB ?_
  intro i hi
  refine(nP hΓ _ _ _ _ (round i hi)).mono ?_
  rintro e σ ⟨sl',m',rfl,h⟩
  cases e with
  | normal=>
    obtain⟨j,hint,h1,h2,h3⟩:=h
    exact⟨j,h1,h2,h3.wB⟩
  |_=>exact⟨sl',m',rfl,h⟩
section
variable {P : Program} {Γ : ct} {sl : SL} {m : ML}
@[reducible] def Nc (hint : List (Nat × Nat)) (nL : Nat) (x : AV) (m : ML) (outs : List MS) (res : AV) : Prop :=
  (mG (ir (bk 0 outs) (dh (ee hint (ee (eV (bk 0 outs) m 6 res x) (jc (bk 0 outs) m (gW nL (bk 0 outs))))) (bk 0 outs)))=true∧oO m (dh (ee hint (ee (eV (bk 0 outs) m 6 res x) (jc (bk 0 outs) m (gW nL (bk 0 outs))))) (bk 0 outs)) nL=true)∧
    MF (dh (ee hint (ee (eV (bk 0 outs) m 6 res x) (jc (bk 0 outs) m (gW nL (bk 0 outs))))) (bk 0 outs)) (j9 (dh (ee hint (ee (eV (bk 0 outs) m 6 res x) (jc (bk 0 outs) m (gW nL (bk 0 outs))))) (bk 0 outs))) m 12 res x∧
    qV (dh (ee hint (ee (eV (bk 0 outs) m 6 res x) (jc (bk 0 outs) m (gW nL (bk 0 outs))))) (bk 0 outs)) (j9 (dh (ee hint (ee (eV (bk 0 outs) m 6 res x) (jc (bk 0 outs) m (gW nL (bk 0 outs))))) (bk 0 outs))) m (bk 0 outs)
@[reducible] def JF (hint : List (Nat × Nat)) (Γ : ct) (nL : Nat) (rvs : List ResultVar) (outs : List MS) (res : AV) : SL × ML → Prop
  | (sl,m)=>match EI Γ sl m rvs with
    |some xs=>Nc hint nL (GL xs) m outs res
    |none=>False
@[reducible] def O7 (hint : List (Nat × Nat)) (Γ : ct) (nL : Nat) (rvs : List ResultVar) (outs : List MS) (res : AV) (e : Exit) (sl : SL) (m : ML) : Prop :=
  match e with
  |.normal=>JF hint Γ nL rvs outs res (gY outs rvs (oC rvs res) sl m)
  |.ret=>JF hint Γ nL rvs outs res (gY outs rvs (oC rvs res) sl m)
  |_=>False
theorem Nc.end {hint:List (Nat×Nat)}{nL:Nat}{x:AV}{outs:List MS}{res:AV}(h:Nc hint nL x m outs res){N:Nat}{w0:World}{W0:Nat→Prop}{L μ:Mu}{a:Act}{w:World}{v:Value}(hL:∀t,nL≤t→t<jD→L t=none)
    (hs:cz P N w0 W0 L μ (St sl m) a w) (hv:cD (Wr W0 μ (aX m)) μ w x v):∃μ',cz P 0 w0 W0 L μ' (bare outs) iA w∧cD (Wr W0 μ' (aH outs)) μ' w res v:=by
  obtain⟨⟨h1,h2⟩,h3,h4⟩:=h
  generalize ht:dh (ee hint (ee (eV (bk 0 outs) m 6 res x) (jc (bk 0 outs) m (gW nL (bk 0 outs))))) (bk 0 outs)=tab at h1 h2 h3 h4
  have hk:∀i u,(i,u)∈tab→i∈ (bk 0 outs).map (·.1):=fun i u h=>by rw[←ht] at h;exact gQ h
  have hD:∀t u,o8 tab t=some u→aX (bk 0 outs) t≠ .free:=by
    intro t u ht e
    rcases gD h4 t with⟨_,b⟩|⟨b,_⟩
    ·exact b (hk _ _ (iT ht))
    ·rw[e] at b;exact b
  have hw:=qV.rP hs h1 h2 hk (fun t h=>h) h4 (fun _=>.any) (fun i=>.any)
  have hcv:=lq (fun t wd rows ro h _=>um hs t wd rows ro h) hD (F:=fun t=>(∃wd rows ro,eG m t=.live wd rows ro)∧j9 tab t=true) (fun t wd rows ro h1 h2=>⟨⟨wd,rows,ro,h1⟩,h2⟩) 12 _ _ h3
  obtain⟨μ',hs',hrep⟩:=hw.GF hL hs (N':=0) (a':=iA) (.inr ⟨fun _=>rfl,rfl,rfl⟩)
  have e:aX (bk 0 outs)=aH outs:=by rw[lG,dX]
  rw[e] at hs' hrep hcv
  exact⟨μ',hs',hrep _ _ _ hcv hv⟩
theorem aj.eR (hint:List (Nat×Nat)){f:FuncId}{fn:Func}{c:Code}{ins outs:List MS}{args:List AV}{res:AV}{N:Nat}{rvs:List ResultVar}(Γ:ct)(hΓ:Γ.Good P)(hf:P.funcs[f]? =some fn)(hb:fn.body=some c)(hN:fn.ntmps=N)(hr:fn.results.toList=rvs)
    (hlen:Nat.ble (fg args) N=true) (h:vL P N (fg ins) Γ c (zW 0 args) (bk 0 ins) (O7 hint Γ (fg ins) rvs outs res)):aj P f ins args outs res:=by
  subst hN;subst hr
  have hlen:args.length≤fn.ntmps:=by rw[←dj];exact cC hlen
  intro w W0 L vs hL hs hr
  have h:=nP hΓ _ _ _ _ h
  rw[uN,lG,dj] at h
  have hst:(⟨fun i=>args.getD i .any,aH ins⟩:aA)=St (sL 0 args) (qD 0 ins):=by
    unfold St
    congr 1
    ·funext i;rw[pE];simp
    ·exact(dX ins).symm
  have hsim:cz P fn.ntmps w W0 L L ⟨fun i=>args.getD i .any,aH ins⟩ {tmps:=vs.toArray++Array.replicate (fn.ntmps-vs.toArray.size) undef,defers:=[]} w:=by
    refine⟨?_,.nil,hs.os,hs.tape,hs.output,hs.hsize,hs.shp,hs.keep,hs.w0lt,hs.lentμ,hs.free,fun i=>?_,hs.objs,hs.inj,hs.out,hs.tabs⟩
    ·simp[hr.1];omega
    · by_cases hi:i<args.length
      · have h1:args[i]? =some args[i]:=bA hi
        have h2:vs[i]? =some (vs[i]'(by rw[hr.1];exact hi)):=bA _
        have:=hr.2 i _ _ h1 h2
        have hv:(vs.toArray++Array.replicate (fn.ntmps-vs.toArray.size) undef).getD i undef=vs[i]'(by rw[hr.1];exact hi):=by
          rw[Array.getD_eq_getD_getElem?,Array.getElem?_append_left (by simp;rw[hr.1];exact hi)]
          simp[h2]
        simp only[hv,List.getD_eq_getElem?_getD,h1,Option.getD_some]
        exact this
      · simp only[List.getD_eq_getElem?_getD,oF (Nat.le_of_not_lt hi),Option.getD_none]
        exact .any
  rw[hst] at hsim
  refine mO hf hb h (fun t ht=>hL t (by omega)) hsim (fun e σ' ⟨sl,m,_,hend⟩=>?_) ?_
  · cases e with
    |normal=>exact .inl rfl
    |ret=>exact .inr rfl
    |_=>exact hend.elim
  rintro e σ' μ' a' w' ⟨sl,m,rfl,hend⟩ hs' hd
  have key:JF hint Γ ins.length fn.results.toList outs res (gY outs fn.results.toList (oC fn.results.toList res) sl m)→∃v,(results fn a'.tmps).run P w'=.ok v w'∧∃v_1 μ',Ending.returned v=.returned v_1∧cz P 0 w W0 L μ' (bare outs) iA w'∧cD (Wr W0 μ' (aH outs)) μ' w' res v_1:=by
    intro hend
    obtain⟨μ2,hs2⟩:=rA (outs:=outs) fn.results.toList (oC fn.results.toList res) sl m μ' hs'
    generalize gY outs fn.results.toList (oC fn.results.toList res) sl m=q at hend hs2
    obtain⟨sl2,m2⟩:=q
    simp only[JF] at hend
    split at hend
    · rename_i xs hxs
      have hres:=(zC hΓ hxs).get
      obtain⟨v,v1,v2⟩:=nr hs2 hres.1 hres.2
      rw[Al] at hend
      obtain⟨μ'',h1,h2⟩:=hend.end (fun t ht _=>hL t ht) hs2 v2
      exact⟨v,v1,v,μ'',rfl,h1,h2⟩
    ·exact hend.elim
  cases e with
  |normal=>exact key hend
  |ret=>exact key hend
  |_=>exact hend.elim
end
end Go.Am
