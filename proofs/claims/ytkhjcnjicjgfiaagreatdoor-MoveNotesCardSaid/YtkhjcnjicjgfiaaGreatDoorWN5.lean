/- Abstract values and what they say of memory; rules of code over them. By an AI agent. -/
import Derived.Test.YtkhjcnjicjgfiaaGreatDoorWN4
import Derived.Laws.StructEq
import Derived.Tactics
import Derived.ChangeArms
import Derived.ChangeSlices
import Derived.WideShapes
import Derived.WideKeyArgs
import Derived.ChangeSame
import Derived.WalkKit
import Derived.ProofKit
import Derived.OpenShut
set_option linter.unusedSimpArgs false
set_option linter.unusedVariables false
namespace Go.Am
mutual
/-- Objects named anew. -/
def jf (b:Nat):AV→AV
  |.own t o l=>.own (b+t) o l
  |.ptr t i k=>.ptr (b+t) i k
  |.mapr t=>.mapr (b+t)
  |.agg cs=>.agg (wG b cs)
  |.tup cs=>.tup (wG b cs)
  |x=>x
def wG (b:Nat):List AV→List AV
  |[]=>[]
  |x::xs=>jf b x::wG b xs
end
mutual
def mV (n:Nat):AV→Bool
  |.own t _ _=>decide (t<n)
  |.ptr t _ _=>decide (t<n)
  |.mapr t=>decide (t<n)
  |.agg cs=>sP n cs
  |.tup cs=>sP n cs
  |x=>bz x
def sP (n:Nat):List AV→Bool
  |[]=>true
  |x::xs=>mV n x&&sP n xs
end
section
variable {m : Nat → MS} {F : Nat → Prop} {b n : Nat}
mutual
theorem vr:∀ (x:AV),mV n x=true→Cv m (· -b) (fun t=>b≤t∧t-b<n) F (jf b x) x
  | .own t o l,h=>by
    simp only[mV,bH] at h
    have:=Cv.own (m:=m) (ρ:=(· -b)) (D:=fun t=>b≤t∧t-b<n) (F:=F) (t:=b+t) (o:=o) (l:=l) ⟨by omega,by omega⟩
    simpa[jf] using this
  | .ptr t i k,h=>by
    simp only[mV,bH] at h
    have:=Cv.ptr (m:=m) (ρ:=(· -b)) (D:=fun t=>b≤t∧t-b<n) (F:=F) (t:=b+t) (i:=i) (k:=k) ⟨by omega,by omega⟩
    simpa[jf] using this
  | .mapr t,h=>by
    simp only[mV,bH] at h
    have:=Cv.mapr (m:=m) (ρ:=(· -b)) (D:=fun t=>b≤t∧t-b<n) (F:=F) (t:=b+t) ⟨by omega,by omega⟩
    simpa[jf] using this
  |.fmap _,_=>.same rfl
  |.agg cs,h=>by simp only[mV] at h;simp only[jf];exact .uk (qK cs h)
  |.tup cs,h=>by simp only[mV] at h;simp only[jf];exact .uB (qK cs h)
  |.any,h=>.any
  |.emp,h=>.same rfl
  |.guess p q,h=>.same rfl
  |.lit x,h=>.same rfl
  |.sl wd rows,h=>by simp only[mV] at h;simp only[jf];exact .same h
  |.fptr e k,h=>by simp only[mV] at h;simp only[jf];exact .same h
  |.clo f a c,h=>by simp only[mV] at h;simp only[jf];exact .same h
theorem qK:∀ (xs:List AV),sP n xs=true→gR m (· -b) (fun t=>b≤t∧t-b<n) F (wG b xs) xs
  |[],_=>.nil
  | x::xs,h=>by
    simp only[sP,bN] at h
    exact .cons (vr x h.1) (qK xs h.2)
end
end
def jL:List MS→Prop
  |[]=>True
  |.live wd rows false::r=>bG wd rows∧br rows=true∧jL r
  |_::_=>False
theorem lU:∀ {l:List MS},jL l→∀ {k:Nat} {s:MS},l[k]? =some s→∃wd rows,s=.live wd rows false∧bG wd rows∧br rows=true
  |[],_,k,s,h=>by simp at h
  |.live wd rows false::r,ho,0,s,h=>by simp at h;subst h;exact⟨wd,rows,rfl,ho.1,ho.2.1⟩
  |.live wd rows false::r,ho,k+1,s,h=>lU ho.2.2 (by simpa using h)
  |.live wd rows true::r,ho,k,s,h=>ho.elim
  |.free::r,ho,k,s,h=>ho.elim
  |.dead::r,ho,k,s,h=>ho.elim
theorem bG.map {α:Type}{wd:Nat}(f:α→AV)(h:∀a,(cells (f a)).length=wd)(l:List α):bG wd (l.map f):=.ja fun r hr=>by
  obtain⟨a,_,rfl⟩:=List.mem_map.1 hr;exact h a
def jy (b:Nat):Nat→List MS→List (Nat×MS)
  |_,[]=>[]
  |k,s::r=>(b+k,s)::jy b (k+1) r
theorem l9 (b:Nat):∀ (l:List MS) (k:Nat),jy b k l=(l.zipIdx k).map fun p=>(b+p.2,p.1)
  |[],_=>rfl
  |s::r,k=>by simp[jy,l9 b r (k+1)]
def sy (m:List (Nat×MS))(b:Nat):Nat→Bool
  |0=>true
  |k+1=>(match aR m (b+k) with|.free=>true|_=>false)&&sy m b k
theorem pD {m:List (Nat×MS)}{b:Nat}:∀ {n:Nat},sy m b n=true→∀k,k<n→aR m (b+k)=.free
  |0,_,k,h=>absurd h (Nat.not_lt_zero k)
  | n +1,h,k,hk=>by
    simp only[sy,bN] at h
    by_cases he:k=n
    · subst he
      have:=h.1
      split at this
      ·assumption
      ·cases this
    ·exact pD h.2 k (by omega)
section
variable {P : Program} {N : Nat} {o : Oper} {sl : List (Nat × AV)} {m : List (Nat × MS)} {R : List Nat → AV → List (Nat × MS) → Prop} {f : FuncId} {ys args : List AV} {outs : List MS} {res : AV}
theorem jZ.call (b:Nat)(hf:ak P f [] args outs res)(hto:gu (St sl m) o f ys)(hc:aq P f)(hys:ys=args)(hargs:br args=true)(hd:fR N o.dst=true)(hp:mV outs.length res=true)(ho:jL outs)
    (hfree:sy m b outs.length=true) (h:R ((List.range outs.length).map (b+ ·)) (jf b res) (jy b 0 outs)):jZ P N o sl m R:=by
  subst hys
  refine⟨_,_,_,?_,h⟩
  have:=aH.DU (P:=P) (N:=N) (o:=o) (σ:=St sl m) (news:=outs) (x:=jf b res) (base:=b) [] hto hc (gR.same hargs) (by simp) hf (pD hfree) rfl (fun k s hk=>by
    obtain⟨wd,rows,rfl,h1,h2⟩:=lU ho hk
    exact⟨wd,rows,rows,rfl,hk,h1,.same h2⟩) (vr res hp) (bA hd)
  simpa[l9] using this
end
section
variable {P : Program} {σ : az}
def zG (P:Program)(σ:az):List ResultVar→List AV→Prop
  |[],[]=>True
  |rv::rvs,x::xs=>qt P σ rv x∧zG P σ rvs xs
  |_,_=>False
theorem zG.get:∀ {rvs:List ResultVar} {xs:List AV},zG P σ rvs xs→xs.length=rvs.length∧∀ (j:Nat) (rv:ResultVar) (x:AV),rvs[j]? =some rv→xs[j]? =some x→qt P σ rv x
  |[],[],_=>⟨rfl,by simp⟩
  | rv::rvs,x::xs,h=>by
    obtain⟨h1,h2⟩:=zG.get h.2
    refine⟨by simp[h1],fun j r y a b=>?_⟩
    cases j with
    |zero=>simp at a b;subst a;subst b;exact h.1
    |succ j=>exact h2 j r y (by simpa using a) (by simpa using b)
  |[],_::_,h=>h.elim
  |_::_,[],h=>h.elim
theorem pY.plain {rvs:List ResultVar}(xs:List AV)(h:zG P σ rvs xs)(hr:bz (wS xs)=true):pY P 0 rvs σ [] (wS xs):=
  ⟨xs,h.get.1,h.get.2,id,fun _=>False,
    ⟨fun _=>.any,fun t=>.inl (by simp[bare,aG]),fun t t' wd rows wd' rows' ro' h=>by simp[bare,aG] at h,fun s h=>h.elim,fun t h=>absurd h (Nat.not_lt_zero t)⟩,.same hr⟩
theorem pY.frozen {rvs:List ResultVar}(xs:List AV)(T:List Nat){res:AV}(h:zG P σ rvs xs)(hT:∀s∈T,∃wd rows ro,σ.mem s=.live wd rows ro)(hr:Cv σ.mem id (fun _=>False) (· ∈T) res (wS xs)):pY P 0 rvs σ [] res:=by
  refine⟨xs,h.get.1,h.get.2,id,(· ∈T),⟨fun _=>.any,fun t=>.inl (by simp[bare,aG]),fun t t' wd rows wd' rows' ro' h=>by simp[bare,aG] at h,fun s hs=>⟨hT s hs,fun t wd rows h=>by simp[bare,aG] at h⟩,fun t h=>absurd h (Nat.not_lt_zero t)⟩,?_⟩
  refine Cv.weakD ?_ hr
  intro t h;exact h.elim
where
  Cv.weakD {m:Nat→MS} {ρ:Nat→Nat} {D D' F:Nat→Prop} (hD:∀t,D t→D' t) {x y:AV} (h:Cv m ρ D F x y):Cv m ρ D' F x y:=by
    induction h with
    |any=>exact .any
    |same h=>exact .same h
    |own h=>exact .own (hD _ h)
    |ptr h=>exact .ptr (hD _ h)
    |mapr h=>exact .mapr (hD _ h)
    |fmap a b c d e f ih=>exact .fmap a b c d (fun i key key' x' x h1 h2=>ih i key key' x' x h1 h2) f
    |nil=>exact .nil
    |nilE=>exact .nilE
    |empS=>exact .empS
    |frz a b c d e _ g ih=>exact .frz a b c d e (fun q c d h1 h2=>ih q c d h1 h2) g
    |frzp a b c d _ g ih=>exact .frzp a b c d (fun q c d h1 h2=>ih q c d h1 h2) g
    |agg a _ ih=>exact .agg a (fun q c d h1 h2=>ih q c d h1 h2)
    |tup a _ ih=>exact .tup a (fun q c d h1 h2=>ih q c d h1 h2)
    |clo a b _ _ ih1 ih2=>exact .clo a b (fun q c d h1 h2=>ih1 q c d h1 h2) (fun q c d h1 h2=>ih2 q c d h1 h2)
theorem pY.fresh {rvs:List ResultVar}(xs:List AV)(ns:List Nat){outs:List MS}{res:AV}(h:zG P σ rvs xs)(hlen:ns.length=outs.length)(hnd:ns.Nodup)(ho:jL outs)
    (hm:∀ (k n:Nat) (s:MS),ns[k]? =some n→outs[k]? =some s→σ.mem n=s)
    (hr:Cv σ.mem (fun t=>ns.getD t 0) (fun t=>t<outs.length) (fun _=>False) res (wS xs)):pY P 0 rvs σ outs res:=by
  have hlive:∀t,(bare outs).mem t≠ .free→t<outs.length:=fun t ht=>by
    rcases Nat.lt_or_ge t outs.length with h|h
    ·exact h
    ·exact absurd (by simp[bare,aG,mD h]) ht
  have hat:∀t,t<outs.length→∃wd rows,outs[t]? =some (.live wd rows false)∧bG wd rows∧br rows=true∧σ.mem (ns.getD t 0)=.live wd rows false:=fun t ht=>by
    have h1:outs[t]? =some outs[t]:=bD ht
    obtain⟨wd,rows,e,h2,h3⟩:=lU ho h1
    have h4:ns[t]? =some (ns[t]'(by omega)):=bD _
    refine⟨wd,rows,by rw[h1,e],h2,h3,?_⟩
    rw[List.getD_eq_getElem?_getD,h4,Option.getD_some,hm t _ _ h4 h1,e]
  refine⟨xs,h.get.1,h.get.2,fun t=>ns.getD t 0,fun _=>False,⟨fun _=>.any,fun t=>?_,fun t t' wd rows wd' rows' ro' g1 g2 h3=>?_,fun s h=>h.elim,fun t h=>absurd h (Nat.not_lt_zero t)⟩,?_⟩
  · rcases Nat.lt_or_ge t outs.length with ht|ht
    · obtain⟨wd,rows,e1,e2,e3,e4⟩:=hat t ht
      exact .inr (.inr ⟨wd,rows,rows,false,false,by simp[bare,aG,e1],e4,fun _=>rfl,e2,.same e3⟩)
    ·exact .inl (by simp[bare,aG,mD ht])
  · have a1:=hlive t (fun e=>by rw[e] at g1;cases g1)
    have a2:=hlive t' (fun e=>by rw[e] at g2;cases g2)
    have b1:ns[t]? =some (ns[t]'(by omega)):=bD _
    have b2:ns[t']? =some (ns[t']'(by omega)):=bD _
    simp only[List.getD_eq_getElem?_getD,b1,b2,Option.getD_some] at h3
    exact(List.getElem?_inj (show t<ns.length by omega) hnd).1 (by rw[b1,b2,h3])
  · refine pY.frozen.Cv.weakD (fun t ht=>?_) hr
    obtain⟨wd,rows,e1,_⟩:=hat t ht
    simp[bare,aG,e1]
end
section
variable {P : Program} {N nL : Nat}
end
end Go.Am
section
namespace Go.Am
def ik (P:Program)(nL:Nat)(σ σ':az):Prop:=
  ∀ (N:Nat) (w0:World) (W0:Nat→Prop) (L μ:Mu) (a:Act) (w:World),(∀t,nL≤t→t<j9→L t=none)→cB P N w0 W0 L μ σ a w→∃μ',cB P N w0 W0 L μ' σ' a w
theorem ik.refl {P:Program}{nL:Nat}{σ:az}:ik P nL σ σ:=fun _ _ _ _ μ _ _ _ h=>⟨μ,h⟩
theorem ik.trans {P:Program}{nL:Nat}{σ σ' σ'':az}(h:ik P nL σ σ')(k:ik P nL σ' σ''):ik P nL σ σ'':=fun N w0 W0 L μ a w hL hs=>let⟨μ',h'⟩:=h N w0 W0 L μ a w hL hs;k N w0 W0 L μ' a w hL h'
theorem nv.fits {P:Program}{nL:Nat}{ρ:Nat→Nat}{F:Nat→Prop}{σ σ':az}(h:nv nL ρ F σ' σ):ik P nL σ σ':=fun _ _ _ _ _ _ _ hL hs=>let⟨μ',h',_⟩:=h.Gk hL hs (.inl ⟨rfl,rfl⟩);⟨μ',h'⟩
theorem ga.fits {P:Program}{N nL:Nat}{c:Code}{Q:Exit→az→Prop}{σ σ':az}(h:ik P nL σ σ')(hc:ga P N nL c Q σ'):ga P N nL c Q σ:=fun rd hp w0 W0 L μ a w hL hs=>let⟨μ',h'⟩:=h N w0 W0 L μ a w (fun t h1 h2=>hL.1 t h1 (.inl h2)) hs;hc rd hp w0 W0 L μ' a w hL h'
mutual
/-- Renamed. -/
def pL (ρ:Nat→Nat):AV→AV
  |.own t o l=>.own (ρ t) o l
  |.ptr t i k=>.ptr (ρ t) i k
  |.mapr t=>.mapr (ρ t)
  |.agg cs=>.agg (uH ρ cs)
  |.tup cs=>.tup (uH ρ cs)
  |x=>x
def uH (ρ:Nat→Nat):List AV→List AV
  |[]=>[]
  |x::xs=>pL ρ x::uH ρ xs
end
mutual
/-- It refers to these objects alone. -/
def mo (ts:List Nat):AV→Bool
  |.own t _ _=>ts.contains t
  |.ptr t _ _=>ts.contains t
  |.mapr t=>ts.contains t
  |.agg cs=>qQ ts cs
  |.tup cs=>qQ ts cs
  |x=>bz x
def qQ (ts:List Nat):List AV→Bool
  |[]=>true
  |x::xs=>mo ts x&&qQ ts xs
end
section
variable {m : Nat → MS} {F D : Nat → Prop} {ρ : Nat → Nat} {ts : List Nat}
mutual
theorem Bf (hD:∀t,t∈ts→D t):∀ (x:AV),mo ts x=true→Cv m ρ D F x (pL ρ x)
  |.own t o l,h=>by simp only[mo,List.contains_iff_mem] at h;simp only[pL];exact .own (hD t h)
  |.ptr t i k,h=>by simp only[mo,List.contains_iff_mem] at h;simp only[pL];exact .ptr (hD t h)
  |.mapr t,h=>by simp only[mo,List.contains_iff_mem] at h;simp only[pL];exact .mapr (hD t h)
  |.fmap _,_=>.same rfl
  |.agg cs,h=>by simp only[mo] at h;simp only[pL];exact .uk (sJ hD cs h)
  |.tup cs,h=>by simp only[mo] at h;simp only[pL];exact .uB (sJ hD cs h)
  |.any,_=>.any
  |.emp,_=>.same rfl
  |.guess _ _,_=>.same rfl
  |.lit _,_=>.same rfl
  |.sl _ _,h=>by simp only[mo] at h;simp only[pL];exact .same h
  |.fptr _ _,h=>by simp only[mo] at h;simp only[pL];exact .same h
  |.clo _ _ _,h=>by simp only[mo] at h;simp only[pL];exact .same h
theorem sJ (hD:∀t,t∈ts→D t):∀ (xs:List AV),qQ ts xs=true→gR m ρ D F xs (uH ρ xs)
  |[],_=>.nil
  | x::xs,h=>by
    simp only[qQ,bN] at h
    exact .cons (Bf hD x h.1) (sJ hD xs h.2)
end
end
def BW (ρ:Nat→Nat):MS→MS
  |.live wd rows ro=>.live wd (uH ρ rows) ro
  |s=>s
def Ec (ts:List Nat):MS→Bool
  |.live _ rows _=>qQ ts rows
  |.dead=>true
  |.free=>false
def AD:MS→Prop
  |.live wd rows _=>bG wd rows
  |_=>True
def GA (p:Nat→AV→Prop):List (Nat×AV)→Prop
  |[]=>True
  |(d,x)::r=>p d x∧GA p r
def allM (p:Nat→MS→Prop):List (Nat×MS)→Prop
  |[]=>True
  |(d,x)::r=>p d x∧allM p r
theorem wo {p:Nat→AV→Prop}:∀ {l:List (Nat×AV)},GA p l→∀i,ct l i=.any∨p i (ct l i)
  |[],_,i=>.inl rfl
  | (d,x)::r,h,i=>by
    simp only[ct]
    by_cases hi:i=d
    ·subst hi;simp;exact .inr h.1
    · have h':(i==d)=false:=by simpa using hi
      rw[h'];exact wo h.2 i
theorem nT {p:Nat→MS→Prop}:∀ {l:List (Nat×MS)},allM p l→∀i,aR l i=.free∨(p i (aR l i)∧i∈l.map (·.1))
  |[],_,i=>.inl rfl
  | (d,x)::r,h,i=>by
    simp only[aR]
    by_cases hi:i=d
    ·subst hi;simp;exact .inr h.1
    · have h':(i==d)=false:=by simpa using hi
      rw[h']
      exact(nT h.2 i).imp id fun⟨a,b⟩=>⟨a,by simp only[List.map_cons,dU];exact .inr b⟩
theorem ik.Lc {P:Program}{sl sl':List (Nat×AV)}{m m':List (Nat×MS)}(ρ:Nat→Nat)(hs:GA (fun d x=>mo (m'.map (·.1)) x=true∧ct sl d=pL ρ x) sl')
    (hm:allM (fun t s=>Ec (m'.map (·.1)) s=true∧aR m (ρ t)=BW ρ s∧AD s∧aR m' t=s) m') (hnd:((m'.map (·.1)).map ρ).Nodup):ik P 0 (St sl m) (St sl' m'):=by
  have hfree:∀t,t∈m'.map (·.1)→aR m' t≠ .free:=by
    have key:∀ (l:List (Nat×MS)),allM (fun t s=>Ec (m'.map (·.1)) s=true∧aR m (ρ t)=BW ρ s∧AD s∧aR m' t=s) l→∀t,t∈l.map (·.1)→aR m' t≠ .free:=by
      intro l
      induction l with
      |nil=>intro _ t h;simp at h
      | cons p r ih=>
        obtain⟨u,s⟩:=p
        intro h t ht
        simp only[List.map_cons,dU] at ht
        rcases ht with rfl|ht
        · rw[h.1.2.2.2]
          intro e
          have:=h.1.1
          rw[e] at this;cases this
        ·exact ih h.2 t ht
    exact key m' hm
  refine nv.fits (ρ:=ρ) (F:=fun _=>False) ⟨fun i=>?_,fun t=>?_,fun t t' wd rows wd' rows' ro' g1 g2 h3=>?_,fun s h=>h.elim,fun t h=>absurd h (Nat.not_lt_zero t)⟩
  · rcases wo hs i with h|⟨h1,h2⟩
    · show Cv _ _ _ _ (ct sl' i) _
      rw[h];exact .any
    · show Cv _ _ _ _ (ct sl' i) (ct sl i)
      rw[h2];exact Bf (fun t ht=>hfree t ht) _ h1
  · rcases nT hm t with h|⟨⟨h1,h2,h3,_⟩,_⟩
    ·exact .inl h
    · show aR m' t=.free∨_
      cases hs':aR m' t with
      |free=>exact .inl rfl
      |dead=>rw[hs'] at h2;exact .inr (.inl ⟨hs',by show aR m (ρ t)≠ .free;rw[h2];intro h;cases h⟩)
      | live wd rows ro=>
        rw[hs'] at h1 h2 h3
        exact .inr (.inr ⟨wd,rows,uH ρ rows,ro,ro,hs',h2,id,h3,sJ (fun t ht=>hfree t ht) rows h1⟩)
  · have h1:aR m' t≠ .free:=fun e=>by have g:aR m' t=.live wd rows false:=g1;rw[e] at g;cases g
    have h2:aR m' t'≠ .free:=fun e=>by have g:aR m' t'=.live wd' rows' ro':=g2;rw[e] at g;cases g
    have a1:t∈m'.map (·.1):=((nT hm t).resolve_left h1).2
    have a2:t'∈m'.map (·.1):=((nT hm t').resolve_left h2).2
    obtain⟨i,hi⟩:=List.getElem?_of_mem a1
    obtain⟨j,hj⟩:=List.getElem?_of_mem a2
    have hi':((m'.map (·.1)).map ρ)[i]? =some (ρ t):=by rw[fI,hi];rfl
    have hj':((m'.map (·.1)).map ρ)[j]? =some (ρ t'):=by rw[fI,hj];rfl
    have:i=j:=(List.getElem?_inj (aY hi').1 hnd).1 (by rw[hi',hj',h3])
    subst this
    rw[hi] at hj;cases hj;rfl
theorem ik.pick {P:Program}{sl sl':List (Nat×AV)}{m m':List (Nat×MS)}(hs:GA (fun d x=>mo (m'.map (·.1)) x=true∧ct sl d=x) sl')
    (hm:allM (fun t s=>Ec (m'.map (·.1)) s=true∧aR m t=s∧AD s∧aR m' t=s) m') (hnd:(m'.map (·.1)).Nodup):ik P 0 (St sl m) (St sl' m'):=by
  have e1:(∀x:AV,pL id x=x):=by
    intro x
    induction x using AV.rec (motive_2:=fun xs=>uH id xs=xs) with
    |agg cs ih=>simp only[pL,ih]
    |tup cs ih=>simp only[pL,ih]
    |nil=>rfl
    |cons x xs ih1 ih2=>simp only[uH,ih1,ih2]
    |_=>intros;rfl
  have e2:∀xs:List AV,uH id xs=xs:=by
    intro xs
    induction xs with
    |nil=>rfl
    |cons x xs ih=>simp only[uH,e1,ih]
  have e3:∀s:MS,BW id s=s:=by intro s;cases s<;>simp[BW,e2]
  exact ik.Lc id (by simpa only[e1] using hs) (by simpa only[e3,id_eq] using hm) (by simpa using hnd)
theorem ga.It {P:Program}{N nL:Nat}{c:Code}{Q:Exit→az→Prop}{σ:az}{ι:Type}(C:ι→az)(I:ι→Prop)(μ:ι→Nat)(x0:ι)(hI:I x0)(h0:ik P nL σ (C x0))
    (round:∀x,I x→ga P N nL c (EU (fun σ'=> ∃y,I y∧μ y<μ x∧ik P nL σ' (C y)) Q) (C x)):ga P N nL (.loop c) Q σ:=by
  refine ga.loop (fun n σ=> ∃x,I x∧μ x=n∧ik P nL σ (C x)) ⟨μ x0,x0,hI,rfl,h0⟩ ?_
  rintro n σ ⟨x,hx,rfl,hf⟩
  refine ga.fits hf ((round x hx).mono ?_)
  intro e σ' h
  cases e with
  | normal=>
    obtain⟨y,h1,h2,h3⟩:=h
    exact⟨μ y,h2,y,h1,rfl,h3⟩
  |_=>exact h
end Go.Am
namespace Go.Am
end Go.Am
namespace Go.Am
end Go.Am
end
section
namespace Go.Am
open Go
variable {m : Nat → MS} {ρ : Nat → Nat} {D F : Nat → Prop}
theorem gR.set {a b:List AV}{x y:AV}(h:gR m ρ D F a b)(hx:Cv m ρ D F x y)(n:Nat):gR m ρ D F (a.set n x) (b.set n y):=by
  refine⟨by simp[h.1],fun q c d h1 h2=>?_⟩
  rw[List.getElem?_set] at h1 h2
  by_cases hq:n=q
  · subst hq
    simp only[if_true] at h1 h2
    split at h1
    · split at h2
      ·cases h1;cases h2;exact hx
      ·cases h2
    ·cases h1
  ·rw[if_neg hq] at h1 h2;exact h.2 q c d h1 h2
theorem Cv.My {s wd n:Nat}{rows rows':List AV}{ro:Bool}(hF:F s)(hm:m s=.live wd rows ro)(hw':bG wd rows')(hw:bG wd rows)(hn:rows'.length=n)(h:gR m ρ D F rows' rows)(hnr:br rows'=true):Cv m ρ D F (.sl wd rows') (.own s 0 n):=by
  refine .D1 (off:=0) hF hm hw' hw (by have:=h.1;omega) ?_ hnr
  rw[List.drop_zero,qL (by have:=h.1;omega)]
  exact h
theorem Cv.fz {s wd n:Nat}{rows:List AV}{ro:Bool}(hF:F s)(hm:m s=.live wd rows ro)(hw:bG wd rows)(hn:rows.length=n)(h:br rows=true):Cv m ρ D F (.sl wd rows) (.own s 0 n):=
  .My hF hm hw hw hn (.same h) h
end Go.Am
end
namespace Go.Am
open Go
def lH:List AV→Option (List Value)
  |[]=>some []
  |.lit v::r=>(lH r).map (v:: ·)
  |_::_=>none
theorem ox {W:Nat→Prop}{μ:Mu}{w:World}:∀ {cs:List AV} {us vs:List Value},lH cs=some us→vs.length=cs.length→(∀ (j:Nat) (c:AV) (v:Value),cs[j]? =some c→vs[j]? =some v→cE W μ w c v)→vs=us
  | [],us,vs,h,hl,_=>by
    simp[lH] at h;subst h;exact List.eq_nil_of_length_eq_zero (by simpa using hl)
  | c :: r,us,vs,h,hl,hr=>by
    cases c with
    | lit x=>
      simp only[lH,Option.map_eq_some_iff] at h
      obtain⟨us',h1,rfl⟩:=h
      cases vs with
      |nil=>simp at hl
      | cons v vs=>
        have:=hr 0 (.lit x) v rfl rfl
        cases this
        have ih:=ox (W:=W) (μ:=μ) (w:=w) (vs:=vs) h1 (by simpa using hl) (fun j c v a b=>hr (j+1) c v (by simpa using a) (by simpa using b))
        rw[ih]
    |_=>simp[lH] at h
section
variable {P : Program} {N : Nat} {o : Oper} {sl : List (Nat × AV)} {m : List (Nat × MS)} {R : List Nat → AV → List (Nat × MS) → Prop}
theorem jZ.FL {op:BinOp}{y z:Operand}{t yt:TypeId}{cs ds:List AV}{us vs:List Value}{b:Bool}(ho:o.op=.binOp op t y z yt)(h1:jg sl y=.agg cs)(hc:lH cs=some us)(h2:jg sl z=.agg ds)(hc2:lH ds=some vs)
    (hrun:∀w,((do eqGuard op t y z (.agg us.toArray) (.agg vs.toArray);binOp op t (.agg us.toArray) (.agg vs.toArray):Sem Value)).run P w=.ok (.bool b) w) (hd:fR N o.dst=true) (h:R [] (.lit (.bool b)) []):jZ P N o sl m R:=by
  refine⟨[],.lit (.bool b),[],?_,h⟩
  refine .val (fun σ2 he2 hrd w0 W0 L μ a w hs=>?_) (bA hd)
  have k1:=hs.eval y
  have k2:=hs.eval z
  rw[he2 y (by simp[ho,Op.operands]),fA,h1] at k1
  rw[he2 z (by simp[ho,Op.operands]),fA,h2] at k2
  have hr:=hrun w
  refine⟨.bool b,?_,.lit⟩
  have e1:a.eval y=.agg us.toArray:=by
    generalize a.eval y=v1 at k1
    cases k1 with
    |agg a1 a2=>rw[ox hc a1 a2]
  have e2:a.eval z=.agg vs.toArray:=by
    generalize a.eval z=v1 at k2
    cases k2 with
    |agg a1 a2=>rw[ox hc2 a1 a2]
  simp only[execOp,ho,e1,e2]
  simp only[Sem.run_bind] at hr ⊢
  generalize(eqGuard op t y z (.agg us.toArray) (.agg vs.toArray)).run P w=q at hr ⊢
  cases q<;>simp_all[Result.andThen]
theorem jZ.pure {val:Operand→Value}{v:Value}(hv:∀y∈o.op.operands,jg sl y=.lit (val y))(hrun:∀ (e:Operand→Value),(∀y∈o.op.operands,e y=val y)→∀w,(execOp e o).run P w=.ok (.value v) w)(hd:fR N o.dst=true)(h:R [] (.lit v) []):jZ P N o sl m R:=by
  refine⟨[],.lit v,[],?_,h⟩
  refine .val (fun σ2 he2 hrd w0 W0 L μ a w hs=>⟨v,hrun _ (fun y hy=>?_) w,.lit⟩) (bA hd)
  have k:=hs.eval y
  rw[he2 y hy,fA,hv y hy] at k
  exact k.val
end
end Go.Am
namespace Go.Am
open Go Go.ChangeShapes Go.WideShapes
def Reads (P:Program)(t:TypeId)(n:Nat){α:Type}(E:α→AV)(ok:α→Prop):Prop:=
  P.cellsOf t=n∧(∀a,(cells (E a)).length=n∧∀c∈cells (E a),bz c=true)∧
  ∀ {H:Type} {enc:TypeId×Value→H} {w:World} {base:Nat} {sp:Nat→Bool} {held:Bool} {fuel:Nat} {cs:List Value} {x:DataW H×List MemPlace},
    DataW.trod enc P w base sp held fuel t cs=some x→cs.length=n∧∃a,ok a∧∀ (W:Nat→Prop) (μ:Mu),(∀b,¬W b)→∀ (q:Nat) (c:AV) (v:Value),(cells (E a))[q]? =some c→cs[q]? =some v→cE W μ w c v
section
variable {P : Program} {t e : TypeId} {n : Nat} {α β γ : Type} {E : α → AV} {ok : α → Prop}
theorem qh {W:Nat→Prop}{μ:Mu}{w:World}{x:AV}{u:Value}(hx:cells x=[x])(h:cE W μ w x u):∀ (q:Nat) (c:AV) (v:Value),(cells x)[q]? =some c→[u][q]? =some v→cE W μ w c v:=by
  intro q c v h1 h2
  rw[hx] at h1
  cases q with
  |zero=>simp at h1 h2;subst h1;subst h2;exact h
  |succ q=>simp at h1
theorem Reads.int {k:IntKind}(ht:P.underlying t=some (.int k))(hc:P.cellsOf t=1):Reads P t 1 (fun n:Int=>.lit (.int k n)) (fun n=>(Lit.int k n).wf=true):=
  ⟨hc,fun _=>⟨rfl,by simp[cells,bz]⟩,fun h=>by
    obtain⟨n,rfl,rfl,hw⟩:=DataW.trod_int ht h
    exact⟨rfl,n,hw,fun W μ _=>qh rfl .lit⟩⟩
theorem Reads.bool (ht:P.underlying t=some .bool)(hc:P.cellsOf t=1):Reads P t 1 (fun b:Bool=>.lit (.bool b)) (fun _=>True):=
  ⟨hc,fun _=>⟨rfl,by simp[cells,bz]⟩,fun h=>by
    obtain⟨b,rfl,rfl⟩:=DataW.trod_bool ht h
    exact⟨rfl,b,trivial,fun W μ _=>qh rfl .lit⟩⟩
theorem Reads.str (ht:P.underlying t=some .string)(hc:P.cellsOf t=1):Reads P t 1 (fun s:ByteArray=>.lit (.string s)) (fun s=>s.size≤maxLen):=
  ⟨hc,fun _=>⟨rfl,by simp[cells,bz]⟩,fun h=>by
    obtain⟨s,rfl,rfl,hw⟩:=DataW.trod_string ht h
    exact⟨rfl,s,hw,fun W μ _=>qh rfl .lit⟩⟩
theorem cells?_get {w:World}{base:Nat}{a:Addr}{n:Nat}{cs:List Value}(h:w.cells? base a n=some cs){j:Nat}{v:Value}(hj:cs[j]? =some v):w.cell? (a.add j)=some v:=by
  unfold World.cells? at h
  split at h
  · have hl:cs.length=n:=by simpa using mapM_length h
    have hjn:j<n:=by have:=(aY hj).1;omega
    have:=mapM_get h (i:=j) (x:=j) (by simp[hjn])
    rw[this,hj]
  ·cases h
where
  mapM_length {α β:Type} {f:α→Option β}:∀ {l:List α} {r:List β},l.mapM f=some r→r.length=l.length
    |[],r,h=>by simp at h;subst h;rfl
    | x::l,r,h=>by
      rw[List.mapM_cons] at h
      simp only[bind,Option.bind_eq_some_iff,pure,Option.some.injEq] at h
      obtain⟨y,_,ys,h2,rfl⟩:=h
      simp[mapM_length h2]
  mapM_get {α β:Type} {f:α→Option β}:∀ {l:List α} {r:List β},l.mapM f=some r→∀ {i:Nat} {x:α},l[i]? =some x→f x=r[i]?
    |[],r,h,i,x,hx=>by simp at hx
    | y::l,r,h,i,x,hx=>by
      rw[List.mapM_cons] at h
      simp only[bind,Option.bind_eq_some_iff,pure,Option.some.injEq] at h
      obtain⟨z,h1,ys,h2,rfl⟩:=h
      cases i with
      |zero=>simp at hx;subst hx;simpa using h1
      |succ i=>simpa using mapM_get h2 (by simpa using hx)
theorem Reads.slice (ht:P.underlying t=some (.slice e))(hc:P.cellsOf t=1)(he:Reads P e n E ok)(hn:0<n):
    Reads P t 1 (fun l:List α=>.sl n (l.map E)) (fun l=>l.length≤maxLen∧∀x∈l,ok x):=
  ⟨hc, fun _ => ⟨rfl,by simp[cells,bz]⟩,fun{H enc w base sp held fuel cs x} h=>by
    rcases DataW.trod_slice ht h with⟨rfl,rfl⟩|⟨a,len,cap,elems,rest,m,rfl,rfl,rfl,hb,hl,hm,hlen,hel,hsp,hns⟩
    ·exact⟨rfl,[],⟨Nat.zero_le _,by simp⟩,fun W μ _=>qh rfl .slNil⟩
    · obtain ⟨ec, ew,er⟩:=he
      have each:∀i:Fin len,∃y:α×List Value,w.cells? base (a.add (i.1*n)) n=some y.2∧y.2.length=n∧ok y.1∧∀ (W:Nat→Prop) (μ:Mu),(∀b,¬W b)→∀ (q:Nat) (c:AV) (v:Value),(cells (E y.1))[q]? =some c→y.2[q]? =some v→cE W μ w c v:=by
        intro i
        have h1:=hel i.1 i.2
        rw[ec,bD (by omega),Option.bind_eq_some_iff] at h1
        obtain⟨cs',h2,h3⟩:=h1
        obtain⟨h4,a',h5,h6⟩:=er h3
        exact⟨(a',cs'),h2,h4,h5,h6⟩
      obtain⟨f,hf⟩:=Classical.axiomOfChoice each
      refine⟨rfl,List.ofFn fun i=>(f i).1,⟨by simp;omega,fun x hx=>?_⟩,fun W μ hW=>qh rfl ?_⟩
      · obtain⟨i,rfl⟩:=List.mem_ofFn.1 hx
        exact(hf i).2.2.1
      · cases len with
        |zero=>simpa using cE.slNil
        | succ len =>
          have hspot:a=⟨a.block,a.off,none⟩:=by
            obtain⟨h1,h2,_⟩:=hf ⟨0,Nat.succ_pos _⟩
            obtain⟨v0,h3⟩:∃v0,(f ⟨0,Nat.succ_pos _⟩).2[0]? =some v0:=⟨_,bD (by rw[h2];exact hn)⟩
            have h4:=cells?_get h1 h3
            simp only[Nat.zero_mul] at h4
            have e1:(a.add 0).add 0=a:=by simp[Addr.add]
            rw[e1] at h4
            unfold World.cell? at h4
            split at h4
            · split at h4
              ·cases h4
              · rename_i hs
                cases a with
                | mk b o s=>
                  cases s with
                  |none=>rfl
                  |some s=>simp at hs
            ·cases h4
          have hcell:∀ (i:Fin (len+1)) (j:Nat) (v:Value),(f i).2[j]? =some v→w.cell? ⟨a.block,a.off+ (i.1*n+j),none⟩=some v:=by
            intro i j v hv
            have:=cells?_get (hf i).1 hv
            rw[hspot] at this
            have e2:((⟨a.block,a.off,none⟩:Addr).add (i.1*n)).add j=⟨a.block,a.off+ (i.1*n+j),none⟩:=by
              have add_mk:∀ (b o k:Nat),(⟨b,o,none⟩:Addr).add k=⟨b,o+k,none⟩:=fun b o k=>by
                unfold Addr.add
                split
                ·rename_i h0;rw[h0];rfl
                ·rfl
              rw[add_mk,add_mk,Nat.add_assoc]
            rw[e2] at this
            exact this
          rw[hspot]
          have wide:bG n ((List.ofFn fun i=>(f i).1).map E):=by
            refine .ja fun r hr=>?_
            obtain⟨y,_,rfl⟩:=List.mem_map.1 hr
            exact(ew y).1
          have key:∀ (q:Nat) (c:AV),(flat ((List.ofFn fun i=>(f i).1).map E))[q]? =some c→∃v,w.cell? ⟨a.block,a.off+q,none⟩=some v∧cE W μ w c v:=by
            intro q c hq
            obtain⟨i,k,r,rfl,h1,h2,h3⟩:=qo wide hq
            rw[fI] at h1
            cases h4:(List.ofFn fun i=>(f i).1)[i]? with
            |none=>rw[h4] at h1;simp at h1
            | some y=>
              rw[h4] at h1
              simp only[Option.map_some,Option.some.injEq] at h1
              subst h1
              have hi:i<len+1:=by simpa using(aY h4).1
              have h5:y=(f ⟨i,hi⟩).1:=by
                rw[List.getElem?_ofFn,dif_pos hi] at h4
                simpa using h4.symm
              subst h5
              obtain⟨v6,h6⟩:∃v6,(f ⟨i,hi⟩).2[k]? =some v6:=⟨_,bD (by rw[(hf ⟨i,hi⟩).2.1];exact h3)⟩
              exact⟨_,hcell ⟨i,hi⟩ k _ h6,(hf ⟨i,hi⟩).2.2.2 W μ hW k c _ h2 h6⟩
          have hblk:a.block<w.heap.size:=by
            obtain⟨h1,h2,_⟩:=hf ⟨0,Nat.succ_pos _⟩
            obtain⟨v0,h3⟩:∃v0,(f ⟨0,Nat.succ_pos _⟩).2[0]? =some v0:=⟨_,bD (by rw[h2];exact hn)⟩
            have h4:=hcell ⟨0,Nat.succ_pos _⟩ 0 _ h3
            unfold World.cell? at h4
            split at h4
            ·rename_i h5;exact(Array.getElem?_eq_some_iff.1 h5).1
            ·cases h4
          refine .sl (f:=fun q=>(w.cell? ⟨a.block,a.off+q,none⟩).getD undef) (hW _) hblk (by simp) hl wide (fun q c hq=>?_) (fun q c hq=>?_) (fun c hc=>by
            simp only[flat,List.mem_flatMap] at hc
            obtain⟨r,hr,hc⟩:=hc
            obtain⟨y,_,rfl⟩:=List.mem_map.1 hr
            exact(ew y).2 c hc)
          · obtain⟨v,h1,_⟩:=key q c hq
            rw[h1];rfl
          · obtain⟨v,h1,h2⟩:=key q c hq
            rw[h1];exact h2⟩
def qv (P:Program)(fs:List (Nat×TypeId))(k n:Nat){α:Type}(F:α→List AV)(ok:α→Prop):Prop:=
  (∀a,(F a).length=n∧∀c∈F a,bz c=true)∧
  ∀ {H :Type} {enc:TypeId×Value→H} {w:World} {base:Nat} {sp:Nat→Bool} {held:Bool} {fuel:Nat} {cs:List Value},
    (∀ f∈fs,∃x,DataW.trod enc P w base sp held fuel f.2 ((cs.drop f.1).take (P.cellsOf f.2))=some x)→
      ∃a,ok a∧∀ (W:Nat→Prop) (μ:Mu),(∀b,¬W b)→∀ (q:Nat) (c:AV) (v:Value),(F a)[q]? =some c→cs[k+q]? =some v→cE W μ w c v
theorem qv.nil {k:Nat}:qv P [] k 0 (fun _:Unit=>[]) (fun _=>True):=⟨fun _=>⟨rfl,by simp⟩,fun _=>⟨(),trivial,fun W μ _ q c v h=>by simp at h⟩⟩
theorem qv.cons {fs:List (Nat×TypeId)}{k m:Nat}{F:β→List AV}{okF:β→Prop}(h:Reads P t n E ok)(hs:qv P fs (k+n) m F okF):
    qv P ((k,t)::fs) k (n+m) (fun p:α×β=>cells (E p.1)++F p.2) (fun p=>ok p.1∧okF p.2):=by
  refine⟨fun p=>⟨by simp[(h.2.1 _).1,(hs.1 _).1],fun c hc=>(List.mem_append.1 hc).elim ((h.2.1 _).2 c) ((hs.1 _).2 c)⟩,fun{H enc w base sp held fuel cs} hf=>?_⟩
  obtain⟨x,hx⟩:=hf (k,t) (by simp)
  rw[h.1] at hx
  obtain⟨hl,a,h1,h2⟩:=h.2.2 hx
  obtain⟨b,h3,h4⟩:=hs.2 (fun f hf'=>hf f (by simp[hf']))
  refine⟨(a,b),⟨h1,h3⟩,fun W μ hW q c v hc hv=>?_⟩
  rw[List.getElem?_append] at hc
  rw[(h.2.1 _).1] at hc
  split at hc
  · rename_i hq
    refine h2 W μ hW q c v hc ?_
    rw[List.getElem?_take,if_pos hq,List.getElem?_drop]
    exact hv
  · rename_i hq
    refine h4 W μ hW (q-n) c v hc ?_
    rw[←hv]
    congr 1
    omega
theorem Reads.struct {fs:Array Field}{l:List (Nat×TypeId)}{F:α→List AV}(ht:P.underlying t=some (.struct fs))(hc:P.cellsOf t=n)(hf:fs.toList.map (fun f=>(f.offset,f.type))=l)(h:qv P l 0 n F ok):Reads P t n (fun a=>.agg (F a)) ok:=by
  refine⟨hc,h.1,fun{H enc w base sp held fuel cs x} hx=>?_⟩
  obtain⟨xs,m,rfl,rfl,hl,hxl,hall⟩:=DataW.trod_struct ht hx
  obtain⟨a,h1,h2⟩:=h.2 (enc:=enc) (w:=w) (base:=base) (sp:=sp) (held:=held) (fuel:=m) (cs:=cs) (fun f hfm=>by
    rw[←hf] at hfm
    obtain⟨g,hg,rfl⟩:=List.mem_map.1 hfm
    obtain⟨i,hi⟩:=List.getElem?_of_mem hg
    have hi':fs[i]? =some g:=by simpa using hi
    have:=hall i g hi'
    refine⟨xs[i]'(by have:=(Array.getElem?_eq_some_iff.1 hi').1;omega),?_⟩
    rw[this,bD])
  exact⟨by rw[hl,hc],a,h1,fun W μ hW q c v hc' hv=>h2 W μ hW q c v hc' (by simpa using hv)⟩
theorem Reads.conv {E':β→AV}{ok':β→Prop}(h:Reads P t n E ok)(g:α→β)(g':β→α)(hE:∀a,E' (g a)=E a)(hg:∀b,E' b=E (g' b))(hok:∀a,ok a→ok' (g a)):Reads P t n E' ok':=by
  refine⟨h.1,fun b=>by rw[hg];exact h.2.1 _,fun hx=>?_⟩
  obtain⟨hl,a,h1,h2⟩:=h.2.2 hx
  exact⟨hl,g a,hok a h1,by rw[hE];exact h2⟩
theorem Reads.JF {H:Type}{enc:TypeId×Value→H}{w:World}{base b0:Nat}{r:Reach}{sp:Nat→Bool}{held:Bool}{v:Value}{d:DataW H}{ps:List MemPlace}{fs:Array Field}{F:α→List AV}(h:Reads P t n E ok)(hE:∀a,E a=.agg (F a))
    (ht:P.underlying t=some (.struct fs)) (hval:Value.okWide P w r b0 t v) (hd:DataW.Trod enc P w base sp held t v d ps):∃a,ok a∧∀ (W:Nat→Prop) (μ:Mu),(∀b,¬W b)→cE W μ w (E a) v:=by
  obtain⟨cs,rfl,hs⟩:=okWide_struct ht hval
  obtain⟨fuel,hf⟩:=hd
  obtain⟨hl,a,h1,h2⟩:=h.2.2 hf
  refine⟨a,h1,fun W μ hW=>?_⟩
  have h3:=h2 W μ hW
  have hw:=(h.2.1 a).1
  rw[hE] at h3 hw ⊢
  have:Value.agg cs=.agg cs.toList.toArray:=by simp
  rw[this]
  exact .agg (by simp only[cells] at hw;rw[hw];exact hl) h3
theorem Reads.IP {H:Type}{enc:TypeId×Value→H}{w:World}{base:Nat}{sp:Nat→Bool}{held:Bool}{v:Value}{d:DataW H}{ps:List MemPlace}(h:Reads P t 1 E ok)(hE:∀a,cells (E a)=[E a])
    (hv:v.cells.toList=[v]) (hd:DataW.Trod enc P w base sp held t v d ps):∃a,ok a∧∀ (W:Nat→Prop) (μ:Mu),(∀b,¬W b)→cE W μ w (E a) v:=by
  obtain⟨fuel,hf⟩:=hd
  obtain⟨hl,a,h1,h2⟩:=h.2.2 hf
  refine⟨a,h1,fun W μ hW=>h2 W μ hW 0 _ _ (by rw[hE];rfl) (by rw[hv];rfl)⟩
def Kept (w w':World):Prop:=w'.os=w.os∧w'.output=w.output∧w.heap.size≤w'.heap.size∧∀b,b<w.heap.size→w'.heap[b]? =w.heap[b]?
theorem ak.law {f:FuncId}{args:List AV}{vs:List Value}{w:World}(h:ak P f [] args [] (.lit (.bool true)))(hr:∀ (W:Nat→Prop) (μ:Mu),(∀b,¬W b)→cH W μ w args vs)(ht:kg P w fun _=>none):
    Calls P f vs.toArray w fun e w'=>e=.returned (.bool true)∧Kept w w':=by
  have hW:∀b,¬Wr (fun _=>False) (fun _=>none) (aG []) b:=by
    rintro b (h|⟨t,B,wd,rows,_,h,_⟩)
    ·exact h
    ·cases h
  have hs:cB P 0 w (fun _=>False) (fun _=>none) (fun _=>none) (bare []) iH w:=by
    refine⟨rfl,.nil,rfl,rfl,rfl,Nat.le_refl _,fun _ _ _ h=>h,fun _ _ _=>rfl,fun _ h=>h.elim,fun _ _ _ h=>h,fun t=>by simp[bare,aG],fun _=>.any,fun t wd rows ro h=>?_,fun t t' wd rows wd' rows' ro' B B' _ h=>?_,fun t wd rows ro B h=>?_,ht⟩<;>simp[bare,aG] at h
  refine(h w (fun _=>False) (fun _=>none) vs (fun _ _=>rfl) hs (hr _ _ hW)).mono ?_
  rintro e w' ⟨v,μ',rfl,hs',hv⟩
  cases hv
  refine⟨rfl,hs'.os,hs'.output,hs'.hsize,fun b hb=>hs'.keep b hb ?_⟩
  rintro⟨t,B,h,_⟩
  cases h
theorem Kept.keptBut {w w':World}(h:Kept w w')(may:MemPlace→Prop):w.keptBut w' may:=by
  refine⟨h.1,h.2.1,fun i hi=>?_⟩
  rw[h.2.2.2 i hi]
  cases w.heap[i]? with
  |none=>rfl
  |some o=>cases o<;>simp
end
theorem Kept.sameAt {w w':World}(h:Kept w w'){p:MemPlace}(hp:p.block<w.heap.size):w.sameAt w' p:=by
  cases p with
  | cell b off=>
    simp only[World.sameAt,World.cell?]
    rw[h.2.2.2 b hp]
  |map b=>exact h.2.2.2 b hp
theorem Kept.frozen {w w':World}(h:Kept w w'){b off:Nat}(hb:b<w.heap.size):w'.frozen? ⟨b,off,none⟩=w.frozen? ⟨b,off,none⟩:=by
  simp only[World.frozen?]
  rw[h.2.2.2 b hb]
section
variable {H : Type} {enc : TypeId × Value → H} {P : Program}
theorem oq (hl:laidOutB P=true){W W':World}{base:Nat}{sp:Nat→Bool}:∀ {ts:List TypeId} {vs:List Value} {ds:List (DataW H)} {ps:List MemPlace},
    (∀t∈ts,P.readableRec t=true∧t<P.types.size)→DataW.TrodAll enc P W base (fun _=>true) true ts vs ds ps→(∀p∈ps,W.sameAt W' p)→(∀p∈ps,sp p.block=true)→DataW.TrodAll enc P W' base sp true ts vs ds ps
  |[],[],[],_,_,h,_,_=>h
  | t ::ts,v::vs,d::ds,ps,ht,⟨p,q,h1,h2,e⟩,hs,hsp=>by
    subst e
    exact⟨p,q,WideElems.Trod_stays hl (ht t (by simp)).1 (ht t (by simp)).2 h1 (fun x hx=>hs x (by simp[hx])) (fun x hx=>hsp x (by simp[hx])),
      oq hl (fun t' h'=>ht t' (by simp[h'])) h2 (fun x hx=>hs x (by simp[hx])) (fun x hx=>hsp x (by simp[hx])),rfl⟩
theorem xo {f:Func}{s:ChangeSpec}{apart fresh handsOn again:Bool}{W W':World}{args:Array Value}{tb:TypeId}{ds gs:List (DataW H)}{before:List MemPlace}
    (hW:DataW.Whole enc P f.params.toList s.vars apart W args.toList ds gs before) (hv:s.vars=[]) (hk:Kept W W') (hl:laidOutB P=true) (ht:∀t∈f.params.toList,P.readableRec t=true∧t<P.types.size)
    (ha:(s.fn H ds).args=ds) (hr:(s.fn H ds).results=[.lit (.bool true)]) (hvs:(s.fn H ds).vars=[]) (hb:P.underlying tb=some .bool) (hft:f.resultTypes= #[tb]):
    s.post enc P f apart fresh handsOn again W args (.bool true) W':=by
  have hW0:=hW
  obtain⟨p,q,hA,hV,rfl,hz,hn⟩:=hW
  have hV':=hV
  rw[hv] at hV'
  obtain⟨rfl,rfl⟩:=trodVars_none hV'
  simp only[List.append_nil] at hW0 hz hn
  have hold:∀x∈p,(fun b=>decide (b<W.heap.size)) x.block=true:=fun x hx=>by simpa using hW0.lt x hx
  have hsame:∀x∈p,W.sameAt W' x:=fun x hx=>hk.sameAt (hW0.lt x hx)
  have hargs:∀sp:Nat→Bool,(∀x∈p,sp x.block=true)→DataW.TrodAll enc P W' 0 sp true f.params.toList args.toList (s.fn H (ds++ [])).args p:=fun sp hsp=>by
    rw[List.append_nil,ha]
    exact oq hl ht hA hsame hsp
  have hres:∀ (b:Nat) (sp:Nat→Bool) (hd:Bool),DataW.TrodAll enc P W' b sp hd f.resultTypes.toList ((Value.bool true).resultList f.resultTypes.size) (s.fn H (ds++ [])).results []:=fun b sp hd=>by
    rw[List.append_nil,hr,hft]
    exact trodAll_cons_mk (RowKit.shut_bool hb _) trodAll_mk0
  have hvars:∀sp:Nat→Bool,DataW.TrodVars enc P W' sp s.vars (s.fn H (ds++ [])).vars []:=fun sp=>by
    rw[List.append_nil,hv,hvs];rfl
  have hok:∀ (j:Nat) (t:TypeId) (r:Value),f.resultTypes[j]? =some t→((Value.bool true).resultList f.resultTypes.size)[j]? =some r→Value.okWide P W' .any 0 t r:=
    RowKit.ok_one hft rfl (RowKit.okWide_bool_mk hb _)
  refine⟨ds,[],p,[],p,[],hW0,hres _ _ _,hargs _ hold,hvars _,World.keptBut_mono (fun x hx=>⟨hx,?_⟩) (hk.keptBut (· ∈p)),fun _=>?_⟩
  ·exact Or.inr (Or.inl hx)
  · refine⟨hok,_,_,([]++p)++ [],⟨[]++p,[],trodAll_append (hargs _ (fun _ _=>rfl)) (hres _ _ _),hvars _,rfl,?_,?_⟩,?_⟩
    · intro b off hp
      have hp':MemPlace.cell b off∈p:=by simpa using hp
      rw[hk.frozen (b:=b) (off:=off) (hW0.lt _ hp')]
      exact hz b off hp'
    · intro h
      simpa using hn h
    · intro x hx _
      simpa using hx
end
end Go.Am
namespace Go.Am
open Go Go.MapKept
structure kj (P:Program) (t:TypeId) (d:TypeDesc) (z:Value):Prop where
  ty:∃kt et,P.underlying t=some (.map kt et)∧P.underlying kt=some d∧jj P et z
def kM (d:TypeDesc)(rows:List AV):Prop:=∀r∈rows,∃key x,r=entry key x∧IsKey d key
theorem kM.set {d:TypeDesc}{rows:List AV}(h:kM d rows){key:Value}(hk:IsKey d key)(i:Nat)(x:AV):kM d (rows.set i (entry key x)):=fun r hr=>by
  rcases List.mem_or_eq_of_mem_set hr with h'|rfl
  ·exact h r h'
  ·exact⟨key,x,rfl,hk⟩
theorem kM.snoc {d:TypeDesc}{rows:List AV}(h:kM d rows){key:Value}(hk:IsKey d key)(x:AV):kM d (rows++ [entry key x]):=fun r hr=>by
  rcases List.mem_append.1 hr with h'|h'
  ·exact h r h'
  ·simp only[gA] at h';subst h';exact⟨key,x,rfl,hk⟩
theorem kM.nil {d:TypeDesc}:kM d []:=fun r h=>by simp at h
theorem kM.map {α:Type}{d:TypeDesc}(k:α→Value)(e:α→AV)(hk:∀a,IsKey d (k a))(l:List α):kM d (l.map fun a=>entry (k a) (e a)):=fun r hr=>by
  obtain⟨a,_,rfl⟩:=List.mem_map.1 hr
  exact⟨k a,e a,rfl,hk a⟩
theorem vS {k k':Value}{x x':AV}(h:entry k x=entry k' x'):k=k'∧x=x':=by
  simp only[entry,AV.agg.injEq,List.cons.injEq,AV.lit.injEq,AV.tup.injEq,and_true] at h
  exact h
section
variable {P : Program} {N : Nat} {σ : az} {o : Oper} {w0 : World} {W0 : Nat → Prop} {L μ : Mu} {a : Act} {w : World}
theorem cB.allocMap (h:cB P N w0 W0 L μ σ a w){t:Nat}(ht:σ.mem t=.free):
    cB P N w0 W0 L (bq μ t ⟨w.heap.size,0,2,false,true⟩) ⟨σ.slots,bk σ.mem [(t,.live 2 [] false)]⟩ a (w.alloc (.map #[] 0)):=by
  have hmt:μ t=none:=(h.free t).1 ht
  have size:w.heap.size≤ (w.alloc (.map #[] 0)).heap.size:=by simp
  have jX:∀b,b<w.heap.size→¬iM μ σ.mem b→(w.alloc (.map #[] 0)).heap[b]? =w.heap[b]? :=fun b hb _=>heap_alloc_old w _ hb
  have mu:∀u B,μ u=some B→bq μ t ⟨w.heap.size,0,2,false,true⟩ u=some B:=fun u B hu=>by
    have:u≠t:=fun e=>by rw[e,hmt] at hu;cases hu
    simp[bq,this,hu]
  have old:∀u wd' rows' ro B,bk σ.mem [(t,.live 2 [] false)] u=.live wd' rows' ro→bq μ t ⟨w.heap.size,0,2,false,true⟩ u=some B→B.virt=false→w.heap.size≤B.b∨
      ∃t1 wd1 rows1 ro1 B1,σ.mem t1=.live wd1 rows1 ro1∧μ t1=some B1∧B1.b=B.b∧B1.virt=false∧(ro=false→ro1=false):=by
    intro u wd' rows' ro B h1 h2 hv
    by_cases hu:u=t
    ·subst hu;simp[bq] at h2;subst h2;exact .inl (Nat.le_refl _)
    · simp[bk,hu] at h1;simp[bq,hu] at h2
      exact .inr ⟨u,wd',rows',ro,B,h1,h2,rfl,hv,id⟩
  have g:=h.grow size jX (fun b e n=>kD) mu (eX old)
  refine h.step size rfl rfl rfl jX (fun b e n=>kD) mu old (fun u=>?_) (fun u wd' rows' ro hu=>?_) ?_
  · by_cases hu:u=t
    ·subst hu;simp[bk,bq]
    ·simp[bk,bq,hu,h.free u]
  · by_cases hut:u=t
    · subst hut
      simp[bk] at hu
      obtain⟨rfl,rfl,rfl⟩:=hu
      exact⟨⟨w.heap.size,0,2,false,true⟩,by simp[bq],rfl,.nil _,(fun _ h=>nomatch h),(fun h=>nomatch h),(fun h=>nomatch h),fun _=>rfl,
        fun _=>⟨#[],0,heap_alloc_new w _,stamped_empty 0,rfl,by decide,⟨rfl,fun i e he=>by simp at he⟩,fun i r hr=>by simp at hr⟩⟩
    · simp[bk,hut] at hu
      obtain⟨B,h1,h2⟩:=h.objs u wd' rows' ro hu
      exact⟨B,mu u B h1,h2.grow g fun hv=>heap_alloc_old w _ (h.dO hu h1 hv)⟩
  · intro u u' wd1 r1 wd2 r2 ro2 B B' hne h1 h2 h3 h4 v1 v2
    by_cases hu:u=t
    · subst hu
      simp[bq] at h3;subst h3
      have hu':u'≠u:=fun e=>hne e.symm
      simp[bk,hu'] at h2;simp[bq,hu'] at h4
      have:=h.dO h2 h4 v2
      simp;omega
    · simp[bk,hu] at h1;simp[bq,hu] at h3
      by_cases hu':u'=t
      · subst hu'
        simp[bq] at h4;subst h4
        have:=h.dO h1 h3 v1
        simp;omega
      · simp[bk,hu'] at h2;simp[bq,hu'] at h4
        exact h.inj u u' wd1 r1 wd2 r2 ro2 B B' hne h1 h2 h3 h4 v1 v2
theorem cB.Fl (h:cB P N w0 W0 L μ σ a w){t wd:Nat}{rows rows':List AV}{B:xI}{es es':Array MapEntry}{clock clock':Nat}(ht:σ.mem t=.live wd rows false)(hB:μ t=some B)(hmp:B.mp=true)
    (hC:w.heap[B.b]? =some (.map es clock)) (hst:Stamped es' clock') (hbn:clock'=es'.size∧∀ (i:Nat) (e:MapEntry),es'[i]? =some e→e.born=i) (hsz:es'.size=rows'.length) (hmax:es'.size<maxLen) (hw:bG wd rows')
    (hc:∀ (i:Nat) (r:AV),rows'[i]? =some r→∃k c e,r=.agg [k,c]∧es'[i]? =some e∧(∀key,k=.lit key→e.key=key)∧∀x,c=.tup [x]→cE (Wr W0 μ σ.mem) μ w x e.val):
    cB P N w0 W0 L μ ⟨σ.slots,bk σ.mem [(t,.live wd rows' false)]⟩ a {w with heap:=w.heap.setIfInBounds B.b (.map es' clock')}:=by
  obtain⟨B0,hB0,hobj⟩:=h.objs t wd rows false ht
  rw[hB] at hB0;cases hB0
  have hv:=hobj.vm hmp
  have hhs:=heap_set (o':=.map es' clock') hC
  let w':World:={w with heap:=w.heap.setIfInBounds B.b (.map es' clock')}
  have hheap:w'.heap[B.b]? =some (.map es' clock'):=hhs.1
  have hother:∀b,b≠B.b→w'.heap[b]? =w.heap[b]? :=hhs.2
  have size:w.heap.size≤w'.heap.size:=by simp[w']
  have jX:∀b,b<w.heap.size→¬iM μ σ.mem b→w'.heap[b]? =w.heap[b]? :=fun b _ hm=>hother b fun e=>hm ⟨t,B,wd,rows,ht,hB,e.symm,hv⟩
  have shape:∀b e n,w.shape? b=some (e,n)→w'.shape? b=some (e,n):=fun b e' n hs=>by
    by_cases hb:b=B.b
    ·subst hb;simp[World.shape?,hC] at hs
    ·simpa[World.shape?,hother b hb] using hs
  have old:∀u wd' rows'' ro B',bk σ.mem [(t,.live wd rows' false)] u=.live wd' rows'' ro→μ u=some B'→B'.virt=false→w.heap.size≤B'.b∨
      ∃t1 wd1 rows1 ro1 B1,σ.mem t1=.live wd1 rows1 ro1∧μ t1=some B1∧B1.b=B'.b∧B1.virt=false∧(ro=false→ro1=false):=by
    intro u wd' rows'' ro B' h1 h2 hv'
    by_cases hu:u=t
    ·subst hu;rw[hB] at h2;cases h2;exact .inr ⟨u,wd,rows,false,B,ht,hB,rfl,hv,fun _=>rfl⟩
    ·simp[bk,hu] at h1;exact .inr ⟨u,wd',rows'',ro,B',h1,h2,rfl,hv',id⟩
  have g:=h.grow (w':=w') size jX shape (fun _ _ h=>h) (eX old)
  refine h.step (w':=w') size rfl rfl rfl jX shape (fun _ _ h=>h) old (fun u=>?_) (fun u wd' rows'' ro hu=>?_) ?_
  · by_cases hu:u=t
    ·subst hu;simp[bk,hB]
    ·simp[bk,hu,h.free u]
  · by_cases hut:u=t
    · subst hut
      simp[bk] at hu
      obtain⟨rfl,rfl,rfl⟩:=hu
      refine⟨B,hB,hobj.width,hw,(fun _ h=>by rw[hmp] at h;cases h),(fun h=>by rw[hv] at h;cases h),(fun h=>by rw[hmp] at h;cases h),fun _=>hv,fun _=>⟨es',clock',hheap,hst,hsz,hmax,hbn,fun i r hr=>?_⟩⟩
      obtain⟨k,c,e,k1,k2,k3,k4⟩:=hc i r hr
      exact⟨k,c,e,k1,k2,k3,fun x hx=>(k4 x hx).grow g⟩
    · simp[bk,hut] at hu
      obtain⟨B',h1,h2⟩:=h.objs u wd' rows'' ro hu
      exact⟨B',h1,h2.grow g fun hv'=>hother _ fun e=>h.inj t u wd rows wd' rows'' ro B B' (fun e=>hut e.symm) ht hu hB h1 hv hv' e.symm⟩
  · intro u u' wd1 r1 wd2 r2 ro2 B1 B2 hne h1 h2 h3 h4 v1 v2
    have f1:∃wd r,σ.mem u=.live wd r false:=by
      by_cases hu:u=t
      ·subst hu;exact⟨_,_,ht⟩
      ·simp[bk,hu] at h1;exact⟨_,_,h1⟩
    have f2:∃wd r ro,σ.mem u'=.live wd r ro:=by
      by_cases hu:u'=t
      ·subst hu;exact⟨_,_,_,ht⟩
      ·simp[bk,hu] at h2;exact⟨_,_,_,h2⟩
    obtain⟨x1,y1,f1⟩:=f1
    obtain⟨x2,y2,z2,f2⟩:=f2
    exact h.inj u u' _ _ _ _ _ B1 B2 hne f1 f2 h3 h4 v1 v2
theorem aH.makeMap {t:TypeId}{tk:Nat}(ho:o.op=.makeMap t none)(hf:σ.mem tk=.free)(hd:∀d,o.dst=some d→d<N):aH P N o σ [tk] (.mapr tk) [(tk,.live 2 [] false)]:=by
  intro σ2 he2 hrd w0 W0 L μ a w K Q hs hK
  have hf2:σ2.mem tk=.free:=by rw[hrd tk (by simp)];exact hf
  have hs2:=hs.allocMap hf2
  have hrun:(execOp a.eval o).run P w=.ok (.value (.map (some w.heap.size))) (w.alloc (.map #[] 0)):=by
    simp[execOp,ho,Instr.makeMap,Result.andThen]
  unfold Oper.wp
  rw[hrun]
  exact hK _ _ _ (cB.sF hs2 (.mapr (B:=⟨w.heap.size,0,2,false,true⟩) (by simp[bq]) rfl) hd)
inductive mL (σ:az):AV→List AV→List Nat→Prop
  |own {t wd:Nat} {rows:List AV} {ro:Bool}:σ.mem t=.live wd rows ro→mL σ (.mapr t) rows [t]
  |frz {rows:List AV}:mL σ (.fmap rows) rows []
theorem mL.run {σ2:az}{x:AV}{rows:List AV}{rd:List Nat}(h:mL σ x rows rd)(hrd:∀t∈rd,σ2.mem t=σ.mem t)(hs:cB P N w0 W0 L μ σ2 a w){v:Value}(hv:cE (Wr W0 μ σ2.mem) μ w x v):
    ∃b es clock,v=.map (some b)∧w.heap[b]? =some (.map es clock)∧Stamped es clock∧es.size=rows.length∧es.size<maxLen∧∀ (i:Nat) (key:Value) (x:AV),rows[i]? =some (entry key x)→∃e,es[i]? =some e∧e.key=key∧cE (Wr W0 μ σ2.mem) μ w x e.val:=by
  cases h with
  | @own t wd rows ro hm=>
    have hm2:σ2.mem t=.live wd rows ro:=by rw[hrd t (by simp)];exact hm
    obtain⟨B,hB,hobj⟩:=hs.objs t wd rows ro hm2
    cases hv with
    | mapr a1 ap=>
      rw[hB] at a1;cases a1
      obtain⟨es,clock,h1,h2,h3,h4,h5⟩:=hobj.Le ap
      exact⟨B.b,es,clock,rfl,h1,h2,h3,h4,h5⟩
  | frz=>
    cases hv with
    | @fmap _ b es clock f h1 h2 h3 h4 h5 h6 h7 h8 h9=>
      refine⟨b,es,clock,rfl,h3,h4,h5,h6,fun i key x hr=>?_⟩
      obtain⟨key',x',e,k1,k2,k3,k4⟩:=h7 i _ hr
      obtain⟨rfl,rfl⟩:=vS k1
      exact⟨e,k2,k3,by rw[k4];exact h8 i _ _ hr⟩
theorem nU {d:TypeDesc}{rows:List AV}{es:Array MapEntry}(hks:kM d rows)(hl:es.size=rows.length)(h5:∀ (i:Nat) (key:Value) (x:AV),rows[i]? =some (entry key x)→∃e,es[i]? =some e∧e.key=key){key:Value}(hk:IsKey d key):
    (∀x∈es.toList,IsKey d x.key)∧((∃i x e,rows[i]? =some (entry key x)∧Instr.findNow d key es.toList 0=some (some (i,e.val))∧es[i]? =some e∧e.key=key)∨((∀x,entry key x∉rows)∧Instr.findNow d key es.toList 0=some none∧∀x∈es.toList,x.key≠key)):=by
  have each:∀ (i:Nat) (e:MapEntry),es[i]? =some e→∃key x,rows[i]? =some (entry key x)∧e.key=key∧IsKey d key:=by
    intro i e he
    have hi:i<rows.length:=by rw[←hl];exact(Array.getElem?_eq_some_iff.1 he).1
    obtain⟨key,x,h1,h2⟩:=hks rows[i] (List.getElem_mem hi)
    have h3:rows[i]? =some (entry key x):=by rw[bD hi,h1]
    obtain⟨e',h4,h6⟩:=h5 i key x h3
    rw[he] at h4;cases h4
    exact⟨key,x,h3,h6,h2⟩
  have hkeys:∀x∈es.toList,IsKey d x.key:=by
    intro x hx
    obtain⟨i,hi⟩:=List.getElem?_of_mem hx
    obtain⟨key,y,_,h1,h2⟩:=each i x (by simpa using hi)
    rw[h1];exact h2
  refine⟨hkeys,?_⟩
  rcases findNow_spec hk es.toList 0 hkeys with⟨h1,h2⟩|⟨j,e,h1,h2,h3⟩
  · refine .inr ⟨fun x hx=>?_,h1,h2⟩
    obtain⟨i,hi⟩:=List.getElem?_of_mem hx
    obtain⟨e,k1,k2⟩:=h5 i key x hi
    exact h2 e (Array.mem_toList_iff.2 (Array.mem_of_getElem? k1)) k2
  · have h2':es[j]? =some e:=by simpa using h2
    obtain⟨key',x,k1,k2,_⟩:=each j e h2'
    rw[h3] at k2
    subst k2
    exact .inl ⟨j,x,e,k1,by simpa using h1,h2',h3⟩
theorem aH.lookup {t:TypeId}{y x:Operand}{c:Bool}{ym:AV}{rows:List AV}{rd:List Nat}{key z:Value}{d:TypeDesc}{i:Nat}{r:AV}(ho:o.op=.lookup t y x c)(hy:σ.eval y=ym)(hsrc:mL σ ym rows rd)(hx:σ.eval x=.lit key)(hT:kj P t d z)
    (hk:IsKey d key) (hks:kM d rows) (hr:rows[i]? =some (entry key r)) (hd:∀d,o.dst=some d→d<N):aH P N o σ rd (if c then .tup [r,.lit (.bool true)] else r) []:=
  .val (fun σ2 he2 hrd w0 W0 L μ a w hs=>by
    obtain⟨kt,et,t1,t2,t3⟩:=hT.ty
    have k1:=hs.eval y
    rw[he2 y (by simp[ho,Op.operands]),hy] at k1
    have k2:=hs.eval x
    rw[he2 x (by simp[ho,Op.operands]),hx] at k2
    obtain⟨b,es,clock,hv,h1,h2,h3,h4,h5⟩:=hsrc.run hrd hs k1
    obtain⟨hkeys,hfind⟩:=nU hks h3 (fun i key x h=>let⟨e,a,b,_⟩:=h5 i key x h;⟨e,a,b⟩) hk
    obtain⟨e0,e1,e2,e3⟩:=h5 i key r hr
    rcases hfind with⟨j,x',e,f1,f2,f3,f4⟩|⟨f1,_⟩
    · have hij:j=i:=by
        have hnd:=h2.2.2
        have a1:(es.toList.map (·.key))[j]? =some key:=by rw[fI];simp[f3,f4]
        have a2:(es.toList.map (·.key))[i]? =some key:=by rw[fI];simp[e1,e2]
        exact(List.getElem?_inj (aY a1).1 hnd).1 (by rw[a1,a2])
      subst hij
      rw[e1] at f3;cases f3
      refine⟨if c then .tuple #[e0.val,.bool true] else e0.val,?_,?_⟩
      ·simp only[execOp,ho,hv,k2.val,Instr.lookup,Sem.run_bind,run_underlying t1,Result.andThen_ok,MapKept.run_getObj_map h1,run_checkKey t2 hk,run_findKey t2 f2,Sem.run_pure]
      · cases c with
        |true=>exact .tup (vs:=[e0.val,.bool true]) rfl (fun q cc v g1 g2=>by
            match q,g1,g2 with
            |0,g1,g2=>cases g1;cases g2;exact e3
            |1,g1,g2=>cases g1;cases g2;exact .lit)
        |false=>exact e3
    ·exact absurd (bO hr) (f1 r)) hd
theorem aH.Fb {t:TypeId}{y x:Operand}{c:Bool}{ym:AV}{rows:List AV}{rd:List Nat}{key z:Value}{d:TypeDesc}(ho:o.op=.lookup t y x c)(hy:σ.eval y=ym)(hsrc:mL σ ym rows rd)(hx:σ.eval x=.lit key)(hT:kj P t d z)
    (hk:IsKey d key) (hks:kM d rows) (hr:∀r,entry key r∉rows) (hd:∀d,o.dst=some d→d<N):aH P N o σ rd (if c then .tup [n7 z,.lit (.bool false)] else n7 z) []:=
  .val (fun σ2 he2 hrd w0 W0 L μ a w hs=>by
    obtain⟨kt,et,t1,t2,t3⟩:=hT.ty
    have k1:=hs.eval y
    rw[he2 y (by simp[ho,Op.operands]),hy] at k1
    have k2:=hs.eval x
    rw[he2 x (by simp[ho,Op.operands]),hx] at k2
    obtain⟨b,es,clock,hv,h1,h2,h3,h4,h5⟩:=hsrc.run hrd hs k1
    obtain⟨hkeys,hfind⟩:=nU hks h3 (fun i key x h=>let⟨e,a,b,_⟩:=h5 i key x h;⟨e,a,b⟩) hk
    rcases hfind with⟨j,x',e,f1,f2,f3,f4⟩|⟨f1,f2,f3⟩
    ·exact absurd (bO f1) (hr x')
    · refine ⟨if c then .tuple #[z,.bool false] else z,?_,?_⟩
      ·simp only[execOp,ho,hv,k2.val,Instr.lookup,Sem.run_bind,run_underlying t1,Result.andThen_ok,MapKept.run_getObj_map h1,run_checkKey t2 hk,run_findKey t2 f2,Sem.run_pure,t3 w]
      · cases c with
        |true=>exact .tup (vs:=[z,.bool false]) rfl (fun q cc v g1 g2=>by
            match q,g1,g2 with
            |0,g1,g2=>cases g1;cases g2;exact rA z
            |1,g1,g2=>cases g1;cases g2;exact .lit)
        |false=>exact rA z) hd
theorem aH.mapUpdate {t:TypeId}{y x v:Operand}{tk wd:Nat}{rows:List AV}{key z:Value}{d:TypeDesc}{i:Nat}{r r':AV}(ho:o.op=.mapUpdate t y x v)(hy:σ.eval y=.mapr tk)(hm:σ.mem tk=.live wd rows false)(hx:σ.eval x=.lit key)(hvv:σ.eval v=r')(hT:kj P t d z)
    (hk:IsKey d key) (hks:kM d rows) (hr:rows[i]? =some (entry key r)) (hd:∀d,o.dst=some d→d<N):aH P N o σ [tk] .any [(tk,.live wd (rows.set i (entry key r')) false)]:=by
  intro σ2 he2 hrd w0 W0 L μ a w K Q hs hK
  obtain⟨kt,et,t1,t2,t3⟩:=hT.ty
  have k1:=hs.eval y
  rw[he2 y (by simp[ho,Op.operands]),hy] at k1
  have k2:=hs.eval x
  rw[he2 x (by simp[ho,Op.operands]),hx] at k2
  have k3:=hs.eval v
  rw[he2 v (by simp[ho,Op.operands]),hvv] at k3
  have hm2:σ2.mem tk=.live wd rows false:=by rw[hrd tk (by simp)];exact hm
  obtain⟨B,hB,hobj⟩:=hs.objs tk wd rows false hm2
  generalize hv:a.eval y=yv at k1
  cases k1 with
  | mapr a1 ap =>
    rw[hB] at a1;cases a1
    obtain⟨es,clock,h1,h2,h3,h4,h5⟩:=hobj.Le ap
    obtain⟨es',clock',h1',h2',h3',h4',hb',h5'⟩:=hobj.map ap
    rw[h1] at h1';cases h1'
    obtain⟨hkeys,hfind⟩:=nU hks h3 (fun i key x h=>let⟨e,a,b,_⟩:=h5 i key x h;⟨e,a,b⟩) hk
    obtain⟨e0,e1,e2,e3⟩:=h5 i key r hr
    rcases hfind with⟨j,x',e,f1,f2,f3,f4⟩|⟨f1,_⟩
    · have hij :j=i:=by
        have hnd:=h2.2.2
        have a1:(es.toList.map (·.key))[j]? =some key:=by rw[fI];simp[f3,f4]
        have a2:(es.toList.map (·.key))[i]? =some key:=by rw[fI];simp[e1,e2]
        exact(List.getElem?_inj (aY a1).1 hnd).1 (by rw[a1,a2])
      subst hij
      have hrun:(execOp a.eval o).run P w=.ok .skip {w with heap:=w.heap.setIfInBounds B.b (.map (es.modify j fun e=>{e with key,val:=a.eval v}) clock)}:=by
        have hkk:((es[j]?).map (·.key)).getD key=key:=by simp[e1,e2]
        simp only[execOp,ho,hv,k2.val,Instr.mapUpdate,Sem.run_bind,run_underlying t1,Result.andThen_ok,MapKept.run_getObj_map h1,run_checkKey t2 hk,run_findKey t2 f2,hkk,run_keyThatStays hk,MapKept.run_setObj_map _ h1,Sem.run_pure]
      unfold Oper.wp
      rw[hrun]
      have hset:=hs.Fl (rows':=rows.set j (entry key r')) hm2 hB ap h1 (es':=es.modify j fun e=>{e with key,val:=a.eval v}) (clock':=clock)
        (stamped_modify h2 j _ (fun _ _=>rfl) (fun e _ he=>by rw[e1] at he;cases he;exact e2.symm)) ⟨by simpa using hb'.1,fun q e he=>by
          rw[Array.getElem?_modify] at he
          split at he
          ·rename_i hq;subst hq;rw[e1] at he;simp at he;subst he;show e0.born=_;exact hb'.2 _ _ e1
          ·exact hb'.2 q e he⟩ (by simpa using h3) (by simpa using h4) (hobj.wide.set (by rw[←hobj.wide j _ hr];rfl)) (fun q s hq=>by
          rw[List.getElem?_set] at hq
          by_cases hqj:j=q
          · subst hqj
            rw[if_pos rfl] at hq
            split at hq
            · cases hq
              refine⟨.lit key,.tup [r'],{e0 with key,val:=a.eval v},rfl,by simp[Array.getElem?_modify,e1],fun key' hk'=>by cases hk';rfl,fun x hx=>by cases hx;exact k3⟩
            ·cases hq
          · rw[if_neg hqj] at hq
            obtain⟨k,c,e,g1,g2,g3,g4⟩:=h5' q s hq
            exact⟨k,c,e,g1,by rw[Array.getElem?_modify,if_neg hqj];exact g2,g3,g4⟩)
      cases hdst:o.dst with
      |none=>exact hK μ _ _ (by rw[hdst];exact hset)
      | some dd=>
        have:=cB.sF (σ:=σ2) (ups:=[(tk,.live wd (rows.set j (entry key r')) false)]) hset (dst:=o.dst) (x:=.any) (v:=undef) .any hd
        exact hK μ _ _ (by simpa[hdst] using this)
    ·exact absurd (bO hr) (f1 r)
theorem aH.xC {t:TypeId}{y x v:Operand}{tk wd:Nat}{rows:List AV}{key z:Value}{d:TypeDesc}{r':AV}(ho:o.op=.mapUpdate t y x v)(hy:σ.eval y=.mapr tk)(hm:σ.mem tk=.live wd rows false)(hx:σ.eval x=.lit key)(hvv:σ.eval v=r')(hT:kj P t d z)
    (hk:IsKey d key) (hks:kM d rows) (hr:∀r,entry key r∉rows) (hroom:rows.length+1<maxLen) (hwd:wd=2) (hd:∀d,o.dst=some d→d<N):aH P N o σ [tk] .any [(tk,.live wd (rows++ [entry key r']) false)]:=by
  intro σ2 he2 hrd w0 W0 L μ a w K Q hs hK
  obtain⟨kt,et,t1,t2,t3⟩:=hT.ty
  have k1:=hs.eval y
  rw[he2 y (by simp[ho,Op.operands]),hy] at k1
  have k2:=hs.eval x
  rw[he2 x (by simp[ho,Op.operands]),hx] at k2
  have k3:=hs.eval v
  rw[he2 v (by simp[ho,Op.operands]),hvv] at k3
  have hm2:σ2.mem tk=.live wd rows false:=by rw[hrd tk (by simp)];exact hm
  obtain⟨B,hB,hobj⟩:=hs.objs tk wd rows false hm2
  generalize hv:a.eval y=yv at k1
  cases k1 with
  | mapr a1 ap =>
    rw[hB] at a1;cases a1
    obtain⟨es,clock,h1,h2,h3,h4,h5⟩:=hobj.Le ap
    obtain⟨es',clock',h1',h2',h3',h4',hb',h5'⟩:=hobj.map ap
    rw[h1] at h1';cases h1'
    obtain⟨hkeys,hfind⟩:=nU hks h3 (fun i key x h=>let⟨e,a,b,_⟩:=h5 i key x h;⟨e,a,b⟩) hk
    rcases hfind with⟨j,x',e,f1,f2,f3,f4⟩|⟨f1,f2,f3⟩
    ·exact absurd (bO f1) (hr x')
    · have hrun:(execOp a.eval o).run P w=.ok .skip {w with heap:=w.heap.setIfInBounds B.b (.map (es.push {key,val:=a.eval v,born:=clock}) (clock+1))}:=by
        simp only[execOp,ho,hv,k2.val,Instr.mapUpdate,Sem.run_bind,run_underlying t1,Result.andThen_ok,MapKept.run_getObj_map h1,run_checkKey t2 hk,run_findKey t2 f2,MapKept.run_setObj_map _ h1,Sem.run_pure]
      unfold Oper.wp
      rw[hrun]
      have hset:=hs.Fl (rows':=rows++ [entry key r']) hm2 hB ap h1 (es':=es.push {key,val:=a.eval v,born:=clock}) (clock':=clock+1)
        (stamped_push h2 f3) ⟨by simp[hb'.1],fun q e he=>by
          rw[Array.getElem?_push] at he
          split at he
          ·rename_i hq;cases he;show clock=q;rw[hq];exact hb'.1
          ·exact hb'.2 q e he⟩ (by simp[h3]) (by simp;omega) (.append hobj.wide (.cons (by rw[hwd];rfl) (.nil _))) (fun q s hq=>by
          rw[List.getElem?_append] at hq
          split at hq
          · rename_i hlt
            obtain⟨k,c,e,g1,g2,g3,g4⟩:=h5' q s hq
            exact⟨k,c,e,g1,by rw[Array.getElem?_push,if_neg (by omega)];exact g2,g3,g4⟩
          · rename_i hlt
            have hq0:q-rows.length=0:=by
              have:=(aY hq).1
              simp at this;omega
            rw[hq0] at hq
            simp at hq
            subst hq
            exact⟨.lit key,.tup [r'],{key,val:=a.eval v,born:=clock},rfl,by rw[Array.getElem?_push,if_pos (by omega)],(fun key' hk'=>by cases hk';rfl),(fun x hx=>by cases hx;exact k3)⟩)
      cases hdst:o.dst with
      |none=>exact hK μ _ _ (by rw[hdst];exact hset)
      | some dd=>
        have:=cB.sF (σ:=σ2) (ups:=[(tk,.live wd (rows++ [entry key r']) false)]) hset (dst:=o.dst) (x:=.any) (v:=undef) .any hd
        exact hK μ _ _ (by simpa[hdst] using this)
theorem aH.Jq {y:Operand}{t:TypeId}{ym:AV}{rows:List AV}{rd:List Nat}{z:Value}{d:TypeDesc}(ho:o.op=.call {callee:=.builtin .len,args:= #[y],argTypes:= #[t]})(hy:σ.eval y=ym)(hsrc:mL σ ym rows rd)(hT:kj P t d z)
    (hd:∀d,o.dst=some d→d<N):aH P N o σ rd (.lit (.int .i64 rows.length)) []:=
  .val (fun σ2 he2 hrd w0 W0 L μ a w hs=>by
    obtain⟨kt,et,t1,t2,t3⟩:=hT.ty
    have k1:=hs.eval y
    rw[he2 y (by simp[ho,Op.operands,Call.operands]),hy] at k1
    obtain⟨b,es,clock,hv,h1,h2,h3,h4,h5⟩:=hsrc.run hrd hs k1
    refine⟨.int .i64 rows.length,?_,.lit⟩
    simp[execOp,ho,resolve,invoke,builtin,hv,Builtin.len_,run_underlying t1,MapKept.run_getObj_map h1,goInt,h3,Result.andThen]) hd
end
end Go.Am
