/- Walks of functions by unfolding over abstract states; runs of functions by an evaluator that is proved. By an AI agent. -/
import Derived.Test.YtkhjcnjicjgfiaaGreatDoorWO10
set_option linter.unusedSimpArgs false
set_option linter.unusedVariables false
namespace Go.Am
open Go
inductive Tr (α:Type) where
  |nil
  |node (l:Tr α) (v:Option α) (r:Tr α)
namespace Tr
variable {α : Type}
def get:Tr α→Nat→Option α
  |.nil,_=>none
  | .node l v r,n=>match n with
    |0=>v
    | n+1=>match Nat.beq (Nat.mod n 2) 0 with
      |true=>get l (Nat.div n 2)
      |false=>get r (Nat.div n 2)
def J7:Tr α→Tr α
  |.nil=>.nil
  |.node l _ _=>l
def Kb:Tr α→Tr α
  |.nil=>.nil
  |.node _ _ r=>r
def val:Tr α→Option α
  |.nil=>none
  |.node _ v _=>v
def uS:Nat→Tr α→Nat→α→Tr α
  |0,t,_,_=>t
  | f +1,t,n,x=>match n with
    |0=>.node (J7 t) (some x) (Kb t)
    | n+1=>match Nat.beq (Nat.mod n 2) 0 with
      |true=>.node (uS f (J7 t) (Nat.div n 2) x) (val t) (Kb t)
      |false=>.node (J7 t) (val t) (uS f (Kb t) (Nat.div n 2) x)
theorem Cn (t:Tr α)(k:Nat):t.get k=(Tr.node (J7 t) (val t) (Kb t)).get k:=by
  cases t with
  | nil=>
    cases k with
    |zero=>rfl
    |succ k=>simp only[get,J7,Kb];cases Nat.beq (Nat.mod k 2) 0<;>rfl
  |node l v r=>rfl
def put (t:Tr α)(n:Nat)(x:α):Tr α:=uS (n+1) t n x
theorem BX {a b:Nat}(h1:Nat.beq (Nat.mod a 2) 0=Nat.beq (Nat.mod b 2) 0)(h2:Nat.div a 2=Nat.div b 2):a=b:=by
  have e1:Nat.mod a 2=a%2:=rfl
  have e2:Nat.mod b 2=b%2:=rfl
  have e3:Nat.div a 2=a/2:=rfl
  have e4:Nat.div b 2=b/2:=rfl
  rw[e1,e2] at h1
  rw[e3,e4] at h2
  have hb:∀c:Nat,Nat.beq (c%2) 0=true∨Nat.beq (c%2) 0=false:=fun c=>by cases Nat.beq (c%2) 0<;>simp
  have ht:∀c:Nat,Nat.beq (c%2) 0=true→c%2=0:=fun c h=>Nat.eq_of_beq_eq_true h
  have hf:∀c:Nat,Nat.beq (c%2) 0=false→c%2≠0:=fun c h e=>by rw[e] at h;simp at h
  rcases hb a with ha|ha
  · rw[ha] at h1
    have:=ht a ha
    have:=ht b h1.symm
    omega
  · rw[ha] at h1
    have:=hf a ha
    have:=hf b h1.symm
    omega
theorem tG:∀ (f:Nat) (t:Tr α) (n:Nat) (x:α) (k:Nat),n<f→(uS f t n x).get k=if k=n then some x else t.get k
  |0,_,_,_,_,h=>by omega
  | f+1,t,0,x,k,_=>by
    rw[Cn t k]
    cases k with
    |zero=>rfl
    |succ k=>rw[if_neg (by omega)];rfl
  | f + 1, t,n+1,x,k,h=>by
    have hlt:Nat.div n 2<f:=by have:n/2≤n:=Nat.div_le_self _ _;show n/2<f;omega
    have ihl:=fun k=>tG f (J7 t) (Nat.div n 2) x k hlt
    have ihr:=fun k=>tG f (Kb t) (Nat.div n 2) x k hlt
    rw[Cn t k]
    cases hn:Nat.beq (Nat.mod n 2) 0 with
    | true =>
      have e:uS (f+1) t (n+1) x=.node (uS f (J7 t) (Nat.div n 2) x) (val t) (Kb t):=by simp only[uS,hn]
      rw[e]
      cases k with
      |zero=>rw[if_neg (by omega)];rfl
      | succ k=>
        simp only[get]
        cases hk:Nat.beq (Nat.mod k 2) 0 with
        | true=>
          simp only[ihl]
          by_cases e:Nat.div k 2=Nat.div n 2
          ·rw[if_pos e,if_pos (by rw[BX (by rw[hk,hn]) e])]
          ·rw[if_neg e,if_neg (fun h=>e (by rw[Nat.succ.inj h]))]
        |false=>rw[if_neg (fun h=>by rw[Nat.succ.inj h,hn] at hk;cases hk)]
    | false=>
      have e:uS (f+1) t (n+1) x=.node (J7 t) (val t) (uS f (Kb t) (Nat.div n 2) x):=by simp only[uS,hn]
      rw[e]
      cases k with
      |zero=>rw[if_neg (by omega)];rfl
      | succ k=>
        simp only[get]
        cases hk:Nat.beq (Nat.mod k 2) 0 with
        | false=>
          simp only[ihr]
          by_cases e:Nat.div k 2=Nat.div n 2
          ·rw[if_pos e,if_pos (by rw[BX (by rw[hk,hn]) e])]
          ·rw[if_neg e,if_neg (fun h=>e (by rw[Nat.succ.inj h]))]
        |true=>rw[if_neg (fun h=>by rw[Nat.succ.inj h,hn] at hk;cases hk)]
theorem sr (t:Tr α)(n:Nat)(x:α)(k:Nat):(t.put n x).get k=if k=n then some x else t.get k:=tG _ _ _ _ _ (Nat.lt_succ_self n)
end Tr
structure ES where
  sl:Tr AV
  m:Tr MS
  nx:Nat
def jd (S:ES):Operand→AV
  | .tmp t=>match S.sl.get t with
    |some x=>x
    |none=>.any
  |.const v=>.lit v
  |.global g=>.lit (.pointer (some ⟨g,0,none⟩))
  |.func f=>.lit (.func (.func f) #[] #[])
def mE (S:ES)(t:Nat):MS:=match S.m.get t with
  |some s=>s
  |none=>.free
def den (S:ES):aA:=⟨fun i=>jd S (.tmp i),mE S⟩
theorem bL (S:ES)(y:Operand):(den S).eval y=jd S y:=by cases y<;>rfl
theorem gm (S:ES)(t:Nat):(den S).mem t=mE S t:=rfl
def Dd (m:Tr MS):ML→Tr MS
  |[]=>m
  |(k,s)::r=>(Dd m r).put k s
def J0 (sl:Tr AV)(dst:Option Nat)(x:AV):Tr AV:=match dst with
  |none=>sl
  |some d=>sl.put d x
def oy (S:ES)(dst:Option Nat)(x:AV)(ups:ML)(nx:Nat):ES:=⟨J0 S.sl dst x,Dd S.m ups,nx⟩
theorem wT (m:Tr MS):∀ (ups:ML) (t:Nat),(match(Dd m ups).get t with|some s=>s|none=>.free:MS)=bh (fun t=>match m.get t with|some s=>s|none=>.free) ups t
  |[],t=>rfl
  | (k,s)::r,t=>by
    simp only[Dd,Tr.sr,bh]
    by_cases h:t=k
    ·simp[h]
    ·rw[if_neg h,if_neg h];exact wT m r t
theorem wu (S:ES)(dst:Option Nat)(x:AV)(ups:ML)(nx:Nat):den (oy S dst x ups nx)=(den S).xe dst x ups:=by
  unfold den aA.xe
  congr 1
  · funext i
    cases dst with
    |none=>rfl
    | some d=>
      simp only[oy,J0,jd,Tr.sr,dz]
      by_cases h:i=d
      ·simp[h]
      ·simp[h]
  · funext t
    exact wT S.m ups t
theorem aD.congr {P:Program}{N:Nat}{o:Oper}{σ σ':aA}{rd:List Nat}{x:AV}{ups:ML}(h:aD P N o σ rd x ups)(h1:∀y∈o.op.operands,σ'.eval y=σ.eval y)(h2:∀t∈rd,σ'.mem t=σ.mem t):aD P N o σ' rd x ups:=
  fun σ2 a b=>h σ2 (fun y hy=>(a y hy).trans (h1 y hy)) (fun t ht=>(b t ht).trans (h2 t ht))
def mX (S:ES):List Operand→SL
  |[]=>[]
  | y::r=>match y with
    |.tmp t=>(t,jd S (.tmp t))::mX S r
    |_=>mX S r
theorem DA (S:ES):∀ (ys:List Operand) (y:Operand),y∈ys→eM (mX S ys) y=jd S y:=by
  intro ys y hy
  cases y with
  | tmp t =>
    induction ys with
    |nil=>cases hy
    | cons z r ih=>
      have tail:Operand.tmp t∈r→eM (mX S r) (.tmp t)=jd S (.tmp t):=ih
      cases z with
      | tmp u=>
        show sS ((u,jd S (.tmp u))::mX S r) t=_
        unfold sS
        cases hb:Nat.beq t u with
        |true=>rw[beq_eq hb]
        | false=>
          refine tail ?_
          rcases dm.1 hy with h|h
          ·cases h;rw[Nat.beq_refl] at hb;cases hb
          ·exact h
      | _=>
        refine tail ?_
        rcases dm.1 hy with h|h
        ·cases h
        ·exact h
  |_=>rfl
def J3:AV→Option Nat
  |.own t _ _=>some t
  |.ptr t _ _=>some t
  |.mapr t=>some t
  |_=>none
def k8 (S:ES):List Operand→ML
  |[]=>[]
  | y::r=>match J3 (jd S y) with
    |some t=>(t,mE S t)::k8 S r
    |none=>k8 S r
def yH (t:Nat):ML→Bool
  |[]=>false
  | (k,_)::r=>match Nat.beq t k with
    |true=>true
    |false=>yH t r
theorem oB (S:ES):∀ (ys:List Operand) (t:Nat),yH t (k8 S ys)=true→dX (k8 S ys) t=mE S t
  |[],t,h=>by cases h
  | y ::r,t,h=>by
    unfold k8 at h ⊢
    cases hr:J3 (jd S y) with
    |none=>rw[hr] at h;exact oB S r t h
    | some u=>
      rw[hr] at h
      simp only[yH,dX] at h ⊢
      cases hb:Nat.beq t u with
      |true=>rw[beq_eq hb]
      |false=>rw[hb] at h;exact oB S r t h
abbrev ER:=List Nat×AV×ML×Nat
def opsOf (o:Oper):List Operand:=o.op.operands.toList
def sJ (m:ML):List Nat→Bool
  |[]=>true
  | t::r=>match yH t m with
    |true=>sJ m r
    |false=>false
theorem sR {m:ML}:∀ {l:List Nat},sJ m l=true→∀t∈l,yH t m=true
  |[],_,t,h=>by cases h
  | u ::r,h,t,ht=>by
    simp only[sJ] at h
    split at h
    · rename_i hu
      rcases dm.1 ht with h'|h'
      ·rw[h'];exact hu
      ·exact sR h t h'
    ·cases h
def j4 (Γ:bZ)(S:ES)(o:Oper):Option ER:=
  match cN Γ (mX S (opsOf o)) (k8 S (opsOf o)) o.dst o.op with
  | some (rd,x,ups)=>match sJ (k8 S (opsOf o)) rd with
    |true=>some (rd,x,ups,S.nx)
    |false=>none
  |none=>none
section
variable {P : Program} {N : Nat} {Γ : bZ} {o : Oper} {S : ES}
def jJ (P:Program)(N:Nat)(o:Oper)(S:ES)(q:ER):Prop:=aD P N o (den S) q.1 q.2.1 q.2.2.1
theorem gH (hΓ:Γ.Good P)(hd:cM N o.dst=true){q:ER}(h:j4 Γ S o=some q):jJ P N o S q:=by
  unfold j4 at h
  split at h
  · rename_i rd x ups hp
    split at h
    · rename_i hk
      cases h
      have h1:qU P N o [] (mX S (opsOf o)) (k8 S (opsOf o)) (fun rd' x' ups' _ _ _=>rd'=rd∧x'=x∧ups'=ups) (cN Γ (mX S (opsOf o)) (k8 S (opsOf o)) o.dst o.op):=by
        rw[hp];exact⟨rfl,rfl,rfl⟩
      obtain⟨rd',x',ups',h2,rfl,rfl,rfl⟩:=iw hΓ hd h1
      refine h2.congr (fun y hy=>?_) (fun t ht=>?_)
      ·rw[bL,ev_eq,DA S _ y (by simpa[opsOf] using hy)]
      ·rw[gm,mem_eq,oB S _ t (sR hk t ht)]
    ·cases h
  ·cases h
end
end Go.Am
namespace Go.Am
open Go Go.RowKit Go.Lib MapKept
def Bx:AV→Option Nat
  |.lit (.int _ (.ofNat k))=>some k
  |_=>none
theorem ld {x:AV}{k:Nat}(h:Bx x=some k):∃kd,x=.lit (.int kd (k:Int)):=by
  unfold Bx at h
  split at h
  ·cases h;exact⟨_,rfl⟩
  ·cases h
def oJ (S:ES)(d:Nat):Option Operand→Option Nat
  |none=>some d
  |some z=>Bx (jd S z)
theorem jh {S:ES}{d l:Nat}{lo:Option Operand}(h:oJ S d lo=some l):lo=none∧l=d∨∃z k,lo=some z∧(den S).eval z=.lit (.int k (l:Nat)):=by
  cases lo with
  |none=>cases h;exact .inl ⟨rfl,rfl⟩
  | some z=>
    obtain⟨kd,hk⟩:=ld h
    exact .inr ⟨z,kd,rfl,by rw[bL];exact hk⟩
def Kx (Γ:bZ)(S:ES)(t:TypeId)(y z:Operand):Option ER:=
  match kN Γ t,jd S y,Bx (jd S z) with
  | some (.sl _ wd _),.own tk off len,some i=>match mE S tk with
    | .live wd' _ _=>match Nat.beq wd wd',Nat.ble (i+1) len with
      |true,true=>some ([tk],.ptr tk (off+i) 0,[],S.nx)
      |_,_=>none
    |_=>none
  | some (.sl _ wd _),.sl wd' rows,some i=>match Nat.beq wd wd',gd rows i with
    |true,some r=>some ([],.fptr r 0,[],S.nx)
    |_,_=>none
  | some (.ar _ len _ wd _),.ptr tk i0 k0,some i=>match Nat.ble (i+1) len with
    |true=>some ([],.ptr tk i0 (k0+i*wd),[],S.nx)
    |false=>none
  |_,_,_=>none
def Jd (Γ:bZ)(S:ES)(t:TypeId)(y:Operand)(lo hi mx:Option Operand):Option ER:=
  match mx with
  | none =>match kN Γ t,jd S y with
    | some (.sl _ wd _),.own tk off len=>match mE S tk,oJ S 0 lo,oJ S len hi with
      | .live wd' _ _,some l,some h=>match Nat.beq wd wd',Nat.ble l h,Nat.ble h len with
        |true,true,true=>some ([tk],.own tk (off+l) (h-l),[],S.nx)
        |_,_,_=>none
      |_,_,_=>none
    | some (.sl _ wd _),.sl wd' rows=>match oJ S 0 lo,oJ S rows.length hi with
      | some l,some h=>match Nat.beq wd wd',Nat.ble l h,Nat.ble h rows.length with
        |true,true,true=>some ([],.sl wd' ((rows.drop l).take (h-l)),[],S.nx)
        |_,_,_=>none
      |_,_=>none
    | some .str,.lit (.string s)=>match oJ S 0 lo,oJ S s.size hi with
      | some l,some h=>match Nat.ble l h,Nat.ble h s.size with
        |true,true=>some ([],.lit (.string (s.extract l h)),[],S.nx)
        |_,_=>none
      |_,_=>none
    |_,_=>none
  | some mx=>match lo,hi with
    | none,some hi=>match kN Γ t,Bx (jd S hi),Bx (jd S mx) with
      | some (.sl _ _ _),some 0,some 0=>match jd S y with
        |.own _ _ _=>some ([],.emp,[],S.nx)
        |.sl _ _=>some ([],.emp,[],S.nx)
        |.emp=>some ([],.emp,[],S.nx)
        | .lit v=>match nV v with
          |true=>some ([],.emp,[],S.nx)
          |false=>none
        |_=>none
      |_,_,_=>none
    |_,_=>none
def uP (S:ES):Bool:=match mE S S.nx with
  |.free=>true
  |_=>false
theorem mh {S:ES}(h:uP S=true):(den S).mem S.nx=.free:=by
  unfold uP at h
  rw[gm]
  split at h
  ·assumption
  ·cases h
def KX (Γ:bZ)(S:ES)(t:TypeId)(len:Nat)(parts:List (Nat×Operand)):Option ER:=
  match kN Γ t with
  | some (.sl _ wd _)=>match uP S,mB wd 0 (parts.map fun p=>(p.1,jd S p.2)),Nat.beq parts.length len,Nat.ble (len*wd) 16777216 with
    |true,true,true,true=>some ([S.nx],.own S.nx 0 len,[(S.nx,.live wd (parts.map fun p=>jd S p.2) false)],S.nx+1)
    |_,_,_,_=>none
  |_=>none
def Gx (S:ES)(wd:Nat):AV→Option (List AV×List Nat)
  | .own t off len=>match mE S t with
    | .live wd' rows false=>match Nat.beq wd wd',Nat.ble (off+len) rows.length with
      |true,true=>some ((rows.drop off).take len,[t])
      |_,_=>none
    |_=>none
  |.emp=>some ([],[])
  | .lit v=>match nV v with
    |true=>some ([],[])
    |false=>none
  |_=>none
def K7 (S:ES)(wd:Nat):AV→Option (List AV×List Nat)
  | .own t off len=>match mE S t with
    | .live wd' rows _=>match Nat.beq wd wd',Nat.ble (off+len) rows.length with
      |true,true=>some ((rows.drop off).take len,[t])
      |_,_=>none
    |_=>none
  | .sl wd' rows=>match Nat.beq wd wd' with
    |true=>some (rows,[])
    |false=>none
  |.emp=>some ([],[])
  | .lit v=>match nV v with
    |true=>some ([],[])
    |false=>none
  |_=>none
def LK (Γ:bZ)(S:ES)(y z:Operand)(t t2:TypeId):Option ER:=
  match kN Γ t,kN Γ t2 with
  | some (.sl _ wd bytes),some (.sl _ _ _)=>match uP S,Gx S wd (jd S y),K7 S wd (jd S z) with
    | true,some (rows0,k),some (news,rd)=>match j7 (flat news),Nat.ble ((rows0.length+news.length)*bytes) 140737488355328,Nat.ble (rows0.length+news.length) 9223372036854775807 with
      |true,true,true=>some (S.nx::(k++rd),.own S.nx 0 (rows0++news).length,(S.nx,.live wd (rows0++news) false)::k.map fun t=>(t,.dead),S.nx+1)
      |_,_,_=>none
    |_,_,_=>none
  |_,_=>none
def BL (Γ:bZ)(S:ES)(t:TypeId):Option ER:=
  match mL (cU Γ t),uP S with
  |some x,true=>some ([S.nx],.ptr S.nx 0 0,[(S.nx,.live (cells x).length [x] false)],S.nx+1)
  |_,_=>none
def K4 (S:ES)(y:Operand):Option ER:=
  match(jd S y).kF,uP S with
  |true,true=>some ([S.nx],.ptr S.nx 0 0,[(S.nx,.live (cells (jd S y)).length [jd S y] false)],S.nx+1)
  |_,_=>none
section
variable {P : Program} {N : Nat} {Γ : bZ} {o : Oper} {S : ES} {q : ER}
theorem Jn (hΓ:Γ.Good P)(hd:cM N o.dst=true){t:TypeId}{y z:Operand}(ho:o.op=.indexAddr t y z)(h:Kx Γ S t y z=some q):jJ P N o S q:=by
  unfold Kx at h
  split at h
  · rename_i e wd b tk off len i ht hy hz
    rw[cw] at ht
    have ok:=hΓ.look ht
    obtain⟨_,_,te⟩:=ok.2.2.2.2
    obtain⟨kd,hz'⟩:=ld hz
    split at h
    · rename_i wd' rows ro hm
      split at h
      · rename_i h1 h2
        cases h
        have hw:=beq_eq h1
        subst hw
        have:=aD.v8 (P:=P) (N:=N) (σ:=den S) ho (by rw[bL];exact hy) (by rw[bL];exact hz') te.ty ok.2.2.2.1 (Int.natCast_nonneg i) (by have:=cr h2;omega) ⟨_,_,by rw[gm];exact hm⟩ (aJ hd)
        unfold jJ;simpa using this
      ·cases h
    ·cases h
  · rename_i e wd b wd' rows i ht hy hz
    rw[cw] at ht
    have ok:=hΓ.look ht
    obtain⟨_,_,te⟩:=ok.2.2.2.2
    obtain⟨kd,hz'⟩:=ld hz
    split at h
    · rename_i r h1 h2
      cases h
      have hw:=beq_eq h1
      subst hw
      rw[eU] at h2
      exact aD.yB (P:=P) (N:=N) (σ:=den S) ho (by rw[bL];exact hy) (by rw[bL];exact hz') te.ty ok.2.2.2.1 (Int.natCast_nonneg i) (by simpa using h2) (aJ hd)
    ·cases h
  · rename_i n len e wd z0 tk i0 k0 i ht hy hz
    rw[cw] at ht
    have ok:=hΓ.look ht
    obtain⟨kd,hz'⟩:=ld hz
    split at h
    · rename_i h1
      cases h
      have:=aD.vr (P:=P) (N:=N) (σ:=den S) ho (by rw[bL];exact hy) (by rw[bL];exact hz') ok.2.2.2.1 ok.2.2.2.2 (Int.natCast_nonneg i) (by have:=cr h1;omega) (aJ hd)
      unfold jJ;simpa using this
    ·cases h
  ·cases h
theorem JF (hΓ:Γ.Good P)(hd:cM N o.dst=true){t:TypeId}{y:Operand}{lo hi mx:Option Operand}(ho:o.op=.slice t y lo hi mx)(h:Jd Γ S t y lo hi mx=some q):jJ P N o S q:=by
  cases mx with
  | none =>
    simp only[Jd] at h
    split at h
    · rename_i e wd b tk off len ht hy
      rw[cw] at ht
      have ok:=hΓ.look ht
      obtain⟨_,_,te⟩:=ok.2.2.2.2
      split at h
      · rename_i wd' rows ro l hh hm hl hhh
        split at h
        · rename_i h1 h2 h3
          cases h
          have hw:=beq_eq h1
          subst hw
          exact aD.vF (P:=P) (N:=N) (σ:=den S) ho (by rw[bL];exact hy) (jh hl) (jh hhh) (cr h2) (cr h3) te.ty ok.2.2.2.1 ⟨_,_,by rw[gm];exact hm⟩ (aJ hd)
        ·cases h
      ·cases h
    · rename_i e wd b wd' rows ht hy
      rw[cw] at ht
      have ok:=hΓ.look ht
      obtain⟨_,_,te⟩:=ok.2.2.2.2
      split at h
      · rename_i l hh hl hhh
        split at h
        · rename_i h1 h2 h3
          cases h
          have hw:=beq_eq h1
          subst hw
          exact aD.Ap (P:=P) (N:=N) (σ:=den S) ho (by rw[bL];exact hy) (jh hl) (jh hhh) (cr h2) (cr h3) te.ty ok.2.2.2.1 (aJ hd)
        ·cases h
      ·cases h
    · rename_i s ht hy
      rw[cw] at ht
      have ok:=hΓ.look ht
      split at h
      · rename_i l hh hl hhh
        split at h
        · rename_i h2 h3
          cases h
          exact aD.GK (P:=P) (N:=N) (σ:=den S) ho (by rw[bL];exact hy) ok.2.2.2 (jh hl) (jh hhh) (cr h2) (cr h3) (aJ hd)
        ·cases h
      ·cases h
    ·cases h
  | some mx=>
    simp only[Jd] at h
    split at h
    · rename_i hi
      split at h
      · rename_i e wd b ht h1 h2
        rw[cw] at ht
        have ok:=hΓ.look ht
        obtain⟨_,_,te⟩:=ok.2.2.2.2
        obtain⟨k1,h1'⟩:=ld h1
        obtain⟨k2,h2'⟩:=ld h2
        have base:∀x,jd S y=x→((∃tk off len,x=.own tk off len)∨(∃wd rows,x=.sl wd rows)∨x=.emp∨x=.lit (.slice none 0 0))→jJ P N o S ([],.emp,[],S.nx):=fun x hy hx=>
          aD.slice3 (P:=P) (N:=N) (σ:=den S) ho (by rw[bL];exact hy) hx (by rw[bL];exact h1') (by rw[bL];exact h2') te.ty ⟨_,ok.2.2.2.1⟩ (aJ hd)
        split at h
        ·rename_i hy;cases h;exact base _ hy (.inl ⟨_,_,_,rfl⟩)
        ·rename_i hy;cases h;exact base _ hy (.inr (.inl ⟨_,_,rfl⟩))
        ·rename_i hy;cases h;exact base _ hy (.inr (.inr (.inl rfl)))
        · rename_i hy
          split at h
          ·rename_i hn;cases h;rw[eW hn] at hy;exact base _ hy (.inr (.inr (.inr rfl)))
          ·cases h
        ·cases h
      ·cases h
    ·cases h
theorem Ji (hΓ:Γ.Good P)(hd:cM N o.dst=true){t:TypeId}{len:Nat}{parts:Array (Nat×Operand)}(ho:o.op=.buildSlice t len parts)(h:KX Γ S t len parts.toList=some q):jJ P N o S q:=by
  unfold KX at h
  split at h
  · rename_i e wd bytes ht
    rw[cw] at ht
    have ok:=hΓ.look ht
    obtain⟨i,z',te⟩:=ok.2.2.2.2
    split at h
    · rename_i g0 g1 g2 g3
      cases h
      have g1':=nj g1
      have g2':parts.toList.length=len:=beq_eq g2
      have g3':len*wd≤16777216:=cr g3
      have hev:(fun p:Nat×Operand=>(p.1,jd S p.2))=fun p=>(p.1,(den S).eval p.2):=by funext p;rw[bL]
      rw[hev] at g1'
      have hfi:=lK _ 0 [] g1' (by simp)
      have hmap:(parts.toList.map fun p=>jd S p.2)=(parts.toList.map fun p=>(p.1,(den S).eval p.2)).map (·.2):=by
        rw[List.map_map];apply List.map_congr_left;intro p _;simp[bL]
      have:=aD.buildSlice (P:=P) (N:=N) (σ:=den S) (tk:=S.nx) ho te g3' (rows:=(parts.toList.map fun p=>(p.1,(den S).eval p.2)).map (·.2)) (by simp[←g2']) (lT _ 0 g1')
        (by simp only[List.nil_append,cj] at hfi;rw[←g2'];exact hfi) (mh g0) (aJ hd)
      unfold jJ
      rw[hmap]
      simp only[cj,g2'] at this
      exact this
    ·cases h
  ·cases h
theorem Fz {wd:Nat}{x:AV}{rows:List AV}{k:List Nat}(h:Gx S wd x=some (rows,k)):rq (den S) wd x rows k:=by
  unfold Gx at h
  split at h
  · split at h
    · rename_i hm
      split at h
      · rename_i h1 h2
        have hw:=beq_eq h1
        subst hw
        cases h
        exact .own (by rw[gm];exact hm) (cr h2)
      ·cases h
    ·cases h
  ·cases h;exact .emp
  · split at h
    ·rename_i hn;cases h;rw[eW hn];exact .nil
    ·cases h
  ·cases h
theorem Ii {wd:Nat}{x:AV}{rows:List AV}{k:List Nat}(h:K7 S wd x=some (rows,k)):Src (den S) wd x rows k:=by
  unfold K7 at h
  split at h
  · split at h
    · rename_i hm
      split at h
      · rename_i h1 h2
        have hw:=beq_eq h1
        subst hw
        cases h
        exact .own (by rw[gm];exact hm) (cr h2)
      ·cases h
    ·cases h
  · split at h
    · rename_i h1
      have hw:=beq_eq h1
      subst hw
      cases h
      exact .sl
    ·cases h
  ·cases h;exact .emp
  · split at h
    ·rename_i hn;cases h;rw[eW hn];exact .nil
    ·cases h
  ·cases h
theorem HI (hΓ:Γ.Good P)(hd:cM N o.dst=true){y z:Operand}{t t2:TypeId}(ho:o.op=.call {callee:=.builtin .append,args:= #[y,z],argTypes:= #[t,t2]})(h:LK Γ S y z t t2=some q):jJ P N o S q:=by
  unfold LK at h
  split at h
  · rename_i e wd bytes e2 wd2 bytes2 ht ht2
    rw[cw] at ht ht2
    have ok:=hΓ.look ht
    obtain⟨i,z',te⟩:=ok.2.2.2.2
    have ok2:=hΓ.look ht2
    obtain⟨i2,z2,te2⟩:=ok2.2.2.2.2
    split at h
    · rename_i rows0 k news rd hf hb hx
      split at h
      · rename_i h1 h2 h3
        cases h
        have h2':=cr h2
        have h3':=cr h3
        exact aD.append (P:=P) (N:=N) (σ:=den S) (tn:=S.nx) ho te te2.ty (by rw[bL];exact Fz hb) (by rw[bL];exact Ii hx) h1 h2' (by unfold maxLen;omega) (mh hf) (aJ hd)
      ·cases h
    ·cases h
  ·cases h
theorem DU (hΓ:Γ.Good P)(hd:cM N o.dst=true){t:TypeId}(ho:o.op=.alloc t)(h:BL Γ S t=some q):jJ P N o S q:=by
  unfold BL at h
  split at h
  · rename_i x hz hf
    cases h
    obtain⟨z,hz1,rfl⟩:=zL hΓ hz
    exact aD.alloc (P:=P) (N:=N) (σ:=den S) ho hz1 (mh hf) (aJ hd)
  ·cases h
theorem Iq (hd:cM N o.dst=true){t:TypeId}{y:Operand}(ho:o.op=.box t y)(h:K4 S y=some q):jJ P N o S q:=by
  unfold K4 at h
  split at h
  · rename_i hs hf
    cases h
    exact aD.box (P:=P) (N:=N) (σ:=den S) ho (bL _ _) hs (mh hf) (aJ hd)
  ·cases h
end
end Go.Am
namespace Go.Am
open Go
mutual
/-- Objects named otherwise; what has no new name is not known. -/
def AP (f:Nat→Option Nat):AV→AV
  | .own t o l=>match f t with
    |some u=>.own u o l
    |none=>.any
  | .ptr t i k=>match f t with
    |some u=>.ptr u i k
    |none=>.any
  | .mapr t=>match f t with
    |some u=>.mapr u
    |none=>.any
  |.agg cs=>.agg (uT f cs)
  |.tup cs=>.tup (uT f cs)
  |.clo g a b=>.clo g (uT f a) (uT f b)
  |.any=>.any
  |.emp=>.emp
  |.guess p q=>.guess p q
  |.lit v=>.lit v
  |.sl w r=>.sl w r
  |.fptr e k=>.fptr e k
  |.fmap r=>.fmap r
def uT (f:Nat→Option Nat):List AV→List AV
  |[]=>[]
  |x::r=>AP f x::uT f r
end
theorem AJ (f:Nat→Option Nat):∀l:List AV,uT f l=l.map (AP f)
  |[]=>rfl
  |x::r=>by rw[uT,AJ f r];rfl
section
variable {mm : Nat → MS} {ρ : Nat → Nat} {D F : Nat → Prop} {f : Nat → Option Nat}
mutual
theorem AU (hf:∀t u,f t=some u→D u∧ρ u=t):∀x:AV,Cv mm ρ D F (AP f x) x
  | .own t o l=>by
    rw[AP]
    split
    · rename_i u h
      obtain⟨h1,h2⟩:=hf t u h
      have:=Cv.own (m:=mm) (ρ:=ρ) (D:=D) (F:=F) (t:=u) (o:=o) (l:=l) h1
      rwa [h2] at this
    ·exact .any
  | .ptr t i k=>by
    rw[AP]
    split
    · rename_i u h
      obtain⟨h1,h2⟩:=hf t u h
      have:=Cv.ptr (m:=mm) (ρ:=ρ) (D:=D) (F:=F) (t:=u) (i:=i) (k:=k) h1
      rwa [h2] at this
    ·exact .any
  | .mapr t=>by
    rw[AP]
    split
    · rename_i u h
      obtain⟨h1,h2⟩:=hf t u h
      have:=Cv.mapr (m:=mm) (ρ:=ρ) (D:=D) (F:=F) (t:=u) h1
      rwa [h2] at this
    ·exact .any
  | .agg cs=>by
    rw[AP]
    have:=lO hf cs
    exact .agg this.1 this.2
  | .tup cs=>by
    rw[AP]
    have:=lO hf cs
    exact .tup this.1 this.2
  | .clo g a b=>by
    rw[AP]
    have h1:=lO hf a
    have h2:=lO hf b
    exact .clo h1.1 h2.1 h1.2 h2.2
  |.any=>.any
  |.emp=>.same rfl
  |.guess p q=>.same rfl
  |.lit v=>.same rfl
  |.sl w r=>.same rfl
  |.fptr e k=>.same rfl
  |.fmap r=>.same rfl
theorem lO (hf:∀t u,f t=some u→D u∧ρ u=t):∀l:List AV,gJ mm ρ D F (uT f l) l
  |[]=>.nil
  |x::r=>by rw[uT];exact .cons (AU hf x) (lO hf r)
end
end
theorem Dk (f:Nat→Option Nat)(x:AV):(cells (AP f x)).length=(cells x).length:=by
  cases x with
  |agg cs=>show(uT f cs).length=cs.length;rw[AJ,cj]
  |own t o l=>rw[AP];split<;>rfl
  |ptr t i k=>rw[AP];split<;>rfl
  |mapr t=>rw[AP];split<;>rfl
  |_=>rfl
theorem tY {f:Nat→Option Nat}{wd:Nat}{rows:List AV}(h:bD wd rows):bD wd (uT f rows):=by
  intro i r hr
  rw[AJ,fH] at hr
  cases hx:rows[i]? with
  |none=>rw[hx] at hr;cases hr
  | some x=>
    rw[hx] at hr
    cases hr
    rw[Dk]
    exact h i x hx
def og:List Nat→Nat→Nat→Option Nat
  |[],_,_=>none
  | x::r,i,t=>match Nat.beq x t with
    |true=>some i
    |false=>og r (i+1) t
theorem uG:∀ {ns:List Nat} {i t u:Nat},og ns i t=some u→i≤u∧ns[u-i]? =some t
  |[],_,_,_,h=>by cases h
  | x ::r,i,t,u,h=>by
    simp only[og] at h
    split at h
    · rename_i hb
      cases h
      exact⟨Nat.le_refl _,by rw[Nat.sub_self,beq_eq hb];rfl⟩
    · obtain⟨h1,h2⟩:=uG h
      refine⟨by omega,?_⟩
      rw[show u-i=(u- (i+1))+1 by omega]
      exact h2
def KP (S:ES)(t:Nat)(acc:List Nat):List Nat:=match mE S t with
  | .live _ _ false=>match oQ acc t with
    |true=>acc
    |false=>acc++ [t]
  |_=>acc
mutual
def KJ (S:ES):AV→List Nat→List Nat
  |.own t _ _,acc=>KP S t acc
  |.ptr t _ _,acc=>KP S t acc
  |.mapr t,acc=>KP S t acc
  |.agg cs,acc=>zf S cs acc
  |.tup cs,acc=>zf S cs acc
  |.clo _ a b,acc=>zf S b (zf S a acc)
  |.any,acc=>acc
  |.emp,acc=>acc
  |.guess _ _,acc=>acc
  |.lit _,acc=>acc
  |.sl _ _,acc=>acc
  |.fptr _ _,acc=>acc
  |.fmap _,acc=>acc
def zf (S:ES):List AV→List Nat→List Nat
  |[],acc=>acc
  |x::r,acc=>zf S r (KJ S x acc)
end
def qz:Nat→ES→Nat→List Nat→List Nat
  |0,_,_,ns=>ns
  | n +1,S,i,ns=>match gd ns i with
    |none=>ns
    | some t=>match mE S t with
      |.live _ rows false=>qz n S (i+1) (zf S rows ns)
      |_=>qz n S (i+1) ns
abbrev jM:=FuncId→List MS→List AV→Option (List MS×AV)
def JR (S:ES)(f:Nat→Option Nat):List Nat→Option (List MS)
  |[]=>some []
  | t::r=>match mE S t,JR S f r with
    |.live wd rows false,some l=>some (.live wd (uT f rows) false::l)
    |_,_=>none
def qM:Nat→Nat→List Nat
  |_,0=>[]
  |n,k+1=>n::qM (n+1) k
def pQ (S:ES):List Nat→Bool
  |[]=>true
  | t::r=>match mE S t with
    |.free=>pQ S r
    |_=>false
def zu (f:Nat→Option Nat):List MS→Option (List MS)
  |[]=>some []
  | .live wd rows false::r=>match zu f r with
    |some l=>some (.live wd (uT f rows) false::l)
    |none=>none
  | .dead::r=>match zu f r with
    |some l=>some (.dead::l)
    |none=>none
  |_::_=>none
def zP (cG:jM)(S:ES)(g:FuncId)(ys:List AV):Option ER:=
  match qz 1000 S 0 (zf S ys []) with
  | ns => match JR S (og ns 0) ns with
    |none=>none
    | some ins=>match cG g ins (uT (og ns 0) ys) with
      |none=>none
      | some (outs,res)=>match ns++qM S.nx (outs.length-ns.length) with
        | names=>match oR names,pQ S (qM S.nx (outs.length-ns.length)),(Nat.ble ns.length outs.length&&Nat.ble ns.length 1000000),zu (fun i=>names[i]?) outs with
          |true,true,true,some news=>some (names,AP (fun i=>names[i]?) res,names.zip news,S.nx+ (outs.length-ns.length))
          |_,_,_,_=>none
section
variable {P : Program} {N : Nat} {o : Oper} {S : ES}
theorem CS {f:Nat→Option Nat}:∀ {ns:List Nat} {ins:List MS},JR S f ns=some ins→ins.length=ns.length∧∀ (k:Nat) (s:MS) (t:Nat),ins[k]? =some s→ns[k]? =some t→∃wd rows,s=.live wd (uT f rows) false∧mE S t=.live wd rows false
  |[],ins,h=>by cases h;exact⟨rfl,by simp⟩
  | t ::r,ins,h=>by
    simp only[JR] at h
    split at h
    · rename_i wd rows l hm hl
      cases h
      obtain⟨h1,h2⟩:=CS hl
      refine⟨by simp[h1],fun k s t' hs ht=>?_⟩
      cases k with
      |zero=>simp at hs ht;subst hs;subst ht;exact⟨wd,rows,rfl,hm⟩
      |succ k=>exact h2 k s t' (by simpa using hs) (by simpa using ht)
    ·cases h
theorem uD {f:Nat→Option Nat}:∀ {outs news:List MS},zu f outs=some news→news.length=outs.length∧∀ (k:Nat) (s:MS),news[k]? =some s→(∃wd rows0,s=.live wd (uT f rows0) false∧outs[k]? =some (.live wd rows0 false))∨(s=.dead∧outs[k]? =some .dead)
  |[],news,h=>by cases h;exact⟨rfl,by simp⟩
  | s0 ::r,news,h=>by
    unfold zu at h
    split at h
    ·cases ‹s0::r=[]›
    · rename_i wd rows r' he
      cases he
      split at h
      · rename_i l hl
        cases h
        obtain⟨h1,h2⟩:=uD hl
        refine⟨by simp[h1],fun k s hs=>?_⟩
        cases k with
        |zero=>simp at hs;subst hs;exact .inl ⟨wd,rows,rfl,rfl⟩
        |succ k=>simpa using h2 k s (by simpa using hs)
      ·cases h
    · rename_i r' he
      cases he
      split at h
      · rename_i l hl
        cases h
        obtain⟨h1,h2⟩:=uD hl
        refine⟨by simp[h1],fun k s hs=>?_⟩
        cases k with
        |zero=>simp at hs;subst hs;exact .inr ⟨rfl,rfl⟩
        |succ k=>simpa using h2 k s (by simpa using hs)
      ·cases h
    ·cases h
theorem ue:∀ (n k:Nat),(qM n k).length=k
  |_,0=>rfl
  |n,k+1=>by simp[qM,ue (n+1) k]
theorem rK:∀ {l:List Nat},pQ S l=true→∀t∈l,mE S t=.free
  |[],_,t,h=>by cases h
  | u ::r,h,t,ht=>by
    simp only[pQ] at h
    split at h
    · rename_i hu
      rcases dm.1 ht with h'|h'
      ·rw[h'];exact hu
      ·exact rK h t h'
    ·cases h
theorem tq {cG:jM}(hF:∀g ins args outs res,cG g ins args=some (outs,res)→an P g ins args outs res∧ak P g)(hd:cM N o.dst=true){g:FuncId}{ys:List AV}(hto:fF (den S) o g ys){q:ER}(h:zP cG S g ys=some q):jJ P N o S q:=by
  unfold zP at h
  generalize qz 1000 S 0 (zf S ys [])=ns at h
  simp only at h
  split at h
  ·cases h
  · rename_i ins hins
    split at h
    ·cases h
    · rename_i outs res hcall
      generalize hnm:ns++qM S.nx (outs.length-ns.length)=names at h
      split at h
      · rename_i news g1 g2 g3 g4
        cases h
        obtain⟨hfn,hc⟩:=hF _ _ _ _ _ hcall
        obtain⟨i1,i2⟩:=CS hins
        obtain⟨n1,n2⟩:=uD g4
        have hnd:=kE g1
        rw[bQ] at g3
        have hle:=cr g3.1
        have hbg:ns.length≤iY:=Nat.le_trans (cr g3.2) (by decide)
        have hlen:names.length=outs.length:=by rw[←hnm,jH,ue];omega
        have hget:∀k t,ns[k]? =some t→names[k]? =some t:=fun k t hk=>by
          rw[←hnm,r5 (bg hk).1];exact hk
        have hfwd:∀t u,og ns 0 t=some u→u<ins.length∧names.getD u 0=t:=fun t u hu=>by
          obtain⟨_,h2⟩:=uG hu
          rw[Nat.sub_zero] at h2
          refine⟨by rw[i1];exact(bg h2).1,?_⟩
          rw[List.getD_eq_getElem?_getD,hget u t h2];rfl
        have hbwd:∀i u,names[i]? =some u→u∈names∧names.idxOf u=i:=fun i u hu=>by
          refine⟨bT hu,?_⟩
          obtain⟨hi,rfl⟩:=bg hu
          exact rC hnd (bz hi)
        have :=aD.dg (P:=P) (N:=N) (o:=o) (σ:=den S) (news:=news) names [] hto hc (lO hfwd ys) (by simp) (by simp) hnd (by rw[i1];exact hbg) (by omega) (by omega)
          (fun k s t hs ht=>by
            have hk:k<ns.length:=by rw[←i1];exact(bg hs).1
            have ht':ns[k]? =some t:=by
              have:=hget k ns[k] (bz hk)
              rw[ht] at this
              rw[bz hk,this]
            obtain⟨wd,rows,e1,e2⟩:=i2 k s t hs ht'
            exact⟨wd,rows,_,e1,by rw[gm];exact e2,tY,lO hfwd rows⟩)
          (fun k t hk ht=>by
            rw[gm]
            refine rK g2 t ?_
            rw[←hnm,List.getElem?_append_right (by omega)] at ht
            exact bT ht)
          hfn (fun k s hs=>by
            rcases n2 k s hs with⟨wd,rows0,e1,e2⟩|⟨e1,e2⟩
            ·exact .inl ⟨wd,_,rows0,e1,e2,tY,lO hbwd rows0⟩
            ·exact .inr ⟨e1,e2⟩)
          (AU hbwd res) (aJ hd)
        simpa[jJ] using this
      ·cases h
end
end Go.Am
namespace Go.Am
open Go Go.RowKit Go.Lib MapKept
def Cd:Value→Value→Bool
  | .int k a,.int k' b=>match Nat.beq (qw k) (qw k') with
    |true=>decide (a=b)
    |false=>false
  |.string a,.string b=>decide (a=b)
  |_,_=>false
def rI:TypeDesc→Value→Bool
  |.int k,.int k' _=>Nat.beq (qw k') (qw k)
  |.string,.string _=>true
  |_,_=>false
theorem nk {d:TypeDesc}{v:Value}(h:rI d v=true):IsKey d v:=by
  unfold rI at h
  split at h
  ·exact wW h
  ·trivial
  ·cases h
def xm:AV→Option (Value×AV)
  |.agg [.lit k,.tup [x]]=>some (k,x)
  |_=>none
theorem Bm {r:AV}{k:Value}{x:AV}(h:xm r=some (k,x)):r=entry k x:=by
  unfold xm at h
  split at h
  ·cases h;rfl
  ·cases h
def l5 (d:TypeDesc)(key:Value):List AV→Nat→Option (Option (Nat×AV))
  |[],_=>some none
  | r :: rs,i=>match xm r with
    | some (k,x)=>match rI d k,l5 d key rs (i+1) with
      | true,some q=>match Cd k key with
        |true=>some (some (i,x))
        |false=>some q
      |_,_=>none
    |none=>none
theorem vK {d:TypeDesc}{a b:Value}(ha:IsKey d a)(hb:rI d b=true):Cd a b=true↔a=b:=by
  unfold rI at hb
  split at hb
  · rename_i k k' n'
    have e:=wW hb
    cases a with
    | int k2 n2=>
      have e2:k2=k:=ha
      rw[e,e2]
      simp[Cd]
    |_=>exact absurd ha (by simp[IsKey])
  · cases a with
    |string s=>simp[Cd]
    |_=>exact absurd ha (by simp[IsKey])
  ·cases hb
theorem mW {d:TypeDesc}{key:Value}(hk:rI d key=true):∀ {rows:List AV} {i:Nat} {q:Option (Nat×AV)},l5 d key rows i=some q→jV d rows∧
    match q with
    |some (j,x)=>i≤j∧rows[j-i]? =some (entry key x)
    |none=> ∀r,entry key r∉rows
  |[],i,q,h=>by cases h;exact⟨jV.nil,by simp⟩
  | r :: rs, i,q,h=>by
    simp only[l5] at h
    split at h
    · rename_i k x he
      have her:=Bm he
      subst her
      split at h
      · rename_i q' hkey hrest
        obtain⟨e1,e2⟩:=mW hk hrest
        have hkk:=nk hkey
        have hE:jV d (entry k x::rs):=fun r hr=>by
          rcases dm.1 hr with h'|h'
          ·exact⟨k,x,h',hkk⟩
          ·exact e1 r h'
        split at h
        · rename_i heq
          cases h
          have:=(vK hkk hk).1 heq
          subst this
          exact⟨hE,Nat.le_refl _,by simp⟩
        · rename_i hne
          cases h
          refine⟨hE,?_⟩
          cases q with
          | some p=>
            obtain⟨j,y⟩:=p
            obtain⟨h1,h2⟩:=e2
            refine⟨by omega,?_⟩
            rw[show j-i=(j- (i+1))+1 by omega]
            exact h2
          | none=>
            intro r hr
            rcases dm.1 hr with h'|h'
            · have:=(qO h').1
              rw[(vK hkk hk).2 this.symm] at hne
              cases hne
            ·exact e2 r h'
      ·cases h
    ·cases h
abbrev uz:=List (Nat×TypeDesc×Value)
def uz.Good (P:Program)(Δ:uz):Prop:=∀p∈Δ,iI P p.1 p.2.1 p.2.2
def LY:uz→Nat→Option (TypeDesc×Value)
  |[],_=>none
  | (k,d)::r,t=>match Nat.beq t k with
    |true=>some d
    |false=>LY r t
theorem xZ {P:Program}:∀ {Δ:uz},Δ.Good P→∀ {t:Nat} {d:TypeDesc} {z:Value},LY Δ t=some (d,z)→iI P t d z
  |[],_,t,d,z,h=>by cases h
  | (k,d0,z0)::r,hg,t,d,z,h=>by
    simp only[LY] at h
    split at h
    · rename_i hb
      cases h
      rw[beq_eq hb]
      exact hg _ (dJ ..)
    ·exact xZ (fun p hp=>hg p (c7 _ hp)) h
def Bh (S:ES):Option ER:=match uP S with
  |true=>some ([S.nx],.mapr S.nx,[(S.nx,.live 2 [] false)],S.nx+1)
  |false=>none
def F8 (Δ:uz)(S:ES)(t:TypeId)(y x:Operand)(c:Bool):Option ER:=
  match LY Δ t,jd S y,jd S x with
  | some (d,z),.mapr tk,.lit key=>match mE S tk,rI d key with
    | .live _ rows _,true=>match l5 d key rows 0 with
      |some (some (_,r))=>some ([tk],if c then .tup [r,.lit (.bool true)] else r,[],S.nx)
      |some none=>some ([tk],if c then .tup [l7 z,.lit (.bool false)] else l7 z,[],S.nx)
      |none=>none
    |_,_=>none
  |_,_,_=>none
def xA (Δ:uz)(S:ES)(t:TypeId)(y x v:Operand):Option ER:=
  match LY Δ t,jd S y,jd S x with
  | some (d,_),.mapr tk,.lit key=>match mE S tk,rI d key with
    | .live wd rows false,true=>match l5 d key rows 0,Nat.beq wd 2,Nat.ble (rows.length+2) maxLen with
      |some (some (i,_)),_,_=>some ([tk],.any,[(tk,.live wd (rows.set i (entry key (jd S v))) false)],S.nx)
      |some none,true,true=>some ([tk],.any,[(tk,.live wd (rows++ [entry key (jd S v)]) false)],S.nx)
      |_,_,_=>none
    |_,_=>none
  |_,_,_=>none
def EP (Γ:bZ)(S:ES)(t:TypeId)(y z:Operand):Option ER:=
  match kN Γ t,jd S y,Bx (jd S z) with
  | some .str,.lit (.string s),some k=>match gd s.data.toList k with
    |some c=>some ([],.lit (.int .u8 c.toNat),[],S.nx)
    |none=>none
  |_,_,_=>none
def Fh (Δ:uz)(S:ES)(t:TypeId)(y:Operand):Option ER:=
  match LY Δ t,jd S y with
  | some _,.mapr tk=>match mE S tk with
    |.live _ rows _=>some ([tk],.lit (.int .i64 rows.length),[],S.nx)
    |_=>none
  |_,_=>none
def KV (Γ:bZ)(S:ES)(o:Oper)(op:BinOp)(t:TypeId)(y z:Operand):Option ER:=
  match op,jd S y,jd S z with
  | .add,.lit (.string a),.lit (.string b)=>match Nat.ble (a.size+b.size) 9223372036854775807 with
    |true=>some ([],.lit (.string (a++b)),[],S.nx)
    |false=>none
  | .eql,.own _ _ (_+1),.lit v=>match nV v,kN Γ t with
    |true,some (.sl ..)=>some ([],.lit (.bool false),[],S.nx)
    |_,_=>j4 Γ S o
  | .neq,.own _ _ (_+1),.lit v=>match nV v,kN Γ t with
    |true,some (.sl ..)=>some ([],.lit (.bool true),[],S.nx)
    |_,_=>j4 Γ S o
  | .eql,.lit u,.lit v=>match nV u,nV v,kN Γ t with
    |true,true,some (.sl ..)=>some ([],.lit (.bool true),[],S.nx)
    |_,_,_=>j4 Γ S o
  | .neq,.lit u,.lit v=>match nV u,nV v,kN Γ t with
    |true,true,some (.sl ..)=>some ([],.lit (.bool false),[],S.nx)
    |_,_,_=>j4 Γ S o
  |_,_,_=>j4 Γ S o
theorem ck.Lw {P:Program}{N:Nat}{w0:World}{W0:Nat→Prop}{L μ:Mu}{σ:aA}{a:Act}{w:World}(hs:ck P N w0 W0 L μ σ a w){sl:Nat→AV}(h:∀i v,ct (Wr W0 μ σ.mem) μ w (σ.slots i) v→ct (Wr W0 μ σ.mem) μ w (sl i) v):ck P N w0 W0 L μ ⟨sl,σ.mem⟩ a w where
  tsize:=hs.tsize
  defers:=hs.defers
  os:=hs.os
  tape:=hs.tape
  output:=hs.output
  hsize:=hs.hsize
  shp:=hs.shp
  keep:=hs.keep
  w0lt:=hs.w0lt
  lentμ:=hs.lentμ
  free:=hs.free
  slots i:=h i _ (hs.slots i)
  objs:=hs.objs
  inj:=hs.inj
  out:=hs.out
  tabs:=hs.tabs
theorem aD.sure {P:Program}{N:Nat}{o:Oper}{σ:aA}{rd:List Nat}{p q:Prop}{b:Bool}{ups:ML}(h:aD P N o σ rd (.guess p q) ups)(hb:(b=false∧¬p)∨(b=true∧¬q)):aD P N o σ rd (.lit (.bool b)) ups:=by
  intro σ2 h1 h2 w0 W0 L μ a w K Q hs hK
  refine h σ2 h1 h2 w0 W0 L μ a w K Q hs fun μ' a' w' hs'=>?_
  refine hK μ' a' w' ?_
  have := hs'.Lw (sl:=(σ2.xe o.dst (.lit (.bool b)) ups).slots) (fun i v hv=>by
    unfold aA.xe at hv ⊢
    cases hd:o.dst with
    |none=>rw[hd] at hv;exact hv
    | some d =>
      rw[hd] at hv
      simp only[dz] at hv ⊢
      by_cases hi:i=d
      · rw [if_pos hi] at hv ⊢
        cases hv with
        | guess g1 g2=>
          rename_i c
          rcases hb with⟨rfl,hp⟩|⟨rfl,hq⟩
          · cases c with
            |true=>exact absurd (g1 rfl) hp
            |false=>exact .lit
          · cases c with
            |true=>exact .lit
            |false=>exact absurd (g2 rfl) hq
      ·rw[if_neg hi] at hv ⊢;exact hv)
  exact this
section
variable {P : Program} {N : Nat} {Γ : bZ} {Δ : uz} {o : Oper} {S : ES} {q : ER}
theorem DT (hd:cM N o.dst=true){t:TypeId}(ho:o.op=.makeMap t none)(h:Bh S=some q):jJ P N o S q:=by
  unfold Bh at h
  split at h
  · rename_i hf
    cases h
    exact aD.makeMap (P:=P) (N:=N) (σ:=den S) ho (mh hf) (aJ hd)
  ·cases h
theorem GH (hΔ:Δ.Good P)(hd:cM N o.dst=true){t:TypeId}{y x:Operand}{c:Bool}(ho:o.op=.lookup t y x c)(h:F8 Δ S t y x c=some q):jJ P N o S q:=by
  unfold F8 at h
  split at h
  · rename_i d z tk key ht hy hx
    have hT:=xZ hΔ ht
    split at h
    · rename_i wd rows ro hm hk
      have hsrc:lR (den S) (.mapr tk) rows [tk]:=.own (by rw[gm];exact hm)
      split at h
      · rename_i j r hf
        cases h
        obtain⟨e1,_,e3⟩:=mW hk hf
        exact aD.lookup (P:=P) (N:=N) (σ:=den S) ho (by rw[bL];exact hy) hsrc (by rw[bL];exact hx) hT (nk hk) e1 e3 (aJ hd)
      · rename_i hf
        cases h
        obtain⟨e1,e2⟩:=mW hk hf
        exact aD.AD (P:=P) (N:=N) (σ:=den S) ho (by rw[bL];exact hy) hsrc (by rw[bL];exact hx) hT (nk hk) e1 e2 (aJ hd)
      ·cases h
    ·cases h
  ·cases h
theorem AR (hΔ:Δ.Good P)(hd:cM N o.dst=true){t:TypeId}{y x v:Operand}(ho:o.op=.mapUpdate t y x v)(h:xA Δ S t y x v=some q):jJ P N o S q:=by
  unfold xA at h
  split at h
  · rename_i d z tk key ht hy hx
    have hT:=xZ hΔ ht
    split at h
    · rename_i wd rows hm hk
      split at h
      · rename_i j r hf
        cases h
        obtain⟨e1,_,e3⟩:=mW hk hf
        exact aD.mapUpdate (P:=P) (N:=N) (σ:=den S) ho (by rw[bL];exact hy) (by rw[gm];exact hm) (by rw[bL];exact hx) (bL _ _) hT (nk hk) e1 e3 (aJ hd)
      · rename_i hf hw hl
        cases h
        obtain⟨e1,e2⟩:=mW hk hf
        exact aD.qm (P:=P) (N:=N) (σ:=den S) ho (by rw[bL];exact hy) (by rw[gm];exact hm) (by rw[bL];exact hx) (bL _ _) hT (nk hk) e1 e2 (by have:=cr hl;omega) (beq_eq hw) (aJ hd)
      ·cases h
    ·cases h
  ·cases h
theorem FM (hΓ:Γ.Good P)(hd:cM N o.dst=true){t:TypeId}{y z:Operand}(ho:o.op=.index t y z)(h:EP Γ S t y z=some q):jJ P N o S q:=by
  unfold EP at h
  split at h
  · rename_i s k ht hy hz
    rw[cw] at ht
    have ok:=hΓ.look ht
    obtain⟨kd,hz'⟩:=ld hz
    split at h
    · rename_i c hc
      cases h
      rw[eU] at hc
      exact aD.E1 (P:=P) (N:=N) (σ:=den S) ho (by rw[bL];exact hy) (by rw[bL];exact hz') ok.2.2.2 hc (aJ hd)
    ·cases h
  ·cases h
theorem Gw (hΔ:Δ.Good P)(hd:cM N o.dst=true){t:TypeId}{y:Operand}(ho:o.op=.call {callee:=.builtin .len,args:= #[y],argTypes:= #[t]})(h:Fh Δ S t y=some q):jJ P N o S q:=by
  unfold Fh at h
  split at h
  · rename_i d tk ht hy
    obtain⟨d1,z1⟩:=d
    have hT:=xZ hΔ ht
    split at h
    · rename_i wd rows ro hm
      cases h
      exact aD.Hf (P:=P) (N:=N) (σ:=den S) ho (by rw[bL];exact hy) (.own (by rw[gm];exact hm)) hT (aJ hd)
    ·cases h
  ·cases h
theorem Ie (hΓ:Γ.Good P)(hd:cM N o.dst=true){op:BinOp}{t yt:TypeId}{y z:Operand}(ho:o.op=.binOp op t y z yt)(h:KV Γ S o op t y z=some q):jJ P N o S q:=by
  unfold KV at h
  split at h
  · rename_i a b hy hz
    split at h
    · rename_i hn
      cases h
      have hn':=cr hn
      exact aD.binOp (P:=P) (N:=N) (σ:=den S) ho (by rw[bL];exact hy) (by rw[bL];exact hz) (fun w=>by simp[eqGuard,binOp,run_string_add_sum w a b hn']) (aJ hd)
    ·cases h
  · rename_i tk off n v hy hz
    split at h
    · rename_i hn ht
      cases h
      rw[cw] at ht
      have ok:=hΓ.look ht
      obtain⟨_,_,te⟩:=ok.2.2.2.2
      rw[eW hn] at hz
      have:=aD.Ce (P:=P) (N:=N) (σ:=den S) ho (.inl rfl) (by rw[bL];exact hy) (by rw[bL];exact hz) te.ty (.inl ⟨_,_,rfl⟩) (aJ hd)
      rw[if_pos rfl] at this
      exact this.sure (.inl ⟨rfl,by omega⟩)
    ·exact gH hΓ hd h
  · rename_i tk off n v hy hz
    split at h
    · rename_i hn ht
      cases h
      rw[cw] at ht
      have ok:=hΓ.look ht
      obtain⟨_,_,te⟩:=ok.2.2.2.2
      rw[eW hn] at hz
      have:=aD.Ce (P:=P) (N:=N) (σ:=den S) ho (.inr rfl) (by rw[bL];exact hy) (by rw[bL];exact hz) te.ty (.inl ⟨_,_,rfl⟩) (aJ hd)
      rw[if_neg (by decide)] at this
      exact this.sure (.inr ⟨rfl,by omega⟩)
    ·exact gH hΓ hd h
  · rename_i u v hy hz
    split at h
    · rename_i hn hn' ht
      cases h
      rw[cw] at ht
      have ok:=hΓ.look ht
      obtain⟨_,_,te⟩:=ok.2.2.2.2
      rw[eW hn] at hy
      rw[eW hn'] at hz
      refine aD.binOp (P:=P) (N:=N) (σ:=den S) ho (by rw[bL];exact hy) (by rw[bL];exact hz) (fun w=>?_) (aJ hd)
      simp only[eqGuard,binOp,Op.equal]
      rw[show Op.maxDepth=9999+1 from rfl]
      unfold Op.equalIn
      simp[run_underlying te.ty]
    ·exact gH hΓ hd h
  · rename_i u v hy hz
    split at h
    · rename_i hn hn' ht
      cases h
      rw[cw] at ht
      have ok:=hΓ.look ht
      obtain⟨_,_,te⟩:=ok.2.2.2.2
      rw[eW hn] at hy
      rw[eW hn'] at hz
      refine aD.binOp (P:=P) (N:=N) (σ:=den S) ho (by rw[bL];exact hy) (by rw[bL];exact hz) (fun w=>?_) (aJ hd)
      simp only[eqGuard,binOp,Op.equal]
      rw[show Op.maxDepth=9999+1 from rfl]
      unfold Op.equalIn
      simp[run_underlying te.ty]
    ·exact gH hΓ hd h
  ·exact gH hΓ hd h
end
end Go.Am
section

end
