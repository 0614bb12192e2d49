/- Walks of functions by unfolding over abstract states; runs of functions by an evaluator that is proved. By an AI agent. -/
import Derived.Test.YtkhjcnjicjgfiaaGreatDoorW3
set_option linter.unusedSimpArgs false
set_option linter.unusedVariables false
namespace Go.Am
open Go
inductive Tr (α:Type) where
  |nil
  |node (l:Tr α) (v:Option α) (r:Tr α)
namespace Tr
variable {α : Type}
def get:Tr α→Nat→Option α
  |.nil,_=>none
  | .node l v r,n=>match n with
    |0=>v
    | n+1=>match Nat.beq (Nat.mod n 2) 0 with
      |true=>get l (Nat.div n 2)
      |false=>get r (Nat.div n 2)
def Lw:Tr α→Tr α
  |.nil=>.nil
  |.node l _ _=>l
def LA:Tr α→Tr α
  |.nil=>.nil
  |.node _ _ r=>r
def val:Tr α→Option α
  |.nil=>none
  |.node _ v _=>v
def wj:Nat→Tr α→Nat→α→Tr α
  |0,t,_,_=>t
  | f +1,t,n,x=>match n with
    |0=>.node (Lw t) (some x) (LA t)
    | n+1=>match Nat.beq (Nat.mod n 2) 0 with
      |true=>.node (wj f (Lw t) (Nat.div n 2) x) (val t) (LA t)
      |false=>.node (Lw t) (val t) (wj f (LA t) (Nat.div n 2) x)
theorem D7 (t:Tr α)(k:Nat):t.get k=(Tr.node (Lw t) (val t) (LA t)).get k:=by
  cases t with
  | nil=>
    cases k with
    |zero=>rfl
    |succ k=>simp only[get,Lw,LA];cases Nat.beq (Nat.mod k 2) 0<;>rfl
  |node l v r=>rfl
def put (t:Tr α)(n:Nat)(x:α):Tr α:=wj (n+1) t n x
theorem D5 {a b:Nat}(h1:Nat.beq (Nat.mod a 2) 0=Nat.beq (Nat.mod b 2) 0)(h2:Nat.div a 2=Nat.div b 2):a=b:=by
  have e1:Nat.mod a 2=a%2:=rfl
  have e2:Nat.mod b 2=b%2:=rfl
  have e3:Nat.div a 2=a/2:=rfl
  have e4:Nat.div b 2=b/2:=rfl
  rw[e1,e2] at h1
  rw[e3,e4] at h2
  have hb:∀c:Nat,Nat.beq (c%2) 0=true∨Nat.beq (c%2) 0=false:=fun c=>by cases Nat.beq (c%2) 0<;>simp
  have ht:∀c:Nat,Nat.beq (c%2) 0=true→c%2=0:=fun c h=>Nat.eq_of_beq_eq_true h
  have hf:∀c:Nat,Nat.beq (c%2) 0=false→c%2≠0:=fun c h e=>by rw[e] at h;simp at h
  rcases hb a with ha|ha
  · rw[ha] at h1
    have:=ht a ha
    have:=ht b h1.symm
    omega
  · rw[ha] at h1
    have:=hf a ha
    have:=hf b h1.symm
    omega
theorem vQ:∀ (f:Nat) (t:Tr α) (n:Nat) (x:α) (k:Nat),n<f→(wj f t n x).get k=if k=n then some x else t.get k
  |0,_,_,_,_,h=>by omega
  | f+1,t,0,x,k,_=>by
    rw[D7 t k]
    cases k with
    |zero=>rfl
    |succ k=>rw[if_neg (by omega)];rfl
  | f + 1, t,n+1,x,k,h=>by
    have hlt:Nat.div n 2<f:=by have:n/2≤n:=Nat.div_le_self _ _;show n/2<f;omega
    have ihl:=fun k=>vQ f (Lw t) (Nat.div n 2) x k hlt
    have ihr:=fun k=>vQ f (LA t) (Nat.div n 2) x k hlt
    rw[D7 t k]
    cases hn:Nat.beq (Nat.mod n 2) 0 with
    | true =>
      have e:wj (f+1) t (n+1) x=.node (wj f (Lw t) (Nat.div n 2) x) (val t) (LA t):=by simp only[wj,hn]
      rw[e]
      cases k with
      |zero=>rw[if_neg (by omega)];rfl
      | succ k=>
        simp only[get]
        cases hk:Nat.beq (Nat.mod k 2) 0 with
        | true=>
          simp only[ihl]
          by_cases e:Nat.div k 2=Nat.div n 2
          ·rw[if_pos e,if_pos (by rw[D5 (by rw[hk,hn]) e])]
          ·rw[if_neg e,if_neg (fun h=>e (by rw[Nat.succ.inj h]))]
        |false=>rw[if_neg (fun h=>by rw[Nat.succ.inj h,hn] at hk;cases hk)]
    | false=>
      have e:wj (f+1) t (n+1) x=.node (Lw t) (val t) (wj f (LA t) (Nat.div n 2) x):=by simp only[wj,hn]
      rw[e]
      cases k with
      |zero=>rw[if_neg (by omega)];rfl
      | succ k=>
        simp only[get]
        cases hk:Nat.beq (Nat.mod k 2) 0 with
        | false=>
          simp only[ihr]
          by_cases e:Nat.div k 2=Nat.div n 2
          ·rw[if_pos e,if_pos (by rw[D5 (by rw[hk,hn]) e])]
          ·rw[if_neg e,if_neg (fun h=>e (by rw[Nat.succ.inj h]))]
        |true=>rw[if_neg (fun h=>by rw[Nat.succ.inj h,hn] at hk;cases hk)]
theorem tI (t:Tr α)(n:Nat)(x:α)(k:Nat):(t.put n x).get k=if k=n then some x else t.get k:=vQ _ _ _ _ _ (Nat.lt_succ_self n)
end Tr
structure ES where
  sl:Tr AV
  m:Tr MS
  nx:Nat
def jA (S:ES):Operand→AV
  | .tmp t=>match S.sl.get t with
    |some x=>x
    |none=>.any
  |.const v=>.lit v
  |.global g=>.lit (.pointer (some ⟨g,0,none⟩))
  |.func f=>.lit (.func (.func f) #[] #[])
def mE (S:ES)(t:Nat):MS:=match S.m.get t with
  |some s=>s
  |none=>.free
def den (S:ES):aA:=⟨fun i=>jA S (.tmp i),mE S⟩
theorem bR (S:ES)(y:Operand):(den S).eval y=jA S y:=by cases y<;>rfl
theorem gO (S:ES)(t:Nat):(den S).mem t=mE S t:=rfl
def DR (m:Tr MS):ML→Tr MS
  |[]=>m
  |(k,s)::r=>(DR m r).put k s
def LC (sl:Tr AV)(dst:Option Nat)(x:AV):Tr AV:=match dst with
  |none=>sl
  |some d=>sl.put d x
def pg (S:ES)(dst:Option Nat)(x:AV)(ups:ML)(nx:Nat):ES:=⟨LC S.sl dst x,DR S.m ups,nx⟩
theorem xK (m:Tr MS):∀ (ups:ML) (t:Nat),(match(DR m ups).get t with|some s=>s|none=>.free:MS)=br (fun t=>match m.get t with|some s=>s|none=>.free) ups t
  |[],t=>rfl
  | (k,s)::r,t=>by
    simp only[DR,Tr.tI,br]
    by_cases h:t=k
    ·simp[h]
    ·rw[if_neg h,if_neg h];exact xK m r t
theorem wJ (S:ES)(dst:Option Nat)(x:AV)(ups:ML)(nx:Nat):den (pg S dst x ups nx)=(den S).yI dst x ups:=by
  unfold den aA.yI
  congr 1
  · funext i
    cases dst with
    |none=>rfl
    | some d=>
      simp only[pg,LC,jA,Tr.tI,dA]
      by_cases h:i=d
      ·simp[h]
      ·simp[h]
  · funext t
    exact xK S.m ups t
theorem aG.congr {P:Program}{N:Nat}{o:Oper}{σ σ':aA}{rd:List Nat}{x:AV}{ups:ML}(h:aG P N o σ rd x ups)(h1:∀y∈o.op.operands,σ'.eval y=σ.eval y)(h2:∀t∈rd,σ'.mem t=σ.mem t):aG P N o σ' rd x ups:=
  fun σ2 a b=>h σ2 (fun y hy=>(a y hy).trans (h1 y hy)) (fun t ht=>(b t ht).trans (h2 t ht))
def nY (S:ES):List Operand→SL
  |[]=>[]
  | y::r=>match y with
    |.tmp t=>(t,jA S (.tmp t))::nY S r
    |_=>nY S r
theorem Fh (S:ES):∀ (ys:List Operand) (y:Operand),y∈ys→fH (nY S ys) y=jA S y:=by
  intro ys y hy
  cases y with
  | tmp t =>
    induction ys with
    |nil=>cases hy
    | cons z r ih=>
      have tail:Operand.tmp t∈r→fH (nY S r) (.tmp t)=jA S (.tmp t):=ih
      cases z with
      | tmp u=>
        show uQ ((u,jA S (.tmp u))::nY S r) t=_
        unfold uQ
        cases hb:Nat.beq t u with
        |true=>rw[beq_eq hb]
        | false=>
          refine tail ?_
          rcases dP.1 hy with h|h
          ·cases h;rw[Nat.beq_refl] at hb;cases hb
          ·exact h
      | _=>
        refine tail ?_
        rcases dP.1 hy with h|h
        ·cases h
        ·exact h
  |_=>rfl
def Ln:AV→Option Nat
  |.own t _ _=>some t
  |.ptr t _ _=>some t
  |.mapr t=>some t
  |_=>none
def lV (S:ES):List Operand→ML
  |[]=>[]
  | y::r=>match Ln (jA S y) with
    |some t=>(t,mE S t)::lV S r
    |none=>lV S r
def A8 (t:Nat):ML→Bool
  |[]=>false
  | (k,_)::r=>match Nat.beq t k with
    |true=>true
    |false=>A8 t r
theorem pH (S:ES):∀ (ys:List Operand) (t:Nat),A8 t (lV S ys)=true→eG (lV S ys) t=mE S t
  |[],t,h=>by cases h
  | y ::r,t,h=>by
    unfold lV at h ⊢
    cases hr:Ln (jA S y) with
    |none=>rw[hr] at h;exact pH S r t h
    | some u=>
      rw[hr] at h
      simp only[A8,eG] at h ⊢
      cases hb:Nat.beq t u with
      |true=>rw[beq_eq hb]
      |false=>rw[hb] at h;exact pH S r t h
abbrev ER:=List Nat×AV×ML×Nat
def opsOf (o:Oper):List Operand:=o.op.operands.toList
def tF (m:ML):List Nat→Bool
  |[]=>true
  | t::r=>match A8 t m with
    |true=>tF m r
    |false=>false
theorem uo {m:ML}:∀ {l:List Nat},tF m l=true→∀t∈l,A8 t m=true
  |[],_,t,h=>by cases h
  | u ::r,h,t,ht=>by
    simp only[tF] at h
    split at h
    · rename_i hu
      rcases dP.1 ht with h'|h'
      ·rw[h'];exact hu
      ·exact uo h t h'
    ·cases h
def kW (Γ:ct)(S:ES)(o:Oper):Option ER:=
  match c6 Γ (nY S (opsOf o)) (lV S (opsOf o)) o.dst o.op with
  | some (rd,x,ups)=>match tF (lV S (opsOf o)) rd with
    |true=>some (rd,x,ups,S.nx)
    |false=>none
  |none=>none
section
variable {P : Program} {N : Nat} {Γ : ct} {o : Oper} {S : ES}
def kz (P:Program)(N:Nat)(o:Oper)(S:ES)(q:ER):Prop:=aG P N o (den S) q.1 q.2.1 q.2.2.1
theorem gS (hΓ:Γ.Good P)(hd:cZ N o.dst=true){q:ER}(h:kW Γ S o=some q):kz P N o S q:=by
  unfold kW at h
  split at h
  · rename_i rd x ups hp
    split at h
    · rename_i hk
      cases h
      have h1:rN P N o [] (nY S (opsOf o)) (lV S (opsOf o)) (fun rd' x' ups' _ _ _=>rd'=rd∧x'=x∧ups'=ups) (c6 Γ (nY S (opsOf o)) (lV S (opsOf o)) o.dst o.op):=by
        rw[hp];exact⟨rfl,rfl,rfl⟩
      obtain⟨rd',x',ups',h2,rfl,rfl,rfl⟩:=iV hΓ hd h1
      refine h2.congr (fun y hy=>?_) (fun t ht=>?_)
      ·rw[bR,ev_eq,Fh S _ y (by simpa[opsOf] using hy)]
      ·rw[gO,mem_eq,pH S _ t (uo hk t ht)]
    ·cases h
  ·cases h
end
end Go.Am
namespace Go.Am
open Go Go.RowKit Go.Lib MapKept
def C5:AV→Option Nat
  |.lit (.int _ (.ofNat k))=>some k
  |_=>none
theorem mC {x:AV}{k:Nat}(h:C5 x=some k):∃kd,x=.lit (.int kd (k:Int)):=by
  unfold C5 at h
  split at h
  ·cases h;exact⟨_,rfl⟩
  ·cases h
def pS (S:ES)(d:Nat):Option Operand→Option Nat
  |none=>some d
  |some z=>C5 (jA S z)
theorem jE {S:ES}{d l:Nat}{lo:Option Operand}(h:pS S d lo=some l):lo=none∧l=d∨∃z k,lo=some z∧(den S).eval z=.lit (.int k (l:Nat)):=by
  cases lo with
  |none=>cases h;exact .inl ⟨rfl,rfl⟩
  | some z=>
    obtain⟨kd,hk⟩:=mC h
    exact .inr ⟨z,kd,rfl,by rw[bR];exact hk⟩
def LZ (Γ:ct)(S:ES)(t:TypeId)(y z:Operand):Option ER:=
  match lK Γ t,jA S y,C5 (jA S z) with
  | some (.sl _ wd _),.own tk off len,some i=>match mE S tk with
    | .live wd' _ _=>match Nat.beq wd wd',Nat.ble (i+1) len with
      |true,true=>some ([tk],.ptr tk (off+i) 0,[],S.nx)
      |_,_=>none
    |_=>none
  | some (.sl _ wd _),.sl wd' rows,some i=>match Nat.beq wd wd',gN rows i with
    |true,some r=>some ([],.fptr r 0,[],S.nx)
    |_,_=>none
  | some (.ar _ len _ wd _),.ptr tk i0 k0,some i=>match Nat.ble (i+1) len with
    |true=>some ([],.ptr tk i0 (k0+i*wd),[],S.nx)
    |false=>none
  |_,_,_=>none
def KM (Γ:ct)(S:ES)(t:TypeId)(y:Operand)(lo hi mx:Option Operand):Option ER:=
  match mx with
  | none =>match lK Γ t,jA S y with
    | some (.sl _ wd _),.own tk off len=>match mE S tk,pS S 0 lo,pS S len hi with
      | .live wd' _ _,some l,some h=>match Nat.beq wd wd',Nat.ble l h,Nat.ble h len with
        |true,true,true=>some ([tk],.own tk (off+l) (h-l),[],S.nx)
        |_,_,_=>none
      |_,_,_=>none
    | some (.sl _ wd _),.sl wd' rows=>match pS S 0 lo,pS S rows.length hi with
      | some l,some h=>match Nat.beq wd wd',Nat.ble l h,Nat.ble h rows.length with
        |true,true,true=>some ([],.sl wd' ((rows.drop l).take (h-l)),[],S.nx)
        |_,_,_=>none
      |_,_=>none
    | some .str,.lit (.string s)=>match pS S 0 lo,pS S s.size hi with
      | some l,some h=>match Nat.ble l h,Nat.ble h s.size with
        |true,true=>some ([],.lit (.string (s.extract l h)),[],S.nx)
        |_,_=>none
      |_,_=>none
    |_,_=>none
  | some mx=>match lo,hi with
    | none,some hi=>match lK Γ t,C5 (jA S hi),C5 (jA S mx) with
      | some (.sl _ _ _),some 0,some 0=>match jA S y with
        |.own _ _ _=>some ([],.emp,[],S.nx)
        |.sl _ _=>some ([],.emp,[],S.nx)
        |.emp=>some ([],.emp,[],S.nx)
        | .lit v=>match oD v with
          |true=>some ([],.emp,[],S.nx)
          |false=>none
        |_=>none
      |_,_,_=>none
    |_,_=>none
def uP (S:ES):Bool:=match mE S S.nx with
  |.free=>true
  |_=>false
theorem nM {S:ES}(h:uP S=true):(den S).mem S.nx=.free:=by
  unfold uP at h
  rw[gO]
  split at h
  ·assumption
  ·cases h
def L9 (Γ:ct)(S:ES)(t:TypeId)(len:Nat)(parts:List (Nat×Operand)):Option ER:=
  match lK Γ t with
  | some (.sl _ wd _)=>match uP S,nk wd 0 (parts.map fun p=>(p.1,jA S p.2)),Nat.beq parts.length len,Nat.ble (len*wd) 16777216 with
    |true,true,true,true=>some ([S.nx],.own S.nx 0 len,[(S.nx,.live wd (parts.map fun p=>jA S p.2) false)],S.nx+1)
    |_,_,_,_=>none
  |_=>none
def GI (S:ES)(wd:Nat):AV→Option (List AV×List Nat)
  | .own t off len=>match mE S t with
    | .live wd' rows false=>match Nat.beq wd wd',Nat.ble (off+len) rows.length with
      |true,true=>some ((rows.drop off).take len,[t])
      |_,_=>none
    |_=>none
  |.emp=>some ([],[])
  | .lit v=>match oD v with
    |true=>some ([],[])
    |false=>none
  |_=>none
def L7 (S:ES)(wd:Nat):AV→Option (List AV×List Nat)
  | .own t off len=>match mE S t with
    | .live wd' rows _=>match Nat.beq wd wd',Nat.ble (off+len) rows.length with
      |true,true=>some ((rows.drop off).take len,[t])
      |_,_=>none
    |_=>none
  | .sl wd' rows=>match Nat.beq wd wd' with
    |true=>some (rows,[])
    |false=>none
  |.emp=>some ([],[])
  | .lit v=>match oD v with
    |true=>some ([],[])
    |false=>none
  |_=>none
def LU (Γ:ct)(S:ES)(y z:Operand)(t t2:TypeId):Option ER:=
  match lK Γ t,lK Γ t2 with
  | some (.sl _ wd bytes),some (.sl _ _ _)=>match uP S,GI S wd (jA S y),L7 S wd (jA S z) with
    | true,some (rows0,k),some (news,rd)=>match jP (flat news),Nat.ble ((rows0.length+news.length)*bytes) 140737488355328,Nat.ble (rows0.length+news.length) 9223372036854775807 with
      |true,true,true=>some (S.nx::(k++rd),.own S.nx 0 (rows0++news).length,(S.nx,.live wd (rows0++news) false)::k.map fun t=>(t,.dead),S.nx+1)
      |_,_,_=>none
    |_,_,_=>none
  |_,_=>none
def B3 (Γ:ct)(S:ES)(t:TypeId):Option ER:=
  match nB (dz Γ t),uP S with
  |some x,true=>some ([S.nx],.ptr S.nx 0 0,[(S.nx,.live (cells x).length [x] false)],S.nx+1)
  |_,_=>none
def ME (S:ES)(y:Operand):Option ER:=
  match(jA S y).lF,uP S with
  |true,true=>some ([S.nx],.ptr S.nx 0 0,[(S.nx,.live (cells (jA S y)).length [jA S y] false)],S.nx+1)
  |_,_=>none
section
variable {P : Program} {N : Nat} {Γ : ct} {o : Oper} {S : ES} {q : ER}
theorem KO (hΓ:Γ.Good P)(hd:cZ N o.dst=true){t:TypeId}{y z:Operand}(ho:o.op=.indexAddr t y z)(h:LZ Γ S t y z=some q):kz P N o S q:=by
  unfold LZ at h
  split at h
  · rename_i e wd b tk off len i ht hy hz
    rw[cE] at ht
    have ok:=hΓ.look ht
    obtain⟨_,_,te⟩:=ok.2.2.2.2
    obtain⟨kd,hz'⟩:=mC hz
    split at h
    · rename_i wd' rows ro hm
      split at h
      · rename_i h1 h2
        cases h
        have hw:=beq_eq h1
        subst hw
        have:=aG.wH (P:=P) (N:=N) (σ:=den S) ho (by rw[bR];exact hy) (by rw[bR];exact hz') te.ty ok.2.2.2.1 (Int.natCast_nonneg i) (by have:=cC h2;omega) ⟨_,_,by rw[gO];exact hm⟩ (aJ hd)
        unfold kz;simpa using this
      ·cases h
    ·cases h
  · rename_i e wd b wd' rows i ht hy hz
    rw[cE] at ht
    have ok:=hΓ.look ht
    obtain⟨_,_,te⟩:=ok.2.2.2.2
    obtain⟨kd,hz'⟩:=mC hz
    split at h
    · rename_i r h1 h2
      cases h
      have hw:=beq_eq h1
      subst hw
      rw[fO] at h2
      exact aG.AX (P:=P) (N:=N) (σ:=den S) ho (by rw[bR];exact hy) (by rw[bR];exact hz') te.ty ok.2.2.2.1 (Int.natCast_nonneg i) (by simpa using h2) (aJ hd)
    ·cases h
  · rename_i n len e wd z0 tk i0 k0 i ht hy hz
    rw[cE] at ht
    have ok:=hΓ.look ht
    obtain⟨kd,hz'⟩:=mC hz
    split at h
    · rename_i h1
      cases h
      have:=aG.xG (P:=P) (N:=N) (σ:=den S) ho (by rw[bR];exact hy) (by rw[bR];exact hz') ok.2.2.2.1 ok.2.2.2.2 (Int.natCast_nonneg i) (by have:=cC h1;omega) (aJ hd)
      unfold kz;simpa using this
    ·cases h
  ·cases h
theorem JB (hΓ:Γ.Good P)(hd:cZ N o.dst=true){t:TypeId}{y:Operand}{lo hi mx:Option Operand}(ho:o.op=.slice t y lo hi mx)(h:KM Γ S t y lo hi mx=some q):kz P N o S q:=by
  cases mx with
  | none =>
    simp only[KM] at h
    split at h
    · rename_i e wd b tk off len ht hy
      rw[cE] at ht
      have ok:=hΓ.look ht
      obtain⟨_,_,te⟩:=ok.2.2.2.2
      split at h
      · rename_i wd' rows ro l hh hm hl hhh
        split at h
        · rename_i h1 h2 h3
          cases h
          have hw:=beq_eq h1
          subst hw
          exact aG.wG (P:=P) (N:=N) (σ:=den S) ho (by rw[bR];exact hy) (jE hl) (jE hhh) (cC h2) (cC h3) te.ty ok.2.2.2.1 ⟨_,_,by rw[gO];exact hm⟩ (aJ hd)
        ·cases h
      ·cases h
    · rename_i e wd b wd' rows ht hy
      rw[cE] at ht
      have ok:=hΓ.look ht
      obtain⟨_,_,te⟩:=ok.2.2.2.2
      split at h
      · rename_i l hh hl hhh
        split at h
        · rename_i h1 h2 h3
          cases h
          have hw:=beq_eq h1
          subst hw
          exact aG.Bl (P:=P) (N:=N) (σ:=den S) ho (by rw[bR];exact hy) (jE hl) (jE hhh) (cC h2) (cC h3) te.ty ok.2.2.2.1 (aJ hd)
        ·cases h
      ·cases h
    · rename_i s ht hy
      rw[cE] at ht
      have ok:=hΓ.look ht
      split at h
      · rename_i l hh hl hhh
        split at h
        · rename_i h2 h3
          cases h
          exact aG.I6 (P:=P) (N:=N) (σ:=den S) ho (by rw[bR];exact hy) ok.2.2.2 (jE hl) (jE hhh) (cC h2) (cC h3) (aJ hd)
        ·cases h
      ·cases h
    ·cases h
  | some mx=>
    simp only[KM] at h
    split at h
    · rename_i hi
      split at h
      · rename_i e wd b ht h1 h2
        rw[cE] at ht
        have ok:=hΓ.look ht
        obtain⟨_,_,te⟩:=ok.2.2.2.2
        obtain⟨k1,h1'⟩:=mC h1
        obtain⟨k2,h2'⟩:=mC h2
        have base:∀x,jA S y=x→((∃tk off len,x=.own tk off len)∨(∃wd rows,x=.sl wd rows)∨x=.emp∨x=.lit (.slice none 0 0))→kz P N o S ([],.emp,[],S.nx):=fun x hy hx=>
          aG.slice3 (P:=P) (N:=N) (σ:=den S) ho (by rw[bR];exact hy) hx (by rw[bR];exact h1') (by rw[bR];exact h2') te.ty ⟨_,ok.2.2.2.1⟩ (aJ hd)
        split at h
        ·rename_i hy;cases h;exact base _ hy (.inl ⟨_,_,_,rfl⟩)
        ·rename_i hy;cases h;exact base _ hy (.inr (.inl ⟨_,_,rfl⟩))
        ·rename_i hy;cases h;exact base _ hy (.inr (.inr (.inl rfl)))
        · rename_i hy
          split at h
          ·rename_i hn;cases h;rw[fP hn] at hy;exact base _ hy (.inr (.inr (.inr rfl)))
          ·cases h
        ·cases h
      ·cases h
    ·cases h
theorem KB (hΓ:Γ.Good P)(hd:cZ N o.dst=true){t:TypeId}{len:Nat}{parts:Array (Nat×Operand)}(ho:o.op=.buildSlice t len parts)(h:L9 Γ S t len parts.toList=some q):kz P N o S q:=by
  unfold L9 at h
  split at h
  · rename_i e wd bytes ht
    rw[cE] at ht
    have ok:=hΓ.look ht
    obtain⟨i,z',te⟩:=ok.2.2.2.2
    split at h
    · rename_i g0 g1 g2 g3
      cases h
      have g1':=nj g1
      have g2':parts.toList.length=len:=beq_eq g2
      have g3':len*wd≤16777216:=cC g3
      have hev:(fun p:Nat×Operand=>(p.1,jA S p.2))=fun p=>(p.1,(den S).eval p.2):=by funext p;rw[bR]
      rw[hev] at g1'
      have hfi:=mh _ 0 [] g1' (by simp)
      have hmap:(parts.toList.map fun p=>jA S p.2)=(parts.toList.map fun p=>(p.1,(den S).eval p.2)).map (·.2):=by
        rw[List.map_map];apply List.map_congr_left;intro p _;simp[bR]
      have:=aG.buildSlice (P:=P) (N:=N) (σ:=den S) (tk:=S.nx) ho te g3' (rows:=(parts.toList.map fun p=>(p.1,(den S).eval p.2)).map (·.2)) (by simp[←g2']) (l8 _ 0 g1')
        (by simp only[List.nil_append,bN] at hfi;rw[←g2'];exact hfi) (nM g0) (aJ hd)
      unfold kz
      rw[hmap]
      simp only[bN,g2'] at this
      exact this
    ·cases h
  ·cases h
theorem G8 {wd:Nat}{x:AV}{rows:List AV}{k:List Nat}(h:GI S wd x=some (rows,k)):sG (den S) wd x rows k:=by
  unfold GI at h
  split at h
  · split at h
    · rename_i hm
      split at h
      · rename_i h1 h2
        have hw:=beq_eq h1
        subst hw
        cases h
        exact .own (by rw[gO];exact hm) (cC h2)
      ·cases h
    ·cases h
  ·cases h;exact .emp
  · split at h
    ·rename_i hn;cases h;rw[fP hn];exact .nil
    ·cases h
  ·cases h
theorem K8 {wd:Nat}{x:AV}{rows:List AV}{k:List Nat}(h:L7 S wd x=some (rows,k)):Src (den S) wd x rows k:=by
  unfold L7 at h
  split at h
  · split at h
    · rename_i hm
      split at h
      · rename_i h1 h2
        have hw:=beq_eq h1
        subst hw
        cases h
        exact .own (by rw[gO];exact hm) (cC h2)
      ·cases h
    ·cases h
  · split at h
    · rename_i h1
      have hw:=beq_eq h1
      subst hw
      cases h
      exact .sl
    ·cases h
  ·cases h;exact .emp
  · split at h
    ·rename_i hn;cases h;rw[fP hn];exact .nil
    ·cases h
  ·cases h
theorem Kk (hΓ:Γ.Good P)(hd:cZ N o.dst=true){y z:Operand}{t t2:TypeId}(ho:o.op=.call {callee:=.builtin .append,args:= #[y,z],argTypes:= #[t,t2]})(h:LU Γ S y z t t2=some q):kz P N o S q:=by
  unfold LU at h
  split at h
  · rename_i e wd bytes e2 wd2 bytes2 ht ht2
    rw[cE] at ht ht2
    have ok:=hΓ.look ht
    obtain⟨i,z',te⟩:=ok.2.2.2.2
    have ok2:=hΓ.look ht2
    obtain⟨i2,z2,te2⟩:=ok2.2.2.2.2
    split at h
    · rename_i rows0 k news rd hf hb hx
      split at h
      · rename_i h1 h2 h3
        cases h
        have h2':=cC h2
        have h3':=cC h3
        exact aG.append (P:=P) (N:=N) (σ:=den S) (tn:=S.nx) ho te te2.ty (by rw[bR];exact G8 hb) (by rw[bR];exact K8 hx) h1 h2' (by unfold maxLen;omega) (nM hf) (aJ hd)
      ·cases h
    ·cases h
  ·cases h
theorem FI (hΓ:Γ.Good P)(hd:cZ N o.dst=true){t:TypeId}(ho:o.op=.alloc t)(h:B3 Γ S t=some q):kz P N o S q:=by
  unfold B3 at h
  split at h
  · rename_i x hz hf
    cases h
    obtain⟨z,hz1,rfl⟩:=zZ hΓ hz
    exact aG.alloc (P:=P) (N:=N) (σ:=den S) ho hz1 (nM hf) (aJ hd)
  ·cases h
theorem Jf (hd:cZ N o.dst=true){t:TypeId}{y:Operand}(ho:o.op=.box t y)(h:ME S y=some q):kz P N o S q:=by
  unfold ME at h
  split at h
  · rename_i hs hf
    cases h
    exact aG.box (P:=P) (N:=N) (σ:=den S) ho (bR _ _) hs (nM hf) (aJ hd)
  ·cases h
end
end Go.Am
namespace Go.Am
open Go
mutual
/-- Objects named otherwise; what has no new name is not known. -/
def CH (f:Nat→Option Nat):AV→AV
  | .own t o l=>match f t with
    |some u=>.own u o l
    |none=>.any
  | .ptr t i k=>match f t with
    |some u=>.ptr u i k
    |none=>.any
  | .mapr t=>match f t with
    |some u=>.mapr u
    |none=>.any
  |.agg cs=>.agg (wo f cs)
  |.tup cs=>.tup (wo f cs)
  |.clo g a b=>.clo g (wo f a) (wo f b)
  |.any=>.any
  |.emp=>.emp
  |.guess p q=>.guess p q
  |.lit v=>.lit v
  |.sl w r=>.sl w r
  |.fptr e k=>.fptr e k
  |.fmap r=>.fmap r
def wo (f:Nat→Option Nat):List AV→List AV
  |[]=>[]
  |x::r=>CH f x::wo f r
end
theorem BZ (f:Nat→Option Nat):∀l:List AV,wo f l=l.map (CH f)
  |[]=>rfl
  |x::r=>by rw[wo,BZ f r];rfl
section
variable {mm : Nat → MS} {ρ : Nat → Nat} {D F : Nat → Prop} {f : Nat → Option Nat}
mutual
theorem CQ (hf:∀t u,f t=some u→D u∧ρ u=t):∀x:AV,Cv mm ρ D F (CH f x) x
  | .own t o l=>by
    rw[CH]
    split
    · rename_i u h
      obtain⟨h1,h2⟩:=hf t u h
      have:=Cv.own (m:=mm) (ρ:=ρ) (D:=D) (F:=F) (t:=u) (o:=o) (l:=l) h1
      rwa [h2] at this
    ·exact .any
  | .ptr t i k=>by
    rw[CH]
    split
    · rename_i u h
      obtain⟨h1,h2⟩:=hf t u h
      have:=Cv.ptr (m:=mm) (ρ:=ρ) (D:=D) (F:=F) (t:=u) (i:=i) (k:=k) h1
      rwa [h2] at this
    ·exact .any
  | .mapr t=>by
    rw[CH]
    split
    · rename_i u h
      obtain⟨h1,h2⟩:=hf t u h
      have:=Cv.mapr (m:=mm) (ρ:=ρ) (D:=D) (F:=F) (t:=u) h1
      rwa [h2] at this
    ·exact .any
  | .agg cs=>by
    rw[CH]
    have:=l5 hf cs
    exact .agg this.1 this.2
  | .tup cs=>by
    rw[CH]
    have:=l5 hf cs
    exact .tup this.1 this.2
  | .clo g a b=>by
    rw[CH]
    have h1:=l5 hf a
    have h2:=l5 hf b
    exact .clo h1.1 h2.1 h1.2 h2.2
  |.any=>.any
  |.emp=>.same rfl
  |.guess p q=>.same rfl
  |.lit v=>.same rfl
  |.sl w r=>.same rfl
  |.fptr e k=>.same rfl
  |.fmap r=>.same rfl
theorem l5 (hf:∀t u,f t=some u→D u∧ρ u=t):∀l:List AV,ig mm ρ D F (wo f l) l
  |[]=>.nil
  |x::r=>by rw[wo];exact .cons (CQ hf x) (l5 hf r)
end
end
theorem E9 (f:Nat→Option Nat)(x:AV):(cells (CH f x)).length=(cells x).length:=by
  cases x with
  |agg cs=>show(wo f cs).length=cs.length;rw[BZ,bN]
  |own t o l=>rw[CH];split<;>rfl
  |ptr t i k=>rw[CH];split<;>rfl
  |mapr t=>rw[CH];split<;>rfl
  |_=>rfl
theorem vE {f:Nat→Option Nat}{wd:Nat}{rows:List AV}(h:bJ wd rows):bJ wd (wo f rows):=by
  intro i r hr
  rw[BZ,fI] at hr
  cases hx:rows[i]? with
  |none=>rw[hx] at hr;cases hr
  | some x=>
    rw[hx] at hr
    cases hr
    rw[E9]
    exact h i x hx
def oS:List Nat→Nat→Nat→Option Nat
  |[],_,_=>none
  | x::r,i,t=>match Nat.beq x t with
    |true=>some i
    |false=>oS r (i+1) t
theorem vn:∀ {ns:List Nat} {i t u:Nat},oS ns i t=some u→i≤u∧ns[u-i]? =some t
  |[],_,_,_,h=>by cases h
  | x ::r,i,t,u,h=>by
    simp only[oS] at h
    split at h
    · rename_i hb
      cases h
      exact⟨Nat.le_refl _,by rw[Nat.sub_self,beq_eq hb];rfl⟩
    · obtain⟨h1,h2⟩:=vn h
      refine⟨by omega,?_⟩
      rw[show u-i=(u- (i+1))+1 by omega]
      exact h2
def LR (S:ES)(t:Nat)(acc:List Nat):List Nat:=match mE S t with
  | .live _ _ false=>match pq acc t with
    |true=>acc
    |false=>acc++ [t]
  |_=>acc
mutual
def L0 (S:ES):AV→List Nat→List Nat
  |.own t _ _,acc=>LR S t acc
  |.ptr t _ _,acc=>LR S t acc
  |.mapr t,acc=>LR S t acc
  |.agg cs,acc=>zX S cs acc
  |.tup cs,acc=>zX S cs acc
  |.clo _ a b,acc=>zX S b (zX S a acc)
  |.any,acc=>acc
  |.emp,acc=>acc
  |.guess _ _,acc=>acc
  |.lit _,acc=>acc
  |.sl _ _,acc=>acc
  |.fptr _ _,acc=>acc
  |.fmap _,acc=>acc
def zX (S:ES):List AV→List Nat→List Nat
  |[],acc=>acc
  |x::r,acc=>zX S r (L0 S x acc)
end
def rJ:Nat→ES→Nat→List Nat→List Nat
  |0,_,_,ns=>ns
  | n +1,S,i,ns=>match gN ns i with
    |none=>ns
    | some t=>match mE S t with
      |.live _ rows false=>rJ n S (i+1) (zX S rows ns)
      |_=>rJ n S (i+1) ns
abbrev iI:=FuncId→List MS→List AV→Option (List MS×AV)
def Kg (S:ES)(f:Nat→Option Nat):List Nat→Option (List MS)
  |[]=>some []
  | t::r=>match mE S t,Kg S f r with
    |.live wd rows false,some l=>some (.live wd (wo f rows) false::l)
    |_,_=>none
def sx:Nat→Nat→List Nat
  |_,0=>[]
  |n,k+1=>n::sx (n+1) k
def qB (S:ES):List Nat→Bool
  |[]=>true
  | t::r=>match mE S t with
    |.free=>qB S r
    |_=>false
def Ay (f:Nat→Option Nat):List MS→Option (List MS)
  |[]=>some []
  | .live wd rows false::r=>match Ay f r with
    |some l=>some (.live wd (wo f rows) false::l)
    |none=>none
  | .dead::r=>match Ay f r with
    |some l=>some (.dead::l)
    |none=>none
  |_::_=>none
def Bf (cM:iI)(S:ES)(g:FuncId)(ys:List AV):Option ER:=
  match rJ 1000 S 0 (zX S ys []) with
  | ns => match Kg S (oS ns 0) ns with
    |none=>none
    | some ins=>match cM g ins (wo (oS ns 0) ys) with
      |none=>none
      | some (outs,res)=>match ns++sx S.nx (outs.length-ns.length) with
        | names=>match pA names,qB S (sx S.nx (outs.length-ns.length)),(Nat.ble ns.length outs.length&&Nat.ble ns.length 1000000),Ay (fun i=>names[i]?) outs with
          |true,true,true,some news=>some (names,CH (fun i=>names[i]?) res,names.zip news,S.nx+ (outs.length-ns.length))
          |_,_,_,_=>none
section
variable {P : Program} {N : Nat} {o : Oper} {S : ES}
theorem DO {f:Nat→Option Nat}:∀ {ns:List Nat} {ins:List MS},Kg S f ns=some ins→ins.length=ns.length∧∀ (k:Nat) (s:MS) (t:Nat),ins[k]? =some s→ns[k]? =some t→∃wd rows,s=.live wd (wo f rows) false∧mE S t=.live wd rows false
  |[],ins,h=>by cases h;exact⟨rfl,by simp⟩
  | t ::r,ins,h=>by
    simp only[Kg] at h
    split at h
    · rename_i wd rows l hm hl
      cases h
      obtain⟨h1,h2⟩:=DO hl
      refine⟨by simp[h1],fun k s t' hs ht=>?_⟩
      cases k with
      |zero=>simp at hs ht;subst hs;subst ht;exact⟨wd,rows,rfl,hm⟩
      |succ k=>exact h2 k s t' (by simpa using hs) (by simpa using ht)
    ·cases h
theorem vS {f:Nat→Option Nat}:∀ {outs news:List MS},Ay f outs=some news→news.length=outs.length∧∀ (k:Nat) (s:MS),news[k]? =some s→(∃wd rows0,s=.live wd (wo f rows0) false∧outs[k]? =some (.live wd rows0 false))∨(s=.dead∧outs[k]? =some .dead)
  |[],news,h=>by cases h;exact⟨rfl,by simp⟩
  | s0 ::r,news,h=>by
    unfold Ay at h
    split at h
    ·cases ‹s0::r=[]›
    · rename_i wd rows r' he
      cases he
      split at h
      · rename_i l hl
        cases h
        obtain⟨h1,h2⟩:=vS hl
        refine⟨by simp[h1],fun k s hs=>?_⟩
        cases k with
        |zero=>simp at hs;subst hs;exact .inl ⟨wd,rows,rfl,rfl⟩
        |succ k=>simpa using h2 k s (by simpa using hs)
      ·cases h
    · rename_i r' he
      cases he
      split at h
      · rename_i l hl
        cases h
        obtain⟨h1,h2⟩:=vS hl
        refine⟨by simp[h1],fun k s hs=>?_⟩
        cases k with
        |zero=>simp at hs;subst hs;exact .inr ⟨rfl,rfl⟩
        |succ k=>simpa using h2 k s (by simpa using hs)
      ·cases h
    ·cases h
theorem vV:∀ (n k:Nat),(sx n k).length=k
  |_,0=>rfl
  |n,k+1=>by simp[sx,vV (n+1) k]
theorem sQ:∀ {l:List Nat},qB S l=true→∀t∈l,mE S t=.free
  |[],_,t,h=>by cases h
  | u ::r,h,t,ht=>by
    simp only[qB] at h
    split at h
    · rename_i hu
      rcases dP.1 ht with h'|h'
      ·rw[h'];exact hu
      ·exact sQ h t h'
    ·cases h
theorem uI {cM:iI}(hF:∀g ins args outs res,cM g ins args=some (outs,res)→aj P g ins args outs res∧ak P g)(hd:cZ N o.dst=true){g:FuncId}{ys:List AV}(hto:gj (den S) o g ys){q:ER}(h:Bf cM S g ys=some q):kz P N o S q:=by
  unfold Bf at h
  generalize rJ 1000 S 0 (zX S ys [])=ns at h
  simp only at h
  split at h
  ·cases h
  · rename_i ins hins
    split at h
    ·cases h
    · rename_i outs res hcall
      generalize hnm:ns++sx S.nx (outs.length-ns.length)=names at h
      split at h
      · rename_i news g1 g2 g3 g4
        cases h
        obtain⟨hfn,hc⟩:=hF _ _ _ _ _ hcall
        obtain⟨i1,i2⟩:=DO hins
        obtain⟨n1,n2⟩:=vS g4
        have hnd:=ld g1
        rw[bO] at g3
        have hle:=cC g3.1
        have hbg:ns.length≤jD:=Nat.le_trans (cC g3.2) (by decide)
        have hlen:names.length=outs.length:=by rw[←hnm,jz,vV];omega
        have hget:∀k t,ns[k]? =some t→names[k]? =some t:=fun k t hk=>by
          rw[←hnm,rW (bj hk).1];exact hk
        have hfwd:∀t u,oS ns 0 t=some u→u<ins.length∧names.getD u 0=t:=fun t u hu=>by
          obtain⟨_,h2⟩:=vn hu
          rw[Nat.sub_zero] at h2
          refine⟨by rw[i1];exact(bj h2).1,?_⟩
          rw[List.getD_eq_getElem?_getD,hget u t h2];rfl
        have hbwd:∀i u,names[i]? =some u→u∈names∧names.idxOf u=i:=fun i u hu=>by
          refine⟨bV hu,?_⟩
          obtain⟨hi,rfl⟩:=bj hu
          exact rY hnd (bA hi)
        have :=aG.dx (P:=P) (N:=N) (o:=o) (σ:=den S) (news:=news) names [] hto hc (l5 hfwd ys) (by simp) (by simp) hnd (by rw[i1];exact hbg) (by omega) (by omega)
          (fun k s t hs ht=>by
            have hk:k<ns.length:=by rw[←i1];exact(bj hs).1
            have ht':ns[k]? =some t:=by
              have:=hget k ns[k] (bA hk)
              rw[ht] at this
              rw[bA hk,this]
            obtain⟨wd,rows,e1,e2⟩:=i2 k s t hs ht'
            exact⟨wd,rows,_,e1,by rw[gO];exact e2,vE,l5 hfwd rows⟩)
          (fun k t hk ht=>by
            rw[gO]
            refine sQ g2 t ?_
            rw[←hnm,List.getElem?_append_right (by omega)] at ht
            exact bV ht)
          hfn (fun k s hs=>by
            rcases n2 k s hs with⟨wd,rows0,e1,e2⟩|⟨e1,e2⟩
            ·exact .inl ⟨wd,_,rows0,e1,e2,vE,l5 hbwd rows0⟩
            ·exact .inr ⟨e1,e2⟩)
          (CQ hbwd res) (aJ hd)
        simpa[kz] using this
      ·cases h
end
end Go.Am
namespace Go.Am
open Go Go.RowKit Go.Lib MapKept
def DX:Value→Value→Bool
  | .int k a,.int k' b=>match Nat.beq (so k) (so k') with
    |true=>decide (a=b)
    |false=>false
  |.string a,.string b=>decide (a=b)
  |_,_=>false
def sZ:TypeDesc→Value→Bool
  |.int k,.int k' _=>Nat.beq (so k') (so k)
  |.string,.string _=>true
  |_,_=>false
theorem nJ {d:TypeDesc}{v:Value}(h:sZ d v=true):IsKey d v:=by
  unfold sZ at h
  split at h
  ·exact yZ h
  ·trivial
  ·cases h
def yG:AV→Option (Value×AV)
  |.agg [.lit k,.tup [x]]=>some (k,x)
  |_=>none
theorem Co {r:AV}{k:Value}{x:AV}(h:yG r=some (k,x)):r=entry k x:=by
  unfold yG at h
  split at h
  ·cases h;rfl
  ·cases h
def gi (d:TypeDesc)(key:Value):List AV→Nat→Option (Option (Nat×AV))
  |[],_=>some none
  | r :: rs,i=>match yG r with
    | some (k,x)=>match sZ d k,gi d key rs (i+1) with
      | true,some q=>match DX k key with
        |true=>some (some (i,x))
        |false=>some q
      |_,_=>none
    |none=>none
theorem xR {d:TypeDesc}{a b:Value}(ha:IsKey d a)(hb:sZ d b=true):DX a b=true↔a=b:=by
  unfold sZ at hb
  split at hb
  · rename_i k k' n'
    have e:=yZ hb
    cases a with
    | int k2 n2=>
      have e2:k2=k:=ha
      rw[e,e2]
      simp[DX]
    |_=>exact absurd ha (by simp[IsKey])
  · cases a with
    |string s=>simp[DX]
    |_=>exact absurd ha (by simp[IsKey])
  ·cases hb
theorem nX {d:TypeDesc}{key:Value}(hk:sZ d key=true):∀ {rows:List AV} {i:Nat} {q:Option (Nat×AV)},gi d key rows i=some q→jw d rows∧
    match q with
    |some (j,x)=>i≤j∧rows[j-i]? =some (entry key x)
    |none=> ∀r,entry key r∉rows
  |[],i,q,h=>by cases h;exact⟨jw.nil,by simp⟩
  | r :: rs, i,q,h=>by
    simp only[gi] at h
    split at h
    · rename_i k x he
      have her:=Co he
      subst her
      split at h
      · rename_i q' hkey hrest
        obtain⟨e1,e2⟩:=nX hk hrest
        have hkk:=nJ hkey
        have hE:jw d (entry k x::rs):=fun r hr=>by
          rcases dP.1 hr with h'|h'
          ·exact⟨k,x,h',hkk⟩
          ·exact e1 r h'
        split at h
        · rename_i heq
          cases h
          have:=(xR hkk hk).1 heq
          subst this
          exact⟨hE,Nat.le_refl _,by simp⟩
        · rename_i hne
          cases h
          refine⟨hE,?_⟩
          cases q with
          | some p=>
            obtain⟨j,y⟩:=p
            obtain⟨h1,h2⟩:=e2
            refine⟨by omega,?_⟩
            rw[show j-i=(j- (i+1))+1 by omega]
            exact h2
          | none=>
            intro r hr
            rcases dP.1 hr with h'|h'
            · have:=(sv h').1
              rw[(xR hkk hk).2 this.symm] at hne
              cases hne
            ·exact e2 r h'
      ·cases h
    ·cases h
abbrev vU:=List (Nat×TypeDesc×Value)
def vU.Good (P:Program)(Δ:vU):Prop:=∀p∈Δ,iX P p.1 p.2.1 p.2.2
def Np:vU→Nat→Option (TypeDesc×Value)
  |[],_=>none
  | (k,d)::r,t=>match Nat.beq t k with
    |true=>some d
    |false=>Np r t
theorem zi {P:Program}:∀ {Δ:vU},Δ.Good P→∀ {t:Nat} {d:TypeDesc} {z:Value},Np Δ t=some (d,z)→iX P t d z
  |[],_,t,d,z,h=>by cases h
  | (k,d0,z0)::r,hg,t,d,z,h=>by
    simp only[Np] at h
    split at h
    · rename_i hb
      cases h
      rw[beq_eq hb]
      exact hg _ (eS ..)
    ·exact zi (fun p hp=>hg p (dQ _ hp)) h
def BW (S:ES):Option ER:=match uP S with
  |true=>some ([S.nx],.mapr S.nx,[(S.nx,.live 2 [] false)],S.nx+1)
  |false=>none
def F6 (Δ:vU)(S:ES)(t:TypeId)(y x:Operand)(c:Bool):Option ER:=
  match Np Δ t,jA S y,jA S x with
  | some (d,z),.mapr tk,.lit key=>match mE S tk,sZ d key with
    | .live _ rows _,true=>match gi d key rows 0 with
      |some (some (_,r))=>some ([tk],if c then .tup [r,.lit (.bool true)] else r,[],S.nx)
      |some none=>some ([tk],if c then .tup [mY z,.lit (.bool false)] else mY z,[],S.nx)
      |none=>none
    |_,_=>none
  |_,_,_=>none
def zx (Δ:vU)(S:ES)(t:TypeId)(y x v:Operand):Option ER:=
  match Np Δ t,jA S y,jA S x with
  | some (d,_),.mapr tk,.lit key=>match mE S tk,sZ d key with
    | .live wd rows false,true=>match gi d key rows 0,Nat.beq wd 2,Nat.ble (rows.length+2) maxLen with
      |some (some (i,_)),_,_=>some ([tk],.any,[(tk,.live wd (rows.set i (entry key (jA S v))) false)],S.nx)
      |some none,true,true=>some ([tk],.any,[(tk,.live wd (rows++ [entry key (jA S v)]) false)],S.nx)
      |_,_,_=>none
    |_,_=>none
  |_,_,_=>none
def GM (Γ:ct)(S:ES)(t:TypeId)(y z:Operand):Option ER:=
  match lK Γ t,jA S y,C5 (jA S z) with
  | some .str,.lit (.string s),some k=>match gN s.data.toList k with
    |some c=>some ([],.lit (.int .u8 c.toNat),[],S.nx)
    |none=>none
  |_,_,_=>none
def Iq (Δ:vU)(S:ES)(t:TypeId)(y:Operand):Option ER:=
  match Np Δ t,jA S y with
  | some _,.mapr tk=>match mE S tk with
    |.live _ rows _=>some ([tk],.lit (.int .i64 rows.length),[],S.nx)
    |_=>none
  |_,_=>none
def MQ (Γ:ct)(S:ES)(o:Oper)(op:BinOp)(t:TypeId)(y z:Operand):Option ER:=
  match op,jA S y,jA S z with
  | .add,.lit (.string a),.lit (.string b)=>match Nat.ble (a.size+b.size) 9223372036854775807 with
    |true=>some ([],.lit (.string (a++b)),[],S.nx)
    |false=>none
  | .eql,.own _ _ (_+1),.lit v=>match oD v,lK Γ t with
    |true,some (.sl ..)=>some ([],.lit (.bool false),[],S.nx)
    |_,_=>kW Γ S o
  | .neq,.own _ _ (_+1),.lit v=>match oD v,lK Γ t with
    |true,some (.sl ..)=>some ([],.lit (.bool true),[],S.nx)
    |_,_=>kW Γ S o
  | .eql,.lit u,.lit v=>match oD u,oD v,lK Γ t with
    |true,true,some (.sl ..)=>some ([],.lit (.bool true),[],S.nx)
    |_,_,_=>kW Γ S o
  | .neq,.lit u,.lit v=>match oD u,oD v,lK Γ t with
    |true,true,some (.sl ..)=>some ([],.lit (.bool false),[],S.nx)
    |_,_,_=>kW Γ S o
  |_,_,_=>kW Γ S o
theorem cz.Mm {P:Program}{N:Nat}{w0:World}{W0:Nat→Prop}{L μ:Mu}{σ:aA}{a:Act}{w:World}(hs:cz P N w0 W0 L μ σ a w){sl:Nat→AV}(h:∀i v,cD (Wr W0 μ σ.mem) μ w (σ.slots i) v→cD (Wr W0 μ σ.mem) μ w (sl i) v):cz P N w0 W0 L μ ⟨sl,σ.mem⟩ a w where
  tsize:=hs.tsize
  defers:=hs.defers
  os:=hs.os
  tape:=hs.tape
  output:=hs.output
  hsize:=hs.hsize
  shp:=hs.shp
  keep:=hs.keep
  w0lt:=hs.w0lt
  lentμ:=hs.lentμ
  free:=hs.free
  slots i:=h i _ (hs.slots i)
  objs:=hs.objs
  inj:=hs.inj
  out:=hs.out
  tabs:=hs.tabs
theorem aG.sure {P:Program}{N:Nat}{o:Oper}{σ:aA}{rd:List Nat}{p q:Prop}{b:Bool}{ups:ML}(h:aG P N o σ rd (.guess p q) ups)(hb:(b=false∧¬p)∨(b=true∧¬q)):aG P N o σ rd (.lit (.bool b)) ups:=by
  intro σ2 h1 h2 w0 W0 L μ a w K Q hs hK
  refine h σ2 h1 h2 w0 W0 L μ a w K Q hs fun μ' a' w' hs'=>?_
  refine hK μ' a' w' ?_
  have := hs'.Mm (sl:=(σ2.yI o.dst (.lit (.bool b)) ups).slots) (fun i v hv=>by
    unfold aA.yI at hv ⊢
    cases hd:o.dst with
    |none=>rw[hd] at hv;exact hv
    | some d =>
      rw[hd] at hv
      simp only[dA] at hv ⊢
      by_cases hi:i=d
      · rw [if_pos hi] at hv ⊢
        cases hv with
        | guess g1 g2=>
          rename_i c
          rcases hb with⟨rfl,hp⟩|⟨rfl,hq⟩
          · cases c with
            |true=>exact absurd (g1 rfl) hp
            |false=>exact .lit
          · cases c with
            |true=>exact .lit
            |false=>exact absurd (g2 rfl) hq
      ·rw[if_neg hi] at hv ⊢;exact hv)
  exact this
section
variable {P : Program} {N : Nat} {Γ : ct} {Δ : vU} {o : Oper} {S : ES} {q : ER}
theorem FQ (hd:cZ N o.dst=true){t:TypeId}(ho:o.op=.makeMap t none)(h:BW S=some q):kz P N o S q:=by
  unfold BW at h
  split at h
  · rename_i hf
    cases h
    exact aG.makeMap (P:=P) (N:=N) (σ:=den S) ho (nM hf) (aJ hd)
  ·cases h
theorem HM (hΔ:Δ.Good P)(hd:cZ N o.dst=true){t:TypeId}{y x:Operand}{c:Bool}(ho:o.op=.lookup t y x c)(h:F6 Δ S t y x c=some q):kz P N o S q:=by
  unfold F6 at h
  split at h
  · rename_i d z tk key ht hy hx
    have hT:=zi hΔ ht
    split at h
    · rename_i wd rows ro hm hk
      have hsrc:l7 (den S) (.mapr tk) rows [tk]:=.own (by rw[gO];exact hm)
      split at h
      · rename_i j r hf
        cases h
        obtain⟨e1,_,e3⟩:=nX hk hf
        exact aG.lookup (P:=P) (N:=N) (σ:=den S) ho (by rw[bR];exact hy) hsrc (by rw[bR];exact hx) hT (nJ hk) e1 e3 (aJ hd)
      · rename_i hf
        cases h
        obtain⟨e1,e2⟩:=nX hk hf
        exact aG.zQ (P:=P) (N:=N) (σ:=den S) ho (by rw[bR];exact hy) hsrc (by rw[bR];exact hx) hT (nJ hk) e1 e2 (aJ hd)
      ·cases h
    ·cases h
  ·cases h
theorem Cw (hΔ:Δ.Good P)(hd:cZ N o.dst=true){t:TypeId}{y x v:Operand}(ho:o.op=.mapUpdate t y x v)(h:zx Δ S t y x v=some q):kz P N o S q:=by
  unfold zx at h
  split at h
  · rename_i d z tk key ht hy hx
    have hT:=zi hΔ ht
    split at h
    · rename_i wd rows hm hk
      split at h
      · rename_i j r hf
        cases h
        obtain⟨e1,_,e3⟩:=nX hk hf
        exact aG.mapUpdate (P:=P) (N:=N) (σ:=den S) ho (by rw[bR];exact hy) (by rw[gO];exact hm) (by rw[bR];exact hx) (bR _ _) hT (nJ hk) e1 e3 (aJ hd)
      · rename_i hf hw hl
        cases h
        obtain⟨e1,e2⟩:=nX hk hf
        exact aG.qH (P:=P) (N:=N) (σ:=den S) ho (by rw[bR];exact hy) (by rw[gO];exact hm) (by rw[bR];exact hx) (bR _ _) hT (nJ hk) e1 e2 (by have:=cC hl;omega) (beq_eq hw) (aJ hd)
      ·cases h
    ·cases h
  ·cases h
theorem Gc (hΓ:Γ.Good P)(hd:cZ N o.dst=true){t:TypeId}{y z:Operand}(ho:o.op=.index t y z)(h:GM Γ S t y z=some q):kz P N o S q:=by
  unfold GM at h
  split at h
  · rename_i s k ht hy hz
    rw[cE] at ht
    have ok:=hΓ.look ht
    obtain⟨kd,hz'⟩:=mC hz
    split at h
    · rename_i c hc
      cases h
      rw[fO] at hc
      exact aG.IE (P:=P) (N:=N) (σ:=den S) ho (by rw[bR];exact hy) (by rw[bR];exact hz') ok.2.2.2 hc (aJ hd)
    ·cases h
  ·cases h
theorem I5 (hΔ:Δ.Good P)(hd:cZ N o.dst=true){t:TypeId}{y:Operand}(ho:o.op=.call {callee:=.builtin .len,args:= #[y],argTypes:= #[t]})(h:Iq Δ S t y=some q):kz P N o S q:=by
  unfold Iq at h
  split at h
  · rename_i d tk ht hy
    obtain⟨d1,z1⟩:=d
    have hT:=zi hΔ ht
    split at h
    · rename_i wd rows ro hm
      cases h
      exact aG.Il (P:=P) (N:=N) (σ:=den S) ho (by rw[bR];exact hy) (.own (by rw[gO];exact hm)) hT (aJ hd)
    ·cases h
  ·cases h
theorem Jk (hΓ:Γ.Good P)(hd:cZ N o.dst=true){op:BinOp}{t yt:TypeId}{y z:Operand}(ho:o.op=.binOp op t y z yt)(h:MQ Γ S o op t y z=some q):kz P N o S q:=by
  unfold MQ at h
  split at h
  · rename_i a b hy hz
    split at h
    · rename_i hn
      cases h
      have hn':=cC hn
      exact aG.binOp (P:=P) (N:=N) (σ:=den S) ho (by rw[bR];exact hy) (by rw[bR];exact hz) (fun w=>by simp[eqGuard,binOp,run_string_add_sum w a b hn']) (aJ hd)
    ·cases h
  · rename_i tk off n v hy hz
    split at h
    · rename_i hn ht
      cases h
      rw[cE] at ht
      have ok:=hΓ.look ht
      obtain⟨_,_,te⟩:=ok.2.2.2.2
      rw[fP hn] at hz
      have:=aG.DG (P:=P) (N:=N) (σ:=den S) ho (.inl rfl) (by rw[bR];exact hy) (by rw[bR];exact hz) te.ty (.inl ⟨_,_,rfl⟩) (aJ hd)
      rw[if_pos rfl] at this
      exact this.sure (.inl ⟨rfl,by omega⟩)
    ·exact gS hΓ hd h
  · rename_i tk off n v hy hz
    split at h
    · rename_i hn ht
      cases h
      rw[cE] at ht
      have ok:=hΓ.look ht
      obtain⟨_,_,te⟩:=ok.2.2.2.2
      rw[fP hn] at hz
      have:=aG.DG (P:=P) (N:=N) (σ:=den S) ho (.inr rfl) (by rw[bR];exact hy) (by rw[bR];exact hz) te.ty (.inl ⟨_,_,rfl⟩) (aJ hd)
      rw[if_neg (by decide)] at this
      exact this.sure (.inr ⟨rfl,by omega⟩)
    ·exact gS hΓ hd h
  · rename_i u v hy hz
    split at h
    · rename_i hn hn' ht
      cases h
      rw[cE] at ht
      have ok:=hΓ.look ht
      obtain⟨_,_,te⟩:=ok.2.2.2.2
      rw[fP hn] at hy
      rw[fP hn'] at hz
      refine aG.binOp (P:=P) (N:=N) (σ:=den S) ho (by rw[bR];exact hy) (by rw[bR];exact hz) (fun w=>?_) (aJ hd)
      simp only[eqGuard,binOp,Op.equal]
      rw[show Op.maxDepth=9999+1 from rfl]
      unfold Op.equalIn
      simp[run_underlying te.ty]
    ·exact gS hΓ hd h
  · rename_i u v hy hz
    split at h
    · rename_i hn hn' ht
      cases h
      rw[cE] at ht
      have ok:=hΓ.look ht
      obtain⟨_,_,te⟩:=ok.2.2.2.2
      rw[fP hn] at hy
      rw[fP hn'] at hz
      refine aG.binOp (P:=P) (N:=N) (σ:=den S) ho (by rw[bR];exact hy) (by rw[bR];exact hz) (fun w=>?_) (aJ hd)
      simp only[eqGuard,binOp,Op.equal]
      rw[show Op.maxDepth=9999+1 from rfl]
      unfold Op.equalIn
      simp[run_underlying te.ty]
    ·exact gS hΓ hd h
  ·exact gS hΓ hd h
end
end Go.Am
section

end
namespace Go.Am
open Go Go.RowKit Go.Lib MapKept
structure kr where
  Γ:ct
  Δ:vU
  fns:List (Nat×Func)
  kinds:List (Nat×IntKind)
  orc:iI
  ifs:List Nat
def OX:List (Nat×Func)→Nat→Option Func
  |[],_=>none
  | (k,f)::r,g=>match Nat.beq g k with
    |true=>some f
    |false=>OX r g
def NV:List (Nat×IntKind)→Nat→Option IntKind
  |[],_=>none
  | (k,f)::r,g=>match Nat.beq g k with
    |true=>some f
    |false=>NV r g
structure kr.Good (P:Program) (E:kr):Prop where
  Γ:E.Γ.Good P
  Δ:E.Δ.Good P
  fns:∀p∈E.fns,P.funcs[p.1]? =some p.2∧ak P p.1
  kinds:∀p∈E.kinds,P.underlying p.1=some (.int p.2)
  orc:∀g ins args outs res,E.orc g ins args=some (outs,res)→aj P g ins args outs res∧ak P g
  orders:P.follows .mixedOrders=true
  ifs:∀t∈E.ifs,∃ms,P.underlying t=some (.interface ms)
theorem DP:∀ {l:List (Nat×Func)} {g:Nat} {f:Func},OX l g=some f→(g,f)∈l
  |[],_,_,h=>by cases h
  | (k,f0)::r,g,f,h=>by
    simp only[OX] at h
    split at h
    ·rename_i hb;cases h;rw[beq_eq hb];exact eS ..
    ·exact dQ _ (DP h)
theorem zB:∀ {l:List (Nat×IntKind)} {g:Nat} {f:IntKind},NV l g=some f→(g,f)∈l
  |[],_,_,h=>by cases h
  | (k,f0)::r,g,f,h=>by
    simp only[NV] at h
    split at h
    ·rename_i hb;cases h;rw[beq_eq hb];exact eS ..
    ·exact dQ _ (zB h)
def F8 (E:kr)(S:ES)(src dst:TypeId)(y:Operand):Option ER:=
  match NV E.kinds src,NV E.kinds dst,jA S y with
  | some _,some k',.lit (.int _ n)=>match decide (k'.wrap n=n) with
    |true=>some ([],.lit (.int k' n),[],S.nx)
    |false=>none
  |_,_,_=>none
def Ld:List Nat→Nat→Bool
  |[],_=>false
  | x::r,t=>match Nat.beq x t with
    |true=>true
    |false=>Ld r t
theorem Dj:∀ {l:List Nat} {t:Nat},Ld l t=true→t∈l
  |[],_,h=>by cases h
  | x::r,t,h=>by
    simp only[Ld] at h
    split at h
    ·rename_i hb;rw[Nat.eq_of_beq_eq_true hb];exact eS ..
    ·exact dQ _ (Dj h)
def Nw:Operand→Bool
  |.const .nilIface=>true
  |_=>false
def Cr:Value→Bool
  |.nilIface=>true
  |_=>false
def Me (ifs:List Nat)(S:ES)(op:BinOp)(t:TypeId)(y z:Operand):Option ER:=
  match Ld ifs t,jA S y,Nw z with
  | true,.lit v,true=>match Cr v,op with
    |true,.eql=>some ([],.lit (.bool true),[],S.nx)
    |true,.neq=>some ([],.lit (.bool false),[],S.nx)
    |_,_=>none
  |_,_,_=>none
def A1 (E:kr)(cM:iI)(S:ES)(o:Oper):Option ER:=
  match o.op with
  |.indexAddr t y z=>LZ E.Γ S t y z
  |.slice t y lo hi mx=>KM E.Γ S t y lo hi mx
  |.buildSlice t len parts=>L9 E.Γ S t len parts.toList
  |.alloc t=>B3 E.Γ S t
  |.box _ y=>ME S y
  | .makeMap _ hint=>match hint with
    |none=>BW S
    |some _=>none
  |.lookup t y x c=>F6 E.Δ S t y x c
  |.mapUpdate t y x v=>zx E.Δ S t y x v
  |.index t y z=>GM E.Γ S t y z
  |.convert src dst y=>F8 E S src dst y
  | .binOp op t y z _=>match Me E.ifs S op t y z with
    |some q=>some q
    |none=>MQ E.Γ S o op t y z
  | .call c=>match c.callee with
    | .value f=>match f with
      |.func g=>Bf cM S g (c.args.toList.map (jA S))
      | f =>match jA S f with
        |.clo (.func g) first cap=>Bf cM S g (first++c.args.toList.map (jA S)++cap)
        | .lit (.func (.func g) a b)=>match a.toList,b.toList with
          |[],[]=>Bf cM S g (c.args.toList.map (jA S))
          |_,_=>none
        |_=>none
    | .builtin .append=>match c.args.toList,c.argTypes.toList with
      |[y,z],[t,t2]=>LU E.Γ S y z t t2
      |_,_=>none
    | .builtin .len=>match c.args.toList,c.argTypes.toList with
      | [y],[t]=>match Iq E.Δ S t y with
        |some q=>some q
        |none=>kW E.Γ S o
      |_,_=>none
    |_=>kW E.Γ S o
  |_=>kW E.Γ S o
def BM (E : kr)(cM:iI)(N:Nat)(ds:List (Option Nat)):List Oper→Tk→ES→Option (Tk×ES)
  |[],acc,S=>some (acc,S)
  | o :: rest, acc,S=>match kO N o.dst with
    |false=>none
    | true => match o.guard with
      | none=>match A1 E cM S o with
        |some (rd,x,ups,nx)=>BM E cM N ds rest (acc++ [(rd,ups.map Prod.fst)]) (pg S o.dst x ups nx)
        |none=>none
      | some (j,b)=>match gN ds j with
        | some (some d)=>match Nat.ble (d+1) N,jA S (.tmp d) with
          | true,.lit v=>match gv v b with
            | true=>match A1 E cM S o with
              |some (rd,x,ups,nx)=>BM E cM N ds rest (acc++ [(rd,ups.map Prod.fst)]) (pg S o.dst x ups nx)
              |none=>none
            |false=>BM E cM N ds rest (acc++ [([],[])]) (pg S o.dst (.lit undef) [] S.nx)
          |_,_=>none
        |_=>none
def ia (E:kr)(cM:iI)(N:Nat):Nat→Code→ES→Option (Exit×ES)
  |0,_,_=>none
  | n + 1, c,S=>match c with
    |.skip=>some (.normal,S)
    | .region _ ops dr=>match BM E cM N (ops.toList.map Oper.dst) ops.toList [] S with
      | some (acc,S')=>match dr with
        |false=>some (.normal,S')
        | true=>match Region.lexB .any ops,iM ops acc with
          |true,true=>some (.normal,S')
          |_,_=>none
      |none=>none
    | .seq a b=>match ia E cM N n a S with
      |some (.normal,S')=>ia E cM N n b S'
      |r=>r
    | .cond x a b=>match jA S x with
      |.lit (.bool true)=>ia E cM N n a S
      |.lit (.bool false)=>ia E cM N n b S
      |_=>none
    | .block id c=>match ia E cM N n c S with
      | some (.exit j,S')=>match Nat.beq j id with
        |true=>some (.normal,S')
        |false=>some (.exit j,S')
      |r=>r
    |.exit i=>some (.exit i,S)
    |.ret=>some (.ret,S)
    |.label _=>some (.normal,S)
    | .loop c=>match ia E cM N n c S with
      |some (.normal,S')=>ia E cM N n (.loop c) S'
      |r=>r
    |_=>none
theorem BY (E:kr)(cM:iI)(N n:Nat)(c:Code)(S:ES):ia E cM N (n+1) (.loop c) S=match ia E cM N n c S with
      |some (.normal,S')=>ia E cM N n (.loop c) S'
      |r=>r:=rfl
def HN (Γ:ct)(S:ES):ResultVar→Option AV
  |.tmp t=>some (jA S (.tmp t))
  | .cell a t=>match jA S (.tmp a) with
    | .ptr tk i k=>match mE S tk with
      | .live _ rows _=>match gN rows i with
        |some r=>qn (lK Γ t) r k
        |none=>none
      |_=>none
    |_=>none
def Jq (Γ:ct)(S:ES):List ResultVar→Option (List AV)
  |[]=>some []
  | rv::r=>match HN Γ S rv,Jq Γ S r with
    |some x,some xs=>some (x::xs)
    |_,_=>none
def DM (S:ES)(f:Nat→Option Nat):List Nat→Option (List MS)
  |[]=>some []
  | t ::r=>match DM S f r with
    |none=>none
    | some l=>match mE S t with
      |.live wd rows false=>some (.live wd (wo f rows) false::l)
      |.live _ _ true=>some (.dead::l)
      |.dead=>some (.dead::l)
      |.free=>none
def DI:Nat→Nat→List Nat→Bool
  |0,_,_=>true
  | k+1,i,t::r=>match Nat.beq t i with
    |true=>DI k (i+1) r
    |false=>false
  |_+1,_,[]=>false
def Gq (Γ:ct)(nL:Nat)(rvs:List ResultVar)(S:ES):Option (List MS×AV):=
  match Jq Γ S rvs with
  |none=>none
  | some xs=>match rJ 1000 S 0 (L0 S (s7 xs) (List.range nL)) with
    | ns=>match DM S (oS ns 0) ns,pA ns,DI nL 0 ns with
      |some outs,true,true=>some (outs,CH (oS ns 0) (s7 xs))
      |_,_,_=>none
def uA:Nat→List AV→Tr AV
  |_,[]=>.nil
  |k,x::r=>(uA (k+1) r).put k x
def uw:Nat→List MS→Tr MS
  |_,[]=>.nil
  |k,x::r=>(uw (k+1) r).put k x
def wc (E:kr)(fuel:Nat):Nat→iI
  |0=>fun _ _ _=>none
  | n + 1 =>fun g ins args=>match E.orc g ins args with
    |some r=>some r
    | none =>match OX E.fns g with
      |none=>none
      | some fn=>match fn.body,Nat.ble args.length fn.ntmps with
        | some c,true=>match ia E (wc E fuel n) fn.ntmps fuel c ⟨uA 0 args,uw 0 ins,ins.length⟩ with
          |some (.normal,S)=>Gq E.Γ ins.length fn.results.toList S
          |some (.ret,S)=>Gq E.Γ ins.length fn.results.toList S
          |_=>none
        |_,_=>none
section
variable {P : Program} {E : kr} {cM : iI} {N : Nat}
def jK (P:Program)(cM:iI):Prop:=∀g ins args outs res,cM g ins args=some (outs,res)→aj P g ins args outs res∧ak P g
theorem Gl {o:Oper}{S:ES}{q:ER}(hE:E.Good P)(hd:cZ N o.dst=true){src dst:TypeId}{y:Operand}(ho:o.op=.convert src dst y)(h:F8 E S src dst y=some q):kz P N o S q:=by
  unfold F8 at h
  split at h
  · rename_i k0 k' k n h1 h2 hy
    split at h
    · rename_i hn
      cases h
      have hn':=of_decide_eq_true hn
      have hs:=hE.kinds _ (zB h1)
      have hdd:=hE.kinds _ (zB h2)
      refine aG.DL (P:=P) (N:=N) (σ:=den S) ho (by rw[bR];exact hy) (fun w=>?_) (aJ hd)
      have hk:P.intKind dst=k':=by simp[Program.intKind,hdd]
      have:=run_convert_int (P:=P) w src dst k n (by rw[hs];rfl) (by rw[hk];exact hdd)
      rw[hk,hn'] at this
      exact this
    ·cases h
  ·cases h
theorem J7 {o:Oper}{S:ES}{q:ER}(hE:E.Good P)(hd:cZ N o.dst=true){op:BinOp}{t yt:TypeId}{y z:Operand}(ho:o.op=.binOp op t y z yt)(h:Me E.ifs S op t y z=some q):kz P N o S q:=by
  unfold Me at h
  split at h
  · rename_i v hm hy hz
    obtain⟨ms,hi⟩:=hE.ifs t (Dj hm)
    have hz':z=.const .nilIface:=by
      unfold Nw at hz
      split at hz
      ·rfl
      ·cases hz
    subst hz'
    have heq:∀ (d:Nat) w,(Op.equalIn (d+1) t .nilIface .nilIface).run P w=.ok true w:=fun d w=>by simp[Op.equalIn,run_underlying hi]
    have hb:∀op' r,op'=BinOp.eql∧r=true∨op'=BinOp.neq∧r=false→∀w,((do eqGuard op' t y (.const .nilIface) .nilIface .nilIface;binOp op' t .nilIface .nilIface:Sem Value)).run P w=.ok (.bool r) w:=by
      rintro op' r (⟨rfl,rfl⟩|⟨rfl,rfl⟩) w<;>simp only[eqGuard,binOp]<;>simp[Op.equal,Op.maxDepth,heq 9999]
    split at h
    · rename_i hv
      have hv':v=.nilIface:=by
        unfold Cr at hv
        split at hv
        ·rfl
        ·cases hv
      subst hv'
      cases h
      exact aG.binOp (P:=P) (N:=N) (σ:=den S) ho (by rw[bR];exact hy) rfl (hb _ _ (.inl ⟨rfl,rfl⟩)) (aJ hd)
    · rename_i hv
      have hv':v=.nilIface:=by
        unfold Cr at hv
        split at hv
        ·rfl
        ·cases hv
      subst hv'
      cases h
      exact aG.binOp (P:=P) (N:=N) (σ:=den S) ho (by rw[bR];exact hy) rfl (hb _ _ (.inr ⟨rfl,rfl⟩)) (aJ hd)
    ·cases h
  ·cases h
theorem vf (S:ES)(args:Array Operand):args.toList.map (den S).eval=args.toList.map (jA S):=by
  apply List.map_congr_left;intro y _;exact bR S y
theorem F7 {o:Oper}{S:ES}{q:ER}(hE:E.Good P)(hF:jK P cM)(hd:cZ N o.dst=true)(h:A1 E cM S o=some q):kz P N o S q:=by
  unfold A1 at h
  split at h
  ·rename_i ho;exact KO hE.Γ hd ho h
  ·rename_i ho;exact JB hE.Γ hd ho h
  ·rename_i ho;exact KB hE.Γ hd ho h
  ·rename_i ho;exact FI hE.Γ hd ho h
  ·rename_i ho;exact Jf hd ho h
  · rename_i ho
    split at h
    ·exact FQ hd ho h
    ·cases h
  ·rename_i ho;exact HM hE.Δ hd ho h
  ·rename_i ho;exact Cw hE.Δ hd ho h
  ·rename_i ho;exact Gc hE.Γ hd ho h
  ·rename_i ho;exact Gl hE hd ho h
  · rename_i ho
    split at h
    ·rename_i hn;cases h;exact J7 hE hd ho hn
    ·exact Jk hE.Γ hd ho h
  · rename_i c ho
    obtain⟨callee,args,types⟩:=c
    simp only at h
    split at h
    · split at h
      · rw[←vf] at h
        exact uI hF hd (.func ho rfl) h
      · split at h
        · rename_i f hne g first cap hy
          rw[←vf] at h
          exact uI hF hd (.clo ho (by rw[bR];exact hy)) h
        · rename_i f hne g a b hy
          split at h
          · rename_i ha hb
            obtain rfl:a= #[]:=Array.ext' ha
            obtain rfl:b= #[]:=Array.ext' hb
            rw[←vf] at h
            exact uI hF hd (.func ho (by rw[bR];exact hy)) h
          ·cases h
        ·cases h
    · split at h
      · rename_i y z t t2 ea et
        obtain rfl:args= #[y,z]:=Array.ext' ea
        obtain rfl:types= #[t,t2]:=Array.ext' et
        exact Kk hE.Γ hd ho h
      ·cases h
    · split at h
      · rename_i y t ea et
        obtain rfl:args= #[y]:=Array.ext' ea
        obtain rfl:types= #[t]:=Array.ext' et
        split at h
        · rename_i q' hq
          cases h
          exact I5 hE.Δ hd ho hq
        ·exact gS hE.Γ hd h
      ·cases h
    ·exact gS hE.Γ hd h
  ·exact gS hE.Γ hd h
theorem yL (hE:E.Good P)(hF:jK P cM){ops:Array Oper}:∀ (l:List Oper) (acc:Tk) (S:ES) (acc':Tk) (S':ES),BM E cM N (ops.toList.map Oper.dst) l acc S=some (acc',S')→gH P N ops l (den S) (fun es σ'=>σ'=den S'∧acc'=acc++es.map jg.toks)
  | [],acc,S,acc',S',h=>by
    cases h
    exact⟨rfl,by simp⟩
  | o :: rest, acc,S,acc',S',h=>by
    unfold BM at h
    split at h
    ·cases h
    · rename_i hd0
      have hd:=yy hd0
      have go:gA N ops o (den S) true→∀ {q:ER},A1 E cM S o=some q→BM E cM N (ops.toList.map Oper.dst) rest (acc++ [(q.1,q.2.2.1.map Prod.fst)]) (pg S o.dst q.2.1 q.2.2.1 q.2.2.2)=some (acc',S')→
          gH P N ops (o::rest) (den S) (fun es σ'=>σ'=den S'∧acc'=acc++es.map jg.toks):=by
        intro hw q hq hr
        refine⟨⟨o,true,den S,q.1,q.2.1,q.2.2.1⟩,rfl,rfl,⟨hw,aJ hd,fun _=>F7 hE hF hd hq,fun h=>by cases h⟩,?_⟩
        have:=yL hE hF rest _ _ _ _ hr
        rw[wJ] at this
        refine gH.post ?_ this
        rintro es σ' ⟨h1,h2⟩
        exact⟨h1,by rw[h2];simp[jg.toks]⟩
      have skip:gA N ops o (den S) false→BM E cM N (ops.toList.map Oper.dst) rest (acc++ [([],[])]) (pg S o.dst (.lit undef) [] S.nx)=some (acc',S')→
          gH P N ops (o::rest) (den S) (fun es σ'=>σ'=den S'∧acc'=acc++es.map jg.toks):=by
        intro hw hr
        refine⟨⟨o,false,den S,[],.lit undef,[]⟩,rfl,rfl,⟨hw,aJ hd,(fun h=>by cases h),fun _=>⟨rfl,rfl⟩⟩,?_⟩
        have:=yL hE hF rest _ _ _ _ hr
        rw[wJ] at this
        refine gH.post ?_ this
        rintro es σ' ⟨h1,h2⟩
        exact⟨h1,by rw[h2];simp[jg.toks]⟩
      split at h
      · rename_i hg
        split at h
        · rename_i rd x ups nx hq
          exact go (by simp[gA,hg]) hq h
        ·cases h
      · rename_i j b hg
        split at h
        · rename_i d hj
          rw[fO,fI] at hj
          have hj':(ops[j]?).bind (·.dst)=some d:=by
            rw[←Array.getElem?_toList]
            cases ho:ops.toList[j]? with
            |none=>rw[ho] at hj;cases hj
            |some o'=>rw[ho] at hj;simpa using hj
          split at h
          · rename_i v hN hv
            have hw:gA N ops o (den S) (gv v b):=by
              simp only[gA,hg]
              exact⟨d,v,hj',cC hN,hv,rfl⟩
            split at h
            · rename_i hb
              rw[hb] at hw
              split at h
              · rename_i rd x ups nx hq
                exact go hw hq h
              ·cases h
            · rename_i hb
              rw[hb] at hw
              exact skip hw h
          ·cases h
        ·cases h
def P3 (e:Exit)(S:ES):Exit→aA→Prop:=fun e' σ=>e'=e∧σ=den S
theorem Hw (hE:E.Good P)(hF:jK P cM){nL:Nat}:∀ (n:Nat) (c:Code) (S:ES) (e:Exit) (S':ES),ia E cM N n c S=some (e,S')→fj P N nL c (P3 e S') (den S):=by
  intro n
  induction n using Nat.strongRecOn with
  | _ n ih =>
    intro c S e S' h
    cases n with
    |zero=>cases h
    | succ n =>
      have ihn:=ih n (Nat.lt_succ_self n)
      unfold ia at h
      split at h
      ·cases h;exact fj.skip ⟨rfl,rfl⟩
      · rename_i id ops dr
        split at h
        · rename_i acc S1 hops
          have h1:=yL hE hF (ops:=ops) ops.toList [] S acc S1 hops
          obtain⟨l⟩:=ops
          split at h
          · cases h
            refine fj.region (gH.post ?_ h1)
            rintro es σ' ⟨h2,_⟩
            exact⟨rfl,h2⟩
          · split at h
            · rename_i g1 g2
              cases h
              refine fj.zK hE.orders g1 (gH.post ?_ h1)
              rintro es σ' ⟨h2,h3⟩
              refine⟨?_,rfl,h2⟩
              simp only[List.nil_append] at h3
              rw[←h3];exact g2
            ·cases h
        ·cases h
      · rename_i a b
        refine fj.seq ?_
        split at h
        · rename_i S1 h1
          refine(ihn a S _ _ h1).mono ?_
          rintro e' σ ⟨rfl,rfl⟩
          exact ihn b S1 _ _ h
        · rename_i hne
          cases hr:ia E cM N n a S with
          |none=>rw[hr] at h;cases h
          | some p=>
            obtain⟨e1,S1⟩:=p
            rw[hr] at h
            cases h
            refine(ihn a S _ _ hr).mono ?_
            rintro e' σ ⟨rfl,rfl⟩
            cases e' with
            |normal=>exact absurd hr (hne _)
            |_=>exact⟨rfl,rfl⟩
      · rename_i x a b
        split at h
        · rename_i hx
          exact fj.cond (by rw[bR];exact hx) (fun _=>ihn a S _ _ h) (fun hb=>by cases hb)
        · rename_i hx
          exact fj.cond (by rw[bR];exact hx) (fun hb=>by cases hb) (fun _=>ihn b S _ _ h)
        ·cases h
      · rename_i id c
        refine fj.block ?_
        split at h
        · rename_i j S1 h1
          refine(ihn c S _ _ h1).mono ?_
          rintro e' σ ⟨rfl,rfl⟩
          simp only[qd]
          split at h
          ·rename_i hj;cases h;rw[if_pos (beq_eq hj)];exact⟨rfl,rfl⟩
          · rename_i hj
            cases h
            rw[if_neg (fun e=>by rw[e,Nat.beq_refl] at hj;cases hj)]
            exact⟨rfl,rfl⟩
        · rename_i hne
          cases hr:ia E cM N n c S with
          |none=>rw[hr] at h;cases h
          | some p=>
            obtain⟨e1,S1⟩:=p
            rw[hr] at h
            cases h
            refine(ihn c S _ _ hr).mono ?_
            rintro e' σ ⟨rfl,rfl⟩
            cases e' with
            |exit j=>exact absurd hr (hne j _)
            |_=>exact⟨rfl,rfl⟩
      ·cases h;exact fj.exit ⟨rfl,rfl⟩
      ·cases h;exact fj.ret ⟨rfl,rfl⟩
      ·cases h;exact fj.label ⟨rfl,rfl⟩
      · rename_i c
        have h':ia E cM N (n+1) (.loop c) S=some (e,S'):=by unfold ia;exact h
        refine fj.loop (I:=fun k σ=>k≤n+1∧∃S1,σ=den S1∧ia E cM N k (.loop c) S1=some (e,S')) ⟨n+1,Nat.le_refl _,S,rfl,h'⟩ ?_
        rintro k σ ⟨hk,S1,rfl,hk1⟩
        cases k with
        |zero=>cases hk1
        | succ k=>
          rw[BY] at hk1
          have ihk:=ih k (by omega)
          split at hk1
          · rename_i S2 h2
            refine(ihk c S1 _ _ h2).mono ?_
            rintro e' σ ⟨rfl,rfl⟩
            exact⟨k,Nat.lt_succ_self k,by omega,S2,rfl,hk1⟩
          · rename_i hne
            cases hr:ia E cM N k c S1 with
            |none=>rw[hr] at hk1;cases hk1
            | some p=>
              obtain⟨e1,S2⟩:=p
              rw[hr] at hk1
              cases hk1
              refine(ihk c S1 _ _ hr).mono ?_
              rintro e' σ ⟨rfl,rfl⟩
              cases e' with
              |normal=>exact absurd hr (hne _)
              |_=>exact⟨rfl,rfl⟩
      ·cases h
end
section
variable {P : Program} {E : kr} {N : Nat}
theorem xX:∀ (l:List AV) (k i:Nat),(uA k l).get i=if k≤i then l[i-k]? else none
  |[],k,i=>by simp[uA,Tr.get]
  | x ::r,k,i=>by
    simp only[uA,Tr.tI,xX r (k+1) i]
    by_cases h:i=k
    ·subst h;simp
    · rw[if_neg h]
      by_cases h2:k≤i
      ·rw[if_pos h2,if_pos (by omega),show i-k=(i- (k+1))+1 by omega];rfl
      ·rw[if_neg h2,if_neg (by omega)]
theorem xh:∀ (l:List MS) (k i:Nat),(uw k l).get i=if k≤i then l[i-k]? else none
  |[],k,i=>by simp[uw,Tr.get]
  | x ::r,k,i=>by
    simp only[uw,Tr.tI,xh r (k+1) i]
    by_cases h:i=k
    ·subst h;simp
    · rw[if_neg h]
      by_cases h2:k≤i
      ·rw[if_pos h2,if_pos (by omega),show i-k=(i- (k+1))+1 by omega];rfl
      ·rw[if_neg h2,if_neg (by omega)]
theorem Ib (args:List AV)(ins:List MS)(nx:Nat):den ⟨uA 0 args,uw 0 ins,nx⟩=⟨fun i=>args.getD i .any,aH ins⟩:=by
  unfold den
  congr 1
  · funext i
    simp only[jA,xX,Nat.zero_le,if_true,Nat.sub_zero,List.getD_eq_getElem?_getD]
    cases args[i]? <;>rfl
  · funext t
    simp only[mE,xh,Nat.zero_le,if_true,Nat.sub_zero,aH]
    cases ins[t]? <;>rfl
theorem Du (hΓ:E.Γ.Good P){S:ES}:∀ {rvs:List ResultVar} {xs:List AV},Jq E.Γ S rvs=some xs→yK P (den S) rvs xs
  |[],xs,h=>by cases h;trivial
  | rv :: rvs, xs,h=>by
    simp only[Jq] at h
    split at h
    · rename_i x ys h1 h2
      cases h
      refine⟨?_,Du hΓ h2⟩
      cases rv with
      | tmp t=>
        simp only[HN,Option.some.injEq] at h1
        exact h1
      | cell a t=>
        simp only[HN] at h1
        split at h1
        · rename_i tk i k ha
          split at h1
          · rename_i wd rows ro hm
            split at h1
            · rename_i r hr
              rw[fO] at hr
              exact⟨tk,i,k,wd,rows,ro,r,ha,hm,hr,lN hΓ (by rw[←cE,←nV];exact h1)⟩
            ·cases h1
          ·cases h1
        ·cases h1
    ·cases h
theorem zV {S:ES}{f:Nat→Option Nat}:∀ {ns:List Nat} {outs:List MS},DM S f ns=some outs→outs.length=ns.length∧∀ (k:Nat) (s:MS) (t:Nat),outs[k]? =some s→ns[k]? =some t→
    (∃wd rows,s=.live wd (wo f rows) false∧mE S t=.live wd rows false)∨(s=.dead∧mE S t≠ .free)
  |[],outs,h=>by cases h;exact⟨rfl,by simp⟩
  | t :: r,outs,h=>by
    simp only[DM] at h
    split at h
    ·cases h
    · rename_i l hl
      obtain⟨h1,h2⟩:=zV hl
      have cons:∀s0,((∃wd rows,s0=.live wd (wo f rows) false∧mE S t=.live wd rows false)∨(s0=.dead∧mE S t≠ .free))→(s0::l).length=(t::r).length∧∀ (k:Nat) (s:MS) (u:Nat),(s0::l)[k]? =some s→(t::r)[k]? =some u→
          (∃wd rows,s=.live wd (wo f rows) false∧mE S u=.live wd rows false)∨(s=.dead∧mE S u≠ .free):=by
        intro s0 h0
        refine⟨by simp[h1],fun k s u hs hu=>?_⟩
        cases k with
        |zero=>simp at hs hu;subst hs;subst hu;exact h0
        |succ k=>exact h2 k s u (by simpa using hs) (by simpa using hu)
      split at h
      ·rename_i wd rows hm;cases h;exact cons _ (.inl ⟨wd,rows,rfl,hm⟩)
      ·rename_i wd rows hm;cases h;exact cons _ (.inr ⟨rfl,by rw[hm];simp⟩)
      ·rename_i hm;cases h;exact cons _ (.inr ⟨rfl,by rw[hm];simp⟩)
      ·cases h
theorem zY:∀ {k i:Nat} {ns:List Nat},DI k i ns=true→∀j,j<k→ns[j]? =some (i+j)
  |0,_,_,_,j,hj=>by omega
  |k+1,i,[],h,_,_=>by cases h
  | k + 1,i,t::r,h,j,hj=>by
    simp only[DI] at h
    split at h
    · rename_i hb
      have:=beq_eq hb
      subst this
      cases j with
      |zero=>rfl
      | succ j=>
        have:=zY h j (by omega)
        rw[show t+ (j+1)=t+1+j by omega]
        exact this
    ·cases h
theorem Jp (hΓ:E.Γ.Good P){S:ES}{nL:Nat}{fn:Func}{outs:List MS}{res:AV}(h:Gq E.Γ nL fn.results.toList S=some (outs,res)){w0:World}{W0:Nat→Prop}{L μ:Mu}{a:Act}{w:World}(hL:∀t,nL≤t→t<jD→L t=none)(hs:cz P N w0 W0 L μ (den S) a w):
    ∃v,(results fn a.tmps).run P w=.ok v w∧∃μ',cz P 0 w0 W0 L μ' (bare outs) iA w∧cD (Wr W0 μ' (aH outs)) μ' w res v:=by
  unfold Gq at h
  split at h
  ·cases h
  · rename_i xs hxs
    generalize rJ 1000 S 0 (L0 S (s7 xs) (List.range nL))=ns at h
    simp only at h
    split at h
    · rename_i outs' g1 g2 g3
      cases h
      have hres:=(Du hΓ hxs).get
      obtain⟨v,v1,v2⟩:=nr hs hres.1 hres.2
      refine⟨v,v1,?_⟩
      obtain⟨o1,o2⟩:=zV g1
      have hnd:=ld g2
      have hhd:∀j,j<nL→ns[j]? =some j:=fun j hj=>by have:=zY g3 j hj;simpa using this
      have hlive:∀t,aH outs t≠ .free→∃u,ns[t]? =some u:=fun t ht=>by
        unfold aH at ht
        cases ho:outs[t]? with
        |none=>rw[ho] at ht;exact absurd rfl ht
        | some s=>
          have:t<ns.length:=by rw[←o1];exact(bj ho).1
          exact⟨_,bA this⟩
      have hget:∀t u,ns[t]? =some u→ns.getD t 0=u:=fun t u h=>by rw[List.getD_eq_getElem?_getD,h];rfl
      have hnf:∀t u,ns[t]? =some u→aH outs t≠ .free:=fun t u hu=>by
        have hlt:t<outs.length:=by rw[o1];exact(bj hu).1
        unfold aH
        rw[bA hlt]
        rcases o2 t _ u (bA hlt) hu with⟨wd,rows,e,_⟩|⟨e,_⟩
        ·rw[e];simp
        ·rw[e];simp
      have hf:∀t u,oS ns 0 t=some u→aH outs u≠ .free∧ns.getD u 0=t:=fun t u hu=>by
        obtain⟨_,h2⟩:=vn hu
        rw[Nat.sub_zero] at h2
        exact⟨hnf u t h2,hget u t h2⟩
      have hw :lT nL (fun t=>ns.getD t 0) (fun _=>False) (bare outs) (den S):=by
        refine⟨fun i=>.any,fun t=>?_,fun t t' wd rows wd' rows' ro' g1 g2 he=>?_,fun s h=>h.elim,fun t ht hne=>?_⟩
        · by_cases hfr:aH outs t=.free
          ·exact .inl hfr
          · right
            obtain⟨u,hu⟩:=hlive t hfr
            have hlt:t<outs.length:=by rw[o1];exact(bj hu).1
            have hmem:(bare outs).mem t=outs[t]:=by show aH outs t=_;unfold aH;rw[bA hlt];rfl
            have hden:(den S).mem (ns.getD t 0)=mE S u:=by rw[hget t u hu];rfl
            rcases o2 t _ u (bA hlt) hu with⟨wd,rows,e1,e2⟩|⟨e1,e2⟩
            · right
              refine⟨wd,wo (oS ns 0) rows,rows,false,false,by rw[hmem];exact e1,by rw[hden];exact e2,id,?_,l5 hf rows⟩
              obtain⟨B,_,hB⟩:=hs.objs u wd rows false e2
              exact vE hB.wide
            · left
              exact⟨by rw[hmem];exact e1,by rw[hden];exact e2⟩
        · obtain⟨u,hu⟩:=hlive t (fun e=>by rw[show aH outs t=.live wd rows false from g1] at e;cases e)
          obtain⟨u',hu'⟩:=hlive t' (fun e=>by rw[show aH outs t'=.live wd' rows' ro' from g2] at e;cases e)
          have he':u=u':=by
            have h3:=hget t u hu
            have h4:=hget t' u' hu'
            rw[←h3,←h4]
            exact he
          subst he'
          have e1:=rY hnd hu
          have e2:=rY hnd hu'
          rw[←e1,e2]
        · have h1:=hhd t ht
          exact⟨hget t t h1,hnf t t h1⟩
      obtain⟨μ',hs',hrep⟩:=hw.GF hL hs (N':=0) (a':=iA) (.inr ⟨fun _=>rfl,rfl,rfl⟩)
      exact⟨μ',hs',hrep _ _ _ (CQ hf _) v2⟩
    ·cases h
theorem yT (hE :E.Good P)(fuel:Nat):∀n,jK P (wc E fuel n)
  |0=>fun g ins args outs res h=>by cases h
  | n + 1 => fun g ins args outs res h=>by
    unfold wc at h
    split at h
    · rename_i r ho
      cases h
      exact hE.orc _ _ _ _ _ ho
    · split at h
      ·cases h
      · rename_i fn hfn
        obtain⟨hf,hc⟩:=hE.fns _ (DP hfn)
        refine⟨?_,hc⟩
        split at h
        · rename_i c hb hlen0
          have hlen:=cC hlen0
          have run : ∀e S,ia E (wc E fuel n) fn.ntmps fuel c ⟨uA 0 args,uw 0 ins,ins.length⟩=some (e,S)→(e=.normal∨e=.ret)→Gq E.Γ ins.length fn.results.toList S=some (outs,res)→aj P g ins args outs res:=by
            intro e S hcode he hend
            intro w W0 L vs hL hs hr
            have h1:=Hw (nL:=ins.length) hE (yT hE fuel n) _ _ _ _ _ hcode
            rw[Ib] at h1
            have hsim:cz P fn.ntmps w W0 L L ⟨fun i=>args.getD i .any,aH ins⟩ {tmps:=vs.toArray++Array.replicate (fn.ntmps-vs.toArray.size) undef,defers:=[]} w:=by
              refine⟨?_,.nil,hs.os,hs.tape,hs.output,hs.hsize,hs.shp,hs.keep,hs.w0lt,hs.lentμ,hs.free,fun i=>?_,hs.objs,hs.inj,hs.out,hs.tabs⟩
              ·simp[hr.1];omega
              · by_cases hi:i<args.length
                · have h1:args[i]? =some args[i]:=bA hi
                  have h2:vs[i]? =some (vs[i]'(by rw[hr.1];exact hi)):=bA _
                  have:=hr.2 i _ _ h1 h2
                  have hv:(vs.toArray++Array.replicate (fn.ntmps-vs.toArray.size) undef).getD i undef=vs[i]'(by rw[hr.1];exact hi):=by
                    rw[Array.getD_eq_getD_getElem?,Array.getElem?_append_left (by simp;rw[hr.1];exact hi)]
                    simp[h2]
                  simp only[hv,List.getD_eq_getElem?_getD,h1,Option.getD_some]
                  exact this
                · simp only[List.getD_eq_getElem?_getD,oF (Nat.le_of_not_lt hi),Option.getD_none]
                  exact .any
            refine mO hf hb h1 (fun t ht=>hL t (by omega)) hsim (fun e' σ' ⟨he',_⟩=>he'▸he) ?_
            rintro e' σ' μ' a' w' ⟨rfl,rfl⟩ hs' hd
            obtain⟨v,v1,μ'',h3,h4⟩:=Jp hE.Γ hend (fun t ht _=>hL t ht) hs'
            exact⟨v,v1,v,μ'',rfl,h3,h4⟩
          split at h
          ·rename_i S hcode;exact run _ _ hcode (.inl rfl) h
          ·rename_i S hcode;exact run _ _ hcode (.inr rfl) h
          ·cases h
        ·cases h
theorem aj.run (hE:E.Good P)(fuel n:Nat){g:FuncId}{ins outs:List MS}{args:List AV}{res:AV}(h:wc E fuel n g ins args=some (outs,res)):aj P g ins args outs res:=(yT hE fuel n _ _ _ _ _ h).1
end
end Go.Am
namespace Go.Am
open Go
def CP:List Nat→List Nat→Bool
  |[],[]=>true
  | x::xs,y::ys=>match Nat.beq x y with
    |true=>CP xs ys
    |false=>false
  |_,_=>false
theorem zu:∀ {a b:List Nat},CP a b=true→a=b
  |[],[],_=>rfl
  | x::xs,y::ys,h=>by
    simp only[CP] at h
    split at h
    ·rename_i hb;rw[Nat.eq_of_beq_eq_true hb,zu h]
    ·cases h
  |[],_::_,h=>by cases h
  |_::_,[],h=>by cases h
def OU:Value→Value→Bool
  | .bool a,.bool b=>match a,b with
    |true,true=>true
    |false,false=>true
    |_,_=>false
  | .int k a,.int l b=>match decide (k=l) with
    |true=>decide (a=b)
    |false=>false
  |.string a,.string b=>CP (a.data.toList.map UInt8.toNat) (b.data.toList.map UInt8.toNat)
  |.pointer none,.pointer none=>true
  | .slice none a b,.slice none c d=>match Nat.beq a c with
    |true=>Nat.beq b d
    |false=>false
  |.map none,.map none=>true
  |.nilFunc,.nilFunc=>true
  |.nilIface,.nilIface=>true
  |_,_=>false
theorem Mk:∀ {a b:Value},OU a b=true→a=b:=by
  intro a b h
  unfold OU at h
  split at h
  ·rename_i a b;cases a<;>cases b<;>first|rfl|cases h
  · split at h
    ·rename_i hk;rw[of_decide_eq_true hk,of_decide_eq_true h]
    ·cases h
  · rename_i a b
    have h1:=zu h
    have h2:a.data.toList=b.data.toList:=List.map_inj_right (fun x y=>UInt8.toNat_inj.1)|>.1 h1
    have h3:a.data=b.data:=Array.ext' h2
    cases a;cases b;simp only at h3;rw[h3]
  ·rfl
  · split at h
    ·rename_i hk;rw[Nat.eq_of_beq_eq_true hk,Nat.eq_of_beq_eq_true h]
    ·cases h
  ·rfl
  ·rfl
  ·rfl
  ·cases h
mutual
def PW:AV→AV→Bool
  | .lit a,y=>match y with
    |.lit b=>OU a b
    |_=>false
  | .ptr a b c,y=>match y with
    |.ptr d e f=>CP [a,b,c] [d,e,f]
    |_=>false
  | .own a b c,y=>match y with
    |.own d e f=>CP [a,b,c] [d,e,f]
    |_=>false
  | .mapr a,y=>match y with
    |.mapr b=>Nat.beq a b
    |_=>false
  | .agg a,y=>match y with
    |.agg b=>Fx a b
    |_=>false
  | .tup a,y=>match y with
    |.tup b=>Fx a b
    |_=>false
  |_,_=>false
def Fx:List AV→List AV→Bool
  | [],y=>match y with
    |[]=>true
    |_=>false
  | x ::xs,y=>match y with
    | y::ys=>match PW x y with
      |true=>Fx xs ys
      |false=>false
    |_=>false
end
def Qa:MS→MS→Bool
  |.free,.free=>true
  |.dead,.dead=>true
  | .live a r x,.live b s y=>match Nat.beq a b with
    | true=>match x,y with
      |true,true=>Fx r s
      |false,false=>Fx r s
      |_,_=>false
    |false=>false
  |_,_=>false
def Ov:List MS→List MS→Bool
  |[],[]=>true
  | x::xs,y::ys=>match Qa x y with
    |true=>Ov xs ys
    |false=>false
  |_,_=>false
structure qX where
  g:FuncId
  ins:List MS
  args:List AV
  outs:List MS
  res:AV
def KI (orc:iI):List qX→iI
  |[]=>orc
  | r :: rest=>fun g ins args=>match Nat.beq r.g g with
    | true=>match Ov r.ins ins with
      | true=>match Fx r.args args with
        |true=>some (r.outs,r.res)
        |false=>KI orc rest g ins args
      |false=>KI orc rest g ins args
    |false=>KI orc rest g ins args
def qX.OK (P:Program)(r:qX):Prop:=aj P r.g r.ins r.args r.outs r.res∧ak P r.g
def kr.more (E:kr)(l:List qX):kr:=⟨E.Γ,E.Δ,E.fns,E.kinds,KI E.orc l,E.ifs⟩
theorem qX.of {P:Program}{E:kr}(hE:E.Good P){fuel n:Nat}{r:qX}(h:wc E fuel n r.g r.ins r.args=some (r.outs,r.res)):r.OK P:=yT hE fuel n _ _ _ _ _ h
theorem qX.cons {P:Program}{r:qX}{l:List qX}(h:r.OK P)(hl:∀r∈l,r.OK P):∀x∈r::l,x.OK P:=List.forall_mem_cons.2 ⟨h,hl⟩
end Go.Am
