/- Walks of functions by unfolding over abstract states; runs of functions by an evaluator that is proved. By an AI agent. -/
import Derived.Test.YtciccajdpmahiaaGreatDoorW2
import Derived.Laws.StructEq
import Derived.IntWalk
import Derived.Test.YtciccajdpmahiaaGreatDoorW1
import Derived.RangeFuncSeq
set_option linter.unusedSimpArgs false
set_option linter.unusedVariables false
namespace Go.Am
open Go
theorem beq_eq {i d:Nat}(h:Nat.beq i d=true):i=d:=Nat.eq_of_beq_eq_true h
theorem beq_false {i d:Nat}(h:i≠d):Nat.beq i d=false:=by
  cases h':Nat.beq i d with
  |false=>rfl
  |true=>exact absurd (beq_eq h') h
theorem gp {a b:Nat}(h:Nat.ble a b=true):a≤b:=Nat.le_of_ble_eq_true h
theorem I0 {a b:Nat}(h:a≤b):Nat.ble a b=true:=Nat.ble_eq_true_of_le h
theorem Gz {a b:Nat}(h:¬a≤b):Nat.ble a b=false:=by
  cases h':Nat.ble a b with
  |false=>rfl
  |true=>exact absurd (gp h') h
@[reducible] def uN : Nat → Nat → Bool
  | 0,k=>match k with
    |0=>true
    |_+1=>false
  | n+1,k=>match k with
    |0=>false
    |k+1=>uN n k
@[reducible] def NU : Nat → Nat → Bool
  |0,_=>true
  |n+1,k+1=>NU n k
  |_+1,0=>false
@[reducible] def Nr : Nat → Bool
  |0=>true
  |_+1=>false
@[reducible] def CO : Value → Bool
  | .slice ad n c=>match ad with
    | none=>match Nr n with
      |true=>Nr c
      |false=>false
    |some _=>false
  |_=>false
@[reducible] def OP : AV → Bool
  |.lit v=>CO v
  |_=>false
theorem p7 {v:Value}(h:CO v=true):v=.slice none 0 0:=by
  cases v with
  | slice ad n c=>
    cases ad with
    | none=>
      cases n with
      | zero=>cases c with
        |zero=>rfl
        |succ c=>cases h
      |succ n=>cases h
    |some a=>cases h
  |_=>cases h
theorem D7 {x:AV}(h:OP x=true):x=.lit (.slice none 0 0):=by
  cases x with
  |lit v=>rw[p7 h]
  |_=>cases h
theorem eY:∀ (a b:Nat),uN a b=Nat.beq a b
  |0,0=>rfl
  |n+1,k+1=>by rw[uN,eY n k];rfl
  |0,k+1=>rfl
  |n+1,0=>rfl
theorem zD:∀ (a b:Nat),NU a b=Nat.ble a b
  |0,b=>by simp[NU]
  |n+1,k+1=>by rw[NU,zD n k];rfl
  |n+1,0=>rfl
abbrev SL:=List (Nat×AV)
abbrev ML:=List (Nat×MS)
@[reducible] def xp : SL → Nat → AV
  |[],_=>.any
  | (k,x)::r,i=>match Nat.beq i k with
    |true=>x
    |false=>xp r i
@[reducible] def eC : ML → Nat → MS
  |[],_=>.free
  | (k,x)::r,i=>match Nat.beq i k with
    |true=>x
    |false=>eC r i
@[reducible] def rR : cT → Nat → Option TI
  |[],_=>none
  | (k,x)::r,i=>match Nat.beq i k with
    |true=>some x
    |false=>rR r i
theorem ju:∀ (l:SL) (i:Nat),xp l i=cu l i
  |[],_=>rfl
  | p ::r,i=>by
    obtain⟨d,x⟩:=p
    simp only[xp,cu,ju r i]
    by_cases h:i=d
    ·subst h;simp
    · have h1:(i==d)=false:=by simpa using h
      have h2:Nat.beq i d=false:=beq_false (by simpa using h1)
      rw[h1,h2];rfl
theorem kM:∀ (l:ML) (i:Nat),eC l i=bg l i
  |[],_=>rfl
  | p ::r,i=>by
    obtain⟨d,x⟩:=p
    simp only[eC,bg,kM r i]
    by_cases h:i=d
    ·subst h;simp
    · have h1:(i==d)=false:=by simpa using h
      have h2:Nat.beq i d=false:=beq_false (by simpa using h1)
      rw[h1,h2];rfl
theorem fc:∀ (l:cT) (i:Nat),rR l i=da l i
  |[],_=>rfl
  | p ::r,i=>by
    obtain⟨d,x⟩:=p
    simp only[rR,da,fc r i]
    by_cases h:d=i
    ·subst h;simp
    · have h1:(i==d)=false:=by simpa using Ne.symm h
      have h2:Nat.beq i d=false:=beq_false (by simpa using h1)
      rw[h1,h2];rfl
@[reducible] def rA (d : Nat) (x : AV) : SL → SL
  |[]=>[(d,x)]
  | (k,y)::r=>match Nat.beq d k with
    |true=>(d,x)::r
    |false=>(k,y)::rA d x r
@[reducible] def kJ (d : Nat) (x : MS) : ML → ML
  |[]=>[(d,x)]
  | (k,y)::r=>match Nat.beq d k with
    |true=>(d,x)::r
    |false=>(k,y)::kJ d x r
@[reducible] def xw : ML → ML → ML
  |[],m=>m
  |(k,x)::r,m=>kJ k x (xw r m)
@[reducible] def lA : Option Nat → AV → SL → SL
  |none,_,l=>l
  |some d,x,l=>rA d x l
theorem pT (d:Nat)(x:AV):∀ (l:SL) (i:Nat),cu (rA d x l) i=cu ((d,x)::l) i
  |[],i=>rfl
  | p :: r,i=>by
    obtain⟨e,y⟩:=p
    simp only[rA]
    by_cases h:d=e
    · subst h
      simp only[Nat.beq_refl,cu]
      by_cases hi:i=d
      ·subst hi;simp
      · have:(i==d)=false:=by simpa using hi
        simp[this]
    · rw [beq_false h]
      simp only[cu,pT d x r i]
      by_cases hi:i=d
      · subst hi;have:(i==e)=false:=by simpa using h
        simp[this]
      · have:(i==d)=false:=by simpa using hi
        simp[this]
theorem vP (d:Nat)(x:MS):∀ (l:ML) (i:Nat),bg (kJ d x l) i=bg ((d,x)::l) i
  |[],i=>rfl
  | p :: r,i=>by
    obtain⟨e,y⟩:=p
    simp only[kJ]
    by_cases h:d=e
    · subst h
      simp only[Nat.beq_refl,bg]
      by_cases hi:i=d
      ·subst hi;simp
      · have:(i==d)=false:=by simpa using hi
        simp[this]
    · rw [beq_false h]
      simp only[bg,vP d x r i]
      by_cases hi:i=d
      · subst hi;have:(i==e)=false:=by simpa using h
        simp[this]
      · have:(i==d)=false:=by simpa using hi
        simp[this]
theorem tr:∀ (u m:ML) (i:Nat),bg (xw u m) i=bg (u++m) i
  |[],m,i=>rfl
  | p::r,m,i=>by
    obtain⟨e,y⟩:=p
    simp only[xw,vP,List.cons_append,bg,tr r m i]
theorem Cn (d:Option Nat)(x:AV)(l:SL)(i:Nat):cu (lA d x l) i=cu (rB d x l) i:=by
  cases d with
  |none=>rfl
  |some d=>exact pT d x l i
theorem u0 (d:Option Nat)(x:AV)(l:SL)(u m:ML):St (rB d x l) (u++m)=St (lA d x l) (xw u m):=by
  unfold St
  congr 1
  ·funext i;exact(Cn d x l i).symm
  ·funext i;exact(tr u m i).symm
@[reducible] def gj (l : SL) : Operand → AV
  |.tmp t=>xp l t
  |.const v=>.lit v
  |.global g=>.lit (.pointer (some ⟨g,0,none⟩))
  |.func f=>.lit (.func (.func f) #[] #[])
theorem eJ (l:SL)(y:Operand):gj l y=jP l y:=by cases y<;>simp[gj,jP,ju]
section
universe u v
variable {α : Type u} {β : Type v}
@[reducible] def k9 : List α → Nat → Option α
  |[],_=>none
  |x::_,0=>some x
  |_::r,k+1=>k9 r k
@[reducible] def gb : List α → Nat
  |[]=>0
  |_::r=>Nat.succ (gb r)
@[reducible] def fD (f : α → β) : List α → List β
  |[]=>[]
  |x::r=>f x::fD f r
@[reducible] def jI : List α → List α → List α
  |[],b=>b
  |x::r,b=>x::jI r b
@[reducible] def mj : Nat → List α → List α
  |0,_=>[]
  |_+1,[]=>[]
  |k+1,x::r=>x::mj k r
@[reducible] def zw : Nat → List α → List α
  |0,l=>l
  |_+1,[]=>[]
  |k+1,_::r=>zw k r
@[reducible] def Km : List α → Nat → α → List α
  |[],_,_=>[]
  |_::r,0,y=>y::r
  |x::r,k+1,y=>x::Km r k y
@[reducible] def nk (p : α → Bool) : List α → Bool
  |[]=>true
  | x::r=>match p x with
    |true=>nk p r
    |false=>false
@[reducible] def w5 : List β → List α → List α
  |[],l=>l
  |_::_,[]=>[]
  |_::r,_::l=>w5 r l
theorem jc:∀ (l:List α) (k:Nat),k9 l k=l[k]?
  |[],_=>rfl
  |_::_,0=>rfl
  |_::r,k+1=>by simp only[k9,jc r k,List.getElem?_cons_succ]
theorem dz:∀ (l:List α),gb l=l.length
  |[]=>rfl
  |_::r=>by show gb r+1=_;rw[dz r];rfl
theorem eO (f:α→β):∀ (l:List α),fD f l=l.map f
  |[]=>rfl
  |x::r=>by simp only[fD,eO f r,List.map_cons]
theorem iM:∀ (a b:List α),jI a b=a++b
  |[],_=>rfl
  |x::r,b=>by simp only[jI,iM r b,List.cons_append]
theorem rZ:∀ (k:Nat) (l:List α),mj k l=l.take k
  |0,_=>rfl
  |_+1,[]=>rfl
  |k+1,x::r=>by simp only[mj,rZ k r,List.take_succ_cons]
theorem rD:∀ (k:Nat) (l:List α),zw k l=l.drop k
  |0,_=>rfl
  |_+1,[]=>rfl
  |k+1,x::r=>by simp only[zw,rD k r,List.drop_succ_cons]
theorem zf:∀ (a:List β) (l:List α),w5 a l=l.drop a.length
  |[],_=>rfl
  |_::_,[]=>by simp[w5]
  |_::r,_::l=>by simp only[w5,zf r l,List.length_cons,List.drop_succ_cons]
theorem ER:∀ (l:List α) (k:Nat) (y:α),Km l k y=l.set k y
  |[],_,_=>rfl
  |_::_,0,_=>rfl
  |x::r,k+1,y=>by simp only[Km,ER r k y,List.set_cons_succ]
theorem Fa (p:α→Bool):∀ (l:List α),nk p l=l.all p
  |[]=>rfl
  |x::r=>by simp only[nk,List.all_cons,Fa p r];cases p x<;>rfl
end
@[reducible] def dR : AV → List AV
  |.agg cs=>cs
  |.lit (.agg xs)=>fD .lit xs.toList
  |x=>[x]
theorem gQ (x:AV):dR x=cells x:=by
  cases x with
  |lit v=>cases v<;>simp[dR,cells,eO]
  |_=>rfl
@[reducible] def Jg : AV → Bool
  |.agg _=>true
  |.lit (.agg _)=>true
  |_=>false
theorem Fv (x:AV):Jg x=lV x:=by
  cases x with
  |lit v=>cases v<;>rfl
  |_=>rfl
@[reducible] def u6 : AV → Bool
  |.any=>false
  |_=>true
theorem pL (x:AV):u6 x=x.nX:=by cases x<;>rfl
@[reducible] def Oq : AV → Bool
  |.any=>false
  |.agg _=>false
  |.tup _=>false
  |.lit (.agg _)=>false
  |.lit (.tuple _)=>false
  |_=>true
theorem Ku (x:AV):Oq x=x.one:=by
  cases x with
  |lit v=>cases v<;>rfl
  |_=>rfl
@[reducible] def vD : IntKind → Nat
  |.i8=>0|.i16=>1|.i32=>2|.i64=>3|.u8=>4|.u16=>5|.u32=>6|.u64=>7
theorem IC {k k':IntKind}(h:Nat.beq (vD k) (vD k')=true):k=k':=by
  cases k<;>cases k'<;>first|rfl|(simp[vD] at h)
@[reducible] def Ej (n : Nat) (r : AV) (k : Nat) : Option AV :=
  match Nat.beq k 0,uN (gb (dR r)) n,Jg r with
  |true,true,true=>some r
  | _,_,_=>match NU (Nat.add k n) (gb (dR r)) with
    |true=>some (.agg (mj n (zw k (dR r))))
    |false=>none
@[reducible] def tO (ti : Option TI) (r : AV) (k : Nat) : Option AV :=
  match ti with
  |some (.sc _)=>k9 (dR r) k
  |some .bl=>k9 (dR r) k
  |some (.sl ..)=>k9 (dR r) k
  |some .str=>k9 (dR r) k
  |some (.st n _ _ _)=>Ej n r k
  |some (.ar n _ _ _ _)=>Ej n r k
  |none=>none
theorem K2 (a b:Nat):Nat.ble a b=decide (a≤b):=by
  by_cases h:a≤b
  ·rw[I0 h,aV h]
  ·rw[Gz h,aS h]
theorem Md (a b:Nat):Nat.beq a b=decide (a=b):=by
  by_cases h:a=b
  ·subst h;simp
  ·rw[beq_false h,aS h]
theorem Jw (n:Nat)(r:AV)(k:Nat):Ej n r k=if k=0∧(cells r).length=n∧lV r=true then some r else if k+n≤ (cells r).length then some (.agg (((cells r).drop k).take n)) else none:=by
  unfold Ej
  simp only[rZ,rD,dz,gQ,Fv,eY,zD,Md,K2]
  show (match decide (k=0),decide ((cells r).length=n),lV r with
    |true,true,true=>some r
    | _,_,_=>match decide (k+n≤ (cells r).length) with
      |true=>some (AV.agg (((cells r).drop k).take n))
      |false=>none)=_
  by_cases h4:k+n≤ (cells r).length
  · rw [aV h4,if_pos h4]
    by_cases h1:k=0
    · by_cases h2:(cells r).length=n
      · cases h3:lV r with
        |true=>rw[aV h1,aV h2,if_pos ⟨h1,h2,rfl⟩]
        |false=>rw[aV h1,aV h2,if_neg (fun h=>by cases h.2.2)]
      ·rw[aV h1,aS h2,if_neg (fun h=>h2 h.2.1)]
    ·rw[aS h1,if_neg (fun h=>h1 h.1)]
  · rw [aS h4,if_neg h4]
    by_cases h1:k=0
    · by_cases h2:(cells r).length=n
      · cases h3:lV r with
        |true=>rw[aV h1,aV h2,if_pos ⟨h1,h2,rfl⟩]
        |false=>rw[aV h1,aV h2,if_neg (fun h=>by cases h.2.2)]
      ·rw[aV h1,aS h2,if_neg (fun h=>h2 h.2.1)]
    ·rw[aS h1,if_neg (fun h=>h1 h.1)]
theorem rS (ti:Option TI)(r:AV)(k:Nat):tO ti r k=ux ti r k:=by
  cases ti with
  |none=>rfl
  |some ti=>cases ti<;>simp only[tO,ux,jc,gQ,Jw]
@[reducible] def Je : Option TI → Option Nat
  |some (.sc _)=>some 1
  |some .bl=>some 1
  |some (.sl ..)=>some 1
  |some .str=>some 1
  |some (.st n ..)=>some n
  |some (.ar n ..)=>some n
  |none=>none
theorem JI (ti:Option TI):Je ti=BD ti:=by
  cases ti with
  |none=>rfl
  |some ti=>cases ti<;>rfl
@[reducible] def Hh : Option TI → Option AV
  |some (.sc z)=>match z with|.agg _=>none|z=>some (.lit z)
  |some .bl=>some (.lit (.bool false))
  |some (.sl ..)=>some (.lit (.slice none 0 0))
  |some .str=>some (.lit (.string ByteArray.empty))
  |some (.st _ _ z _)=>some (.agg (fD .lit z.toList))
  |some (.ar _ _ _ _ z)=>some (.agg (fD .lit z.toList))
  |none=>none
theorem Ho (ti:Option TI):Hh ti=qx ti:=by
  cases ti with
  |none=>rfl
  |some ti=>cases ti<;>first|rfl|(simp only[Hh,qx,eO])|(rename_i z;cases z<;>rfl)
@[reducible] def sW (ti : Option TI) (r : AV) (k : Nat) (x : AV) : Option AV :=
  match Je ti with
  | some n=>match uN (gb (dR x)) n,nk Oq (dR x),u6 x with
    | true,true,true=>match uN (gb (dR r)) n,Nat.beq k 0 with
      |true,true=>some x
      | _,_=>match NU (Nat.add k n) (gb (dR r)) with
        |true=>some (.agg (jI (mj k (dR r)) (jI (dR x) (w5 (dR x) (zw k (dR r))))))
        |false=>none
    |_,_,_=>none
  |none=>none
theorem xO {ti:Option TI}{r:AV}{k:Nat}{x r':AV}(h:sW ti r k x=some r'):wG ti r k x=some r':=by
  unfold sW at h
  unfold wG
  rw[←JI]
  cases hs:Je ti with
  |none=>rw[hs] at h;cases h
  | some n =>
    rw[hs] at h
    simp only[rZ,rD,zf,iM,dz,gQ,pL,Fa,eY,zD,List.drop_drop] at h ⊢
    have ho:((cells x).all Oq)=lg (cells x):=by unfold lg;congr 1;funext y;exact Ku y
    rw[ho] at h
    split at h
    · rename_i h1 h2 h3
      rw[if_pos ⟨beq_eq h1,h2,h3⟩]
      split at h
      · rename_i h4 h5
        cases h
        rw[if_pos ⟨beq_eq h4,beq_eq h5⟩]
      · rename_i h4
        split at h
        · rename_i h5
          cases h
          have h5':k+n≤ (cells r).length:=gp h5
          rw[if_neg (fun hh=>h4 (by simp[hh.1]) (by simp[hh.2])),if_pos h5']
          unfold gg
          rw[List.append_assoc]
        ·cases h
    ·cases h
@[reducible] def EP (place : Nat → Option (Nat × Nat)) (cs : List AV) : List (Nat × AV) → Option (List AV)
  |[]=>some cs
  | (i,x)::rest=>
    match place i with
    |none=>none
    | some (off,size)=>match uN (gb (dR x)) size,NU (Nat.add off size) (gb cs),u6 x with
      |true,true,true=>EP place (jI (mj off cs) (jI (dR x) (zw (Nat.add off size) cs))) rest
      |_,_,_=>none
theorem B4 {place:Nat→Option (Nat×Nat)}:∀ {ps:List (Nat×AV)} {cs cs':List AV},EP place cs ps=some cs'→nU place cs ps=some cs'
  |[],cs,cs',h=>h
  | (i, x)::rest,cs,cs',h=>by
    simp only[EP] at h
    simp only[nU]
    cases hp:place i with
    |none=>rw[hp] at h;cases h
    | some os=>
      obtain⟨off,size⟩:=os
      rw[hp] at h
      simp only at h ⊢
      split at h
      · rename_i h1 h2 h3
        rw[eY,dz,gQ] at h1
        rw[zD,dz] at h2
        rw[pL] at h3
        have e1:=beq_eq h1
        have e2:=gp h2
        rw[if_pos ⟨e1,by rw[e1];exact e2,h3⟩]
        have:=B4 h
        simp only[rZ,rD,iM,gQ] at this
        unfold gg
        rw[List.append_assoc,e1];exact this
      ·cases h
abbrev Rest:=List Nat→AV→ML→Tk→SL→ML→Prop
def bV (P:Program)(N:Nat){o:Oper}(acc:Tk)(sl:SL)(m:ML){R:Rest}:Prop:=∃rd x ups,aN P N o (St sl m) rd x ups∧R rd x ups acc sl m
def bW (p:Prop)(acc:Tk)(sl:SL)(m:ML){A:Tk→SL→ML→Prop}:Prop:=p∧A acc sl m
def ak (rows:List AV)(i:Int)(acc:Tk)(sl:SL)(m:ML){A:AV→Tk→SL→ML→Prop}:Prop:=∃ (k:Nat) (r:AV),i=k∧rows[k]? =some r∧A r acc sl m
def qb (i:Int)(n:Nat)(acc:Tk)(sl:SL)(m:ML){A:Nat→Tk→SL→ML→Prop}:Prop:=∃k:Nat,i=k∧k<n∧A k acc sl m
def dc (rows:List AV)(i:Nat)(acc:Tk)(sl:SL)(m:ML){A:AV→Tk→SL→ML→Prop}:Prop:=∃r:AV,rows[i]? =some r∧A r acc sl m
def Df (l h:Int)(len:Nat)(acc:Tk)(sl:SL)(m:ML){A:Nat→Nat→Tk→SL→ML→Prop}:Prop:=∃a n:Nat,l=a∧h=(a:Int)+n∧a+n≤len∧A a n acc sl m
def BI (l h:Int)(rows:List AV)(acc:Tk)(sl:SL)(m:ML){A:List AV→Tk→SL→ML→Prop}:Prop:=∃ (a n:Nat) (rows':List AV),l=a∧h=(a:Int)+n∧a+n≤rows.length∧rows'=(rows.drop a).take n∧A rows' acc sl m
def cC (rb:List AV)(off len:Nat)(rs:List AV)(off' len':Nat)(bytes:Nat)(acc:Tk)(sl:SL)(m:ML){A:List AV→Tk→SL→ML→Prop}:Prop:=
  ∃ rows0 news,off+len≤rb.length∧rows0=(rb.drop off).take len∧off'+len'≤rs.length∧news=(rs.drop off').take len'∧lg (flat news)=true∧
    (rows0.length+news.length)*bytes≤140737488355328∧rows0.length+news.length≤9223372036854775807∧A (rows0++news) acc sl m
def aD (P:Program)(N:Nat){o:Oper}(f:FuncId)(args:List AV)(acc:Tk)(sl:SL)(m:ML){R:Rest}:Prop:=ij (St sl m) o f args→bV P N acc sl m (o:=o) (R:=R)
def jJ (P:Program)(N:Nat){o:Oper}(t:TypeId)(c:Bool)(ym kv:AV)(acc:Tk)(sl:SL)(m:ML){R:Rest}:Prop:=
  (∃y x,o.op=.lookup t y x c∧(St sl m).eval y=ym∧(St sl m).eval x=kv)→bV P N acc sl m (o:=o) (R:=R)
def rY (P:Program)(N:Nat){o:Oper}(t:TypeId)(ym kv x:AV)(acc:Tk)(sl:SL)(m:ML){R:Rest}:Prop:=
  (∃y z v,o.op=.mapUpdate t y z v∧(St sl m).eval y=ym∧(St sl m).eval z=kv∧(St sl m).eval v=x)→bV P N acc sl m (o:=o) (R:=R)
def gl (P:Program)(N:Nat){o:Oper}(t:TypeId)(ym:AV)(acc:Tk)(sl:SL)(m:ML){R:Rest}:Prop:=
  (∃y,o.op=.call {callee:=.builtin .len,args:= #[y],argTypes:= #[t]}∧(St sl m).eval y=ym)→bV P N acc sl m (o:=o) (R:=R)
def mc (s:ByteArray)(i:Int)(acc:Tk)(sl:SL)(m:ML){A:Int→Tk→SL→ML→Prop}:Prop:=∃ (k:Nat) (c:UInt8),i=k∧s.data.toList[k]? =some c∧A c.toNat acc sl m
def vc (s:ByteArray)(l h:Int)(acc:Tk)(sl:SL)(m:ML){A:ByteArray→Tk→SL→ML→Prop}:Prop:=∃a b:Nat,l=a∧h=b∧a≤b∧b≤s.size∧A (s.extract a b) acc sl m
def tS (P:Program)(src dst:TypeId)(v:Value)(acc:Tk)(sl:SL)(m:ML){A:Value→Tk→SL→ML→Prop}:Prop:=∃r,(∀w,(convert src dst v).run P w=.ok r w)∧A r acc sl m
def wU (P:Program)(src dst:TypeId)(rows:List AV)(off len:Nat)(acc:Tk)(sl:SL)(m:ML){A:Value→Tk→SL→ML→Prop}:Prop:=
  ∃ (bs:List UInt8) (e:TypeId),P.underlying src=some (.slice e)∧P.underlying e=some (.int .u8)∧P.underlying dst=some .string∧len=bs.length∧bs≠ []∧
    (∀ (i:Nat) (b:UInt8),bs[i]? =some b→(flat rows)[off+i]? =some (.lit (.int .u8 b.toNat)))∧A (.string ⟨bs.toArray⟩) acc sl m
def yU (P:Program)(op:BinOp)(t:TypeId)(us vs:List Value)(acc:Tk)(sl:SL)(m:ML){A:Bool→Tk→SL→ML→Prop}:Prop:=
  ∃b,(∀ (y z:Operand) (w:World),((do eqGuard op t y z (.agg us.toArray) (.agg vs.toArray);binOp op t (.agg us.toArray) (.agg vs.toArray):Sem Value)).run P w=.ok (.bool b) w)∧A b acc sl m
@[reducible] def uc : List AV → Option (List Value)
  |[]=>some []
  | .lit v::r=>match uc r with
    |some l=>some (v::l)
    |none=>none
  |_::_=>none
def aQ (b:Bool)(acc:Tk)(sl:SL)(m:ML){A B:Tk→SL→ML→Prop}:Prop:=(b=true→A acc sl m)∧(b=false→B acc sl m)
@[reducible] def xQ (t : Nat) : Bool := Nat.beq (Nat.mod t 10) 0
@[reducible] def uz (P : Program) (N : Nat) (o : Oper) (acc : Tk) (sl : SL) (m : ML) (R : Rest) : Option (List Nat × AV × ML) → Prop
  |some (rd,x,ups)=>R rd x ups acc sl m
  |none=>bV P N acc sl m (o:=o) (R:=R)
@[reducible] def Ld (op : BinOp) (a b : Value) : Option Value :=
  match op,a,b with
  |.add,.int k a,.int k' b=>match Nat.beq (vD k) (vD k') with|true=>some (.int k (k.wrap (a+b)))|false=>none
  |.sub,.int k a,.int k' b=>match Nat.beq (vD k) (vD k') with|true=>some (.int k (k.wrap (a-b)))|false=>none
  |.lss,.int k a,.int k' b=>match Nat.beq (vD k) (vD k') with|true=>some (.bool (decide (a<b)))|false=>none
  |.leq,.int k a,.int k' b=>match Nat.beq (vD k) (vD k') with|true=>some (.bool (decide (a≤b)))|false=>none
  |.gtr,.int k a,.int k' b=>match Nat.beq (vD k) (vD k') with|true=>some (.bool (decide (b<a)))|false=>none
  |.geq,.int k a,.int k' b=>match Nat.beq (vD k) (vD k') with|true=>some (.bool (decide (b≤a)))|false=>none
  |.eql,.int k a,.int k' b=>match Nat.beq (vD k) (vD k') with|true=>some (.bool (decide (a=b)))|false=>none
  |.neq,.int k a,.int k' b=>match Nat.beq (vD k) (vD k') with|true=>some (.bool (!decide (a=b)))|false=>none
  |.eql,.string a,.string b=>some (.bool (decide (a=b)))
  |.neq,.string a,.string b=>some (.bool (!decide (a=b)))
  |_,_,_=>none
theorem Mm (a b:ByteArray):(a.toList==b.toList)=decide (a=b):=by
  rw[ByteArray.toList_eq,ByteArray.toList_eq]
  by_cases h:a=b
  ·subst h;simp
  · rw [aS h]
    have:a.data.toList≠b.data.toList:=fun e=>h (by
      obtain⟨⟨x⟩⟩:=a
      obtain⟨⟨y⟩⟩:=b
      simp only at e
      rw[e])
    simpa using this
theorem MB (a b:Int):(a==b)=decide (a=b):=by
  by_cases h:a=b
  ·subst h;simp
  ·rw[aS h];simpa using h
theorem ED {op:BinOp}{a b r:Value}(h:Ld op a b=some r):Ao op a b=some r:=by
  unfold Ld at h
  split at h
  all_goals first
    | (split at h
       ·rename_i hk;have hk':=IC hk;subst hk';cases h;simp[Ao,MB]
       ·cases h)
    |(cases h;simp[Ao,Mm])
    |cases h
@[reducible] def Eu (op : BinOp) (a b : Value) : Option Value :=
  match op,a,b with
  |.eql,.bool a,.bool b=>some (.bool (a==b))
  |.neq,.bool a,.bool b=>some (.bool (!(a==b)))
  |_,_,_=>none
theorem Jp {op:BinOp}{a b r:Value}(h:Eu op a b=some r):Im op a b=some r:=by
  unfold Eu at h
  split at h<;>first|exact h|cases h
@[reducible] def Ow (Γ : cT) (sl : SL) (c : Call) : Option (List Nat × AV × ML) :=
  match c.callee,c.args.toList,c.argTypes.toList with
  | .builtin .len,[y],[t]=>(match rR Γ t with
    | some (.sl ..)=>match gj sl y with
      |.own _ _ n=>some ([],.lit (.int .i64 n),[])
      |.sl _ rows=>some ([],.lit (.int .i64 rows.length),[])
      |.lit (.slice _ n _)=>some ([],.lit (.int .i64 n),[])
      |_=>none
    | some .str=>match gj sl y with
      |.lit (.string s)=>some ([],.lit (.int .i64 s.size),[])
      |_=>none
    |_=>none)
  |_,_,_=>none
theorem M1 (Γ:cT)(sl:SL)(c:Call):Ow Γ sl c=L5 Γ sl c:=by
  unfold Ow L5
  simp only[fc,eJ]
  rfl
@[reducible] def zY (op : BinOp) (ti : Option TI) (n : Nat) : Option (List Nat × AV × ML) :=
  match ti,op with
  |some (.sl ..),.eql=>some ([],.guess (n=0) True,[])
  |some (.sl ..),.neq=>some ([],.guess True (n=0),[])
  |_,_=>none
theorem F2 (op:BinOp)(ti:Option TI)(n:Nat):zY op ti n=tD op ti n:=by
  unfold zY tD
  rfl
@[reducible] def Nx (b : Bool) (x y : AV) : AV := match b with | true => x | false => y
theorem Iz (b:Bool)(x y:AV):Nx b x y=if b then x else y:=by cases b<;>rfl
@[reducible] def xB {α β : Type} (f : α → β) : Option α → Option β
  |some x=>some (f x)
  |none=>none
theorem nc {α β:Type}(f:α→β)(x:Option α):xB f x=x.map f:=by cases x<;>rfl
@[reducible] def Nv (Γ : cT) (op : BinOp) (t : TypeId) (x y : AV) : Option (List Nat × AV × ML) :=
  match x with
  | .own _ _ n=>match OP y with
    |true=>zY op (rR Γ t) n
    |false=>none
  | .sl _ rows=>match OP y with
    |true=>zY op (rR Γ t) rows.length
    |false=>none
  | .lit a=>match y with
    | .lit b=>match rR Γ t with
      |some .bl=>xB (fun r=>([],.lit r,[])) (Eu op a b)
      |_=>xB (fun r=>([],.lit r,[])) (Ld op a b)
    |_=>none
  |_=>none
@[reducible] def dj (Γ : cT) (sl : SL) (m : ML) (dst : Option Nat) (op : Op) : Option (List Nat × AV × ML) :=
  match op with
  |.move y=>some ([],gj sl y,[])
  |.assign y=>some ([],gj sl y,[])
  | .pick c y z=>match gj sl c with
    |.lit (.bool b)=>some ([],Nx b (gj sl y) (gj sl z),[])
    |_=>none
  | .extract y i=>match gj sl y with
    |.tup vs=>xB (fun x=>([],x,[])) (k9 vs i)
    |_=>none
  | .field t y f=>match gj sl y,rR Γ t with
    | .agg cs,some (.st _ fs _ _)=>match k9 fs f with
      |some (off,ft)=>xB (fun x=>([],x,[])) (tO (rR Γ ft) (.agg cs) off)
      |none=>none
    |_,_=>none
  | .load t y=>match gj sl y with
    | .ptr tk i k=>match eC m tk with
      | .live _ rows _=>match k9 rows i with
        |some r=>xB (fun x=>([tk],x,[])) (tO (rR Γ t) r k)
        |none=>none
      |_=>none
    |.fptr r k=>xB (fun x=>([],x,[])) (tO (rR Γ t) r k)
    |_=>none
  | .fieldAddr t y f=>match rR Γ t with
    | some (.st _ fs _ _)=>match k9 fs f with
      | some (off,_)=>match gj sl y with
        |.ptr tk i k=>some ([],.ptr tk i (Nat.add k off),[])
        |.fptr r k=>some ([],.fptr r (Nat.add k off),[])
        |_=>none
      |none=>none
    |_=>none
  | .nilCheck y=>match gj sl y with
    |.ptr tk i k=>some ([],.ptr tk i k,[])
    |.fptr r k=>some ([],.fptr r k,[])
    |_=>none
  | .store t y z=>match dst with
    | none =>match gj sl y with
      | .ptr tk i k=>match eC m tk with
        | .live wd rows false=>match k9 rows i with
          | some r=>match sW (rR Γ t) r k (gj sl z) with
            |some r'=>some ([tk],.any,[(tk,.live wd (Km rows i r') false)])
            |none=>none
          |none=>none
        |_=>none
      |_=>none
    |some _=>none
  | .box _ y=>match dst with
    | some d=>match eC m (Nat.mul 10 d) with
      | .free=>match u6 (gj sl y) with
        |true=>some ([Nat.mul 10 d],.ptr (Nat.mul 10 d) 0 0,[(Nat.mul 10 d,.live (gb (dR (gj sl y))) [gj sl y] false)])
        |false=>none
      |_=>none
    |none=>none
  | .alloc t=>match dst with
    | some d=>match eC m (Nat.mul 10 d) with
      | .free=>match Hh (rR Γ t) with
        |some x=>some ([Nat.mul 10 d],.ptr (Nat.mul 10 d) 0 0,[(Nat.mul 10 d,.live (gb (dR x)) [x] false)])
        |none=>none
      |_=>none
    |none=>none
  |.makeFunc fn first cap=>some ([],.clo fn (fD (gj sl) first.toList) (fD (gj sl) cap.toList),[])
  |.binOp op t y z _=>Nv Γ op t (gj sl y) (gj sl z)
  | .unOp .not _ y=>match gj sl y with
    |.lit (.bool b)=>some ([],.lit (.bool (!b)),[])
    |_=>none
  | .build t parts=>match rR Γ t with
    |some (.st _ fs z szs)=>xB (fun cs=>([],.agg cs,[])) (EP (fun i=>match k9 fs i,k9 szs i with|some (off,_),some sz=>some (off,sz)|_,_=>none) (fD .lit z.toList) (fD (fun(p:Nat×Operand)=>match p with|(i,y)=>(i,gj sl y)) parts.toList))
    |_=>none
  |.call c=>Ow Γ sl c
  |_=>none
theorem FX {Γ:cT}{sl:SL}{m:ML}{dst:Option Nat}{op:Op}{q:List Nat×AV×ML}(h:dj Γ sl m dst op=some q):eG Γ sl m dst op=some q:=by
  have hcells:∀x,gb (dR x)=(cells x).length:=fun x=>by rw[dz,gQ]
  cases op
  case move y=>simp only[dj,eG,eJ] at h ⊢;exact h
  case assign y=>simp only[dj,eG,eJ] at h ⊢;exact h
  case pick c y z=>simp only[dj,eG,eJ,Iz] at h ⊢;exact h
  case extract y i=>simp only[dj,eG,eJ,jc,nc] at h ⊢;exact h
  case field t y f=>simp only[dj,eG,eJ,jc,nc,fc,rS] at h ⊢;exact h
  case load t y=>simp only[dj,eG,eJ,jc,nc,fc,kM,rS] at h ⊢;exact h
  case fieldAddr t y f=>simp only[dj,eG,eJ,jc,fc] at h ⊢;exact h
  case nilCheck y=>simp only[dj,eG,eJ] at h ⊢;exact h
  case store t y z=>
    simp only[dj,eG,eJ,jc,fc,kM,ER] at h ⊢
    cases dst with
    |some d=>cases h
    | none =>
      simp only at h ⊢
      generalize jP sl y=vy at h ⊢
      cases vy
      case ptr tk i k=>
        simp only at h ⊢
        generalize bg m tk=ms at h ⊢
        cases ms
        case live wd rows ro=>
          cases ro with
          |true=>simp only at h;cases h
          | false=>
            simp only at h ⊢
            generalize rows[i]? =rw0 at h ⊢
            cases rw0 with
            |none=>simp only at h;cases h
            | some r=>
              simp only at h ⊢
              cases hs:sW (da Γ t) r k (jP sl z) with
              |none=>rw[hs] at h;simp only at h;cases h
              |some r'=>rw[xO hs];rw[hs] at h;exact h
        all_goals (simp only at h;cases h)
      all_goals (simp only at h;cases h)
  case box t y=>
    simp only[dj,eG,eJ,kM,pL,hcells] at h ⊢
    cases dst with
    |none=>cases h
    | some d=>
      simp only at h ⊢
      have e10:Nat.mul 10 d=10*d:=rfl
      rw[e10] at h
      generalize bg m (10*d)=ms at h ⊢
      cases ms
      case free=>
        simp only at h ⊢
        cases hs:(jP sl y).nX with
        |true=>rw[hs] at h;rw[if_pos rfl];exact h
        |false=>rw[hs] at h;simp only at h;cases h
      all_goals (simp only at h;cases h)
  case alloc t=>
    simp only[dj,eG,fc,kM,Ho,hcells] at h ⊢
    exact h
  case makeFunc fn a b=>
    have he:gj sl=jP sl:=funext (eJ sl)
    simpa only[dj,eG,he,eO] using h
  case binOp op t y z yt=>
    simp only[dj,Nv,eG,eJ,fc,F2,nc] at h ⊢
    generalize jP sl y=a at h ⊢
    generalize jP sl z=b at h ⊢
    have lit:∀ (x1 x2:Value),(match da Γ t with
        |some .bl=>(Eu op x1 x2).map (fun r=>(([]:List Nat),AV.lit r,([]:ML)))
        |_=>(Ld op x1 x2).map (fun r=>(([]:List Nat),AV.lit r,([]:ML))))=some q→
      (match da Γ t with
        |some .bl=>(Im op x1 x2).map (fun r=>(([]:List Nat),AV.lit r,([]:ML)))
        |_=>(Ao op x1 x2).map (fun r=>(([]:List Nat),AV.lit r,([]:ML))))=some q:=by
      intro x1 x2 hh
      have g1:∀ {z1 z2:Option Value},(∀r,z1=some r→z2=some r)→z1.map (fun r=>(([]:List Nat),AV.lit r,([]:ML)))=some q→z2.map (fun r=>(([]:List Nat),AV.lit r,([]:ML)))=some q:=by
        intro z1 z2 hz h1
        rw[Option.map_eq_some_iff] at h1 ⊢
        obtain⟨r,h2,h3⟩:=h1
        exact⟨r,hz r h2,h3⟩
      generalize da Γ t=ti at hh ⊢
      cases ti with
      |none=>exact g1 (fun r hr=>ED hr) hh
      |some ti=>cases ti<;>first|exact g1 (fun r hr=>ED hr) hh|exact g1 (fun r hr=>Jp hr) hh
    cases a
    case own t1 o1 n1=>
      simp only at h
      split at h
      ·rename_i hn;rw[D7 hn];exact h
      ·cases h
    case sl w1 r1=>
      simp only at h
      split at h
      ·rename_i hn;rw[D7 hn];exact h
      ·cases h
    case lit x1=>
      cases b
      case lit x2=>exact lit x1 x2 h
      all_goals (simp only at h;cases h)
    all_goals (simp only at h;cases h)
  case unOp op t y=>cases op<;>(simp only[dj,eG,eJ] at h ⊢;exact h)
  case build t parts=>
    simp only[dj,eG,eJ,fc,jc,eO,nc] at h ⊢
    generalize da Γ t=ti at h ⊢
    cases ti with
    |none=>cases h
    | some ti=>
      cases ti
      case st n fs z szs=>
        simp only at h ⊢
        rw[Option.map_eq_some_iff] at h
        obtain⟨cs,h1,h2⟩:=h
        have h3:=B4 h1
        rw[Option.map_eq_some_iff]
        exact⟨cs,h3,h2⟩
      all_goals (simp only at h;cases h)
  case call c=>simp only[dj,eG,M1] at h ⊢;exact h
  all_goals simp only[dj] at h;cases h
@[reducible] def Ok : Nat → Nat → Nat
  |0,k=>k
  |n+1,k=>Nat.add (n+1) k
theorem L0 (a b:Nat):Ok a b=a+b:=by cases a<;>simp[Ok]
@[reducible] def Bg : Value → Bool
  |.agg _=>false
  |_=>true
theorem wR {v:Value}(h:Bg v=true):cells (.lit v)=[.lit v]:=by cases v<;>first|rfl|cases h
theorem xW:∀ {l:List Value},nk Bg l=true→flat (l.map .lit)=l.map .lit
  |[],_=>rfl
  | v ::r,h=>by
    simp only[nk] at h
    split at h
    · rename_i hv
      show cells (.lit v)++flat (r.map .lit)=_
      rw[wR hv,xW h];rfl
    ·cases h
theorem yM:∀ {l:List Value},nk Bg l=true→bI 1 (l.map .lit)
  |[],_=>bI.nil 1
  | v ::r,h=>by
    simp only[nk] at h
    split at h
    · rename_i hv
      exact .cons (by rw[wR hv];rfl) (yM h)
    ·cases h
theorem aN.FJ {P:Program}{N:Nat}{o:Oper}{σ:aC}{t:TypeId}{tk:Nat}{z:Array Value}(ho:o.op=.alloc t)(hz:jW P t (.agg z))(hs:nk Bg z.toList=true)(hf:σ.mem tk=.free)(hd:∀d,o.dst=some d→d<N):
    aN P N o σ [tk] (.ptr tk 0 0) [(tk,.live 1 (z.toList.map .lit) false)]:=
  .new hf (yM hs) (fun σ2 he2 w0 W0 L μ a w h=>by
    refine⟨z,t,.pointer (some ⟨w.heap.size,0,none⟩),w.drawn,?_,?_,fun q c hq=>?_,.inl ⟨rfl,rfl⟩⟩
    ·simp[execOp,ho,Instr.alloc,hz w,newVar,newRow,Value.cells]
    ·simp
    · rw [xW hs,dM] at hq
      cases hv:z.toList[q]? with
      |none=>rw[hv] at hq;cases hq
      | some v=>
        rw[hv] at hq
        cases hq
        exact⟨v,by rw[←Array.getElem?_toList];exact hv,.lit⟩) hd
theorem aN.CP {P:Program}{N:Nat}{o:Oper}{σ:aC}{y z:Operand}{t e:TypeId}{tk i0 k0 wd n:Nat}{kd:IntKind}{i:Int}(ho:o.op=.indexAddr t y z)(he:σ.eval y=.ptr tk i0 k0)(hz:σ.eval z=.lit (.int kd i))
    (ht:CA P t n e) (hsz:fg P e wd) (h0:0≤i) (h1:i<n) (hwd:∃rows ro,σ.mem tk=.live wd rows ro) (hd:∀d,o.dst=some d→d<N):aN P N o σ [tk] (.ptr tk (i0+i.toNat) k0) []:=
  .val (fun σ2 he2 hrd w0 W0 L μ a w hs=>by
    have k1:=hs.eval y
    have k2:=hs.eval z
    rw[he2 y (by simp[ho,Op.operands]),he] at k1
    rw[he2 z (by simp[ho,Op.operands]),hz] at k2
    obtain⟨rows,ro,hm⟩:=hwd
    have hm2:σ2.mem tk=.live wd rows ro:=by rw[hrd tk (by simp)];exact hm
    obtain⟨B,hB,hobj⟩:=hs.objs tk wd rows ro hm2
    generalize hv:a.eval y=v at k1
    cases k1 with
    | @ptr _ _ _ B' a1 ap=>
      rw[hB] at a1;cases a1
      refine⟨.pointer (some ⟨B.b,B.o+ ((i0+i.toNat)*B.wd+k0),none⟩),?_,.ptr hB ap⟩
      simp[execOp,ho,hv,k2.val,Instr.indexAt,asIntOf,run_underlying ht,hsz w,h0,h1,Addr.add_lit,Instr.sureAddr,hobj.width,Nat.add_mul,Nat.add_assoc,Nat.add_comm,Nat.add_left_comm]) hd
section
variable (P : Program) (N : Nat) (Γ : cT) (o : Oper) (acc : Tk) (sl : SL) (m : ML) (R : Rest)
@[reducible] def OW (t : TypeId) (y z : AV) : Prop :=
  match z with
  | .lit (.int _ i)=>match rR Γ t with
    | some (.sl _ wd _)=>match y with
      | .own tk off len=>match eC m tk with
        | .live wd' _ _=>match uN wd' wd with
          |true=>qb i len acc sl m (A:=fun k=>R [tk] (.ptr tk (off+k) 0) [])
          |false=>bV P N acc sl m (o:=o) (R:=R)
        |_=>bV P N acc sl m (o:=o) (R:=R)
      | .sl wd' rows=>match uN wd' wd with
        |true=>ak rows i acc sl m (A:=fun r=>R [] (.fptr r 0) [])
        |false=>bV P N acc sl m (o:=o) (R:=R)
      |_=>bV P N acc sl m (o:=o) (R:=R)
    | some (.ar _ len _ wd _)=>match y with
      | .ptr tk i0 k0=>match xQ tk with
        |true=>qb i len acc sl m (A:=fun k=>R [] (.ptr tk i0 (Nat.add k0 (Nat.mul k wd))) [])
        | false=>match eC m tk with
          | .live wd' _ _=>match uN wd' wd with
            |true=>qb i len acc sl m (A:=fun k=>R [tk] (.ptr tk (Ok i0 k) k0) [])
            |false=>bV P N acc sl m (o:=o) (R:=R)
          |_=>bV P N acc sl m (o:=o) (R:=R)
      |_=>bV P N acc sl m (o:=o) (R:=R)
    |_=>bV P N acc sl m (o:=o) (R:=R)
  |_=>bV P N acc sl m (o:=o) (R:=R)
@[reducible] def Ht (t : TypeId) (y : AV) : Prop :=
  match y with
  | .ptr tk i k=>match xQ tk with
    |true=>uz P N o acc sl m R (dj Γ sl m o.dst o.op)
    | false=>match eC m tk with
      |.live _ rows _=>dc rows i acc sl m (A:=fun r acc sl m=>uz P N o acc sl m R (xB (fun x=>([tk],x,[])) (tO (rR Γ t) r k)))
      |_=>bV P N acc sl m (o:=o) (R:=R)
  |_=>uz P N o acc sl m R (dj Γ sl m o.dst o.op)
@[reducible] def DE (t : TypeId) (y z : AV) : Prop :=
  match y with
  | .ptr tk i k=>match xQ tk with
    |true=>uz P N o acc sl m R (dj Γ sl m o.dst o.op)
    | false=>match o.dst with
      | none=>match eC m tk with
        |.live wd rows false=>dc rows i acc sl m (A:=fun r acc sl m=>uz P N o acc sl m R (xB (fun r'=>([tk],.any,[(tk,.live wd (rows.set i r') false)])) (sW (rR Γ t) r k z)))
        |_=>bV P N acc sl m (o:=o) (R:=R)
      |some _=>bV P N acc sl m (o:=o) (R:=R)
  |_=>bV P N acc sl m (o:=o) (R:=R)
@[reducible] def nH (d : Int) : Option Operand → Option Int
  |none=>some d
  | some z=>match gj sl z with
    |.lit (.int _ n)=>some n
    |_=>none
@[reducible] def Ke (t : TypeId) (y : AV) (lo hi : Option Operand) : Option Operand → Prop
  | none =>match rR Γ t with
    | some (.sl _ wd _)=>match y with
      | .own tk off len=>match nH sl 0 lo,nH sl len hi,eC m tk with
        | some l,some h,.live wd' _ _=>match uN wd' wd with
          |true=>Df l h len acc sl m (A:=fun a n=>R [tk] (.own tk (off+a) n) [])
          |false=>bV P N acc sl m (o:=o) (R:=R)
        |_,_,_=>bV P N acc sl m (o:=o) (R:=R)
      | .sl wd' rows=>match nH sl 0 lo,nH sl rows.length hi with
        | some l,some h=>match uN wd' wd with
          |true=>BI l h rows acc sl m (A:=fun rows'=>R [] (.sl wd rows') [])
          |false=>bV P N acc sl m (o:=o) (R:=R)
        |_,_=>bV P N acc sl m (o:=o) (R:=R)
      |_=>bV P N acc sl m (o:=o) (R:=R)
    | some .str=>match y with
      | .lit (.string s)=>match nH sl 0 lo,nH sl s.size hi with
        |some l,some h=>vc s l h acc sl m (A:=fun s=>R [] (.lit (.string s)) [])
        |_,_=>bV P N acc sl m (o:=o) (R:=R)
      |_=>bV P N acc sl m (o:=o) (R:=R)
    |_=>bV P N acc sl m (o:=o) (R:=R)
  | some mx=>match lo,hi with
    | none,some hi=>match rR Γ t,gj sl hi,gj sl mx with
      | some (.sl _ _ _),.lit (.int _ a),.lit (.int _ b)=>match y with
        |.own _ _ _=>bW (a=0∧b=0) acc sl m (A:=R [] .emp [])
        |.sl _ _=>bW (a=0∧b=0) acc sl m (A:=R [] .emp [])
        |.emp=>bW (a=0∧b=0) acc sl m (A:=R [] .emp [])
        |_=>bV P N acc sl m (o:=o) (R:=R)
      |_,_,_=>bV P N acc sl m (o:=o) (R:=R)
    |_,_=>bV P N acc sl m (o:=o) (R:=R)
@[reducible] def r9 (wd : Nat) : Nat → List (Nat × AV) → Bool
  |_,[]=>true
  | k,(i,x)::r=>match Nat.beq i k,uN (gb (dR x)) wd,u6 x with
    |true,true,true=>r9 wd (Nat.add k 1) r
    |_,_,_=>false
@[reducible] def nJ (d : Nat) : Nat := Nat.add (Nat.mul 10 d) 1
@[reducible] def NB (t : TypeId) (len : Nat) (parts : List (Nat × Operand)) : Prop :=
  match o.dst,rR Γ t with
  | some d,some (.sl _ wd _)=>match eC m (nJ d) with
    | .free=>match r9 wd 0 (fD (fun(p:Nat×Operand)=>match p with|(i,y)=>(i,gj sl y)) parts),uN (gb parts) len,Nat.ble (Nat.mul len wd) 16777216 with
      |true,true,true=>R [nJ d] (.own (nJ d) 0 len) [(nJ d,.live wd (fD (fun(p:Nat×Operand)=>match p with|(_,y)=>gj sl y) parts) false)] acc sl m
      |_,_,_=>bV P N acc sl m (o:=o) (R:=R)
    |_=>bV P N acc sl m (o:=o) (R:=R)
  |_,_=>bV P N acc sl m (o:=o) (R:=R)
@[reducible] def PX (wd : Nat) : AV → Option (List AV × Nat × Nat × List Nat)
  | .own t off len=>match eC m t with
    | .live wd' rows _=>match uN wd' wd with
      |true=>some (rows,off,len,[t])
      |false=>none
    |_=>none
  | .sl wd' rows=>match uN wd' wd with
    |true=>some (rows,0,rows.length,[])
    |false=>none
  |.emp=>some ([],0,0,[])
  | .lit v=>match CO v with
    |true=>some ([],0,0,[])
    |false=>none
  |_=>none
@[reducible] def Ny (wd : Nat) : AV → Option (List AV × Nat × Nat × List Nat)
  | .own t off len=>match eC m t with
    | .live wd' rows false=>match uN wd' wd with
      |true=>some (rows,off,len,[t])
      |false=>none
    |_=>none
  |.emp=>some ([],0,0,[])
  | .lit v=>match CO v with
    |true=>some ([],0,0,[])
    |false=>none
  |_=>none
@[reducible] def OQ (args : List Operand) (types : List TypeId) : Prop :=
  match args,types with
  | [y, z], [t,t2]=>match o.dst,rR Γ t,rR Γ t2 with
    | some d,some (.sl _ wd bytes),some (.sl _ _ _)=>match eC m (nJ d) with
      | .free=>match Ny m wd (gj sl y),PX m wd (gj sl z) with
        |some (rb,off,len,k),some (rs,off',len',rd)=>cC rb off len rs off' len' bytes acc sl m
            (A:=fun rows=>R (nJ d::jI k rd) (.own (nJ d) 0 rows.length) ((nJ d,.live wd rows false)::fD (fun t=>(t,MS.dead)) k))
        |_,_=>bV P N acc sl m (o:=o) (R:=R)
      |_=>bV P N acc sl m (o:=o) (R:=R)
    |_,_,_=>bV P N acc sl m (o:=o) (R:=R)
  |_,_=>bV P N acc sl m (o:=o) (R:=R)
@[reducible] def NC (args : List Operand) (types : List TypeId) : Prop :=
  match args,types with
  | [y],[t]=>match gj sl y with
    |.mapr k=>gl P N t (.mapr k) acc sl m (o:=o) (R:=R)
    |.fmap k=>gl P N t (.fmap k) acc sl m (o:=o) (R:=R)
    |_=>uz P N o acc sl m R (dj Γ sl m o.dst o.op)
  |_,_=>uz P N o acc sl m R (dj Γ sl m o.dst o.op)
@[reducible] def NP : Option Operand → Prop
  | none=>match o.dst with
    | some d=>match eC m (nJ d) with
      |.free=>R [nJ d] (.mapr (nJ d)) [(nJ d,.live 2 [] false)] acc sl m
      |_=>bV P N acc sl m (o:=o) (R:=R)
    |none=>bV P N acc sl m (o:=o) (R:=R)
  |some _=>bV P N acc sl m (o:=o) (R:=R)
@[reducible] def I4 (c : Call) : Prop :=
  match c.callee with
  |.builtin .len=>NC P N Γ o acc sl m R c.args.toList c.argTypes.toList
  |.builtin .append=>OQ P N Γ o acc sl m R c.args.toList c.argTypes.toList
  | .value f=>match f with
    |.func g=>aD P N g (fD (gj sl) c.args.toList) acc sl m (o:=o) (R:=R)
    | f=>match gj sl f with
      |.clo (.func g) first cap=>aD P N g (jI first (jI (fD (gj sl) c.args.toList) cap)) acc sl m (o:=o) (R:=R)
      |_=>bV P N acc sl m (o:=o) (R:=R)
  |_=>bV P N acc sl m (o:=o) (R:=R)
@[reducible] def NJ (op : BinOp) (t : TypeId) (x y : AV) : Prop :=
  match op,x,y with
  |.add,.lit (.int .i64 a),.lit (.int .i64 b)=>bW (-9223372036854775808≤a+b∧a+b≤9223372036854775807) acc sl m (A:=R [] (.lit (.int .i64 (a+b))) [])
  |.sub,.lit (.int .i64 a),.lit (.int .i64 b)=>bW (-9223372036854775808≤a-b∧a-b≤9223372036854775807) acc sl m (A:=R [] (.lit (.int .i64 (a-b))) [])
  |.add,.lit (.string a),.lit (.string b)=>bW (a.size+b.size≤9223372036854775807) acc sl m (A:=R [] (.lit (.string (a++b))) [])
  | .eql,.agg cs,.agg ds=>match uc cs,uc ds with
    |some us,some vs=>yU P .eql t us vs acc sl m (A:=fun b=>R [] (.lit (.bool b)) [])
    |_,_=>bV P N acc sl m (o:=o) (R:=R)
  | .neq,.agg cs,.agg ds=>match uc cs,uc ds with
    |some us,some vs=>yU P .neq t us vs acc sl m (A:=fun b=>R [] (.lit (.bool b)) [])
    |_,_=>bV P N acc sl m (o:=o) (R:=R)
  |_,_,_=>uz P N o acc sl m R (dj Γ sl m o.dst o.op)
@[reducible] def G3 (t : TypeId) (y z : AV) : Prop :=
  match rR Γ t,y,z with
  |some .str,.lit (.string s),.lit (.int _ i)=>mc s i acc sl m (A:=fun c=>R [] (.lit (.int .u8 c)) [])
  |_,_,_=>bV P N acc sl m (o:=o) (R:=R)
@[reducible] def IE (src dst : TypeId) (y : AV) : Prop :=
  match y with
  |.lit v=>tS P src dst v acc sl m (A:=fun r=>R [] (.lit r) [])
  | .own tk off len=>match eC m tk with
    | .live wd rows _=>match uN wd 1 with
      |true=>wU P src dst rows off len acc sl m (A:=fun r=>R [tk] (.lit r) [])
      |false=>bV P N acc sl m (o:=o) (R:=R)
    |_=>bV P N acc sl m (o:=o) (R:=R)
  |_=>bV P N acc sl m (o:=o) (R:=R)
@[reducible] def Cp (t : TypeId) : Prop :=
  match o.dst,rR Γ t with
  | some d,some (.ar _ _ e _ z)=>match rR Γ e with
    |some (.sl _ _ _)=>uz P N o acc sl m R (dj Γ sl m o.dst o.op)
    | _=>match nk Bg z.toList,eC m (nJ d) with
      |true,.free=>R [nJ d] (.ptr (nJ d) 0 0) [(nJ d,.live 1 (fD .lit z.toList) false)] acc sl m
      |_,_=>bV P N acc sl m (o:=o) (R:=R)
  |_,_=>uz P N o acc sl m R (dj Γ sl m o.dst o.op)
@[reducible] def wpOp : Prop :=
  match o.op with
  |.alloc t=>Cp P N Γ o acc sl m R t
  |.indexAddr t y z=>OW P N Γ o acc sl m R t (gj sl y) (gj sl z)
  |.load t y=>Ht P N Γ o acc sl m R t (gj sl y)
  |.store t y z=>DE P N Γ o acc sl m R t (gj sl y) (gj sl z)
  |.slice t y lo hi mx=>Ke P N Γ o acc sl m R t (gj sl y) lo hi mx
  |.buildSlice t len parts=>NB P N Γ o acc sl m R t len parts.toList
  |.call c=>I4 P N Γ o acc sl m R c
  |.binOp op t y z _=>NJ P N Γ o acc sl m R op t (gj sl y) (gj sl z)
  |.index t y z=>G3 P N Γ o acc sl m R t (gj sl y) (gj sl z)
  |.convert src dst y=>IE P N o acc sl m R src dst (gj sl y)
  |.makeMap _ hint=>NP P N o acc sl m R hint
  |.lookup t y x c=>jJ P N t c (gj sl y) (gj sl x) acc sl m (o:=o) (R:=R)
  |.mapUpdate t y x v=>rY P N t (gj sl y) (gj sl x) (gj sl v) acc sl m (o:=o) (R:=R)
  |_=>uz P N o acc sl m R (dj Γ sl m o.dst o.op)
end
section
variable {P : Program} {N : Nat} {Γ : cT} {o : Oper} {acc : Tk} {sl : SL} {m : ML} {R : Rest}
def rm (P:Program)(N:Nat)(o:Oper)(acc:Tk)(sl:SL)(m:ML)(R:Rest):Prop:=∃rd x ups,aN P N o (St sl m) rd x ups∧R rd x ups acc sl m
theorem kj (hΓ:Γ.Good P)(hd:gw N o.dst=true)(h:uz P N o acc sl m R (dj Γ sl m o.dst o.op)):rm P N o acc sl m R:=by
  cases hp:dj Γ sl m o.dst o.op with
  |none=>rw[hp] at h;exact h
  | some q=>
    obtain⟨rd,x,ups⟩:=q
    rw[hp] at h
    exact⟨rd,x,ups,FM hΓ (FX hp) (br hd),h⟩
theorem ox:∀ {cs:List AV} {us:List Value},uc cs=some us→nC cs=some us
  |[],us,h=>h
  | c :: r,us,h=>by
    cases c with
    | lit v=>
      simp only[uc] at h
      split at h
      · rename_i l hl
        cases h
        simp[nC,ox hl]
      ·cases h
    |_=>simp[uc] at h
theorem ev_eq (y:Operand):(St sl m).eval y=gj sl y:=by rw[kg,eJ]
theorem mem_eq (t:Nat):(St sl m).mem t=eC m t:=(kM m t).symm
theorem K3 (hΓ:Γ.Good P)(hd:gw N o.dst=true){t:TypeId}{y z:Operand}(ho:o.op=.indexAddr t y z)(h:OW P N Γ o acc sl m R t (gj sl y) (gj sl z)):rm P N o acc sl m R:=by
  unfold OW at h
  split at h
  · rename_i hz
    split at h
    · rename_i ht
      rw[fc] at ht
      have ok:=hΓ.look ht
      obtain⟨i,z',te⟩:=ok.2.2.2.2
      split at h
      · rename_i hy
        split at h
        · rename_i hm
          split at h
          · rename_i hw
            obtain⟨k,rfl,hk,h⟩:=h
            have hw':=beq_eq (by rw[←eY];exact hw)
            subst hw'
            refine⟨_,_,_,?_,h⟩
            have:=aN.GI (P:=P) (N:=N) (σ:=St sl m) ho (by rw[ev_eq];exact hy) (by rw[ev_eq];exact hz) te.ty ok.2.2.2.1 (Int.natCast_nonneg k) (by omega) ⟨_,_,by rw[mem_eq];exact hm⟩ (br hd)
            simpa using this
          ·exact h
        ·exact h
      · rename_i hy
        split at h
        · rename_i hw
          obtain⟨k,r,rfl,hk,h⟩:=h
          have hw':=beq_eq (by rw[←eY];exact hw)
          subst hw'
          exact⟨_,_,_,aN.Is (P:=P) (N:=N) (σ:=St sl m) ho (by rw[ev_eq];exact hy) (by rw[ev_eq];exact hz) te.ty ok.2.2.2.1 (Int.natCast_nonneg k) (by simpa using hk) (br hd),h⟩
        ·exact h
      ·exact h
    · rename_i ht
      rw[fc] at ht
      have ok:=hΓ.look ht
      split at h
      · rename_i hy
        split at h
        · obtain⟨k,rfl,hk,h⟩:=h
          refine⟨_,_,_,?_,h⟩
          have:=aN.G1 (P:=P) (N:=N) (σ:=St sl m) ho (by rw[ev_eq];exact hy) (by rw[ev_eq];exact hz) ok.2.2.2.1 ok.2.2.2.2 (Int.natCast_nonneg k) (by omega) (br hd)
          simpa using this
        · split at h
          · rename_i hm
            split at h
            · rename_i hw
              obtain⟨k,rfl,hk,h⟩:=h
              have hw':=beq_eq (by rw[←eY];exact hw)
              subst hw'
              refine⟨_,_,_,?_,h⟩
              have:=aN.CP (P:=P) (N:=N) (σ:=St sl m) ho (by rw[ev_eq];exact hy) (by rw[ev_eq];exact hz) ok.2.2.2.1 ok.2.2.2.2 (Int.natCast_nonneg k) (by omega) ⟨_,_,by rw[mem_eq];exact hm⟩ (br hd)
              simpa[L0] using this
            ·exact h
          ·exact h
      ·exact h
    ·exact h
  ·exact h
theorem JN (hΓ:Γ.Good P)(hd:gw N o.dst=true){t:TypeId}{y:Operand}(ho:o.op=.load t y)(h:Ht P N Γ o acc sl m R t (gj sl y)):rm P N o acc sl m R:=by
  unfold Ht at h
  split at h
  · rename_i tk i k hy
    split at h
    ·exact kj hΓ hd h
    · split at h
      · rename_i hm
        obtain⟨r,hr,h⟩:=h
        rw[nc] at h
        cases hl:tO (rR Γ t) r k with
        |none=>rw[hl] at h;exact h
        | some x=>
          rw[hl] at h
          exact⟨_,_,_,aN.Bm (P:=P) (N:=N) (σ:=St sl m) ho (by rw[ev_eq];exact hy) (by rw[mem_eq];exact hm) hr (oP hΓ (by rw[←fc,←rS];exact hl)) (br hd),h⟩
      ·exact h
  ·exact kj hΓ hd h
theorem GG (hΓ:Γ.Good P)(hd:gw N o.dst=true){t:TypeId}{y z:Operand}(ho:o.op=.store t y z)(h:DE P N Γ o acc sl m R t (gj sl y) (gj sl z)):rm P N o acc sl m R:=by
  unfold DE at h
  split at h
  · rename_i tk i k hy
    split at h
    ·exact kj hΓ hd h
    · split at h
      · rename_i hdst
        split at h
        · rename_i hm
          obtain⟨r,hr,h⟩:=h
          rw[nc] at h
          cases hl:sW (rR Γ t) r k (gj sl z) with
          |none=>rw[hl] at h;exact h
          | some r'=>
            rw[hl] at h
            have hs:=yQ (P:=P) (Γ:=Γ) (t:=t) hΓ (by rw[←fc];exact xO hl)
            exact⟨_,_,_,aN.store (P:=P) (N:=N) (σ:=St sl m) ho (by rw[ev_eq];exact hy) (by rw[ev_eq]) (by rw[mem_eq];exact hm) hr hs.1 hs.2.1 hs.2.2 hdst,h⟩
        ·exact h
      ·exact h
  ·exact h
theorem kD {d l:Int}{lo:Option Operand}(h:nH sl d lo=some l)(h0:0≤l):lo=none∧l.toNat=d.toNat∨∃z k,lo=some z∧(St sl m).eval z=.lit (.int k (l.toNat:Nat)):=by
  cases lo with
  |none=>simp only[nH,Option.some.injEq] at h;subst h;exact .inl ⟨rfl,rfl⟩
  | some z=>
    simp only[nH] at h
    split at h
    · rename_i k n he
      cases h
      exact .inr ⟨z,k,rfl,by rw[ev_eq,he,Int.toNat_of_nonneg h0]⟩
    ·cases h
theorem K7 (hΓ:Γ.Good P)(hd:gw N o.dst=true){t:TypeId}{y:Operand}{lo hi mx:Option Operand}(ho:o.op=.slice t y lo hi mx)(h:Ke P N Γ o acc sl m R t (gj sl y) lo hi mx):rm P N o acc sl m R:=by
  cases mx with
  | none =>
    simp only[Ke] at h
    split at h
    · rename_i ht
      rw[fc] at ht
      have ok:=hΓ.look ht
      obtain⟨i,z',te⟩:=ok.2.2.2.2
      split at h
      · rename_i hy
        split at h
        · rename_i hl hh hm
          split at h
          · rename_i hw
            obtain⟨a,n,rfl,rfl,hn,h⟩:=h
            have hw':=beq_eq (by rw[←eY];exact hw)
            subst hw'
            refine⟨_,_,_,?_,h⟩
            have:=aN.F3 (P:=P) (N:=N) (σ:=St sl m) (l:=a) (h:=a+n) ho (by rw[ev_eq];exact hy) (by have:=kD (m:=m) hl (Int.natCast_nonneg _);simpa using this)
              (by rw[show((a:Int)+ (n:Int))=((a+n:Nat):Int) from by omega] at hh;have:=kD (m:=m) hh (Int.natCast_nonneg _);simp only[Int.toNat_natCast] at this;exact this) (by omega) (by omega) te.ty ok.2.2.2.1 ⟨_,_,by rw[mem_eq];exact hm⟩ (br hd)
            simpa using this
          ·exact h
        ·exact h
      · rename_i hy
        split at h
        · rename_i hl hh
          split at h
          · rename_i hw
            obtain⟨a,n,rows',rfl,rfl,hn,rfl,h⟩:=h
            have hw':=beq_eq (by rw[←eY];exact hw)
            subst hw'
            refine⟨_,_,_,?_,h⟩
            have:=aN.G4 (P:=P) (N:=N) (σ:=St sl m) (l:=a) (h:=a+n) ho (by rw[ev_eq];exact hy) (by have:=kD (m:=m) hl (Int.natCast_nonneg _);simpa using this)
              (by rw[show((a:Int)+ (n:Int))=((a+n:Nat):Int) from by omega] at hh;have:=kD (m:=m) hh (Int.natCast_nonneg _);simp only[Int.toNat_natCast] at this;exact this) (by omega) (by omega) te.ty ok.2.2.2.1 (br hd)
            simpa using this
          ·exact h
        ·exact h
      ·exact h
    · rename_i ht
      rw[fc] at ht
      have ok:=hΓ.look ht
      split at h
      · rename_i hy
        split at h
        · rename_i hl hh
          obtain⟨a,b,rfl,rfl,h1,h2,h⟩:=h
          exact⟨_,_,_,aN.Oo (P:=P) (N:=N) (σ:=St sl m) (a:=a) (b:=b) ho (by rw[ev_eq];exact hy) ok.2.2.2 (by have:=kD (m:=m) hl (Int.natCast_nonneg _);simpa using this) (by have:=kD (m:=m) hh (Int.natCast_nonneg _);simpa using this) h1 h2 (br hd),h⟩
        ·exact h
      ·exact h
    ·exact h
  | some mx=>
    simp only[Ke] at h
    split at h
    · split at h
      · rename_i ht h1 h2
        rw[fc] at ht
        have ok:=hΓ.look ht
        obtain⟨i,z',te⟩:=ok.2.2.2.2
        split at h
        · rename_i hy
          obtain⟨⟨rfl,rfl⟩,h⟩:=h
          exact⟨_,_,_,aN.slice3 (P:=P) (N:=N) (σ:=St sl m) ho (by rw[ev_eq];exact hy) (.inl ⟨_,_,_,rfl⟩) (by rw[ev_eq];exact h1) (by rw[ev_eq];exact h2) te.ty ⟨_,ok.2.2.2.1⟩ (br hd),h⟩
        · rename_i hy
          obtain⟨⟨rfl,rfl⟩,h⟩:=h
          exact⟨_,_,_,aN.slice3 (P:=P) (N:=N) (σ:=St sl m) ho (by rw[ev_eq];exact hy) (.inr (.inl ⟨_,_,rfl⟩)) (by rw[ev_eq];exact h1) (by rw[ev_eq];exact h2) te.ty ⟨_,ok.2.2.2.1⟩ (br hd),h⟩
        · rename_i hy
          obtain⟨⟨rfl,rfl⟩,h⟩:=h
          exact⟨_,_,_,aN.slice3 (P:=P) (N:=N) (σ:=St sl m) ho (by rw[ev_eq];exact hy) (.inr (.inr (.inl rfl))) (by rw[ev_eq];exact h1) (by rw[ev_eq];exact h2) te.ty ⟨_,ok.2.2.2.1⟩ (br hd),h⟩
        ·exact h
      ·exact h
    ·exact h
theorem tV {wd:Nat}:∀ {k:Nat} {ps:List (Nat×AV)},r9 wd k ps=true→kn wd k ps=true
  |k,[],_=>rfl
  | k, (i,x)::r,h=>by
    simp only[r9] at h
    split at h
    · rename_i h1 h2 h3
      rw[eY,dz,gQ] at h2
      rw[pL] at h3
      have h4:kn wd (k+1) r=true:=tV h
      simp only[kn,aT,beq_iff_eq]
      exact⟨⟨⟨beq_eq h1,beq_eq h2⟩,h3⟩,h4⟩
    ·cases h
theorem Ma (hΓ:Γ.Good P)(hd:gw N o.dst=true){t:TypeId}{len:Nat}{parts:Array (Nat×Operand)}(ho:o.op=.buildSlice t len parts)(h:NB P N Γ o acc sl m R t len parts.toList):rm P N o acc sl m R:=by
  unfold NB at h
  split at h
  · rename_i d e wd bytes hdst ht
    rw[fc] at ht
    have ok:=hΓ.look ht
    obtain⟨i,z',te⟩:=ok.2.2.2.2
    split at h
    · rename_i hm
      split at h
      · rename_i g1 g2 g3
        have g1':=tV g1
        rw[eO] at g1'
        rw[eY,dz] at g2
        have g2':=beq_eq g2
        have g3':len*wd≤16777216:=gp g3
        have hev:(fun p:Nat×Operand=>(p.1,gj sl p.2))=fun p=>(p.1,(St sl m).eval p.2):=by funext p;rw[ev_eq]
        rw[hev] at g1'
        have hfi:=su _ 0 [] g1' (by simp)
        have hmap:fD (fun(p:Nat×Operand)=>match p with|(_,y)=>gj sl y) parts.toList=(parts.toList.map fun p=>(p.1,(St sl m).eval p.2)).map (·.2):=by
          rw[eO,List.map_map];apply List.map_congr_left;intro p _;simp[ev_eq]
        have:=aN.buildSlice (P:=P) (N:=N) (σ:=St sl m) (tk:=nJ d) ho te g3' (rows:=(parts.toList.map fun p=>(p.1,(St sl m).eval p.2)).map (·.2)) (by simp[←g2']) (sF _ 0 g1')
          (by simp only[List.nil_append,aM] at hfi;rw[←g2'];exact hfi) (by rw[mem_eq];exact hm) (br hd)
        rw[hmap] at h
        refine⟨_,_,_,?_,h⟩
        simp only[aM,g2'] at this
        exact this
      ·exact h
    ·exact h
  ·exact h
theorem KV (hΓ:Γ.Good P)(hd:gw N o.dst=true){args:Array Operand}{types:Array TypeId}(ho:o.op=.call {callee:=.builtin .append,args:=args,argTypes:=types})(h:OQ P N Γ o acc sl m R args.toList types.toList):rm P N o acc sl m R:=by
  unfold OQ at h
  split at h
  · rename_i y z t t2 ea et
    obtain rfl:args= #[y,z]:=Array.ext' ea
    obtain rfl:types= #[t,t2]:=Array.ext' et
    split at h
    · rename_i d e wd bytes e2 wd2 bytes2 hdst ht ht2
      rw[fc] at ht ht2
      have ok:=hΓ.look ht
      obtain⟨i,z',te⟩:=ok.2.2.2.2
      have ok2:=hΓ.look ht2
      obtain⟨i2,z2,te2⟩:=ok2.2.2.2.2
      split at h
      · rename_i hm
        split at h
        · rename_i rb off len k rs off' len' rd hb hx
          obtain⟨rows0,news,c1,rfl,c2,rfl,c3,c4,c5,h⟩:=h
          have hb':uy (St sl m) wd ((St sl m).eval y) ((rb.drop off).take len) k:=by
            rw[ev_eq]
            unfold Ny at hb
            split at hb
            · rename_i hy
              split at hb
              · rename_i hmm
                split at hb
                ·rename_i hw;have hw':=beq_eq (by rw[←eY];exact hw);subst hw';cases hb;rw[hy];exact .own (by rw[mem_eq];exact hmm) c1
                ·cases hb
              ·cases hb
            ·rename_i hy;cases hb;rw[hy];simpa using uy.emp
            · rename_i hy
              split at hb
              ·rename_i hn;cases hb;rw[hy,p7 hn];simpa using uy.nil
              ·cases hb
            ·cases hb
          have hx':Src (St sl m) wd ((St sl m).eval z) ((rs.drop off').take len') rd:=by
            rw[ev_eq]
            unfold PX at hx
            split at hx
            · rename_i hy
              split at hx
              · rename_i hmm
                split at hx
                ·rename_i hw;have hw':=beq_eq (by rw[←eY];exact hw);subst hw';cases hx;rw[hy];exact .own (by rw[mem_eq];exact hmm) c2
                ·cases hx
              ·cases hx
            · rename_i hy
              split at hx
              ·rename_i hw;have hw':=beq_eq (by rw[←eY];exact hw);subst hw';cases hx;rw[hy];simpa using Src.sl
              ·cases hx
            ·rename_i hy;cases hx;rw[hy];simpa using Src.emp
            · rename_i hy
              split at hx
              ·rename_i hn;cases hx;rw[hy,p7 hn];simpa using Src.nil
              ·cases hx
            ·cases hx
          refine⟨_,_,_,?_,h⟩
          have:=aN.append (P:=P) (N:=N) (σ:=St sl m) (tn:=nJ d) ho te te2.ty hb' hx' c3 c4 (by unfold maxLen;omega) (by rw[mem_eq];exact hm) (br hd)
          rw[iM,eO]
          exact this
        ·exact h
      ·exact h
    ·exact h
  ·exact h
theorem args_eq (args:Array Operand):args.toList.map (St sl m).eval=fD (gj sl) args.toList:=by
  rw[eO];apply List.map_congr_left;intro y _;exact ev_eq y
theorem LA (hΓ:Γ.Good P)(hd:gw N o.dst=true){args:Array Operand}{types:Array TypeId}(ho:o.op=.call {callee:=.builtin .len,args:=args,argTypes:=types})(h:NC P N Γ o acc sl m R args.toList types.toList):rm P N o acc sl m R:=by
  unfold NC at h
  split at h
  · rename_i y t ea et
    obtain rfl:args= #[y]:=Array.ext' ea
    obtain rfl:types= #[t]:=Array.ext' et
    split at h
    ·rename_i hy;exact h ⟨y,ho,by rw[ev_eq];exact hy⟩
    ·rename_i hy;exact h ⟨y,ho,by rw[ev_eq];exact hy⟩
    ·exact kj hΓ hd h
  ·exact kj hΓ hd h
theorem KW (hd:gw N o.dst=true){t:TypeId}{hint:Option Operand}(ho:o.op=.makeMap t hint)(h:NP P N o acc sl m R hint):rm P N o acc sl m R:=by
  cases hint with
  |some _=>exact h
  | none =>
    simp only[NP] at h
    split at h
    · rename_i d hdst
      split at h
      · rename_i hm
        exact⟨_,_,_,aN.makeMap (P:=P) (N:=N) (σ:=St sl m) (tk:=nJ d) ho (by rw[mem_eq];exact hm) (br hd),h⟩
      ·exact h
    ·exact h
theorem Hj (hΓ:Γ.Good P)(hd:gw N o.dst=true){c:Call}(ho:o.op=.call c)(h:I4 P N Γ o acc sl m R c):rm P N o acc sl m R:=by
  obtain⟨callee,args,types⟩:=c
  unfold I4 at h
  simp only at h
  split at h
  ·exact LA hΓ hd ho h
  ·exact KV hΓ hd ho h
  · split at h
    · refine h ?_
      have:=ij.func (σ:=St sl m) ho (by rfl)
      rw[show fD (gj sl) args.toList=args.toList.map (St sl m).eval from(args_eq args).symm]
      exact this
    · split at h
      · rename_i hy
        refine h ?_
        have:=ij.clo (σ:=St sl m) ho (by rw[ev_eq];exact hy)
        rw[iM,iM,show fD (gj sl) args.toList=args.toList.map (St sl m).eval from(args_eq args).symm,←List.append_assoc]
        exact this
      ·exact h
  ·exact h
theorem L4 (hΓ:Γ.Good P)(hd:gw N o.dst=true){op:BinOp}{t yt:TypeId}{y z:Operand}(ho:o.op=.binOp op t y z yt)(h:NJ P N Γ o acc sl m R op t (gj sl y) (gj sl z)):rm P N o acc sl m R:=by
  unfold NJ at h
  split at h
  · rename_i a b hx hy
    obtain⟨hn,h⟩:=h
    refine⟨_,_,_,aN.binOp (P:=P) (N:=N) (σ:=St sl m) ho (by rw[ev_eq];exact hx) (by rw[ev_eq];exact hy) (wX (by simp only[Ao,if_true];rw[IntWalk.i64_in _ hn]) _ _ _) (br hd),h⟩
  · rename_i a b hx hy
    obtain⟨hn,h⟩:=h
    refine⟨_,_,_,aN.binOp (P:=P) (N:=N) (σ:=St sl m) ho (by rw[ev_eq];exact hx) (by rw[ev_eq];exact hy) (wX (by simp only[Ao,if_true];rw[IntWalk.i64_in _ hn]) _ _ _) (br hd),h⟩
  · rename_i a b hx hy
    obtain⟨hn,h⟩:=h
    refine⟨_,_,_,aN.binOp (P:=P) (N:=N) (σ:=St sl m) ho (by rw[ev_eq];exact hx) (by rw[ev_eq];exact hy) (fun w=>by simp[eqGuard,binOp,run_string_add_sum w a b hn]) (br hd),h⟩
  · rename_i cs ds hx hy
    split at h
    · rename_i us vs h1 h2
      obtain⟨b,hr,h⟩:=h
      exact kU.Jq (R:=fun rd x ups=>R rd x ups acc sl m) ho (by rw[←eJ];exact hx) (ox h1) (by rw[←eJ];exact hy) (ox h2) (fun w=>hr y z w) hd h
    ·exact h
  · rename_i cs ds hx hy
    split at h
    · rename_i us vs h1 h2
      obtain⟨b,hr,h⟩:=h
      exact kU.Jq (R:=fun rd x ups=>R rd x ups acc sl m) ho (by rw[←eJ];exact hx) (ox h1) (by rw[←eJ];exact hy) (ox h2) (fun w=>hr y z w) hd h
    ·exact h
  ·exact kj hΓ hd h
theorem HQ (hΓ:Γ.Good P)(hd:gw N o.dst=true){t:TypeId}{y z:Operand}(ho:o.op=.index t y z)(h:G3 P N Γ o acc sl m R t (gj sl y) (gj sl z)):rm P N o acc sl m R:=by
  unfold G3 at h
  split at h
  · rename_i ht hy hz
    rw[fc] at ht
    have ok:=hΓ.look ht
    obtain⟨k,c,rfl,hc,h⟩:=h
    exact⟨_,_,_,aN.OX (P:=P) (N:=N) (σ:=St sl m) ho (by rw[ev_eq];exact hy) (by rw[ev_eq];exact hz) ok.2.2.2 hc (br hd),h⟩
  ·exact h
theorem IN (hd:gw N o.dst=true){src dst:TypeId}{y:Operand}(ho:o.op=.convert src dst y)(h:IE P N o acc sl m R src dst (gj sl y)):rm P N o acc sl m R:=by
  unfold IE at h
  split at h
  · rename_i hy
    obtain⟨r,hr,h⟩:=h
    exact⟨_,_,_,aN.LZ (P:=P) (N:=N) (σ:=St sl m) ho (by rw[ev_eq];exact hy) hr (br hd),h⟩
  · rename_i hy
    split at h
    · rename_i hm
      split at h
      · rename_i hw
        have hw':=beq_eq (by rw[←eY];exact hw)
        subst hw'
        obtain⟨bs,e,h1,h2,h3,h4,h5,h6,h⟩:=h
        exact⟨_,_,_,aN.Hr (P:=P) (N:=N) (σ:=St sl m) ho (by rw[ev_eq];exact hy) h1 h2 h3 (by rw[mem_eq];exact hm) h4 h5 h6 (br hd),h⟩
      ·exact h
    ·exact h
  ·exact h
theorem Gc (hΓ:Γ.Good P)(hd:gw N o.dst=true){t:TypeId}(ho:o.op=.alloc t)(h:Cp P N Γ o acc sl m R t):rm P N o acc sl m R:=by
  unfold Cp at h
  split at h
  · rename_i hdst ht
    rw[fc] at ht
    have ok:=hΓ.look ht
    split at h
    ·exact kj hΓ hd h
    split at h
    · rename_i hs hm
      exact⟨_,_,_,aN.FJ (P:=P) (N:=N) (σ:=St sl m) ho ok.2.2.1 hs (by rw[mem_eq];exact hm) (br hd),by rw[eO] at h;exact h⟩
    ·exact h
  ·exact kj hΓ hd h
theorem KU (hΓ:Γ.Good P)(hd:gw N o.dst=true)(h:wpOp P N Γ o acc sl m R):rm P N o acc sl m R:=by
  unfold wpOp at h
  split at h
  ·rename_i ho;exact Gc hΓ hd ho h
  ·rename_i ho;exact K3 hΓ hd ho h
  ·rename_i ho;exact JN hΓ hd ho h
  ·rename_i ho;exact GG hΓ hd ho h
  ·rename_i ho;exact K7 hΓ hd ho h
  ·rename_i ho;exact Ma hΓ hd ho h
  ·rename_i ho;exact Hj hΓ hd ho h
  ·rename_i ho;exact L4 hΓ hd ho h
  ·rename_i ho;exact HQ hΓ hd ho h
  ·rename_i ho;exact IN hd ho h
  ·rename_i ho;exact KW hd ho h
  ·rename_i ho;exact h ⟨_,_,ho,ev_eq _,ev_eq _⟩
  ·rename_i ho;exact h ⟨_,_,_,ho,ev_eq _,ev_eq _,ev_eq _⟩
  ·exact kj hΓ hd h
end
def jV (ops:Array Oper):Nat→Nat→Nat→Bool
  |0,_,_=>false
  | n+1,j,i=>match ops[j]? with
    |none=>false
    |some o=>o.after.any fun e=>Region.binds .any e&&(e.on==i||jV ops n e.on i)
def s6 (ops:Array Oper)(listed:Array Bool):Prop:=∀ (m:Nat) (o:Oper),ops[m]? =some o→listed.getD m true=true→∀e∈o.after,Region.binds .any e=true→listed.getD e.on true=true
section
variable {P : Program} {N : Nat} {ops : Array Oper} {w0 : World} {W0 : Nat → Prop} {L μ : Mu} {σ : aC} {a : Act} {w : World}
theorem rP {listed:Array Bool}(hc:s6 ops listed):∀ (n j i:Nat) (o:Oper),ops[j]? =some o→(∀e∈o.after,Region.binds .any e=true→listed.getD e.on true=true)→jV ops n j i=true→listed.getD i true=true
  |0,_,_,_,_,_,h=>by cases h
  | n + 1,j,i,o,hj,ha,h=>by
    simp only[jV,hj] at h
    rw[Array.any_eq_true] at h
    obtain⟨k,hk,h⟩:=h
    simp only[aT,dW,beq_iff_eq] at h
    obtain⟨hb,h⟩:=h
    have hl:=ha _ (Array.getElem_mem hk) hb
    rcases h with h|h
    ·rw[←h];exact hl
    · cases hm:ops[(o.after[k]).on]? with
      | none=>cases n with
        |zero=>cases h
        |succ n=>simp[jV,hm] at h
      |some o'=>exact rP hc n _ i o' hm (hc _ o' hm hl) h
theorem s6.set {listed:Array Bool}(hc:s6 ops listed){j:Nat}{o:Oper}(hj:ops[j]? =some o)(ha:∀e∈o.after,Region.binds .any e=true→listed.getD e.on true=true):s6 ops (listed.setIfInBounds j true):=by
  have up:∀i,listed.getD i true=true→(listed.setIfInBounds j true).getD i true=true:=fun i h=>by
    by_cases hij:j=i
    · subst hij
      by_cases hlt:j<listed.size
      ·simp[hlt]
      ·rw[Array.getD_eq_getD_getElem?,Array.getElem?_eq_none (by simpa using hlt)];rfl
    ·rw[getD_set_ne true hij];exact h
  intro m o' hm hl e he hb
  by_cases hjm:j=m
  · subst hjm
    rw[hj] at hm;cases hm
    exact up _ (ha e he hb)
  · rw[getD_set_ne true hjm] at hl
    exact up _ (hc m o' hm hl e he hb)
theorem A9 {es:List k7}{K:aC→Prop}{i:Nat}{x:k7}(hf:∀ (j:Nat) (e:k7),es[j]? =some e→ops[j]? =some e.o)(hi:es[i]? =some x):
    ∀ (fuel:Nat) (listed:Array Bool) (σ:aC),s6 ops listed→
      (∀ (j:Nat) (y:k7),es[j]? =some y→j≠i→listed.getD j true=false→(∀e∈y.o.after,Region.binds .any e=true→e.on≠i)→(∀n,jV ops n j i=false)→x.o.apart ops y.o=true∧kI x.toks y.toks=true)→
      i∈Region.ready .any ops listed→Holds ops x σ→
      Ji ops es K fuel (listed.setIfInBounds i true) (σ.app x)→Ji ops es K (fuel+1) listed σ:=by
  intro fuel
  induction fuel with
  | zero=>
    intro listed σ _ _ hr hy H
    refine⟨fun h=>(by rw[h] at hr;cases hr),fun j hj=>?_⟩
    by_cases hji:j=i
    ·subst hji;exact⟨x,hi,hy,H⟩
    · have:=ready_mono hj hji
      rw[H.1] at this
      cases this
  | succ fuel ih=>
    intro listed σ hcl hfree hr hy H
    refine⟨fun h=>(by rw[h] at hr;cases hr),fun j hj=>?_⟩
    by_cases hji:j=i
    ·subst hji;exact⟨x,hi,hy,H⟩
    · obtain⟨y,hy1,hy2,hy3⟩:=H.2 j (ready_mono hj hji)
      obtain⟨hjun,oj,hoj,hall⟩:=mem_ready.1 hj
      have hoj':=hf j y hy1
      rw[hoj] at hoj'
      cases hoj'
      have hiun:¬listed.getD i true=true:=fun h1=>by
        have h0:=(mem_ready.1 hr).1
        rcases Nat.lt_or_ge i listed.size with h'|h'
        ·simp[h'] at h0 h1;rw[h0] at h1;cases h1
        ·simp[Array.getElem?_eq_none h'] at h0
      have hnot:∀e∈y.o.after,Region.binds .any e=true→e.on≠i:=fun e he hb heq=>hiun (by
        have h1:=hall e he hb
        rw[heq] at h1
        rcases Nat.lt_or_ge i listed.size with h'|h'
        ·simp[h'] at h1 ⊢;exact h1
        ·simp[Array.getElem?_eq_none h'])
      have hall':∀e∈y.o.after,Region.binds .any e=true→listed.getD e.on true=true:=fun e he hb=>by
        have h1:=hall e he hb
        rcases Nat.lt_or_ge e.on listed.size with h'|h'
        ·simp[h'] at h1 ⊢;exact h1
        ·simp[Array.getElem?_eq_none h']
      have hnr:∀n,jV ops n j i=false:=fun n=>by
        cases hB:jV ops n j i with
        |false=>rfl
        |true=>exact absurd (rP hcl n j i y.o hoj hall' hB) hiun
      obtain⟨hap,htok⟩:=hfree j y hy1 hji hjun hnot hnr
      obtain⟨s1,s2,s3⟩:=Oper.apart_spec hap
      obtain⟨t1,t2,t3⟩:=qq htok
      have hyσ:Holds ops y σ:=(Holds.app (x:=x) s1 t1).1 hy2
      refine⟨y,hy1,hyσ,?_⟩
      refine ih (listed.setIfInBounds j true) (σ.app y) (hcl.set hoj hall') (fun k z hk hki hun hno hnr=>?_) (ready_mono hr (Ne.symm hji)) ((Holds.app (x:=y) (y:=x) s3 t3).2 hy) ?_
      · refine hfree k z hk hki ?_ hno hnr
        by_cases hjk:j=k
        ·subst hjk;exact hjun
        ·rw[getD_set_ne true hjk] at hun;exact hun
      · rw[←HP s2 htok,Array.setIfInBounds_comm _ _ hji]
        exact hy3
def jK (ops:Array Oper)(ts:List (List Nat×List Nat)):Bool:=
  (List.range ts.length).all fun j=>(List.range j).all fun i=>
    kI (ts.getD i ([],[])) (ts.getD j ([],[]))||(jV ops 4 j i||jV ops 9 j i)
theorem BL {es:List k7}(h:jK ops (es.map k7.toks)=true){i j:Nat}{x y:k7}(hij:i<j)(hx:es[i]? =some x)(hy:es[j]? =some y)
    (hno:∀n,jV ops n j i=false):kI x.toks y.toks=true:=by
  unfold jK at h
  have hj:j<es.length:=(aZ hy).1
  have:=List.all_eq_true.1 h j (by simpa using hj)
  have:=List.all_eq_true.1 this i (by simpa using hij)
  simp only[List.getD_eq_getElem?_getD,dM,hx,hy,Option.map_some,Option.getD_some,dW] at this
  rcases this with h'|h'|h'
  ·exact h'
  ·rw[hno] at h';cases h'
  ·rw[hno] at h';cases h'
theorem ya {es:List k7}{K:aC→Prop}{l:List Oper}(hl:ops.toList=l)(hlen:es.length=l.length)(hf:∀ (i:Nat) (e:k7),es[i]? =some e→ops[i]? =some e.o)
    (hchain:∀ (k:Nat) (e e':k7),es[k]? =some e→es[k+1]? =some e'→e'.σ=e.σ.app e) (hlast:∀e,es.getLast? =some e→K (e.σ.app e))
    (htok:jK ops (es.map k7.toks)=true):
    ∀ (n k:Nat) (listed:Array Bool) (σ:aC),s6 ops listed→n+k=es.length→(∀e,es[k]? =some e→e.σ=σ)→(n=0→K σ)→(∀j,j<k→listed.getD j true=true)→listed.size=ops.size→Region.lexFrom .any ops n k listed=true→
      Ji ops es K n listed σ
  |0,k,listed,σ,hcl,hn,hσ,hK,hlst,hsz,hB=>⟨by simpa[Region.lexFrom] using hB,hK rfl⟩
  | n + 1, k,listed,σ,hcl,hn,hσ,hK,hlst,hsz,hB=>by
    simp only[Region.lexFrom,aT] at hB
    obtain⟨⟨hr,hfr⟩,hB'⟩:=hB
    have hk:k<es.length:=by omega
    obtain⟨e,he⟩:∃e,es[k]? =some e:=⟨es[k],by simp[hk]⟩
    have hσe:=hσ e he
    have h0:=hf k e he
    have hall':∀d∈e.o.after,Region.binds .any d=true→listed.getD d.on true=true:=fun d hd hb=>by
      obtain⟨_,o1,ho1,hall⟩:=mem_ready.1 (show k∈Region.ready .any ops listed by simpa using hr)
      rw[h0] at ho1;cases ho1
      have h1:=hall d hd hb
      rcases Nat.lt_or_ge d.on listed.size with h'|h'
      ·simp[h'] at h1 ⊢;exact h1
      ·simp[Array.getElem?_eq_none h']
    refine A9 hf he n listed σ hcl (fun j y hy hjk hun hno hnr=>⟨Region.free_spec h0 hfr j y.o (hf j y hy) hjk hun hno,?_⟩) (by simpa using hr) (by rw[←hσe];exact Holds.self) ?_
    · have hkj:k<j:=by
        rcases Nat.lt_trichotomy j k with h|h|h
        ·rw[hlst j h] at hun;cases hun
        ·exact absurd h hjk
        ·exact h
      exact BL htok hkj he hy hnr
    · refine ya hl hlen hf hchain hlast htok n (k+1) _ _ (hcl.set h0 hall') (by omega) (fun e' he'=>by rw[hchain k e e' he he',hσe]) (fun hn0=>?_) (fun j hj=>?_) (by simp[hsz]) hB'
      · rw[←hσe]
        refine hlast e ?_
        rw[List.getLast?_eq_getElem?,show es.length-1=k from by omega];exact he
      · by_cases hjk:k=j
        · subst hjk
          have:k<listed.size:=by
            have:=(Array.getElem?_eq_some_iff.1 h0).1
            omega
          simp[this]
        ·rw[getD_set_ne true hjk];exact hlst j (by omega)
theorem jA.DS {rd:Option Nat}{Q:Exit→Act→World→Prop}{l:List Oper}{id:Nat}{K:aC→Prop}(hp:rd=none∨l.all pB=true)(hm:P.follows .mixedOrders=true)(hB:Region.lexB .any l.toArray=true)
    (h:jA P N l.toArray l σ (fun es σ'=>jK l.toArray (es.map k7.toks)=true∧K σ')) (hs:cB P N w0 W0 L μ σ a w)
    (hK:∀σ',K σ'→∀μ' a' w',cB P N w0 W0 L μ' σ' a' w'→Q .normal a' w'):(Code.region id l.toArray true).wpIn (kY rd) 0 P Q a w:=by
  simp only[Region.lexB,aT] at hB
  obtain⟨es,σ',⟨htok,hk⟩,h2,h3,_,h5,h6,h7,h8⟩:=jA.trace h
  refine wpIn_region_any hm ?_
  have hf:∀ (i:Nat) (e:k7),es[i]? =some e→l.toArray[i]? =some e.o:=fun i e he=>by simpa using(h3 i e he).1
  refine rX (es:=es) (K:=K) (hp.imp (fun h=>h) fun h i o ho=>List.all_eq_true.1 h o (bn (by simpa using ho))) (fun i e he=>⟨hf i e he,(h3 i e he).2⟩) hK _ _ σ μ a _ ?_ (hs.drawn _)
  have hsize:l.toArray.size=es.length:=by simp[h2]
  rw[hsize]
  refine ya (l:=l) (by simp) h2 hf h5 (fun e he=>by rw[←h7 e he];exact hk) htok es.length 0 _ σ (fun m o hm hl=>?_) (by omega) (fun e he=>h6 e he) (fun h0=>?_) (fun j hj=>by omega) (by simp[h2]) (by rw[←hsize];exact hB.2)
  · have hlt:=(Array.getElem?_eq_some_iff.1 hm).1
    simp at hl
    have:m<es.length:=by rw[h2];simpa using hlt
    simp[this] at hl
  ·rw[←h8 (List.eq_nil_of_length_eq_zero h0)];exact hk
theorem gP.DS {nL:Nat}{Q:Exit→aC→Prop}{id:Nat}{l:List Oper}(hm:P.follows .mixedOrders=true)(hB:Region.lexB .any l.toArray=true)
    (h:jA P N l.toArray l σ (fun es σ'=>jK l.toArray (es.map k7.toks)=true∧Q .normal σ')):gP P N nL (.region id l.toArray true) Q σ:=by
  intro rd hp w0 W0 L μ a w hL hs
  exact jA.DS (hp.imp (fun h=>h) fun h=>by simpa[dB] using h) hm hB h hs fun σ' hq μ' a' w' hs'=>⟨μ',σ',hq,hs'⟩
end
theorem Gf {ops:Array Oper}{ts:List (List Nat×List Nat)}(h:(Bh ops ts||jK ops ts)=true):jK ops ts=true:=by
  rcases dW _ _▸h with h|h
  · unfold Bh at h
    unfold jK
    rw[List.all_eq_true] at h ⊢
    intro j hj
    have h1:=h j hj
    rw[List.all_eq_true] at h1 ⊢
    intro i hi
    have h2:=h1 i hi
    rw[dW] at h2
    rcases h2 with h2|h2
    · have h3:jV ops 4 j i=true:=by
        cases ho:ops[j]? with
        |none=>rw[ho] at h2;cases h2
        | some o=>
          rw[ho] at h2
          simp only[jV,ho]
          rw[Array.any_eq_true] at h2 ⊢
          obtain⟨k,hk,h4⟩:=h2
          refine⟨k,hk,?_⟩
          rw[aT] at h4 ⊢
          exact⟨h4.1,by rw[h4.2];rfl⟩
      rw[h3];simp
    ·rw[h2];rfl
  ·exact h
@[reducible] def om (N : Nat) : Option Nat → Bool
  |none=>true
  |some d=>Nat.ble (Nat.add d 1) N
theorem EI {N:Nat}{d:Option Nat}(h:om N d=true):gw N d=true:=by
  cases d with
  |none=>rfl
  |some d=>simp only[om] at h;simp only[gw,aL];exact gp h
@[reducible] def sy (l : List Nat) (k : Nat) : Bool :=
  match l with
  |[]=>false
  | x::r=>match Nat.beq x k with
    |true=>true
    |false=>sy r k
@[reducible] def SR : Bool → Bool → Bool
  |true,true=>true
  |false,false=>true
  |_,_=>false
theorem EK {a b:Bool}:SR a b=(a==b):=by cases a<;>cases b<;>rfl
@[reducible] def sJ (dr : Bool) (acc : Tk) (rd : List Nat) (ups : ML) : Tk :=
  match dr with
  |true=>jI acc [(rd,fD Prod.fst ups)]
  |false=>acc
def nW (acc:Tk)(sl:SL)(m:ML){A:Tk→SL→ML→Prop}:Prop:=A acc sl m
@[reducible] def nT (rest : List Oper) (acc : Tk) (sl : SL) (m : ML) (F : Tk → SL → ML → Prop) : Prop :=
  match Nat.beq (Nat.mod (gb rest) 4) 3 with
  |true=>nW acc sl m (A:=F)
  |false=>F acc sl m
theorem yy {rest:List Oper}{acc:Tk}{sl:SL}{m:ML}{F:Tk→SL→ML→Prop}(h:nT rest acc sl m F):F acc sl m:=by
  unfold nT at h
  split at h<;>exact h
section
variable (P : Program) (N : Nat) (Γ : cT) (ds : List (Option Nat)) (dr : Bool)
@[reducible] def wpOps : List Oper → List Nat → Tk → SL → ML → (Tk → SL → ML → Prop) → Prop
  |[],_,acc,sl,m,K=>K acc sl m
  | o :: rest, gs, acc,sl,m,K=>match om N o.dst with
    |false=>False
    | true => match o.guard with
      |none=>wpOp P N Γ o acc sl m (fun rd x ups acc sl m=>nT rest (sJ dr acc rd ups) (lA o.dst x sl) (xw ups m) (fun acc sl m=>wpOps rest gs acc sl m K))
      | some (j, b)=>match k9 ds j with
        | some (some d)=>match Nat.ble (Nat.add d 1) N with
          |false=>False
          | true =>match xp sl d with
            | .lit (.bool c)=>match sy gs j with
              | true=>match SR c b with
                |true=>wpOp P N Γ o acc sl m (fun rd x ups acc sl m=>nT rest (sJ dr acc rd ups) (lA o.dst x sl) (xw ups m) (fun acc sl m=>wpOps rest gs acc sl m K))
                |false=>nT rest (sJ dr acc [] []) (lA o.dst (.lit (.tuple #[])) sl) m (fun acc sl m=>wpOps rest gs acc sl m K)
              | false=>aQ c acc sl m
                (A :=fun acc sl m=>match b with
                  |true=>wpOp P N Γ o acc (rA d (.lit (.bool true)) sl) m (fun rd x ups acc sl m=>nT rest (sJ dr acc rd ups) (lA o.dst x sl) (xw ups m) (fun acc sl m=>wpOps rest (j::gs) acc sl m K))
                  |false=>nT rest (sJ dr acc [] []) (lA o.dst (.lit (.tuple #[])) (rA d (.lit (.bool true)) sl)) m (fun acc sl m=>wpOps rest (j::gs) acc sl m K))
                (B :=fun acc sl m=>match b with
                  |false=>wpOp P N Γ o acc (rA d (.lit (.bool false)) sl) m (fun rd x ups acc sl m=>nT rest (sJ dr acc rd ups) (lA o.dst x sl) (xw ups m) (fun acc sl m=>wpOps rest (j::gs) acc sl m K))
                  |true=>nT rest (sJ dr acc [] []) (lA o.dst (.lit (.tuple #[])) (rA d (.lit (.bool false)) sl)) m (fun acc sl m=>wpOps rest (j::gs) acc sl m K))
            |.lit (.tuple _)=>nT rest (sJ dr acc [] []) (lA o.dst (.lit (.tuple #[])) sl) m (fun acc sl m=>wpOps rest gs acc sl m K)
            |_=>False
        |_=>False
end
def bL (P:Program){l:List Oper}(acc:Tk)(sl:SL)(m:ML){A:SL→ML→Prop}:Prop:=
  P.follows .mixedOrders=true∧Region.lexB .any l.toArray=true∧(Bh l.toArray acc||jK l.toArray acc)=true∧A sl m
def nS (sl:SL)(m:ML){A:SL→ML→Prop}:Prop:=A sl m
def jL (p q:Prop)(sl:SL)(m:ML){A B:SL→ML→Prop}:Prop:=(p→A sl m)∧(q→B sl m)
def Qz (Q:Exit→SL→ML→Prop):Exit→aC→Prop:=fun e σ=> ∃sl m,σ=St sl m∧Q e sl m
def aR (P:Program)(N nL:Nat)(sl:SL)(m:ML){c:Code}{Q:Exit→SL→ML→Prop}:Prop:=gP P N nL c (Qz Q) (St sl m)
section
variable (P : Program) (N nL : Nat) (Γ : cT)
@[reducible] def Cj : Code → SL → ML → (Exit → SL → ML → Prop) → Prop
  |.skip,sl,m,Q=>Q .normal sl m
  | .region _ ops dr,sl,m,Q=>wpOps P N Γ (fD Oper.dst ops.toList) dr ops.toList [] [] sl m (fun acc sl m=>match dr with
    |false=>Q .normal sl m
    |true=>bL P (l:=ops.toList) acc sl m (A:=Q .normal))
  | .seq a b,sl,m,Q=>Cj a sl m (fun e sl m=>match e with
    |.normal=>nS sl m (A:=fun sl m=>Cj b sl m Q)
    |e=>Q e sl m)
  | .cond x a b,sl,m,Q=>match gj sl x with
    |.lit (.bool c)=>aQ c [] sl m (A:=fun _ sl m=>Cj a sl m Q) (B:=fun _ sl m=>Cj b sl m Q)
    |.guess p q=>jL p q sl m (A:=fun sl m=>Cj a sl m Q) (B:=fun sl m=>Cj b sl m Q)
    |_=>False
  | .block id c,sl,m,Q=>Cj c sl m (fun e sl m=>match e with
    | .exit j=>match Nat.beq j id with
      |true=>Q .normal sl m
      |false=>Q (.exit j) sl m
    |e=>Q e sl m)
  |.exit i,sl,m,Q=>Q (.exit i) sl m
  |.ret,sl,m,Q=>Q .ret sl m
  |.label _,sl,m,Q=>Q .normal sl m
  |c,sl,m,Q=>aR P N nL sl m (c:=c) (Q:=Q)
end
section
variable {P : Program} {N nL : Nat} {Γ : cT} {ds : List (Option Nat)} {dr : Bool} {ops : Array Oper}
theorem AQ {sl:SL}{m:ML}{d:Nat}{x:AV}(h:xp sl d=x):St (rA d x sl) m=St sl m:=by
  unfold St
  congr 1
  funext i
  rw[pT]
  simp only[cu]
  by_cases hi:i=d
  ·subst hi;simp[←h,ju]
  · have:(i==d)=false:=by simpa using hi
    rw[this];rfl
def KA (dr:Bool)(acc:Tk)(K:Tk→SL→ML→Prop):List k7→aC→Prop:=fun es σ'=> ∃sl m,σ'=St sl m∧K (if dr then acc++es.map k7.toks else acc) sl m
theorem vz (hΓ:Γ.Good P)(hds:∀j:Nat,(ops[j]?).bind (·.dst)=(ds[j]?).bind id):∀ (l:List Oper) (gs:List Nat) (acc:Tk) (sl:SL) (m:ML) (K:Tk→SL→ML→Prop),wpOps P N Γ ds dr l gs acc sl m K→
    jA P N ops l (St sl m) (KA dr acc K)
  | [],gs,acc,sl,m,K,h=>by
    simp only[jA,KA,List.map_nil,List.append_nil,ite_self]
    exact⟨sl,m,rfl,h⟩
  | o :: rest, gs,acc,sl,m,K,h=>by
    unfold wpOps at h
    split at h
    ·exact h.elim
    rename_i hd0
    have hd:=EI hd0
    have toks:∀ (rd:List Nat) (x:AV) (ups:ML) (w:Bool) (sl1:SL) (es:List k7),(if dr then sJ dr acc rd ups++es.map k7.toks else sJ dr acc rd ups)=(if dr then acc++ (k7.mk o w (St sl1 m) rd x ups::es).map k7.toks else acc):=by
      intro rd x ups w sl1 es
      cases dr with
      |true=>simp[sJ,iM,eO,k7.toks]
      |false=>simp[sJ]
    have go:∀ (sl:SL) (gs:List Nat),jT N ops o (St sl m) true→wpOp P N Γ o acc sl m (fun rd x ups acc sl m=>nT rest (sJ dr acc rd ups) (lA o.dst x sl) (xw ups m) (fun acc sl m=>wpOps P N Γ ds dr rest gs acc sl m K))→
        jA P N ops (o::rest) (St sl m) (KA dr acc K):=by
      intro sl gs hw h
      obtain⟨rd,x,ups,h1,h2⟩:=KU hΓ hd h
      refine⟨⟨o,true,St sl m,rd,x,ups⟩,rfl,rfl,⟨hw,br hd,fun _=>h1,fun h=>by cases h⟩,?_⟩
      have:=vz hΓ hds rest _ _ _ _ _ (yy h2)
      rw[show aC.app (St sl m) ⟨o,true,St sl m,rd,x,ups⟩=St (lA o.dst x sl) (xw ups m) from(wu sl m ups o.dst x).trans (u0 _ _ _ _ _)]
      unfold KA at this ⊢
      simp only[toks rd x ups true sl] at this
      exact this
    have skip:∀ (sl:SL) (gs:List Nat),jT N ops o (St sl m) false→nT rest (sJ dr acc [] []) (lA o.dst (.lit (.tuple #[])) sl) m (fun acc sl m=>wpOps P N Γ ds dr rest gs acc sl m K)→jA P N ops (o::rest) (St sl m) (KA dr acc K):=by
      intro sl gs hw h
      refine⟨⟨o,false,St sl m,[],.lit undef,[]⟩,rfl,rfl,⟨hw,br hd,(fun h=>by cases h),fun _=>⟨rfl,rfl⟩⟩,?_⟩
      have:=vz hΓ hds rest _ _ _ _ _ (yy h)
      rw[show aC.app (St sl m) ⟨o,false,St sl m,[],.lit undef,[]⟩=St (lA o.dst (.lit (.tuple #[])) sl) m from(wu sl m [] o.dst _).trans (u0 _ _ _ _ _)]
      unfold KA at this ⊢
      simp only[toks [] (.lit (.tuple #[])) [] false sl] at this
      exact this
    split at h
    · rename_i hg
      exact go sl gs (by simp[jT,hg]) h
    · rename_i j b hg
      split at h
      · rename_i d hj
        rw[jc] at hj
        split at h
        ·exact h.elim
        · rename_i hN
          have hdN:d<N:=gp hN
          split at h
          · rename_i c hc
            have hw:∀c',c=c'→∀sl',xp sl' d=.lit (.bool c')→jT N ops o (St sl' m) (c'==b):=by
              intro c' _ sl' hl
              simp only[jT,hg]
              exact⟨d,.bool c',by rw[hds,hj];rfl,hdN,by show cu sl' d=_;rw[←ju];exact hl,rfl⟩
            have hput:∀x,xp (rA d x sl) d=x:=fun x=>by rw[ju,pT];simp[cu]
            split at h
            · split at h
              · rename_i he
                rw[EK] at he
                exact go sl gs (by have:=hw c rfl sl hc;rwa [he] at this) h
              · rename_i he
                rw[EK] at he
                exact skip sl gs (by have:=hw c rfl sl hc;rwa [he] at this) h
            · cases c with
              | true=>
                have h:=h.1 rfl
                rw[←AQ (m:=m) hc]
                cases b with
                |true=>exact go _ _ (hw true rfl _ (hput _)) h
                |false=>exact skip _ _ (hw true rfl _ (hput _)) h
              | false=>
                have h:=h.2 rfl
                rw[←AQ (m:=m) hc]
                cases b with
                |true=>exact skip _ _ (hw false rfl _ (hput _)) h
                |false=>exact go _ _ (hw false rfl _ (hput _)) h
          · rename_i vs hc
            refine skip sl gs ?_ h
            simp only[jT,hg]
            exact⟨d,.tuple vs,by rw[hds,hj];rfl,hdN,by show cu sl d=_;rw[←ju];exact hc,rfl⟩
          ·exact h.elim
      ·exact h.elim
theorem jA.post {l:List Oper}:∀ {σ:aC} {K K':List k7→aC→Prop},(∀es σ',K es σ'→K' es σ')→jA P N ops l σ K→jA P N ops l σ K':=by
  induction l with
  |nil=>intro σ K K' hk h;exact hk _ _ h
  | cons o rest ih=>
    intro σ K K' hk h
    obtain⟨e,h1,h2,h3,h4⟩:=h
    exact⟨e,h1,h2,h3,ih (fun es σ' h=>hk _ _ h) h4⟩
theorem vG (hΓ:Γ.Good P):∀ (c:Code) (sl:SL) (m:ML) (Q:Exit→SL→ML→Prop),Cj P N nL Γ c sl m Q→gP P N nL c (Qz Q) (St sl m):=by
  have reg:∀ (id:Nat) (ops:Array Oper) (dr:Bool) (sl:SL) (m:ML) (Q:Exit→SL→ML→Prop),Cj P N nL Γ (.region id ops dr) sl m Q→gP P N nL (.region id ops dr) (Qz Q) (St sl m):=by
    intro id ops dr sl m Q h
    unfold Cj at h
    have h1:=vz (ops:=ops) hΓ (fun j=>by simp[eO,dM,Option.bind_map]) ops.toList [] [] sl m _ h
    obtain⟨l⟩:=ops
    cases dr with
    | false=>
      refine gP.region (jA.post ?_ h1)
      rintro es σ' ⟨sl',m',rfl,hk⟩
      exact⟨sl',m',rfl,hk⟩
    | true=>
      have hh:jA P N l.toArray l (St sl m) (fun es σ'=>P.follows .mixedOrders=true∧Region.lexB .any l.toArray=true∧jK l.toArray (es.map k7.toks)=true∧Qz Q .normal σ'):=by
        refine jA.post ?_ h1
        rintro es σ' ⟨sl',m',rfl,k1,k2,k3,k4⟩
        exact⟨k1,k2,Gf (by simpa using k3),sl',m',rfl,k4⟩
      obtain⟨es,σ',⟨k1,k2,_,_⟩,_⟩:=hh.trace
      exact gP.DS k1 k2 (jA.post (fun es σ' h=>⟨h.2.2.1,h.2.2.2⟩) hh)
  intro c
  induction c with
  |skip=>intro sl m Q h;exact gP.skip ⟨sl,m,rfl,h⟩
  |region id ops dr=>intro sl m Q h;exact reg id ops dr sl m Q h
  | seq a b iha ihb=>
    intro sl m Q h
    refine gP.seq ((iha sl m _ h).mono ?_)
    rintro e σ ⟨sl',m',rfl,h'⟩
    cases e with
    |normal=>exact ihb sl' m' Q h'
    |_=>exact⟨sl',m',rfl,h'⟩
  | cond x a b iha ihb=>
    intro sl m Q h
    unfold Cj at h
    split at h
    · rename_i c hc
      exact gP.cond (by rw[ev_eq];exact hc) (fun hb=>iha sl m Q (h.1 hb)) (fun hb=>ihb sl m Q (h.2 hb))
    · rename_i p q hc
      exact gP.Fi (by rw[ev_eq];exact hc) (fun hb=>iha sl m Q (h.1 hb)) (fun hb=>ihb sl m Q (h.2 hb))
    ·exact h.elim
  | block id c ih=>
    intro sl m Q h
    refine gP.block ((ih sl m _ h).mono ?_)
    rintro e σ ⟨sl',m',rfl,h'⟩
    cases e with
    | exit j=>
      simp only at h'
      simp only[vw]
      split at h'
      ·rename_i hj;rw[if_pos (beq_eq hj)];exact⟨sl',m',rfl,h'⟩
      · rename_i hj
        rw[if_neg (fun e=>by rw[e,Nat.beq_refl] at hj;cases hj)]
        exact⟨sl',m',rfl,h'⟩
    |_=>exact⟨sl',m',rfl,h'⟩
  |exit i=>intro sl m Q h;exact gP.exit ⟨sl,m,rfl,h⟩
  |ret=>intro sl m Q h;exact gP.ret ⟨sl,m,rfl,h⟩
  |label l=>intro sl m Q h;exact gP.label ⟨sl,m,rfl,h⟩
  |_=>intros;assumption
end
@[reducible] def uH : List (Nat × Nat) → Nat → Option Nat
  |[],_=>none
  | (k,x)::r,i=>match Nat.beq i k with
    |true=>some x
    |false=>uH r i
def jf (cI:List (Nat×Nat))(t:Nat):Nat:=(uH cI t).getD t
def mG (R:AV→AV→Prop)(a b:List AV):Prop:=a.length=b.length∧∀ (i:Nat) (x y:AV),a[i]? =some x→b[i]? =some y→R x y
def o6 (m:ML)(fz:Nat→Bool)(R:AV→AV→Prop)(r:AV)(t off len:Nat):Prop:=
  ∃wd rows ro rows',eC m t=.live wd rows ro∧fz t=true∧r=.sl wd rows'∧off+len≤rows.length∧aU rows'=true∧mG R rows' ((rows.drop off).take len)
def Pc (m:ML)(fz:Nat→Bool)(R:AV→AV→Prop)(r:AV)(t i k:Nat):Prop:=
  ∃wd rows ro x y,eC m t=.live wd rows ro∧fz t=true∧r=.fptr x k∧rows[i]? =some y∧bt x=true∧R x y
def IF (m:ML)(fz:Nat→Bool)(r:AV)(t:Nat):Prop:=
  ∃wd rows ro,eC m t=.live wd rows ro∧fz t=true∧r=.fmap rows∧∀x∈rows,∃key y,x=entry key y∧bt y=true
def FZ (r:AV):Prop:=r=.lit (.slice none 0 0)∨r=.emp∨∃wd,r=.sl wd []
def Oz (r:AV):Prop:=r=.emp∨∃wd,r=.sl wd []
@[reducible] def Cu (f : AV → AV → Prop) : List AV → List AV → Prop
  |[],[]=>True
  |r::rs,x::xs=>f r x∧Cu f rs xs
  |_,_=>False
@[reducible] def MF (cI : List (Nat × Nat)) (fz : Nat → Bool) (m : ML) : Nat → AV → AV → Prop
  |0,r,x=>r=x∧bt x=true
  | n + 1, r,x=>match x with
    | .own t off len=>match r with
      | .own t' off' len'=>match uH cI t' with
        | some u=>match Nat.beq u t with
          |true=>off'=off∧len'=len
          |false=>False
        |none=>False
      |r=>o6 m fz (MF cI fz m n) r t off len
    | .ptr t i k=>match r with
      | .ptr t' i' k'=>match uH cI t' with
        | some u=>match Nat.beq u t with
          |true=>i'=i∧k'=k
          |false=>False
        |none=>False
      |r=>Pc m fz (MF cI fz m n) r t i k
    | .mapr t=>match r with
      | .mapr t'=>match uH cI t' with
        | some u=>match Nat.beq u t with
          |true=>True
          |false=>False
        |none=>False
      |r=>IF m fz r t
    | .agg cs=>match r with
      |.agg rs=>Cu (MF cI fz m n) rs cs
      |r=>r=x∧bt x=true
    | .tup cs=>match r with
      |.tup rs=>Cu (MF cI fz m n) rs cs
      |r=>r=x∧bt x=true
    | .clo f a b=>match r with
      |.clo f' a' b'=>f'=f∧Cu (MF cI fz m n) a' a∧Cu (MF cI fz m n) b' b
      |r=>r=x∧bt x=true
    | .lit (.slice ad a c)=>match CO (.slice ad a c) with
      |true=>FZ r
      |false=>r=x∧bt x=true
    | .lit (.int k b)=>match r with
      | .lit (.int k' a)=>match Nat.beq (vD k') (vD k) with
        |true=>a=b
        |false=>False
      |r=>r=x
    | .lit (.bool b)=>match r with
      |.lit (.bool a)=>a=b
      |r=>r=x
    | .lit (.string b)=>match r with
      |.lit (.string a)=>a=b
      |r=>r=x
    | .sl wd rows=>match r with
      | .sl wd' rows'=>match uN wd' wd with
        |true=>rows'=rows
        |false=>False
      |r=>r=x
    |.emp=>Oz r
    |x=>r=x∧bt x=true
section
variable {cI : List (Nat × Nat)} {fz : Nat → Bool} {m : ML} {D F : Nat → Prop}
theorem ng {R:AV→AV→Prop}{mm:Nat→MS}{ρ:Nat→Nat}:∀ {rs xs:List AV},(∀r x,R r x→Cv mm ρ D F r x)→Cu R rs xs→jh mm ρ D F rs xs
  |[],[],_,_=>.nil
  |_::_,_::_,hR,h=>.cons (hR _ _ h.1) (ng hR h.2)
  |[],_::_,_,h=>h.elim
  |_::_,[],_,h=>h.elim
theorem Ee {R:AV→AV→Prop}:∀ {rs xs:List AV},Cu R rs xs→rs.length=xs.length
  |[],[],_=>rfl
  |_::_,_::_,h=>by simp[Ee h.2]
  |[],_::_,h=>h.elim
  |_::_,[],h=>h.elim
theorem FZ.one {r:AV}(h:FZ r):cells r=[r]:=by
  rcases h with rfl|rfl|⟨wd,rfl⟩<;>rfl
theorem Oz.one {r:AV}(h:Oz r):cells r=[r]:=by
  rcases h with rfl|⟨wd,rfl⟩<;>rfl
theorem Ai:∀ {n:Nat} {r x:AV},MF cI fz m n r x→(cells r).length=(cells x).length
  |0,r,x,h=>by rw[h.1]
  | n +1,r,x,h=>by
    unfold MF at h
    split at h
    · split at h
      ·rfl
      ·obtain⟨wd,rows,ro,rows',_,_,rfl,_⟩:=h;rfl
    · split at h
      ·rfl
      ·obtain⟨wd,rows,ro,a,b,_,_,rfl,_⟩:=h;rfl
    · split at h
      ·rfl
      ·obtain⟨wd,rows,ro,_,_,rfl,_⟩:=h;rfl
    · split at h
      ·exact Ee h
      ·rw[h.1]
    · split at h
      ·rfl
      ·rw[h.1]
    · split at h
      ·rfl
      ·rw[h.1]
    · split at h
      ·rw[h.one];rfl
      ·rw[h.1]
    · split at h
      ·rfl
      ·rw[h]
    · split at h
      ·rfl
      ·rw[h]
    · split at h
      ·rfl
      ·rw[h]
    · split at h
      ·rfl
      ·rw[h]
    ·rw[h.one];rfl
    ·rw[h.1]
theorem dh {t:Nat}{s:MS}(h:eC m t=s):bg m t=s:=by rw[←kM];exact h
theorem sH (hw:∀t wd rows ro,eC m t=.live wd rows ro→fz t=true→bI wd rows)(hD:∀t u,uH cI t=some u→D t)(hF:∀t wd rows ro,eC m t=.live wd rows ro→fz t=true→F t):
    ∀ (n:Nat) (r x:AV),MF cI fz m n r x→Cv (bg m) (jf cI) D F r x
  |0,r,x,h=>by rw[h.1];exact .same h.2
  | n + 1, r,x,h=>by
    have ih:=sH hw hD hF n
    unfold MF at h
    split at h
    · split at h
      · split at h
        · rename_i t off len _ t' off' len' _ u hu
          split at h
          · rename_i hb
            have hb':=beq_eq hb
            subst hb'
            obtain⟨rfl,rfl⟩:=h
            have:jf cI t'=u:=by simp[jf,hu]
            rw[←this]
            exact .own (hD _ _ hu)
          ·exact h.elim
        ·exact h.elim
      · obtain⟨wd,rows,ro,rows',h1,h2,rfl,h4,h5,h6⟩:=h
        have hwr:=hw _ _ _ _ h1 h2
        have hcl:jh (bg m) (jf cI) D F rows' ((rows.drop _).take _):=⟨h6.1,fun q c d a b=>ih _ _ (h6.2 q c d a b)⟩
        refine .Jn (hF _ _ _ _ h1 h2) (dh h1) ?_ hwr h4 hcl h5
        intro i y hy
        have hi:=(aZ hy).1
        rw[h6.1] at hi
        have hz:=aP hi
        rw[Ai (h6.2 i _ _ hy hz)]
        exact hwr.mem (List.mem_of_mem_drop (List.mem_of_mem_take (bn hz)))
    · split at h
      · split at h
        · rename_i t i k _ t' i' k' _ u hu
          split at h
          · rename_i hb
            have hb':=beq_eq hb
            subst hb'
            obtain⟨rfl,rfl⟩:=h
            have:jf cI t'=u:=by simp[jf,hu]
            rw[←this]
            exact .ptr (hD _ _ hu)
          ·exact h.elim
        ·exact h.elim
      · obtain⟨wd,rows,ro,a,b,h1,h2,rfl,h4,h5,h6⟩:=h
        have hwr:=hw _ _ _ _ h1 h2
        have hlen:=Ai h6
        have hc:=(ih _ _ h6).cells hlen
        exact .frzp (hF _ _ _ _ h1 h2) (dh h1) h4 (by rw[hlen];exact hwr _ _ h4) (fun q c d h1 h2=>hc.2 q c d h1 h2) (fun c hc=>oI h5 hc)
    · split at h
      · split at h
        · rename_i t _ t' _ u hu
          split at h
          · rename_i hb
            have hb':=beq_eq hb
            subst hb'
            have:jf cI t'=u:=by simp[jf,hu]
            rw[←this]
            exact .mapr (hD _ _ hu)
          ·exact h.elim
        ·exact h.elim
      · obtain⟨wd,rows,ro,h1,h2,rfl,h4⟩:=h
        refine .fmap (hF _ _ _ _ h1 h2) (dh h1) rfl (fun i r' hr=>?_) (fun i key key' x' x k1 k2=>?_) (fun r hr=>?_)
        · obtain⟨key,y,rfl,_⟩:=h4 r' (bn hr)
          exact⟨key,y,y,rfl,hr⟩
        · rw[k1] at k2
          have k3:=Option.some.inj k2
          simp only[entry,AV.agg.injEq,List.cons.injEq,AV.tup.injEq,and_true] at k3
          obtain⟨key2,y2,k4,k5⟩:=h4 _ (bn k1)
          simp only[entry,AV.agg.injEq,List.cons.injEq,AV.tup.injEq,and_true] at k4
          rw[←k3.2,k4.2];exact .same k5
        · obtain⟨key,y,rfl,h5⟩:=h4 r hr
          simp[entry,bt,aU,h5]
    · split at h
      ·exact .vf (ng ih h)
      ·rw[h.1];exact .same h.2
    · split at h
      ·exact .w9 (ng ih h)
      ·rw[h.1];exact .same h.2
    · split at h
      · obtain⟨rfl,h1,h2⟩:=h
        exact .NH (ng ih h1) (ng ih h2)
      ·rw[h.1];exact .same h.2
    · split at h
      · rename_i hn
        have hn':=p7 hn
        cases hn'
        rcases h with rfl|rfl|⟨wd,rfl⟩
        ·exact .same rfl
        ·exact .nilE
        ·exact .nil
      ·rw[h.1];exact .same h.2
    · split at h
      · split at h
        · rename_i hk
          rw[h,IC hk];exact .same rfl
        ·exact h.elim
      ·rw[h];exact .same rfl
    · split at h
      ·rw[h];exact .same rfl
      ·rw[h];exact .same rfl
    · split at h
      ·rw[h];exact .same rfl
      ·rw[h];exact .same rfl
    · split at h
      · split at h
        · rename_i hb
          rw[eY] at hb;rw[h,beq_eq hb];exact .same rfl
        ·exact h.elim
      ·rw[h];exact .same rfl
    · rcases h with rfl|⟨wd,rfl⟩
      ·exact .same rfl
      ·exact .empS
    ·rw[h.1];exact .same h.2
theorem nq:∀ (n:Nat) (x:AV),bt x=true→MF cI fz m n x x
  |0,x,h=>⟨rfl,h⟩
  | n + 1,x,h=>by
    have list:∀cs:List AV,aU cs=true→Cu (MF cI fz m n) cs cs:=by
      intro cs
      induction cs with
      |nil=>intro _;trivial
      | cons c cs ih=>
        intro hh
        simp only[aU,aT] at hh
        exact⟨nq n c hh.1,ih hh.2⟩
    cases x with
    |own=>simp[bt] at h
    |ptr=>simp[bt] at h
    |mapr=>simp[bt] at h
    |agg cs=>exact list cs (by simpa only[bt] using h)
    |tup cs=>exact list cs (by simpa only[bt] using h)
    | clo f a b=>
      simp only[bt,aT] at h
      exact⟨rfl,list a h.1,list b h.2⟩
    | sl wd rows=>
      show(match uN wd wd with|true=>rows=rows|false=>False)
      rw[eY,Nat.beq_refl]
    |emp=>exact .inl rfl
    | lit v=>
      cases v with
      | int k b=>
        show(match Nat.beq (vD k) (vD k) with|true=>b=b|false=>False)
        rw[Nat.beq_refl]
      |bool b=>rfl
      |string b=>rfl
      | slice ad a c=>
        show(match CO (.slice ad a c) with|true=>FZ _|false=>_=_∧_)
        split
        ·rename_i hn;exact .inl (by rw[p7 hn])
        ·exact⟨rfl,rfl⟩
      |_=>exact⟨rfl,rfl⟩
    |_=>exact⟨rfl,h⟩
theorem mG.refl {n:Nat}{rows:List AV}(h:aU rows=true):mG (MF cI fz m n) rows rows:=
  ⟨rfl,fun i x y hx hy=>by rw[hx] at hy;cases hy;exact nq n x (bZ.1 h x (bn hx))⟩
end
def MR (R:AV→AV→Prop)(rows' rows:List AV):Prop:=mG R rows' rows∧aU rows'=true
@[reducible] def R4 : Bool → Bool → Bool
  |false,true=>false
  |_,_=>true
@[reducible] def FY (cI : List (Nat × Nat)) (fz : Nat → Bool) (m : ML) (t' : Nat) : MS → Prop
  | .live wd' rows' ro'=>match uH cI t' with
    | some u=>match eC m u with
      | .live wd rows ro=>match uN wd' wd,R4 ro' ro with
        | true,true=>match xQ t' with
          |true=>Cu (MF cI fz m 12) rows' rows
          |false=>MR (MF cI fz m 12) rows' rows
        |_,_=>False
      |_=>False
    |none=>False
  | .dead=>match uH cI t' with
    | some u=>match eC m u with
      |.free=>False
      |_=>True
    |none=>False
  |.free=>False
@[reducible] def xj (cI : List (Nat × Nat)) (fz : Nat → Bool) (m : ML) : ML → Prop
  |[]=>True
  |(t,s)::r=>FY cI fz m t s∧xj cI fz m r
@[reducible] def OD (cI : List (Nat × Nat)) (fz : Nat → Bool) (m : ML) (sl : SL) : SL → Prop
  |[]=>True
  |(d,x)::r=>MF cI fz m 12 x (xp sl d)∧OD cI fz m sl r
section
variable (m' m : ML)
@[reducible] def Dy (f : AV → AV → List (Nat × Nat)) : List AV → List AV → List (Nat × Nat)
  |x::xs,y::ys=>jI (f x y) (Dy f xs ys)
  |_,_=>[]
@[reducible] def gX : Nat → AV → AV → List (Nat × Nat)
  |0,_,_=>[]
  | n + 1,x',x=>match x',x with
    |.own t' _ _,.own t _ _=>[(t',t)]
    | .ptr t' _ _,.ptr t _ _=>(t',t)::(match xQ t' with
      | true=>match eC m' t',eC m t with
        |.live _ rows' _,.live _ rows _=>Dy (gX n) rows' rows
        |_,_=>[]
      |false=>[])
    |.mapr t',.mapr t=>[(t',t)]
    |.agg cs',.agg cs=>Dy (gX n) cs' cs
    |.tup cs',.tup cs=>Dy (gX n) cs' cs
    |.clo _ a' b',.clo _ a b=>jI (Dy (gX n) a' a) (Dy (gX n) b' b)
    |_,_=>[]
@[reducible] def sG (sl : SL) : SL → List (Nat × Nat)
  |[]=>[]
  |(d,x)::r=>jI (gX m' m 4 x (xp sl d)) (sG sl r)
end
@[reducible] def fP (ps : List (Nat × Nat)) : ML → List (Nat × Nat)
  |[]=>[]
  | (k,_)::r=>match uH ps k with
    |some u=>(k,u)::fP ps r
    |none=>(k,k)::fP ps r
@[reducible] def qH : List (Nat × Nat) → Bool
  |[]=>true
  | (k,u)::r=>match sy (fD Prod.snd r) u,sy (fD Prod.fst r) k with
    |false,false=>qH r
    |_,_=>false
@[reducible] def ua (m : ML) (cI : List (Nat × Nat)) : Nat → Bool
  |0=>true
  | k + 1=>match eC m k with
    |.free=>ua m cI k
    | _ =>match uH cI k with
      | some u=>match Nat.beq u k with
        |true=>ua m cI k
        |false=>false
      |none=>false
@[reducible] def qz (cI : List (Nat × Nat)) (t : Nat) : Bool := match sy (fD Prod.snd cI) t with
  |true=>false
  |false=>true
@[reducible] def Fit (nL : Nat) (sl : SL) (m : ML) (sl' : SL) (m' : ML) : Prop :=
  (qH (fP (sG m' m sl sl') m')=true∧ua m (fP (sG m' m sl sl') m') nL=true)∧
    OD (fP (sG m' m sl sl') m') (qz (fP (sG m' m sl sl') m')) m sl sl'∧xj (fP (sG m' m sl sl') m') (qz (fP (sG m' m sl sl') m')) m m'
theorem gA:∀ {l:List Nat} {k:Nat},sy l k=true↔k∈l
  |[],k=>by simp[sy]
  | x :: r,k=>by
    simp only[sy,fj]
    split
    ·rename_i h;simp[beq_eq h]
    · rename_i h
      rw[gA (l:=r)]
      constructor
      ·exact .inr
      · rintro(rfl|h')
        ·rw[Nat.beq_refl] at h;cases h
        ·exact h'
theorem lG:∀ {l:List (Nat×Nat)} {i u:Nat},uH l i=some u→(i,u)∈l
  |[],i,u,h=>by cases h
  | p::r,i,u,h=>by
    simp only[uH] at h
    split at h
    ·rename_i hb;cases h;rw[beq_eq hb];simp
    ·exact j9 _ (lG h)
theorem vX:∀ {l:List (Nat×Nat)},qH l=true→∀ {i j u:Nat},(i,u)∈l→(j,u)∈l→i=j
  |[],_,i,j,u,h,_=>by simp at h
  | p :: r,hn,i,j,u,h1,h2=>by
    simp only[qH] at hn
    split at hn
    · rename_i g1 g2
      have no:∀k,(k,p.2)∉r:=fun k hk=>by
        have:sy (fD Prod.snd r) p.2=true:=by rw[eO,gA];exact List.mem_map.2 ⟨_,hk,rfl⟩
        rw[this] at g1;cases g1
      rcases fj.1 h1 with h1|h1
      · rcases fj.1 h2 with h2|h2
        ·rw[←h1] at h2;cases h2;rfl
        ·rw[←h1] at no;exact absurd h2 (no j)
      · rcases fj.1 h2 with h2|h2
        ·rw[←h2] at no;exact absurd h1 (no i)
        ·exact vX hn h1 h2
    ·cases hn
theorem kP {ps:List (Nat×Nat)}:∀ {m':ML} {i u:Nat},(i,u)∈fP ps m'→i∈m'.map (·.1)
  |[],i,u,h=>by simp at h
  | (k,s)::r,i,u,h=>by
    simp only[fP] at h
    split at h
    · rcases fj.1 h with h|h
      ·cases h;simp
      ·simp[kP h]
    · rcases fj.1 h with h|h
      ·cases h;simp
      ·simp[kP h]
theorem js {cI:List (Nat×Nat)}{fz:Nat→Bool}{m:ML}:∀ {m':ML},xj cI fz m m'→∀t,bg m' t=.free∧t∉m'.map (·.1)∨(FY cI fz m t (bg m' t)∧t∈m'.map (·.1))
  |[],_,t=>.inl ⟨rfl,by simp⟩
  | (d,s)::r,h,t=>by
    simp only[bg]
    by_cases hi:t=d
    ·subst hi;simp;exact h.1
    · have h':(t==d)=false:=by simpa using hi
      rw[h']
      rcases js h.2 t with⟨a,b⟩|⟨a,b⟩
      ·exact .inl ⟨a,by simp[hi];simpa using b⟩
      ·exact .inr ⟨a,by simp;exact .inr (by simpa using b)⟩
theorem yS {cI:List (Nat×Nat)}{fz:Nat→Bool}{m:ML}{sl:SL}:∀ {sl':SL},OD cI fz m sl sl'→∀d,cu sl' d=.any∨MF cI fz m 12 (cu sl' d) (xp sl d)
  |[],_,d=>.inl rfl
  | (e,x)::r,h,d=>by
    simp only[cu]
    by_cases hi:d=e
    ·subst hi;simp;exact .inr h.1
    · have h':(d==e)=false:=by simpa using hi
      rw[h'];exact yS h.2 d
section
variable {P : Program} {cI : List (Nat × Nat)} {fz : Nat → Bool} {m m' : ML} {N nL : Nat} {w0 : World} {W0 : Nat → Prop} {L μ : Mu} {sl : SL} {a : Act} {w : World}
theorem BJ (hs:cB P N w0 W0 L μ (St sl m) a w):∀t wd rows ro,eC m t=.live wd rows ro→bI wd rows:=by
  intro t wd rows ro h
  obtain⟨B,_,h2⟩:=hs.objs t wd rows ro (dh h)
  exact h2.wide
theorem xj.AF (hs:cB P N w0 W0 L μ (St sl m) a w)(hn:qH cI=true)(hl:ua m cI nL=true)(hk:∀i u,(i,u)∈cI→i∈m'.map (·.1))(hfz:∀t,fz t=true→qz cI t=true)(h:xj cI fz m m')(sl':Nat→AV)
    (hsl:∀i,Cv (bg m) (jf cI) (fun t=>bg m' t≠ .free) (fun t=>(∃wd rows ro,eC m t=.live wd rows ro)∧fz t=true) (sl' i) (cu sl i)):
    oR nL (jf cI) (fun t=>(∃wd rows ro,eC m t=.live wd rows ro)∧fz t=true) ⟨sl',bg m'⟩ (St sl m):=by
  have hD:∀t u,uH cI t=some u→bg m' t≠ .free:=by
    intro t u ht e
    rcases js h t with⟨_,b⟩|⟨b,_⟩
    ·exact b (hk _ _ (lG ht))
    ·rw[e] at b;exact b
  have hcv:∀n r x,MF cI fz m n r x→Cv (bg m) (jf cI) (fun t=>bg m' t≠ .free) (fun t=>(∃wd rows ro,eC m t=.live wd rows ro)∧fz t=true) r x:=
    sH (fun t wd rows ro h _=>BJ hs t wd rows ro h) hD (fun t wd rows ro h1 h2=>⟨⟨wd,rows,ro,h1⟩,h2⟩)
  have tabd:∀t,bg m' t≠ .free→∃u,uH cI t=some u∧jf cI t=u:=by
    intro t ht
    rcases js h t with⟨b,_⟩|⟨b,_⟩
    ·exact absurd b ht
    · revert b
      cases hs':bg m' t with
      |free=>exact fun b=>b.elim
      | dead=>
        intro b
        simp only[FY] at b
        split at b
        ·rename_i u hu;exact⟨u,hu,by simp[jf,hu]⟩
        ·exact b.elim
      | live wd rows ro=>
        intro b
        simp only[FY] at b
        split at b
        ·rename_i u hu;exact⟨u,hu,by simp[jf,hu]⟩
        ·exact b.elim
  refine⟨hsl,fun t=>?_,fun t t' h1 h2 h3=>?_,fun s hsF=>⟨?_,?_⟩,fun t ht hne=>?_⟩
  · show bg m' t =.free∨_
    rcases js h t with⟨b,_⟩|⟨b,_⟩
    ·exact .inl b
    · right
      show(bg m' t=.dead∧bg m (jf cI t)≠ .free)∨_
      revert b
      cases hs':bg m' t with
      |free=>exact fun b=>b.elim
      | dead=>
        intro b
        simp only[FY] at b
        split at b
        · rename_i u hu
          have hr:jf cI t=u:=by simp[jf,hu]
          rw[hr]
          refine .inl ⟨rfl,fun e=>?_⟩
          rw[kM,e] at b;exact b
        ·exact b.elim
      | live wd' rows' ro'=>
        intro b
        simp only[FY] at b
        split at b
        · rename_i u hu
          have hr:jf cI t=u:=by simp[jf,hu]
          split at b
          · rename_i wd rows ro hm
            have hwr:=BJ hs _ _ _ _ hm
            split at b
            · rename_i g1 g2
              have g1':=beq_eq (by rw[←eY];exact g1)
              subst g1'
              have hcl:jh (bg m) (jf cI) (fun t=>bg m' t≠ .free) (fun t=>(∃wd rows ro,eC m t=.live wd rows ro)∧fz t=true) rows' rows∧bI wd' rows':=by
                split at b
                · refine⟨ng (fun r x hrx=>hcv 12 r x hrx) b,?_⟩
                  clear hs' hm
                  induction rows' generalizing rows with
                  |nil=>exact .nil _
                  | cons r rs ih=>
                    cases rows with
                    |nil=>exact b.elim
                    |cons y ys=>exact .cons (by rw[Ai b.1];exact hwr.tail.1) (ih _ hwr.tail.2 b.2)
                · refine⟨⟨b.1.1,fun q c d h1 h2=>hcv 12 _ _ (b.1.2 q c d h1 h2)⟩,fun i y hy=>?_⟩
                  have hi:=(aZ hy).1
                  rw[b.1.1] at hi
                  have hz:=aP hi
                  rw[Ai (b.1.2 i _ _ hy hz)]
                  exact hwr.mem (bn hz)
              refine .inr ⟨wd',rows',rows,ro',ro,hs',?_,?_,hcl.2,hcl.1⟩
              ·rw[hr];exact dh hm
              · intro hro
                subst hro
                cases ro with
                |false=>rfl
                |true=>cases g2
            ·exact b.elim
          ·exact b.elim
        ·exact b.elim
  · obtain⟨u,a1,a2⟩:=tabd t h1
    obtain⟨u',b1,b2⟩:=tabd t' h2
    have:u=u':=by rw[←a2,←b2,h3]
    subst this
    exact vX hn (lG a1) (lG b1)
  · obtain⟨⟨wd,rows,ro,h1⟩,_⟩:=hsF
    exact⟨wd,rows,ro,dh h1⟩
  · intro t wd rows ht e
    have hne:bg m' t≠ .free:=by intro e';have:bg m' t=.live wd rows false:=ht;rw[e'] at this;cases this
    obtain⟨u,a1,a2⟩:=tabd t hne
    have h5:=hfz s hsF.2
    have:sy (fD Prod.snd cI) s=true:=by
      rw[eO,gA,List.mem_map]
      exact⟨(t,u),lG a1,by rw[←e,a2]⟩
    simp only[qz,this] at h5
    cases h5
  · have key : ∀k,ua m cI k=true→∀t,t<k→bg m t≠ .free→uH cI t=some t:=by
      intro k
      induction k with
      |zero=>intro _ t ht;omega
      | succ k ih=>
        intro hk t ht hne
        simp only[ua] at hk
        split at hk
        · rename_i hm
          rcases Nat.lt_succ_iff_lt_or_eq.1 ht with h'|rfl
          ·exact ih hk t h' hne
          ·exact absurd (dh hm) hne
        · split at hk
          · rename_i u hu
            split at hk
            · rename_i hb
              rcases Nat.lt_succ_iff_lt_or_eq.1 ht with h'|rfl
              ·exact ih hk t h' hne
              ·rw[hu,beq_eq hb]
            ·cases hk
          ·cases hk
    have h5:=key nL hl t ht hne
    exact⟨by simp[jf,h5],hD _ _ h5⟩
end
theorem Fit.A3 {P:Program}{nL:Nat}{sl sl':SL}{m m':ML}(h:Fit nL sl m sl' m'):jt P nL (St sl m) (St sl' m'):=by
  intro N w0 W0 L μ a w hL hs
  obtain⟨⟨h1,h2⟩,h3,h4⟩:=h
  have hk:∀i u,(i,u)∈fP (sG m' m sl sl') m'→i∈m'.map (·.1):=fun i u h=>kP h
  have hD:∀t u,uH (fP (sG m' m sl sl') m') t=some u→bg m' t≠ .free:=by
    intro t u ht e
    rcases js h4 t with⟨_,b⟩|⟨b,_⟩
    ·exact b (hk _ _ (lG ht))
    ·rw[e] at b;exact b
  have hw:=xj.AF hs h1 h2 hk (fun t h=>h) h4 (cu sl') (fun i=>by
    rcases yS h3 i with h|h
    ·rw[h];exact .any
    · rw[←ju sl]
      exact sH (fun t wd rows ro h _=>BJ hs t wd rows ro h) hD (fun t wd rows ro h1 h2=>⟨⟨wd,rows,ro,h1⟩,h2⟩) 12 _ _ h)
  obtain⟨μ',hs',_⟩:=hw.Ng hL hs (.inl ⟨rfl,rfl⟩)
  exact⟨μ',hs'⟩
end Go.Am
section
namespace Go.Am
open Go
@[reducible] def Ik (Γ : cT) (sl : SL) (m : ML) : ResultVar → Option AV
  |.tmp t=>some (xp sl t)
  | .cell a t=>match xp sl a with
    | .ptr tk i k=>match eC m tk with
      | .live _ rows _=>match k9 rows i with
        |some r=>tO (rR Γ t) r k
        |none=>none
      |_=>none
    |_=>none
@[reducible] def xF (Γ : cT) (sl : SL) (m : ML) : List ResultVar → Option (List AV)
  |[]=>some []
  | rv::r=>match Ik Γ sl m rv,xF Γ sl m r with
    |some x,some xs=>some (x::xs)
    |_,_=>none
@[reducible] def Jc : List AV → AV
  |[x]=>x
  |xs=>.tup xs
@[reducible] def bX : Nat → List MS → ML
  |_,[]=>[]
  |k,x::r=>(k,x)::bX (Nat.add k 1) r
@[reducible] def BG : Nat → List AV → SL
  |_,[]=>[]
  |k,x::r=>(k,x)::BG (Nat.add k 1) r
theorem og:∀ (l:List MS) (k:Nat),bX k l=rL k l
  |[],_=>rfl
  |x::r,k=>by simp only[bX,rL];rw[og r]
theorem wC:∀ (l:List AV) (k:Nat),BG k l=tR k l
  |[],_=>rfl
  |x::r,k=>by simp only[BG,tR];rw[wC r]
theorem j3 (l:List MS):bg (rL 0 l)=aW l:=by
  funext t;rw[wM];simp[aW]
@[reducible] def OK (nL : Nat) (x : AV) (m : ML) (outs : List MS) (res : AV) : Prop :=
  (qH (fP (gX (bX 0 outs) m 6 res x) (bX 0 outs))=true∧ua m (fP (gX (bX 0 outs) m 6 res x) (bX 0 outs)) nL=true)∧
    MF (fP (gX (bX 0 outs) m 6 res x) (bX 0 outs)) (qz (fP (gX (bX 0 outs) m 6 res x) (bX 0 outs))) m 12 res x∧
    xj (fP (gX (bX 0 outs) m 6 res x) (bX 0 outs)) (qz (fP (gX (bX 0 outs) m 6 res x) (bX 0 outs))) m (bX 0 outs)
@[reducible] def lX : List ResultVar → AV → List AV
  |[_],x=>[x]
  | _,x=>match x with
    |.tup xs=>xs
    |_=>[]
@[reducible] def iB (outs : List MS) : List ResultVar → List AV → SL → ML → SL × ML
  |[],_,sl,m=>(sl,m)
  | rv :: rvs,rs,sl,m=>match rs with
    |[]=>(sl,m)
    | r :: rs=>match rv with
      | .tmp d=>match r with
        | .own t _ _=>match xp sl d with
          | .lit v=>match CO v,eC m (Nat.add 1000003 t),k9 outs t with
            |true,.free,some (.live wd _ _)=>iB outs rvs rs (rA d (.own (Nat.add 1000003 t) 0 0) sl) (kJ (Nat.add 1000003 t) (.live wd [] false) m)
            |_,_,_=>iB outs rvs rs sl m
          | .emp=>match eC m (Nat.add 1000003 t),k9 outs t with
            |.free,some (.live wd _ _)=>iB outs rvs rs (rA d (.own (Nat.add 1000003 t) 0 0) sl) (kJ (Nat.add 1000003 t) (.live wd [] false) m)
            |_,_=>iB outs rvs rs sl m
          |_=>iB outs rvs rs sl m
        |_=>iB outs rvs rs sl m
      |_=>iB outs rvs rs sl m
@[reducible] def Kw (Γ : cT) (nL : Nat) (rvs : List ResultVar) (outs : List MS) (res : AV) : SL × ML → Prop
  | (sl,m)=>match xF Γ sl m rvs with
    |some xs=>OK nL (Jc xs) m outs res
    |none=>False
@[reducible] def Re (Γ : cT) (nL : Nat) (rvs : List ResultVar) (outs : List MS) (res : AV) (e : Exit) (sl : SL) (m : ML) : Prop :=
  match e with
  |.normal=>Kw Γ nL rvs outs res (iB outs rvs (lX rvs res) sl m)
  |.ret=>Kw Γ nL rvs outs res (iB outs rvs (lX rvs res) sl m)
  |_=>False
theorem cB.ghost {P:Program}{N:Nat}{w0:World}{W0:Nat→Prop}{L μ:Mu}{sl:SL}{m:ML}{a:Act}{w:World}(hs:cB P N w0 W0 L μ (St sl m) a w){d t:Nat}(wd:Nat)(hd:xp sl d=.lit (.slice none 0 0)∨xp sl d=.emp)(ht:eC m t=.free):
    cB P N w0 W0 L (bE μ t ⟨0,0,wd,true,false⟩) (St (rA d (.own t 0 0) sl) (kJ t (.live wd [] false) m)) a w:=by
  have h1:=hs.pP (t:=t) (wd:=wd) (dh ht)
  have hv:∃ad,a.tmps.getD d undef=.slice ad 0 0:=by
    have:=hs.slots d
    have e:(St sl m).slots d=xp sl d:=by rw[ju];rfl
    rw[e] at this
    generalize a.tmps.getD d undef=v at this
    rcases hd with hd|hd<;>(rw[hd] at this;cases this;exact⟨_,rfl⟩)
  obtain⟨ad,hv⟩:=hv
  have key:cB P N w0 W0 L (bE μ t ⟨0,0,wd,true,false⟩) ((St sl m).CD (some d) (.own t 0 0) [(t,.live wd [] false)]) a w:=by
    refine{h1 with slots:=fun i=>?_}
    simp only[aC.CD,uI]
    by_cases hi:i=d
    · subst hi
      rw[if_pos rfl,hv]
      exact .ownNil (B:=⟨0,0,wd,true,false⟩) (by simp[bE])
    ·rw[if_neg hi];exact h1.slots i
  rw[wu,u0] at key
  exact key
theorem tv {P:Program}{outs:List MS}{N:Nat}{w0:World}{W0:Nat→Prop}{L:Mu}{a:Act}{w:World}:∀ (rvs:List ResultVar) (rs:List AV) (sl:SL) (m:ML) (μ:Mu),cB P N w0 W0 L μ (St sl m) a w→∃μ',cB P N w0 W0 L μ' (St (iB outs rvs rs sl m).1 (iB outs rvs rs sl m).2) a w
  |[],rs,sl,m,μ,hs=>⟨μ,by simpa only[iB] using hs⟩
  |rv::rvs,[],sl,m,μ,hs=>⟨μ,by simpa only[iB] using hs⟩
  | rv :: rvs,r::rs,sl,m,μ,hs=>by
    have ih:=tv (P:=P) (outs:=outs) (N:=N) (w0:=w0) (W0:=W0) (L:=L) (a:=a) (w:=w) rvs rs
    unfold iB
    dsimp only
    split
    · split
      · split
        · rename_i hd
          split
          · rename_i hn ht _
            exact ih _ _ _ (hs.ghost _ (.inl (by rw[hd,p7 hn])) ht)
          ·exact ih _ _ _ hs
        · rename_i hd
          split
          · rename_i ht _
            exact ih _ _ _ (hs.ghost _ (.inr hd) ht)
          ·exact ih _ _ _ hs
        ·exact ih _ _ _ hs
      ·exact ih _ _ _ hs
    ·exact ih _ _ _ hs
section
variable {P : Program} {Γ : cT} {sl : SL} {m : ML}
theorem AJ (hΓ:Γ.Good P):∀ {rvs:List ResultVar} {xs:List AV},xF Γ sl m rvs=some xs→Bq P (St sl m) rvs xs
  |[],xs,h=>by cases h;trivial
  | rv :: rvs, xs,h=>by
    simp only[xF] at h
    split at h
    · rename_i x ys h1 h2
      cases h
      refine⟨?_,AJ hΓ h2⟩
      cases rv with
      | tmp t=>
        simp only[Ik,Option.some.injEq] at h1
        show cu sl t=x
        rw[←ju];exact h1
      | cell a t=>
        simp only[Ik] at h1
        split at h1
        · rename_i tk i k ha
          split at h1
          · rename_i wd rows ro hm
            split at h1
            · rename_i r hr
              rw[jc] at hr
              exact⟨tk,i,k,wd,rows,ro,r,by show cu sl a=_;rw[←ju];exact ha,dh hm,hr,oP hΓ (by rw[←fc,←rS];exact h1)⟩
            ·cases h1
          ·cases h1
        ·cases h1
    ·cases h
theorem AS (xs:List AV):Jc xs=Ar xs:=by
  match xs with
  |[]=>rfl
  |[x]=>rfl
  |x::y::r=>rfl
theorem OK.end {nL:Nat}{x:AV}{outs:List MS}{res:AV}(h:OK nL x m outs res){N:Nat}{w0:World}{W0:Nat→Prop}{L μ:Mu}{a:Act}{w:World}{v:Value}(hL:∀t,nL≤t→t<lM→L t=none)
    (hs:cB P N w0 W0 L μ (St sl m) a w) (hv:cH (Wr W0 μ (bg m)) μ w x v):∃μ',cB P 0 w0 W0 L μ' (bare outs) mh w∧cH (Wr W0 μ' (aW outs)) μ' w res v:=by
  obtain⟨⟨h1,h2⟩,h3,h4⟩:=h
  generalize ht:fP (gX (bX 0 outs) m 6 res x) (bX 0 outs)=cI at h1 h2 h3 h4
  have hk:∀i u,(i,u)∈cI→i∈ (bX 0 outs).map (·.1):=fun i u h=>by rw[←ht] at h;exact kP h
  have hD:∀t u,uH cI t=some u→bg (bX 0 outs) t≠ .free:=by
    intro t u ht e
    rcases js h4 t with⟨_,b⟩|⟨b,_⟩
    ·exact b (hk _ _ (lG ht))
    ·rw[e] at b;exact b
  have hw:=xj.AF hs h1 h2 hk (fun t h=>h) h4 (fun _=>.any) (fun i=>.any)
  have hcv:=sH (fun t wd rows ro h _=>BJ hs t wd rows ro h) hD (F:=fun t=>(∃wd rows ro,eC m t=.live wd rows ro)∧qz cI t=true) (fun t wd rows ro h1 h2=>⟨⟨wd,rows,ro,h1⟩,h2⟩) 12 _ _ h3
  obtain⟨μ',hs',hrep⟩:=hw.Ng hL hs (N':=0) (a':=mh) (.inr ⟨fun _=>rfl,rfl,rfl⟩)
  have e:bg (bX 0 outs)=aW outs:=by rw[og,j3]
  rw[e] at hs' hrep hcv
  exact⟨μ',hs',hrep _ _ _ hcv hv⟩
theorem af.ah {f:FuncId}{fn:Func}{c:Code}{ins outs:List MS}{args:List AV}{res:AV}{N:Nat}{rvs:List ResultVar}(Γ:cT)(hΓ:Γ.Good P)(hf:P.funcs[f]? =some fn)(hb:fn.body=some c)(hN:fn.ntmps=N)(hr:fn.results.toList=rvs)
    (hlen:Nat.ble (gb args) N=true) (h:Cj P N (gb ins) Γ c (BG 0 args) (bX 0 ins) (Re Γ (gb ins) rvs outs res)):af P f ins args outs res:=by
  subst hN;subst hr
  have hlen:args.length≤fn.ntmps:=by rw[←dz];exact gp hlen
  intro w W0 L vs hL hs hr
  have h:=vG hΓ _ _ _ _ h
  rw[wC,og,dz] at h
  have hst:(⟨fun i=>args.getD i .any,aW ins⟩:aC)=St (tR 0 args) (rL 0 ins):=by
    unfold St
    congr 1
    ·funext i;rw[qQ];simp
    ·exact(j3 ins).symm
  have hsim:cB P fn.ntmps w W0 L L ⟨fun i=>args.getD i .any,aW ins⟩ {tmps:=vs.toArray++Array.replicate (fn.ntmps-vs.toArray.size) undef,defers:=[]} w:=by
    refine⟨?_,.nil,hs.os,hs.tape,hs.output,hs.hsize,hs.shp,hs.keep,hs.w0lt,hs.lentμ,hs.free,fun i=>?_,hs.objs,hs.inj,hs.out,hs.tabs⟩
    ·simp[hr.1];omega
    · by_cases hi:i<args.length
      · have h1:args[i]? =some args[i]:=aP hi
        have h2:vs[i]? =some (vs[i]'(by rw[hr.1];exact hi)):=aP _
        have:=hr.2 i _ _ h1 h2
        have hv:(vs.toArray++Array.replicate (fn.ntmps-vs.toArray.size) undef).getD i undef=vs[i]'(by rw[hr.1];exact hi):=by
          rw[Array.getD_eq_getD_getElem?,Array.getElem?_append_left (by simp;rw[hr.1];exact hi)]
          simp[h2]
        simp only[hv,List.getD_eq_getElem?_getD,h1,Option.getD_some]
        exact this
      · simp only[List.getD_eq_getElem?_getD,ri (Nat.le_of_not_lt hi),Option.getD_none]
        exact .any
  rw[hst] at hsim
  refine sS hf hb h (fun t ht=>hL t (by omega)) hsim (fun e σ' ⟨sl,m,_,hend⟩=>?_) ?_
  · cases e with
    |normal=>exact .inl rfl
    |ret=>exact .inr rfl
    |_=>exact hend.elim
  rintro e σ' μ' a' w' ⟨sl,m,rfl,hend⟩ hs' hd
  have key:Kw Γ ins.length fn.results.toList outs res (iB outs fn.results.toList (lX fn.results.toList res) sl m)→∃v,(results fn a'.tmps).run P w'=.ok v w'∧∃v_1 μ',Ending.returned v=.returned v_1∧cB P 0 w W0 L μ' (bare outs) mh w'∧cH (Wr W0 μ' (aW outs)) μ' w' res v_1:=by
    intro hend
    obtain⟨μ2,hs2⟩:=tv (outs:=outs) fn.results.toList (lX fn.results.toList res) sl m μ' hs'
    generalize iB outs fn.results.toList (lX fn.results.toList res) sl m=q at hend hs2
    obtain⟨sl2,m2⟩:=q
    simp only[Kw] at hend
    split at hend
    · rename_i xs hxs
      have hres:=(AJ hΓ hxs).get
      obtain⟨v,v1,v2⟩:=um hs2 hres.1 hres.2
      rw[AS] at hend
      obtain⟨μ'',h1,h2⟩:=hend.end (fun t ht _=>hL t ht) hs2 v2
      exact⟨v,v1,v,μ'',rfl,h1,h2⟩
    ·exact hend.elim
  cases e with
  |normal=>exact key hend
  |ret=>exact key hend
  |_=>exact hend.elim
end
def ay {ι:Type}(sl:SL)(m:ML){nL:Nat}{S:ι→SL}{M:ι→ML}{I:ι→Prop}{μ:ι→Nat}{i:ι}:Prop:=∃j,I j∧μ j<μ i∧Fit nL sl m (S j) (M j)
theorem ay.mk {ι:Type}{sl:SL}{m:ML}{nL:Nat}{S:ι→SL}{M:ι→ML}{I:ι→Prop}{μ:ι→Nat}{i:ι}(j:ι)(h1:I j)(h2:μ j<μ i)(h3:Fit nL sl m (S j) (M j)):ay sl m (nL:=nL) (S:=S) (M:=M) (I:=I) (μ:=μ) (i:=i):=⟨j,h1,h2,h3⟩
@[reducible] def NY {ι : Type} (nL : Nat) (S : ι → SL) (M : ι → ML) (I : ι → Prop) (μ : ι → Nat) (i : ι) (Q : Exit → SL → ML → Prop) (e : Exit) (sl : SL) (m : ML) : Prop :=
  match e with
  |.normal=>ay sl m (nL:=nL) (S:=S) (M:=M) (I:=I) (μ:=μ) (i:=i)
  |e=>Q e sl m
theorem aR.use {P:Program}{N nL:Nat}{sl:SL}{m:ML}{c:Code}{Q:Exit→SL→ML→Prop}{ι:Type}(Γ:cT)(hΓ:Γ.Good P)(S:ι→SL)(M:ι→ML)(I:ι→Prop)(μ:ι→Nat)(i0:ι)(hI:I i0)(h0:Fit nL sl m (S i0) (M i0))
    (round:∀i,I i→Cj P N nL Γ c (S i) (M i) (NY nL S M I μ i Q)):aR P N nL sl m (c:=.loop c) (Q:=Q):=by
  refine gP.Py (C:=fun i=>St (S i) (M i)) I μ i0 hI h0.A3 ?_
  intro i hi
  refine(vG hΓ _ _ _ _ (round i hi)).mono ?_
  rintro e σ ⟨sl',m',rfl,h⟩
  cases e with
  | normal=>
    obtain⟨j,h1,h2,h3⟩:=h
    exact⟨j,h1,h2,h3.A3⟩
  |_=>exact⟨sl',m',rfl,h⟩
theorem aR.fit {P:Program}{N nL:Nat}{sl sl':SL}{m m':ML}{c:Code}{Q:Exit→SL→ML→Prop}(h:Fit nL sl m sl' m')(hc:aR P N nL sl' m' (c:=c) (Q:=Q)):aR P N nL sl m (c:=c) (Q:=Q):=gP.fits h.A3 hc
theorem aR.ghost {P:Program}{N nL:Nat}{sl:SL}{m:ML}{c:Code}{Q:Exit→SL→ML→Prop}(d t wd:Nat)(hd:xp sl d=.lit (.slice none 0 0))(ht:eC m t=.free)(hc:aR P N nL (rA d (.own t 0 0) sl) (kJ t (.live wd [] false) m) (c:=c) (Q:=Q)):
    aR P N nL sl m (c:=c) (Q:=Q):=by
  refine gP.ghost (d:=d) (t:=t) wd (.inl (by show cu sl d=_;rw[←ju];exact hd)) (dh ht) ?_
  rw[wu,u0]
  exact hc
section
variable {P : Program} {N : Nat} {o : Oper} {f : FuncId} {args args' : List AV} {acc : Tk} {sl : SL} {m : ML} {R : Rest} {res : AV} {outs : List MS}
@[reducible] def RD (T : List Nat) (t : Nat) : Bool := sy T t
@[reducible] def vq (T : List Nat) (m : ML) (args' args : List AV) : Prop := Cu (MF [] (RD T) m 12) args' args
theorem vq.cv {T:List Nat}(hw:∀t wd rows ro,eC m t=.live wd rows ro→t∈T→bI wd rows)(h:vq T m args' args):jh (St sl m).mem id (fun _=>False) (· ∈T) args' args:=by
  have:=ng (D:=fun _=>False) (F:=(· ∈T)) (ρ:=jf []) (mm:=bg m) (fun r x=>sH (fun t wd rows ro h1 h2=>hw t wd rows ro h1 (gA.1 h2)) (fun t u h=>by cases h) (fun t wd rows ro _ h2=>gA.1 h2) 12 r x) h
  exact this
theorem mT (hd:om N o.dst=true):∀d,o.dst=some d→d<N:=br (EI hd)
theorem aN.uU {σ:aC}{rd:List Nat}{x:AV}{ups:ML}(h:(∃ (w0:World) (W0:Nat→Prop) (L μ:Mu) (a:Act) (w:World) (σ2:aC),(∀t∈rd,σ2.mem t=σ.mem t)∧cB P N w0 W0 L μ σ2 a w)→aN P N o σ rd x ups):aN P N o σ rd x ups:=by
  intro σ2 he hr w0 W0 L μ a w K Q hs hK
  exact h ⟨w0,W0,L,μ,a,w,σ2,hr,hs⟩ σ2 he hr w0 W0 L μ a w K Q hs hK
theorem EY {σ:aC}{T:List Nat}(hσ:σ=St sl m)(h:∃ (w0:World) (W0:Nat→Prop) (L μ:Mu) (a:Act) (w:World) (σ2:aC),(∀t∈T,σ2.mem t=σ.mem t)∧cB P N w0 W0 L μ σ2 a w):∀t wd rows ro,eC m t=.live wd rows ro→t∈T→bI wd rows:=by
  subst hσ
  obtain⟨w0,W0,L,μ,a,w,σ2,h1,h2⟩:=h
  intro t wd rows ro ht hT
  obtain⟨B,_,h3⟩:=h2.objs t wd rows ro (by rw[h1 t hT,mem_eq];exact ht)
  exact h3.wide
theorem aD.lit (T:List Nat)(hf:af P f [] args' [] res)(hc:ae P f)(ha:vq T m args' args)(hd:om N o.dst=true)(hp:qw res=true)(h:R T res [] acc sl m):aD P N f args acc sl m (o:=o) (R:=R):=by
  intro hto
  exact⟨T,res,[],aN.uU fun hs=>aN.HC T hto hc (ha.cv (EY rfl hs)) hf hp (mT hd),h⟩
@[reducible] def yd (m : ML) : List Nat → Bool
  |[]=>true
  | t::r=>match eC m t with
    |.live _ _ _=>yd m r
    |_=>false
theorem sM {m:ML}:∀ {T:List Nat},yd m T=true→∀t∈T,∃wd rows ro,bg m t=.live wd rows ro
  |[],_,t,h=>by simp at h
  | u ::r,h,t,ht=>by
    simp only[yd] at h
    split at h
    · rename_i hm
      rcases fj.1 ht with rfl|ht
      ·exact⟨_,_,_,dh hm⟩
      ·exact sM h t ht
    ·cases h
@[reducible] def Pb : MS → MS
  |.live wd rows _=>.live wd rows true
  |s=>s
theorem aD.val (T:List Nat)(hf:af P f [] args' [] res)(hc:ae P f)(ha:vq T m args' args)(hT:yd m T=true)(hd:om N o.dst=true)(hp:bt res=true)
    (h:R T res (fD (fun t=>(t,Pb (eC m t))) T) acc sl m):aD P N f args acc sl m (o:=o) (R:=R):=by
  intro hto
  have e:fD (fun t=>(t,Pb (eC m t))) T=T.map fun t=>(t,nF ((St sl m).mem t)):=by
    rw[eO];apply List.map_congr_left;intro t _;rw[mem_eq];rfl
  rw[e] at h
  refine⟨T,res,_,aN.uU fun hs=>?_,h⟩
  have:=aN.IK (P:=P) (N:=N) (o:=o) (σ:=St sl m) (news:=[]) (x:=res) (base:=0) T hto hc (ha.cv (EY rfl hs)) (fun t ht=>sM hT t ht) hf (by simp) rfl (by simp) (.same hp) (mT hd)
  simpa using this
@[reducible] def tu : Nat → Nat → AV → AV
  |0,_,x=>x
  | n+1,b,x=>match x with
    |.own t o l=>.own (Nat.add b t) o l
    |.ptr t i k=>.ptr (Nat.add b t) i k
    |.mapr t=>.mapr (Nat.add b t)
    |.agg cs=>.agg (fD (tu n b) cs)
    |.tup cs=>.tup (fD (tu n b) cs)
    |x=>x
@[reducible] def JO : Nat → Nat → AV → Bool
  |0,_,x=>bt x
  | n+1,k,x=>match x with
    |.own t _ _=>Nat.ble (Nat.add t 1) k
    |.ptr t _ _=>Nat.ble (Nat.add t 1) k
    |.mapr t=>Nat.ble (Nat.add t 1) k
    |.agg cs=>nk (JO n k) cs
    |.tup cs=>nk (JO n k) cs
    |x=>bt x
theorem zq {mm:Nat→MS}{F:Nat→Prop}{b k:Nat}:∀ (n:Nat) (x:AV),JO n k x=true→Cv mm (· -b) (fun t=>b≤t∧t-b<k) F (tu n b x) x
  |0,x,h=>.same h
  | n + 1,x,h=>by
    have list:∀cs:List AV,nk (JO n k) cs=true→jh mm (· -b) (fun t=>b≤t∧t-b<k) F (fD (tu n b) cs) cs:=by
      intro cs
      induction cs with
      |nil=>intro _;exact .nil
      | cons c cs ih=>
        intro h
        simp only[nk] at h
        split at h
        ·rename_i h1;exact .cons (zq n c h1) (ih h)
        ·cases h
    cases x with
    | own t o l=>
      have ht:t+1≤k:=gp h
      show Cv _ _ _ _ (.own (b+t) o l) _
      have e:t=(b+t)-b:=by omega
      have:=Cv.own (m:=mm) (ρ:=(· -b)) (D:=fun t=>b≤t∧t-b<k) (F:=F) (t:=b+t) (o:=o) (l:=l) ⟨by omega,by omega⟩
      simp only[Nat.add_sub_cancel_left] at this
      exact this
    | ptr t i k'=>
      have ht:t+1≤k:=gp h
      show Cv _ _ _ _ (.ptr (b+t) i k') _
      have:=Cv.ptr (m:=mm) (ρ:=(· -b)) (D:=fun t=>b≤t∧t-b<k) (F:=F) (t:=b+t) (i:=i) (k:=k') ⟨by omega,by omega⟩
      simp only[Nat.add_sub_cancel_left] at this
      exact this
    | mapr t=>
      have ht:t+1≤k:=gp h
      show Cv _ _ _ _ (.mapr (b+t)) _
      have:=Cv.mapr (m:=mm) (ρ:=(· -b)) (D:=fun t=>b≤t∧t-b<k) (F:=F) (t:=b+t) ⟨by omega,by omega⟩
      simp only[Nat.add_sub_cancel_left] at this
      exact this
    |agg cs=>exact .vf (list cs h)
    |tup cs=>exact .w9 (list cs h)
    |_=>exact .same h
@[reducible] def Af (b : Nat) : Nat → List MS → ML
  |_,[]=>[]
  |k,s::r=>(Nat.add b k,s)::Af b (Nat.add k 1) r
theorem xX (b:Nat):∀ (l:List MS) (k:Nat),Af b k l=kx b k l
  |[],_=>rfl
  |s::r,k=>by simp only[Af,kx];rw[xX b r];rfl
@[reducible] def EO (m : ML) (b : Nat) : List MS → Nat → Bool
  |[],_=>true
  | _::r,k=>match eC m (Nat.add b k) with
    |.free=>EO m b r (Nat.add k 1)
    |_=>false
theorem B5 {m:ML}{b:Nat}:∀ {l:List MS} {j:Nat},EO m b l j=true→∀k,k<l.length→bg m (b+ (j+k))=.free
  |[],j,_,k,hk=>by simp at hk
  | s :: r,j,h,k,hk=>by
    simp only[EO] at h
    split at h
    · rename_i hm
      cases k with
      |zero=>exact dh hm
      | succ k=>
        have:=B5 h k (by simpa using hk)
        rw[show b+ (j+ (k+1))=b+ (Nat.add j 1+k) from by show _=b+ (j+1+k);omega]
        exact this
    ·cases h
@[reducible] def zJ (b : Nat) : Nat → List MS → List Nat
  |_,[]=>[]
  |k,_::r=>Nat.add b k::zJ b (Nat.add k 1) r
theorem xY (b:Nat):∀ (l:List MS) (k:Nat),zJ b k l=(List.range' k l.length).map (b+ ·)
  |[],_=>rfl
  |s::r,k=>by simp only[zJ,List.length_cons,List.range'_succ,List.map_cons,xY b r];rfl
theorem aD.new (b:Nat)(T:List Nat)(hf:af P f [] args' outs res)(hc:ae P f)(ha:vq T m args' args)(hT:yd m T=true)(hd:om N o.dst=true)(hp:JO 12 (gb outs) res=true)(ho:gJ outs)(hfree:EO m b outs 0=true)
    (h:R (jI T (zJ b 0 outs)) (tu 12 b res) (jI (Af b 0 outs) (fD (fun t=>(t,Pb (eC m t))) T)) acc sl m):aD P N f args acc sl m (o:=o) (R:=R):=by
  intro hto
  have e:fD (fun t=>(t,Pb (eC m t))) T=T.map fun t=>(t,nF ((St sl m).mem t)):=by
    rw[eO];apply List.map_congr_left;intro t _;rw[mem_eq];rfl
  rw[e,iM,iM,xY,xX,nA,←List.range_eq_range'] at h
  rw[dz] at hp
  refine⟨_,_,_,aN.uU fun hs=>?_,h⟩
  have hwd:∀t wd rows ro,eC m t=.live wd rows ro→t∈T→bI wd rows:=by
    obtain⟨w0,W0,L,μ,a,w,σ2,h1,h2⟩:=hs
    exact EY (sl:=sl) rfl ⟨w0,W0,L,μ,a,w,σ2,fun t ht=>h1 t (by simp[ht]),h2⟩
  refine aN.IK (P:=P) (N:=N) (o:=o) (σ:=St sl m) (news:=outs) (x:=tu 12 b res) (base:=b) T hto hc (ha.cv hwd) (fun t ht=>sM hT t ht) hf (fun k hk=>by have:=B5 hfree k hk;rw[Nat.zero_add] at this;exact this) rfl (fun k s hk=>?_) (zq 12 res hp) (mT hd)
  obtain⟨wd,rows,rfl,h1,h2⟩:=nD ho hk
  exact⟨wd,rows,rows,rfl,hk,h1,.same h2⟩
end
end Go.Am
namespace Go.Am
open Go
theorem nW.mk {acc:Tk}{sl:SL}{m:ML}{A:Tk→SL→ML→Prop}(h:A acc sl m):nW acc sl m (A:=A):=h
theorem nS.mk {sl:SL}{m:ML}{A:SL→ML→Prop}(h:A sl m):nS sl m (A:=A):=h
theorem aQ.mk {b:Bool}{acc:Tk}{sl:SL}{m:ML}{A B:Tk→SL→ML→Prop}(h1:b=true→A acc sl m)(h2:b=false→B acc sl m):aQ b acc sl m (A:=A) (B:=B):=⟨h1,h2⟩
theorem aQ.tt {acc:Tk}{sl:SL}{m:ML}{A B:Tk→SL→ML→Prop}(h1:A acc sl m):aQ true acc sl m (A:=A) (B:=B):=⟨fun _=>h1,fun h=>by cases h⟩
theorem aQ.ff {acc:Tk}{sl:SL}{m:ML}{A B:Tk→SL→ML→Prop}(h1:B acc sl m):aQ false acc sl m (A:=A) (B:=B):=⟨(fun h=>by cases h),fun _=>h1⟩
theorem aQ.yes {b:Bool}{acc:Tk}{sl:SL}{m:ML}{A B:Tk→SL→ML→Prop}(h:b=true)(h1:A acc sl m):aQ b acc sl m (A:=A) (B:=B):=⟨fun _=>h1,fun h'=>by rw[h] at h';cases h'⟩
theorem aQ.no {b:Bool}{acc:Tk}{sl:SL}{m:ML}{A B:Tk→SL→ML→Prop}(h:b=false)(h1:B acc sl m):aQ b acc sl m (A:=A) (B:=B):=⟨(fun h'=>by rw[h] at h';cases h'),fun _=>h1⟩
theorem jL.mk {p q:Prop}{sl:SL}{m:ML}{A B:SL→ML→Prop}(h1:p→A sl m)(h2:q→B sl m):jL p q sl m (A:=A) (B:=B):=⟨h1,h2⟩
theorem bW.mk {p:Prop}{acc:Tk}{sl:SL}{m:ML}{A:Tk→SL→ML→Prop}(h:p)(h1:A acc sl m):bW p acc sl m (A:=A):=⟨h,h1⟩
theorem ak.mk {rows:List AV}{i:Int}{acc:Tk}{sl:SL}{m:ML}{A:AV→Tk→SL→ML→Prop}(k:Nat)(r:AV)(hi:i=k)(hr:rows[k]? =some r)(h:A r acc sl m):ak rows i acc sl m (A:=A):=⟨k,r,hi,hr,h⟩
theorem ak.map {α:Type}{e:α→AV}{l:List α}{i:Int}{acc:Tk}{sl:SL}{m:ML}{A:AV→Tk→SL→ML→Prop}(k:Nat)(x:α)(hi:i=k)(hr:l[k]? =some x)(h:A (e x) acc sl m):ak (l.map e) i acc sl m (A:=A):=⟨k,e x,hi,by rw[dM,hr];rfl,h⟩
theorem qb.mk {i:Int}{n:Nat}{acc:Tk}{sl:SL}{m:ML}{A:Nat→Tk→SL→ML→Prop}(k:Nat)(hi:i=k)(hk:k<n)(h:A k acc sl m):qb i n acc sl m (A:=A):=⟨k,hi,hk,h⟩
theorem dc.mk {rows:List AV}{i:Nat}{acc:Tk}{sl:SL}{m:ML}{A:AV→Tk→SL→ML→Prop}(r:AV)(hr:rows[i]? =some r)(h:A r acc sl m):dc rows i acc sl m (A:=A):=⟨r,hr,h⟩
theorem dc.map {α:Type}{e:α→AV}{l:List α}{i:Nat}{acc:Tk}{sl:SL}{m:ML}{A:AV→Tk→SL→ML→Prop}(x:α)(hr:l[i]? =some x)(h:A (e x) acc sl m):dc (l.map e) i acc sl m (A:=A):=⟨e x,by rw[dM,hr];rfl,h⟩
theorem Df.mk {l h:Int}{len:Nat}{acc:Tk}{sl:SL}{m:ML}{A:Nat→Nat→Tk→SL→ML→Prop}(a n:Nat)(h1:l=a)(h2:h=(a:Int)+n)(h3:a+n≤len)(h4:A a n acc sl m):Df l h len acc sl m (A:=A):=⟨a,n,h1,h2,h3,h4⟩
theorem BI.mk {l h:Int}{rows:List AV}{acc:Tk}{sl:SL}{m:ML}{A:List AV→Tk→SL→ML→Prop}(a n:Nat)(rows':List AV)(h1:l=a)(h2:h=(a:Int)+n)(h3:a+n≤rows.length)(h4:rows'=(rows.drop a).take n)(h5:A rows' acc sl m):BI l h rows acc sl m (A:=A):=⟨a,n,rows',h1,h2,h3,h4,h5⟩
theorem cC.mk {rb rs:List AV}{off len off' len' bytes:Nat}{acc:Tk}{sl:SL}{m:ML}{A:List AV→Tk→SL→ML→Prop}(rows0 news:List AV)(h0:off=0∧len=rb.length∧rows0=rb)(h1:off'=0∧len'=rs.length∧news=rs)(h2:lg (flat news)=true)
    (h3:(rows0.length+news.length)*bytes≤140737488355328) (h4:rows0.length+news.length≤9223372036854775807) (h:A (rows0++news) acc sl m):cC rb off len rs off' len' bytes acc sl m (A:=A):=by
  obtain⟨rfl,rfl,rfl⟩:=h0
  obtain⟨rfl,rfl,rfl⟩:=h1
  exact⟨_,_,by omega,by simp,by omega,by simp,h2,h3,h4,h⟩
theorem bL.mk {P:Program}{l:List Oper}{acc:Tk}{sl:SL}{m:ML}{A:SL→ML→Prop}(h1:P.follows .mixedOrders=true)(h2:Region.lexB .any l.toArray=true)(h3:(Bh l.toArray acc||jK l.toArray acc)=true)(h4:A sl m):bL P acc sl m (l:=l) (A:=A):=⟨h1,h2,h3,h4⟩
theorem dA {α:Type}(e:α→AV)(h:∀a,lg (cells (e a))=true)(l:List α):lg (flat (l.map e))=true:=by
  induction l with
  |nil=>rfl
  | cons x xs ih=>
    simp only[List.map_cons,fF]
    unfold lg at ih h ⊢
    rw[List.all_append,h x,ih];rfl
theorem o6.cut {m:ML}{fz:Nat→Bool}{cI:List (Nat×Nat)}{n:Nat}{t off len wd:Nat}{rows rows':List AV}{ro:Bool}(h1:eC m t=.live wd rows ro)(h2:fz t=true)(h3:off+len≤rows.length)(h4:rows'=(rows.drop off).take len)(h5:aU rows'=true):o6 m fz (MF cI fz m n) (.sl wd rows') t off len:=
  ⟨wd,rows,ro,rows',h1,h2,rfl,h3,h5,by rw[←h4];exact .refl h5⟩
end Go.Am
end
namespace Go.Am
open Go Go.MapKept
set_option linter.unusedSectionVars false
@[reducible] def yF (m : ML) (ym : AV) (rows : List AV) : Prop :=
  match ym with
  |.mapr t=> ∃wd ro,eC m t=.live wd rows ro
  |.fmap rs=>rs=rows
  |_=>False
@[reducible] def zj : AV → List Nat
  |.mapr t=>[t]
  |_=>[]
theorem yF.src {sl:SL}{m:ML}{ym:AV}{rows:List AV}(h:yF m ym rows):oB (St sl m) ym rows (zj ym):=by
  cases ym with
  |mapr t=>obtain⟨wd,ro,h⟩:=h;exact .own (by rw[mem_eq];exact h)
  |fmap rs=>have h':rs=rows:=h;subst h';exact .frz
  |_=>exact h.elim
@[reducible] def Ap (c : Bool) (x : AV) (ok : Bool) : AV := match c with
  |true=>.tup [x,.lit (.bool ok)]
  |false=>x
section
variable {P : Program} {N : Nat} {o : Oper} {t : TypeId} {c : Bool} {ym x r : AV} {key z : Value} {d : TypeDesc} {rows : List AV} {acc : Tk} {sl : SL} {m : ML} {R : Rest}
theorem jJ.yes (hT:jj P t d z)(hrows:yF m ym rows)(hk:IsKey d key)(hks:oa d rows)(hr:entry key r∈rows)(hd:om N o.dst=true)(h:R (zj ym) (Ap c r true) [] acc sl m):jJ P N t c ym (.lit key) acc sl m (o:=o) (R:=R):=by
  rintro⟨y,x,ho,hy,hx⟩
  obtain⟨i,hi⟩:=List.getElem?_of_mem hr
  refine⟨_,_,_,aN.lookup ho hy hrows.src hx hT hk hks hi (mT hd),?_⟩
  cases c<;>exact h
theorem jJ.no (hT:jj P t d z)(hrows:yF m ym rows)(hk:IsKey d key)(hks:oa d rows)(hr:∀r,entry key r∉rows)(hd:om N o.dst=true){zv:AV}(hz:ql z=zv)(h:R (zj ym) (Ap c zv false) [] acc sl m):jJ P N t c ym (.lit key) acc sl m (o:=o) (R:=R):=by
  rintro⟨y,x,ho,hy,hx⟩
  subst hz
  refine⟨_,_,_,aN.IS ho hy hrows.src hx hT hk hks hr (mT hd),?_⟩
  cases c<;>exact h
theorem rY.old {tk wd:Nat}(hT:jj P t d z)(hm:eC m tk=.live wd rows false)(hk:IsKey d key)(hks:oa d rows)(i:Nat)(hr:rows[i]? =some (entry key r))(hd:om N o.dst=true)(h:R [tk] .any [(tk,.live wd (rows.set i (entry key x)) false)] acc sl m):rY P N t (.mapr tk) (.lit key) x acc sl m (o:=o) (R:=R):=by
  rintro⟨y,xx,v,ho,hy,hx,hv⟩
  exact⟨_,_,_,aN.mapUpdate ho hy (by rw[mem_eq];exact hm) hx hv hT hk hks hr (mT hd),h⟩
theorem rY.new {tk wd:Nat}(hT:jj P t d z)(hm:eC m tk=.live wd rows false)(hk:IsKey d key)(hks:oa d rows)(hr:∀r,entry key r∉rows)(hroom:rows.length+1<maxLen)(hwd:wd=2)(hd:om N o.dst=true)(h:R [tk] .any [(tk,.live wd (rows++ [entry key x]) false)] acc sl m):rY P N t (.mapr tk) (.lit key) x acc sl m (o:=o) (R:=R):=by
  rintro⟨y,xx,v,ho,hy,hx,hv⟩
  exact⟨_,_,_,aN.zG ho hy (by rw[mem_eq];exact hm) hx hv hT hk hks hr hroom hwd (mT hd),h⟩
theorem gl.mk (hT:jj P t d z)(hrows:yF m ym rows)(hd:om N o.dst=true)(h:R (zj ym) (.lit (.int .i64 rows.length)) [] acc sl m):gl P N t ym acc sl m (o:=o) (R:=R):=by
  rintro⟨y,ho,hy⟩
  exact⟨_,_,_,aN.O5 ho hy hrows.src hT (mT hd),h⟩
end
section
variable {α : Type} {K : Type} [DecidableEq K]
def dx (k:K):List (K×α)→Option α
  |[]=>none
  |p::r=>if p.1=k then some p.2 else dx k r
def eE (k:K)(x:α):List (K×α)→List (K×α)
  |[]=>[(k,x)]
  |p::r=>if p.1=k then(k,x)::r else p::eE k x r
theorem fI (k k':K)(x:α):∀l:List (K×α),dx k' (eE k x l)=if k=k' then some x else dx k' l
  |[]=>by simp[eE,dx]
  | p ::r=>by
    simp only[eE]
    by_cases h:p.1=k
    · rw[if_pos h]
      simp only[dx]
      by_cases hk:k=k'
      ·rw[if_pos hk,if_pos hk]
      ·rw[if_neg hk,if_neg hk,if_neg (by rw[h];exact hk)]
    · rw[if_neg h]
      simp only[dx,fI k k' x r]
      by_cases hk:k=k'
      ·subst hk;rw[if_neg h];simp
      ·simp[hk]
theorem yp {k:K}:∀ {l:List (K×α)},dx k l=none↔k∉l.map (·.1)
  |[]=>by simp[dx]
  | p ::r=>by
    simp only[dx,List.map_cons,fj,not_or]
    by_cases h:p.1=k
    ·simp[h]
    · rw[if_neg h,yp (l:=r)]
      exact⟨fun hh=>⟨fun e=>h e.symm,hh⟩,fun hh=>hh.2⟩
theorem Bu {k:K}{x:α}:∀ {l:List (K×α)},dx k l=some x→(k,x)∈l
  |[],h=>by cases h
  | p::r,h=>by
    simp only[dx] at h
    split at h
    ·rename_i hp;cases h;subst hp;exact mq
    ·exact j9 _ (Bu h)
theorem oV {k:K}{x:α}:∀ (l:List (K×α)),(eE k x l).length=l.length+ (if k∈l.map (·.1) then 0 else 1)
  |[]=>by simp[eE]
  | p ::r=>by
    simp only[eE]
    by_cases h:p.1=k
    ·rw[if_pos h];subst h;simp
    · rw[if_neg h,List.length_cons,oV r]
      have:k≠p.1:=fun e=>h e.symm
      simp only[List.map_cons,fj,this,false_or,List.length_cons];omega
theorem Ek {k:K}{x:α}(f:K×α→AV):∀ {l:List (K×α)} {y:α},dx k l=some y→∃i,(l.map f)[i]? =some (f (k,y))∧(eE k x l).map f=(l.map f).set i (f (k,x))
  |[],y,h=>by cases h
  | p ::r,y,h=>by
    simp only[dx] at h
    split at h
    ·rename_i hp;cases h;subst hp;exact⟨0,rfl,by simp[eE]⟩
    · rename_i hp
      obtain⟨i,h1,h2⟩:=Ek (x:=x) f h
      exact⟨i+1,by simpa using h1,by simp[eE,hp,h2]⟩
theorem sr {k:K}{x:α}:∀ {l:List (K×α)},dx k l=none→eE k x l=l++ [(k,x)]
  |[],_=>rfl
  | p::r,h=>by
    simp only[dx] at h
    split at h
    ·cases h
    ·rename_i hp;simp[eE,hp,sr h]
end
def ee {K α:Type}(kv:K→Value)(e:α→AV)(l:List (K×α)):List AV:=l.map fun p=>entry (kv p.1) (e p.2)
section
variable {P : Program} {N : Nat} {o : Oper} {t : TypeId} {c : Bool} {ym : AV} {z : Value} {d : TypeDesc} {acc : Tk} {sl : SL} {m : ML} {R : Rest} {α : Type} {K : Type} [DecidableEq K] {kv : K → Value} {e : α → AV} {l : List (K × α)} {k : K}
theorem kZ (hk:∀k,IsKey d (kv k)):oa d (ee kv e l):=oa.map (fun p:K×α=>kv p.1) (fun p=>e p.2) (fun p=>hk p.1) l
theorem vL (hinj:∀a b,kv a=kv b→a=b)(h:dx k l=none):∀r,entry (kv k) r∉ee kv e l:=by
  intro r hr
  obtain⟨p,hp,he⟩:=List.mem_map.1 hr
  have:=hinj _ _ (yx he).1
  exact yp.1 h (List.mem_map.2 ⟨p,hp,this⟩)
theorem jJ.cI (kv:K→Value)(e:α→AV)(l:List (K×α))(hT:jj P t d z)(hrows:yF m ym (ee kv e l))(hk:∀k,IsKey d (kv k))(hinj:∀a b,kv a=kv b→a=b)(hd:om N o.dst=true){zv:AV}(hz:ql z=zv)
    (h1:∀x,dx k l=some x→R (zj ym) (Ap c (e x) true) [] acc sl m) (h2:dx k l=none→R (zj ym) (Ap c zv false) [] acc sl m):jJ P N t c ym (.lit (kv k)) acc sl m (o:=o) (R:=R):=by
  cases hg:dx k l with
  |some x=>exact .yes hT hrows (hk k) (kZ hk) (List.mem_map.2 ⟨(k,x),Bu hg,rfl⟩) hd (h1 x hg)
  |none=>exact .no hT hrows (hk k) (kZ hk) (vL hinj hg) hd hz (h2 hg)
theorem rY.cI {tk:Nat}(kv:K→Value)(e:α→AV)(l:List (K×α))(x:α)(hT:jj P t d z)(hm:eC m tk=.live 2 (ee kv e l) false)(hk:∀k,IsKey d (kv k))(hinj:∀a b,kv a=kv b→a=b)(hroom:l.length+1<maxLen)(hd:om N o.dst=true)
    (h:R [tk] .any [(tk,.live 2 (ee kv e (eE k x l)) false)] acc sl m):rY P N t (.mapr tk) (.lit (kv k)) (e x) acc sl m (o:=o) (R:=R):=by
  cases hg:dx k l with
  | some y=>
    obtain⟨i,h1,h2⟩:=Ek (x:=x) (fun p:K×α=>entry (kv p.1) (e p.2)) hg
    refine .old hT hm (hk k) (kZ hk) i h1 hd ?_
    have:(ee kv e l).set i (entry (kv k) (e x))=ee kv e (eE k x l):=h2.symm
    rw[this];exact h
  | none=>
    refine .new hT hm (hk k) (kZ hk) (vL hinj hg) (by simpa[ee] using hroom) rfl hd ?_
    have:ee kv e l++ [entry (kv k) (e x)]=ee kv e (eE k x l):=by rw[sr hg];simp[ee]
    rw[this];exact h
end
theorem ko (s:ByteArray):IsKey .string (.string s):=trivial
theorem j1 (n:Int):IsKey (.int .i64) (.int .i64 n):=rfl
theorem j2 (a b:ByteArray)(h:Value.string a=.string b):a=b:=by cases h;rfl
theorem lj (a b:Int)(h:Value.int .i64 a=.int .i64 b):a=b:=by cases h;rfl
end Go.Am
namespace Go.Am
open Go
theorem nf {b:Bool}(h:b=false):(!b)=true:=by rw[h];rfl
theorem nt {b:Bool}(h:b=true):(!b)=false:=by rw[h];rfl
theorem aq (n:Nat):(NatCast.natCast n:Int)=(Nat.cast n:Int):=rfl
section
variable {P : Program} {N : Nat} {o : Oper} {f : FuncId} {args args' : List AV} {acc : Tk} {sl : SL} {m : ML} {R : Rest} {res : AV} {ins outs news : List MS}
@[reducible] def tB : Nat → Nat → List Nat → List (Nat × Nat)
  |_,_,[]=>[]
  | n,k,t::r=>match n with
    |0=>[]
    |n+1=>(k,t)::tB n (Nat.add k 1) r
theorem EL:∀ {n k:Nat} {l:List Nat} {i u:Nat},uH (tB n k l) i=some u→k≤i∧i-k<n∧l[i-k]? =some u
  |n,k,[],i,u,h=>by rw[tB] at h;cases h
  |0,k,t::r,i,u,h=>by rw[tB] at h;cases h
  | n +1,k,t::r,i,u,h=>by
    simp only[tB,uH] at h
    split at h
    · rename_i hb
      have:=beq_eq hb
      subst this
      cases h
      simp
    · rename_i hb
      obtain⟨a,b,c⟩:=EL h
      have a':k+1≤i:=a
      have b':i- (k+1)<n:=b
      refine⟨by omega,by omega,?_⟩
      rw[show i-k=(i- (k+1))+1 from by omega,List.getElem?_cons_succ]
      exact c
theorem Cv.Qu {mm:Nat→MS}{ρ ρ':Nat→Nat}{D D' F:Nat→Prop}(h:∀t,D t→D' t∧ρ t=ρ' t){x y:AV}(hc:Cv mm ρ D F x y):Cv mm ρ' D' F x y:=by
  induction hc with
  |any=>exact .any
  |same h=>exact .same h
  |own h1=>rw[(h _ h1).2];exact .own (h _ h1).1
  |ptr h1=>rw[(h _ h1).2];exact .ptr (h _ h1).1
  |mapr h1=>rw[(h _ h1).2];exact .mapr (h _ h1).1
  |fmap a b c d e f ih=>exact .fmap a b c d (fun i key key' x' x h1 h2=>ih i key key' x' x h1 h2) f
  |nil=>exact .nil
  |nilE=>exact .nilE
  |empS=>exact .empS
  |frz a b c d e _ g ih=>exact .frz a b c d e (fun q c d h1 h2=>ih q c d h1 h2) g
  |frzp a b c d _ g ih=>exact .frzp a b c d (fun q c d h1 h2=>ih q c d h1 h2) g
  |agg a _ ih=>exact .agg a (fun q c d h1 h2=>ih q c d h1 h2)
  |tup a _ ih=>exact .tup a (fun q c d h1 h2=>ih q c d h1 h2)
  |clo a b _ _ ih1 ih2=>exact .clo a b (fun q c d h1 h2=>ih1 q c d h1 h2) (fun q c d h1 h2=>ih2 q c d h1 h2)
@[reducible] def xA (names : List Nat) : Nat → AV → AV
  |0,x=>x
  | n +1,x=>match x with
    | .own t o l=>match k9 names t with
      |some u=>.own u o l
      |none=>.any
    | .ptr t i k=>match k9 names t with
      |some u=>.ptr u i k
      |none=>.any
    | .mapr t=>match k9 names t with
      |some u=>.mapr u
      |none=>.any
    |.agg cs=>.agg (fD (xA names n) cs)
    |.tup cs=>.tup (fD (xA names n) cs)
    |x=>x
theorem zO {mm:Nat→MS}{F:Nat→Prop}{names:List Nat}(hn:names.Nodup):∀ (n:Nat) (x:AV),JO n (gb names) x=true→Cv mm (names.idxOf ·) (· ∈names) F (xA names n x) x
  |0,x,h=>.same h
  | n + 1,x,h=>by
    have list:∀cs:List AV,nk (JO n (gb names)) cs=true→jh mm (names.idxOf ·) (· ∈names) F (fD (xA names n) cs) cs:=by
      intro cs
      induction cs with
      |nil=>intro _;exact .nil
      | cons c cs ih=>
        intro h
        simp only[nk] at h
        split at h
        ·rename_i h1;exact .cons (zO hn n c h1) (ih h)
        ·cases h
    have tk:∀t,t+1≤gb names→∃u,k9 names t=some u∧u∈names∧names.idxOf u=t:=by
      intro t ht
      rw[dz] at ht
      have hg:names[t]? =some (names[t]'ht):=aP _
      exact⟨_,by rw[jc];exact hg,bn hg,CQ hn hg⟩
    cases x with
    | own t o l=>
      obtain⟨u,h1,h2,h3⟩:=tk t (gp h)
      simp only[xA,h1]
      have:=Cv.own (m:=mm) (ρ:=(names.idxOf ·)) (D:=(· ∈names)) (F:=F) (t:=u) (o:=o) (l:=l) h2
      rwa [h3] at this
    | ptr t i k'=>
      obtain⟨u,h1,h2,h3⟩:=tk t (gp h)
      simp only[xA,h1]
      have:=Cv.ptr (m:=mm) (ρ:=(names.idxOf ·)) (D:=(· ∈names)) (F:=F) (t:=u) (i:=i) (k:=k') h2
      rwa [h3] at this
    | mapr t=>
      obtain⟨u,h1,h2,h3⟩:=tk t (gp h)
      simp only[xA,h1]
      have:=Cv.mapr (m:=mm) (ρ:=(names.idxOf ·)) (D:=(· ∈names)) (F:=F) (t:=u) h2
      rwa [h3] at this
    |agg cs=>exact .vf (list cs h)
    |tup cs=>exact .w9 (list cs h)
    |_=>exact .same h
@[reducible] def vr : List AV → List AV → Bool
  |[],[]=>true
  | x::xs,y::ys=>match uN (gb (dR x)) (gb (dR y)) with
    |true=>vr xs ys
    |false=>false
  |_,_=>false
theorem qI {wd:Nat}:∀ {xs ys:List AV},vr xs ys=true→bI wd ys→bI wd xs
  |[],[],_,h=>h
  | x ::xs,y::ys,h,hw=>by
    simp only[vr] at h
    split at h
    · rename_i h1
      have h1':=beq_eq (by rw[←eY];exact h1)
      rw[dz,dz,gQ,gQ] at h1'
      have ih:=qI h hw.tail.2
      intro i r hr
      cases i with
      |zero=>simp at hr;subst hr;rw[h1'];exact hw.tail.1
      |succ i=>exact ih i r (by simpa using hr)
    ·cases h
  |[],_::_,h,_=>by simp[vr] at h
  |_::_,[],h,_=>by simp[vr] at h
@[reducible] def Qp (cI : List (Nat × Nat)) (T : List Nat) (m : ML) (rows0 rows : List AV) : Prop := (rows0 = rows ∧ aU rows = true) ∨ (Cu (MF cI (RD T) m 12) rows0 rows ∧ vr rows0 rows = true)
@[reducible] def Ct (cI : List (Nat × Nat)) (T : List Nat) (m : ML) : List MS → List Nat → Prop
  |[],_=>True
  | s::r,t::q=>match s,eC m t with
    |.live wd rows0 false,.live wd' rows false=>(uN wd wd'=true∧Qp cI T m rows0 rows)∧Ct cI T m r q
    |_,_=>False
  |_::_,[]=>False
@[reducible] def En (m : ML) : List Nat → Bool
  |[]=>true
  | t::r=>match eC m t with
    |.free=>En m r
    |_=>false
theorem Bk {m:ML}:∀ {l:List Nat},En m l=true→∀t∈l,bg m t=.free
  |[],_,t,h=>by simp at h
  | u ::r,h,t,ht=>by
    simp only[En] at h
    split at h
    · rename_i hm
      rcases fj.1 ht with rfl|ht
      ·exact dh hm
      ·exact Bk h t ht
    ·cases h
@[reducible] def yb : Nat → List Nat → List Nat
  |_,[]=>[]
  | n,x::r=>match n with
    |0=>x::r
    |n+1=>yb n r
theorem Bl:∀ (n:Nat) (l:List Nat),yb n l=l.drop n
  |n,[]=>by rw[yb];simp
  |0,x::r=>by rw[yb];rfl
  |n+1,x::r=>by simp only[yb,List.drop_succ_cons];exact Bl n r
@[reducible] def qv (names : List Nat) : List MS → List MS → Prop
  |[],[]=>True
  | s::r,s'::r'=>match s,s' with
    |.dead,.dead=>qv names r r'
    |.live wd rows0 false,.live wd' rows false=>(uN wd' wd=true∧((rows=rows0∧aU rows0=true)∨(rows=fD (xA names 12) rows0∧nk (JO 12 (gb names)) rows0=true∧vr rows rows0=true)))∧qv names r r'
    |_,_=>False
  |_,_=>False
@[reducible] def F1 : List Nat → List MS → ML
  |t::r,s::q=>(t,s)::F1 r q
  |_,_=>[]
theorem D5:∀ (l:List Nat) (q:List MS),F1 l q=l.zip q
  |[],q=>by simp[F1]
  |t::r,[]=>by simp[F1]
  |t::r,s::q=>by simp only[F1,List.zip_cons_cons,D5 r q]
@[reducible] def vV : List Nat → Bool
  |[]=>true
  | t::r=>match sy r t with
    |true=>false
    |false=>vV r
theorem tJ:∀ {l:List Nat},vV l=true→l.Nodup
  |[],_=>.nil
  | t ::r,h=>by
    simp only[vV] at h
    split at h
    ·cases h
    · rename_i hm
      refine List.nodup_cons.2 ⟨fun hh=>?_,tJ h⟩
      rw[gA.2 hh] at hm;cases hm
@[reducible] def zM (names : List Nat) : List Nat → Bool
  |[]=>true
  | t::r=>match sy names t with
    |true=>false
    |false=>zM names r
theorem yX {names:List Nat}:∀ {l:List Nat},zM names l=true→∀t∈l,t∉names
  |[],_,t,h=>by simp at h
  | u ::r,h,t,ht=>by
    simp only[zM] at h
    split at h
    ·cases h
    · rename_i hm
      rcases fj.1 ht with rfl|ht
      ·intro hh;rw[gA.2 hh] at hm;cases hm
      ·exact yX h t ht
theorem A8 {mm:Nat→MS}{F:Nat→Prop}{names:List Nat}(hn:names.Nodup):∀ (cs:List AV),nk (JO 12 (gb names)) cs=true→jh mm (names.idxOf ·) (· ∈names) F (fD (xA names 12) cs) cs
  |[],_=>.nil
  | c::cs,h=>by
    simp only[nk] at h
    split at h
    ·rename_i h1;exact .cons (zO hn 12 c h1) (A8 hn cs h)
    ·cases h
theorem wS {mm:Nat→MS}{names:List Nat}(hn:names.Nodup):∀ {outs news:List MS},qv names outs news→news.length=outs.length∧∀ (k:Nat) (s:MS),news[k]? =some s→
    (∃wd rows rows0,s=.live wd rows false∧outs[k]? =some (.live wd rows0 false)∧(bI wd rows0→bI wd rows)∧jh mm (names.idxOf ·) (· ∈names) (fun _=>False) rows rows0)∨(s=.dead∧outs[k]? =some .dead)
  |[],[],_=>⟨rfl,fun k s h=>by simp at h⟩
  |s::r,[],h=>by cases s<;>simp[qv] at h
  |[],_::_,h=>by simp[qv] at h
  | s :: r,s'::r',h=>by
    simp only[qv] at h
    split at h
    · obtain⟨a,b⟩:=wS hn h
      refine⟨by simp[a],fun k s h=>?_⟩
      cases k with
      |zero=>simp at h;subst h;exact .inr ⟨rfl,rfl⟩
      |succ k=>simpa using b k s (by simpa using h)
    · rename_i wd rows0 wd' rows
      obtain⟨⟨hw,hr⟩,h⟩:=h
      have hw':=beq_eq (by rw[←eY];exact hw)
      subst hw'
      obtain⟨a,b⟩:=wS hn h
      refine⟨by simp[a],fun k s h=>?_⟩
      cases k with
      | zero=>
        simp at h;subst h
        refine .inl ⟨_,rows,rows0,rfl,rfl,?_⟩
        rcases hr with⟨rfl,h1⟩|⟨h1,h2,h3⟩
        ·exact⟨id,.same h1⟩
        ·exact⟨qI h3,h1▸A8 hn rows0 h2⟩
      |succ k=>simpa using b k s (by simpa using h)
    ·exact h.elim
theorem EU {cI:List (Nat×Nat)}{T:List Nat}{m:ML}{D:Nat→Prop}{ρ:Nat→Nat}(hw:∀t wd rows ro,eC m t=.live wd rows ro→t∈T→bI wd rows)(hD:∀t u,uH cI t=some u→D t∧jf cI t=ρ t):
    ∀ {ins:List MS} {names:List Nat},Ct cI T m ins names→ins.length≤names.length∧∀ (k:Nat) (s:MS) (t:Nat),ins[k]? =some s→names[k]? =some t→
      ∃wd rows rows0,s=.live wd rows0 false∧bg m t=.live wd rows false∧(bI wd rows→bI wd rows0)∧jh (bg m) ρ D (· ∈T) rows0 rows
  |[],names,_=>⟨by simp,fun k s t h=>by simp at h⟩
  |s::r,[],h=>by simp[Ct] at h
  | s :: r,t::q,h=>by
    simp only[Ct] at h
    split at h
    · rename_i wd rows0 wd' rows hm
      obtain⟨⟨hw1,hr⟩,h⟩:=h
      have hw':=beq_eq (by rw[←eY];exact hw1)
      subst hw'
      obtain⟨a,b⟩:=EU hw hD h
      refine⟨by simpa using a,fun k s t h1 h2=>?_⟩
      cases k with
      | zero=>
        simp at h1 h2;subst h1;subst h2
        refine⟨_,rows,rows0,rfl,dh hm,?_⟩
        rcases hr with⟨rfl,h1⟩|⟨h1,h3⟩
        ·exact⟨id,.same h1⟩
        · refine⟨qI h3,?_⟩
          have:=ng (D:=fun t=> ∃u,uH cI t=some u) (F:=(· ∈T)) (ρ:=jf cI) (mm:=bg m) (fun r x=>sH (fun t wd rows ro h1 h2=>hw t wd rows ro h1 (gA.1 h2)) (fun t u h=>⟨u,h⟩) (fun t wd rows ro _ h2=>gA.1 h2) 12 r x) h1
          exact⟨this.1,fun q c d e1 e2=>(this.2 q c d e1 e2).Qu fun t ⟨u,hu⟩=>hD t u hu⟩
      |succ k=>exact b k s t (by simpa using h1) (by simpa using h2)
    ·exact h.elim
theorem aD.lR (names T:List Nat)(hf:af P f ins args' outs res)(hc:ae P f)(ha:Cu (MF (tB (gb ins) 0 names) (RD T) m 12) args' args)
    (hi:Ct (tB (gb ins) 0 names) T m ins names) (hT:yd m T=true) (hs:(vV names=true∧zM names T=true)∧En m (yb (gb ins) names)=true) (hl:gb outs=gb names)
    (hn:qv names outs news) (hd:om N o.dst=true) (hp:JO 12 (gb names) res=true)
    (h:R (jI T names) (xA names 12 res) (jI (F1 names news) (fD (fun t=>(t,Pb (eC m t))) T)) acc sl m) (hib:Nat.ble (gb ins) lM=true:=by rfl):aD P N f args acc sl m (o:=o) (R:=R):=by
  intro hto
  have e:fD (fun t=>(t,Pb (eC m t))) T=T.map fun t=>(t,nF ((St sl m).mem t)):=by
    rw[eO];apply List.map_congr_left;intro t _;rw[mem_eq];rfl
  rw[e,iM,iM,D5] at h
  rw[dz] at hi ha hib
  rw[dz,Bl] at hs
  rw[dz,dz] at hl
  have hnd:=tJ hs.1.1
  obtain⟨n1,n2⟩:=wS (mm:=aW outs) hnd hn
  refine⟨_,_,_,aN.uU fun hsim=>?_,h⟩
  have hwd:∀t wd rows ro,eC m t=.live wd rows ro→t∈T→bI wd rows:=by
    obtain⟨w0,W0,L,μ,a,w,σ2,h1,h2⟩:=hsim
    exact EY (sl:=sl) rfl ⟨w0,W0,L,μ,a,w,σ2,fun t ht=>h1 t (by simp[ht]),h2⟩
  have hD:∀t u,uH (tB ins.length 0 names) t=some u→t<ins.length∧jf (tB ins.length 0 names) t=names.getD t 0:=by
    intro t u hu
    obtain⟨_,b,c⟩:=EL hu
    simp only[Nat.sub_zero] at b c
    exact⟨b,by simp[jf,hu,List.getD,c]⟩
  obtain⟨i1,i2⟩:=EU hwd hD hi
  refine aN.lR (P:=P) (N:=N) (o:=o) (σ:=St sl m) names T hto hc ?_ (fun t ht=>sM hT t ht) (yX hs.1.2) hnd (gp hib) i1 (by rw[n1,hl]) i2 (fun k t hk ht=>?_) hf n2 (zO hnd 12 res hp) (mT hd)
  · have:=ng (D:=fun t=> ∃u,uH (tB ins.length 0 names) t=some u) (F:=(· ∈T)) (ρ:=jf (tB ins.length 0 names)) (mm:=bg m) (fun r x=>sH (fun t wd rows ro h1 h2=>hwd t wd rows ro h1 (gA.1 h2)) (fun t u h=>⟨u,h⟩) (fun t wd rows ro _ h2=>gA.1 h2) 12 r x) ha
    exact⟨this.1,fun q c d e1 e2=>(this.2 q c d e1 e2).Qu fun t ⟨u,hu⟩=>hD t u hu⟩
  · refine Bk hs.2 t (bn (i:=k-ins.length) ?_)
    rw[List.getElem?_drop,show ins.length+ (k-ins.length)=k from by omega]
    exact ht
end
theorem mc.mk {s:ByteArray}{i:Int}{acc:Tk}{sl:SL}{m:ML}{A:Int→Tk→SL→ML→Prop}(k:Nat)(c:UInt8)(h0:i=k)(h1:s.data.toList[k]? =some c)(h:A c.toNat acc sl m):mc s i acc sl m (A:=A):=⟨k,c,h0,h1,h⟩
theorem vc.mk {s:ByteArray}{l h:Int}{acc:Tk}{sl:SL}{m:ML}{A:ByteArray→Tk→SL→ML→Prop}(a b:Nat)(h0:l=a)(h1:h=b)(h2:a≤b)(h3:b≤s.size)(hh:A (s.extract a b) acc sl m):vc s l h acc sl m (A:=A):=⟨a,b,h0,h1,h2,h3,hh⟩
theorem tS.mk {P:Program}{src dst:TypeId}{v:Value}{acc:Tk}{sl:SL}{m:ML}{A:Value→Tk→SL→ML→Prop}(r:Value)(hr:∀w,(convert src dst v).run P w=.ok r w)(h:A r acc sl m):tS P src dst v acc sl m (A:=A):=⟨r,hr,h⟩
theorem tS.int {P:Program}{src dst:TypeId}{k k':IntKind}{n:Int}{acc:Tk}{sl:SL}{m:ML}{A:Value→Tk→SL→ML→Prop}(hs:(P.underlying src).isSome=true)(hd:P.underlying dst=some (.int k'))(hn:k'.wrap n=n)(h:A (.int k' n) acc sl m):tS P src dst (.int k n) acc sl m (A:=A):=by
  refine⟨_,fun w=>?_,h⟩
  have hk:P.intKind dst=k':=by simp[Program.intKind,hd]
  have:=run_convert_int (P:=P) w src dst k n hs (by rw[hk];exact hd)
  rw[hk,hn] at this
  exact this
theorem wU.mk {P:Program}{src dst:TypeId}{rows:List AV}{off len:Nat}{acc:Tk}{sl:SL}{m:ML}{A:Value→Tk→SL→ML→Prop}(bs:List UInt8){e:TypeId}(h1:P.underlying src=some (.slice e))(h2:P.underlying e=some (.int .u8))(h3:P.underlying dst=some .string)(h4:len=bs.length)(h5:bs≠ [])
    (h6:∀ (i:Nat) (b:UInt8),bs[i]? =some b→(flat rows)[off+i]? =some (.lit (.int .u8 b.toNat))) (h:A (.string ⟨bs.toArray⟩) acc sl m):wU P src dst rows off len acc sl m (A:=A):=⟨bs,e,h1,h2,h3,h4,h5,h6,h⟩
theorem yU.mk {P:Program}{op:BinOp}{t:TypeId}{us vs:List Value}{acc:Tk}{sl:SL}{m:ML}{A:Bool→Tk→SL→ML→Prop}(b:Bool)(hr:∀ (y z:Operand) (w:World),((do eqGuard op t y z (.agg us.toArray) (.agg vs.toArray);binOp op t (.agg us.toArray) (.agg vs.toArray):Sem Value)).run P w=.ok (.bool b) w)(h:A b acc sl m):yU P op t us vs acc sl m (A:=A):=⟨b,hr,h⟩
end Go.Am
section
namespace Go.Am
open Go Go.RowKit Go.Lib
variable {P : Program}
theorem wrap_u8 {a:Int}(h:0≤a∧a<256):IntKind.i64.wrap a=a:=IntWalk.i64_in _ (by omega)
end Go.Am
namespace Go.Am
open Go Go.RowKit Go.Lib
section
variable {P : Program} {N : Nat} {w0 : World} {W0 : Nat → Prop} {L μ : Mu} {σ : aC} {a : Act} {w : World}
theorem BB {m:Nat→MS}{tb wd:Nat}{rows rows':List AV}{ro:Bool}(hm:m tb=.live wd rows ro):Wr W0 μ (bp m [(tb,.live wd rows' ro)])=Wr W0 μ m:=by
  have h :jB μ (bp m [(tb,.live wd rows' ro)])=jB μ m:=by
    funext b
    apply propext
    constructor
    · rintro⟨t,B,wd1,rows1,h1,h2⟩
      by_cases ht:t=tb
      · subst ht
        simp[bp] at h1
        obtain⟨rfl,rfl,rfl⟩:=h1
        exact⟨t,B,_,_,hm,h2⟩
      · simp[bp,ht] at h1
        exact⟨t,B,_,_,h1,h2⟩
    · rintro⟨t,B,wd1,rows1,h1,h2⟩
      by_cases ht:t=tb
      · subst ht
        rw[hm] at h1
        cases h1
        exact⟨t,B,wd,rows',by simp[bp],h2⟩
      ·exact⟨t,B,_,_,by simp[bp,ht];exact h1,h2⟩
  unfold Wr
  rw[h]
theorem cB.PN (h:cB P N w0 W0 L μ σ a w){tb wd:Nat}{rows rows':List AV}{ro:Bool}(hm:σ.mem tb=.live wd rows ro)
    (hob:∀B,μ tb=some B→fQ (Wr W0 μ σ.mem) μ w B wd rows ro→fQ (Wr W0 μ σ.mem) μ w B wd rows' ro):cB P N w0 W0 L μ ⟨σ.slots,bp σ.mem [(tb,.live wd rows' ro)]⟩ a w where
  tsize:=h.tsize
  defers:=h.defers
  os:=h.os
  tape:=h.tape
  output:=h.output
  hsize:=h.hsize
  shp:=h.shp
  keep:=h.keep
  w0lt:=h.w0lt
  lentμ:=h.lentμ
  free t:=by
    by_cases ht:t=tb
    ·subst ht;have:=h.free t;rw[hm] at this;simpa[bp] using this
    ·simpa[bp,ht] using h.free t
  slots i:=by rw[show(⟨σ.slots,bp σ.mem [(tb,.live wd rows' ro)]⟩:aC).mem=bp σ.mem [(tb,.live wd rows' ro)] from rfl,BB hm];exact h.slots i
  objs t wd1 rows1 ro1 h1:=by
    rw[show(⟨σ.slots,bp σ.mem [(tb,.live wd rows' ro)]⟩:aC).mem=bp σ.mem [(tb,.live wd rows' ro)] from rfl] at h1 ⊢
    rw[BB hm]
    by_cases ht:t=tb
    · subst ht
      simp[bp] at h1
      obtain⟨rfl,rfl,rfl⟩:=h1
      obtain⟨B,h2,h3⟩:=h.objs t _ _ _ hm
      exact⟨B,h2,hob B h2 h3⟩
    · simp[bp,ht] at h1
      exact h.objs t _ _ _ h1
  inj t t' wd1 rows1 wd2 rows2 ro2 B B' hne h1 h2 h3 h4:=by
    have key:∀u wd1 rows1 ro1,bp σ.mem [(tb,.live wd rows' ro)] u=.live wd1 rows1 ro1→∃wd2 rows2,σ.mem u=.live wd2 rows2 ro1:=by
      intro u wd1 rows1 ro1 hu
      by_cases ht:u=tb
      ·subst ht;simp[bp] at hu;exact⟨_,_,by rw[hm,hu.2.2]⟩
      ·simp[bp,ht] at hu;exact⟨_,_,hu⟩
    obtain⟨_,_,k1⟩:=key t _ _ _ h1
    obtain⟨_,_,k2⟩:=key t' _ _ _ h2
    exact h.inj t t' _ _ _ _ _ B B' hne k1 k2 h3 h4
  out t wd1 rows1 ro1 B h1:=by
    have h1':bp σ.mem [(tb,.live wd rows' ro)] t=.live wd1 rows1 ro1:=h1
    by_cases ht:t=tb
    ·subst ht;simp[bp] at h1';exact h.out t _ _ _ B (by rw[hm,h1'.2.2])
    ·simp[bp,ht] at h1';exact h.out t _ _ _ B h1'
  tabs:=h.tabs
theorem cB.k6 (h:cB P N w0 W0 L μ σ a w){d0 tb t wd wdt i i0 k0 j:Nat}{rows:List AV}{r r':AV}{ro:Bool}(hp:σ.slots d0=.ptr tb i0 k0)(hm:σ.mem tb=.live wd rows ro)(hr:rows[i]? =some r)(hj:(cells r)[j]? =some (.lit (.slice none 0 0)))
    (hc:cells r'=(cells r).set j (.own t 0 0)) (ht:σ.mem t=.free):
    cB P N w0 W0 L (bE μ t ⟨0,0,wdt,true,false⟩) ⟨σ.slots,bp (bp σ.mem [(t,.live wdt [] false)]) [(tb,.live wd (rows.set i r') ro)]⟩ a w:=by
  have h1:=h.pP (t:=t) (wd:=wdt) ht
  have hne:tb≠t:=fun e=>by rw[e,ht] at hm;cases hm
  refine h1.PN (σ:=⟨σ.slots,bp σ.mem [(t,.live wdt [] false)]⟩) (rows:=rows) (by simp[bp,hne];exact hm) fun B hB O=>?_
  have hmp:B.mp=false:=by
    have:=h1.slots d0
    rw[show(⟨σ.slots,bp σ.mem [(t,.live wdt [] false)]⟩:aC).slots d0=.ptr tb i0 k0 from hp] at this
    generalize a.tmps.getD d0 undef=v at this
    cases this with
    |ptr a1 ap=>rw[hB] at a1;cases a1;exact ap
  have hlen:(cells r').length=wd:=by rw[hc,List.length_set];exact O.wide i r hr
  exact {
    width:=O.width
    wide:=O.wide.set hlen
    blk:=fun hv hm'=>by rw[List.length_set];exact O.blk hv hm'
    virt:=fun hv=>by rw[O.real hr] at hv;cases hv
    cell :=fun _ q c hq=>by
      obtain⟨i',k,r2,rfl,h2,h3,_⟩:=p6 (O.wide.set hlen) hq
      have hil:=(aZ hr).1
      by_cases hi:i'=i
      · subst hi
        rw[List.getElem?_set_self hil] at h2
        cases h2
        rw[hc] at h3
        by_cases hk:k=j
        · subst hk
          rw[List.getElem?_set_self (aZ hj).1] at h3
          cases h3
          obtain⟨v,e1,e2⟩:=O.cell hmp _ _ (dV O.wide hr hj)
          cases e2
          exact⟨_,e1,.ownNil (B:=⟨0,0,wdt,true,false⟩) (by simp[bE])⟩
        · rw[List.getElem?_set_ne (by omega)] at h3
          exact O.cell hmp _ _ (dV O.wide hr h3)
      · rw[List.getElem?_set_ne (by omega)] at h2
        exact O.cell hmp _ _ (dV O.wide h2 h3)
    vm:=O.vm
    map:=fun hm'=>by rw[hmp] at hm';cases hm'}
end
theorem rJ {sl:SL}{m:ML}{t:Nat}{s:MS}:bp (St sl m).mem [(t,s)]=(St sl (kJ t s m)).mem:=by
  have h1:bp (St sl m).mem [(t,s)]=bg ([(t,s)]++m):=by
    have:=congrArg aC.mem (wu sl m [(t,s)] none .any)
    exact this
  rw[h1]
  funext i
  exact(tr [(t,s)] m i).symm
theorem aR.k6 {P:Program}{N nL:Nat}{sl:SL}{m:ML}{c:Code}{Q:Exit→SL→ML→Prop}(d0 tb t wdt i j:Nat)(r r':AV){i0 k0 wd:Nat}{rows:List AV}{ro:Bool}(hp:xp sl d0=.ptr tb i0 k0)(hm:eC m tb=.live wd rows ro)(hr:rows[i]? =some r)(hj:(cells r)[j]? =some (.lit (.slice none 0 0)))
    (hcell:cells r'=(cells r).set j (.own t 0 0)) (ht:eC m t=.free) (hc:aR P N nL sl (kJ tb (.live wd (rows.set i r') ro) (kJ t (.live wdt [] false) m)) (c:=c) (Q:=Q)):aR P N nL sl m (c:=c) (Q:=Q):=by
  intro rd hrd w0 W0 L μ a w hL hs
  have h1:=hs.k6 (d0:=d0) (tb:=tb) (t:=t) (wdt:=wdt) (i:=i) (j:=j) (r:=r) (r':=r') (by show cu sl d0=_;rw[←ju];exact hp) (dh hm) hr hj hcell (dh ht)
  rw[rJ,rJ] at h1
  exact hc rd hrd w0 W0 L _ a w hL h1
def BC (P:Program){ι:Type}(sl:SL)(m:ML){nL:Nat}{S:ι→SL}{M:ι→ML}{I:ι→Prop}{μ:ι→Nat}{i:ι}:Prop:=∃j,I j∧μ j<μ i∧jt P nL (St sl m) (St (S j) (M j))
theorem BC.mk {P:Program}{ι:Type}{sl:SL}{m:ML}{nL:Nat}{S:ι→SL}{M:ι→ML}{I:ι→Prop}{μ:ι→Nat}{i:ι}(j:ι)(h1:I j)(h2:μ j<μ i)(h3:Fit nL sl m (S j) (M j)):BC P sl m (nL:=nL) (S:=S) (M:=M) (I:=I) (μ:=μ) (i:=i):=⟨j,h1,h2,h3.A3⟩
theorem jt.k6 {P:Program}{nL:Nat}{sl:SL}{m:ML}(d0 tb t wdt i j:Nat)(r r':AV){i0 k0 wd:Nat}{rows:List AV}{ro:Bool}(hp:xp sl d0=.ptr tb i0 k0)(hm:eC m tb=.live wd rows ro)(hr:rows[i]? =some r)(hj:(cells r)[j]? =some (.lit (.slice none 0 0)))
    (hcell:cells r'=(cells r).set j (.own t 0 0)) (ht:eC m t=.free):jt P nL (St sl m) (St sl (kJ tb (.live wd (rows.set i r') ro) (kJ t (.live wdt [] false) m))):=by
  intro N w0 W0 L μ a w hL hs
  have h1:=hs.k6 (d0:=d0) (tb:=tb) (t:=t) (wdt:=wdt) (i:=i) (j:=j) (r:=r) (r':=r') (by show cu sl d0=_;rw[←ju];exact hp) (dh hm) hr hj hcell (dh ht)
  rw[rJ,rJ] at h1
  exact⟨_,h1⟩
theorem BC.k6 {P:Program}{ι:Type}{sl:SL}{m:ML}{nL:Nat}{S:ι→SL}{M:ι→ML}{I:ι→Prop}{μ:ι→Nat}{x:ι}(d0 tb t wdt i j:Nat)(r r':AV){i0 k0 wd:Nat}{rows:List AV}{ro:Bool}(hp:xp sl d0=.ptr tb i0 k0)(hm:eC m tb=.live wd rows ro)(hr:rows[i]? =some r)(hj:(cells r)[j]? =some (.lit (.slice none 0 0)))
    (hcell:cells r'=(cells r).set j (.own t 0 0)) (ht:eC m t=.free) (hc:BC P sl (kJ tb (.live wd (rows.set i r') ro) (kJ t (.live wdt [] false) m)) (nL:=nL) (S:=S) (M:=M) (I:=I) (μ:=μ) (i:=x)):BC P sl m (nL:=nL) (S:=S) (M:=M) (I:=I) (μ:=μ) (i:=x):=by
  obtain⟨y,h1,h2,h3⟩:=hc
  exact⟨y,h1,h2,(jt.k6 d0 tb t wdt i j r r' hp hm hr hj hcell ht).trans h3⟩
end Go.Am
end
namespace Go.Am
open Go Go.RowKit Go.Lib MapKept
section
variable {P : Program} {N : Nat} {o : Oper} {σ : aC}
end
section
variable {P : Program} {N : Nat} {o : Oper} {acc : Tk} {sl : SL} {m : ML} {R : Rest}
end
end Go.Am
namespace Go.Am
open Go
@[reducible] def qk (m' m : ML) : ML → List (Nat × Nat)
  |[]=>[]
  | (k,_)::r=>match xQ k with
    | true=>match eC m' k,eC m k with
      |.live _ rows' _,.live _ rows _=>jI (Dy (gX m' m 6) rows' rows) (qk m' m r)
      |_,_=>qk m' m r
    |false=>qk m' m r
section
variable {P : Program} {Γ : cT} {sl : SL} {m : ML}
@[reducible] def O1 (nL : Nat) (x : AV) (m : ML) (outs : List MS) (res : AV) : Prop :=
  (qH (fP (jI (gX (bX 0 outs) m 6 res x) (qk (bX 0 outs) m (mj nL (bX 0 outs)))) (bX 0 outs))=true∧ua m (fP (jI (gX (bX 0 outs) m 6 res x) (qk (bX 0 outs) m (mj nL (bX 0 outs)))) (bX 0 outs)) nL=true)∧
    MF (fP (jI (gX (bX 0 outs) m 6 res x) (qk (bX 0 outs) m (mj nL (bX 0 outs)))) (bX 0 outs)) (qz (fP (jI (gX (bX 0 outs) m 6 res x) (qk (bX 0 outs) m (mj nL (bX 0 outs)))) (bX 0 outs))) m 12 res x∧
    xj (fP (jI (gX (bX 0 outs) m 6 res x) (qk (bX 0 outs) m (mj nL (bX 0 outs)))) (bX 0 outs)) (qz (fP (jI (gX (bX 0 outs) m 6 res x) (qk (bX 0 outs) m (mj nL (bX 0 outs)))) (bX 0 outs))) m (bX 0 outs)
@[reducible] def L8 (Γ : cT) (nL : Nat) (rvs : List ResultVar) (outs : List MS) (res : AV) : SL × ML → Prop
  | (sl,m)=>match xF Γ sl m rvs with
    |some xs=>O1 nL (Jc xs) m outs res
    |none=>False
@[reducible] def Sb (Γ : cT) (nL : Nat) (rvs : List ResultVar) (outs : List MS) (res : AV) (e : Exit) (sl : SL) (m : ML) : Prop :=
  match e with
  |.normal=>L8 Γ nL rvs outs res (iB outs rvs (lX rvs res) sl m)
  |.ret=>L8 Γ nL rvs outs res (iB outs rvs (lX rvs res) sl m)
  |_=>False
theorem O1.end {nL:Nat}{x:AV}{outs:List MS}{res:AV}(h:O1 nL x m outs res){N:Nat}{w0:World}{W0:Nat→Prop}{L μ:Mu}{a:Act}{w:World}{v:Value}(hL:∀t,nL≤t→t<lM→L t=none)
    (hs:cB P N w0 W0 L μ (St sl m) a w) (hv:cH (Wr W0 μ (bg m)) μ w x v):∃μ',cB P 0 w0 W0 L μ' (bare outs) mh w∧cH (Wr W0 μ' (aW outs)) μ' w res v:=by
  obtain⟨⟨h1,h2⟩,h3,h4⟩:=h
  generalize ht:fP (jI (gX (bX 0 outs) m 6 res x) (qk (bX 0 outs) m (mj nL (bX 0 outs)))) (bX 0 outs)=cI at h1 h2 h3 h4
  have hk:∀i u,(i,u)∈cI→i∈ (bX 0 outs).map (·.1):=fun i u h=>by rw[←ht] at h;exact kP h
  have hD:∀t u,uH cI t=some u→bg (bX 0 outs) t≠ .free:=by
    intro t u ht e
    rcases js h4 t with⟨_,b⟩|⟨b,_⟩
    ·exact b (hk _ _ (lG ht))
    ·rw[e] at b;exact b
  have hw:=xj.AF hs h1 h2 hk (fun t h=>h) h4 (fun _=>.any) (fun i=>.any)
  have hcv:=sH (fun t wd rows ro h _=>BJ hs t wd rows ro h) hD (F:=fun t=>(∃wd rows ro,eC m t=.live wd rows ro)∧qz cI t=true) (fun t wd rows ro h1 h2=>⟨⟨wd,rows,ro,h1⟩,h2⟩) 12 _ _ h3
  obtain⟨μ',hs',hrep⟩:=hw.Ng hL hs (N':=0) (a':=mh) (.inr ⟨fun _=>rfl,rfl,rfl⟩)
  have e:bg (bX 0 outs)=aW outs:=by rw[og,j3]
  rw[e] at hs' hrep hcv
  exact⟨μ',hs',hrep _ _ _ hcv hv⟩
theorem af.OM {f:FuncId}{fn:Func}{c:Code}{ins outs:List MS}{args:List AV}{res:AV}{N:Nat}{rvs:List ResultVar}(Γ:cT)(hΓ:Γ.Good P)(hf:P.funcs[f]? =some fn)(hb:fn.body=some c)(hN:fn.ntmps=N)(hr:fn.results.toList=rvs)
    (hlen:Nat.ble (gb args) N=true) (h:Cj P N (gb ins) Γ c (BG 0 args) (bX 0 ins) (Sb Γ (gb ins) rvs outs res)):af P f ins args outs res:=by
  subst hN;subst hr
  have hlen:args.length≤fn.ntmps:=by rw[←dz];exact gp hlen
  intro w W0 L vs hL hs hr
  have h:=vG hΓ _ _ _ _ h
  rw[wC,og,dz] at h
  have hst:(⟨fun i=>args.getD i .any,aW ins⟩:aC)=St (tR 0 args) (rL 0 ins):=by
    unfold St
    congr 1
    ·funext i;rw[qQ];simp
    ·exact(j3 ins).symm
  have hsim:cB P fn.ntmps w W0 L L ⟨fun i=>args.getD i .any,aW ins⟩ {tmps:=vs.toArray++Array.replicate (fn.ntmps-vs.toArray.size) undef,defers:=[]} w:=by
    refine⟨?_,.nil,hs.os,hs.tape,hs.output,hs.hsize,hs.shp,hs.keep,hs.w0lt,hs.lentμ,hs.free,fun i=>?_,hs.objs,hs.inj,hs.out,hs.tabs⟩
    ·simp[hr.1];omega
    · by_cases hi:i<args.length
      · have h1:args[i]? =some args[i]:=aP hi
        have h2:vs[i]? =some (vs[i]'(by rw[hr.1];exact hi)):=aP _
        have:=hr.2 i _ _ h1 h2
        have hv:(vs.toArray++Array.replicate (fn.ntmps-vs.toArray.size) undef).getD i undef=vs[i]'(by rw[hr.1];exact hi):=by
          rw[Array.getD_eq_getD_getElem?,Array.getElem?_append_left (by simp;rw[hr.1];exact hi)]
          simp[h2]
        simp only[hv,List.getD_eq_getElem?_getD,h1,Option.getD_some]
        exact this
      · simp only[List.getD_eq_getElem?_getD,ri (Nat.le_of_not_lt hi),Option.getD_none]
        exact .any
  rw[hst] at hsim
  refine sS hf hb h (fun t ht=>hL t (by omega)) hsim (fun e σ' ⟨sl,m,_,hend⟩=>?_) ?_
  · cases e with
    |normal=>exact .inl rfl
    |ret=>exact .inr rfl
    |_=>exact hend.elim
  rintro e σ' μ' a' w' ⟨sl,m,rfl,hend⟩ hs' hd
  have key:L8 Γ ins.length fn.results.toList outs res (iB outs fn.results.toList (lX fn.results.toList res) sl m)→∃v,(results fn a'.tmps).run P w'=.ok v w'∧∃v_1 μ',Ending.returned v=.returned v_1∧cB P 0 w W0 L μ' (bare outs) mh w'∧cH (Wr W0 μ' (aW outs)) μ' w' res v_1:=by
    intro hend
    obtain⟨μ2,hs2⟩:=tv (outs:=outs) fn.results.toList (lX fn.results.toList res) sl m μ' hs'
    generalize iB outs fn.results.toList (lX fn.results.toList res) sl m=q at hend hs2
    obtain⟨sl2,m2⟩:=q
    simp only[L8] at hend
    split at hend
    · rename_i xs hxs
      have hres:=(AJ hΓ hxs).get
      obtain⟨v,v1,v2⟩:=um hs2 hres.1 hres.2
      rw[AS] at hend
      obtain⟨μ'',h1,h2⟩:=hend.end (fun t ht _=>hL t ht) hs2 v2
      exact⟨v,v1,v,μ'',rfl,h1,h2⟩
    ·exact hend.elim
  cases e with
  |normal=>exact key hend
  |ret=>exact key hend
  |_=>exact hend.elim
end
section
variable {P : Program} {N : Nat} {w0 : World} {W0 : Nat → Prop} {L μ : Mu} {σ : aC} {a : Act} {w : World}
end
mutual
/-- Its references are to objects with names below r. -/
def o5 (r:Nat):AV→Bool
  |.any=>true
  |.emp=>true
  |.guess _ _=>true
  |.lit _=>true
  |.sl _ _=>true
  |.own t _ _=>Nat.ble (t+1) r
  |.ptr t _ _=>Nat.ble (t+1) r
  |.fptr _ _=>true
  |.mapr t=>Nat.ble (t+1) r
  |.fmap _=>true
  |.agg cs=>lK r cs
  |.tup cs=>lK r cs
  |.clo _ a b=>lK r a&&lK r b
def lK (r:Nat):List AV→Bool
  |[]=>true
  |x::xs=>o5 r x&&lK r xs
end
mutual
theorem lI (r:Nat):∀x:AV,bt x=true→o5 r x=true
  |.any,_=>rfl
  |.emp,_=>rfl
  |.guess _ _,_=>rfl
  |.lit _,_=>rfl
  |.sl _ _,_=>rfl
  |.own _ _ _,h=>by simp[bt] at h
  |.ptr _ _ _,h=>by simp[bt] at h
  |.fptr _ _,_=>rfl
  |.mapr _,h=>by simp[bt] at h
  |.fmap _,_=>rfl
  |.agg cs,h=>by simp only[bt] at h;simp only[o5];exact iR r cs h
  |.tup cs,h=>by simp only[bt] at h;simp only[o5];exact iR r cs h
  | .clo f a b,h=>by
    simp only[bt,aT] at h
    simp only[o5,aT]
    exact⟨iR r a h.1,iR r b h.2⟩
theorem iR (r:Nat):∀xs:List AV,aU xs=true→lK r xs=true
  |[],_=>rfl
  | x::xs,h=>by
    simp only[aU,aT] at h
    simp only[lK,aT]
    exact⟨lI r x h.1,iR r xs h.2⟩
end
theorem kO {r:Nat}:∀ {xs:List AV},lK r xs=true→∀ {j:Nat} {c:AV},xs[j]? =some c→o5 r c=true
  |[],_,j,c,h=>by simp at h
  | x::xs,hx,0,c,h=>by
    simp only[lK,aT] at hx
    simp at h;subst h;exact hx.1
  | x::xs,hx,j+1,c,h=>by
    simp only[lK,aT] at hx
    exact kO hx.2 (by simpa using h)
structure Ez (r:Nat) (W:Nat→Prop) (μ:Mu) (w:World) (W':Nat→Prop) (μ':Mu) (w':World):Prop where
  size:w.heap.size≤w'.heap.size
  blk:∀b,¬W b→b<w.heap.size→w'.heap[b]? =w.heap[b]?
  shape:∀b e n,w.shape? b=some (e,n)→w'.shape? b=some (e,n)
  wr:∀b,b<w.heap.size→W' b→W b
  mu:∀t B,t<r→μ t=some B→μ' t=some B
theorem Ez.cell {r:Nat}{W W':Nat→Prop}{μ μ':Mu}{w w':World}(h:Ez r W μ w W' μ' w'){b q:Nat}(hb:¬W b)(hl:b<w.heap.size):w'.cell? ⟨b,q,none⟩=w.cell? ⟨b,q,none⟩:=
  World.cell?_of_block (h.blk b hb hl)
theorem cH.Nq {r:Nat}{W W':Nat→Prop}{μ μ':Mu}{w w':World}(g:Ez r W μ w W' μ' w'){x:AV}{v:Value}(h:cH W μ w x v):o5 r x=true→cH W' μ' w' x v:=by
  induction h with
  |any=>intro _;exact .any
  |lit=>intro _;exact .lit
  |guess h1 h2=>intro _;exact .guess h1 h2
  |emp=>intro _;exact .emp
  |slNil=>intro _;exact .slNil
  | sl hW hb hn hc hwd hcell _ hnr ih=>
    intro _
    exact .sl (fun h=>hW (g.wr _ hb h)) (lQ hb g.size) hn hc hwd (fun q c hq=>by rw[g.cell hW hb];exact hcell q c hq) (fun q c hq=>ih q c hq (lI r c (hnr c (bn hq)))) hnr
  |own hm hv hp hl hs ho=>intro hx;exact .own (g.mu _ _ (Nat.le_of_ble_eq_true hx) hm) hv hp hl (g.shape _ _ _ hs) ho
  |ownNil hm=>intro hx;exact .ownNil (g.mu _ _ (Nat.le_of_ble_eq_true hx) hm)
  |ptr hm hp=>intro hx;exact .ptr (g.mu _ _ (Nat.le_of_ble_eq_true hx) hm) hp
  |mapr hm hp=>intro hx;exact .mapr (g.mu _ _ (Nat.le_of_ble_eq_true hx) hm) hp
  | fmap hW hb h1 h2 h3 h4 h5 _ hn ih=>
    intro _
    refine .fmap (fun h=>hW (g.wr _ hb h)) (lQ hb g.size) (by rw[g.blk _ hW hb];exact h1) h2 h3 h4 h5 (fun i key x hi=>ih i key x hi ?_) hn
    have:=hn _ (bn hi)
    simp only[entry,Go.Am.bt,Go.Am.aU,Bool.and_true,Bool.true_and] at this
    exact lI r x this
  | fptr hW hb hcell _ hnr ih=>
    intro _
    exact .fptr (fun h=>hW (g.wr _ hb h)) (lQ hb g.size) (fun q c hq=>by rw[g.cell hW hb];exact hcell q c hq) (fun q c hq=>ih q c hq (lI r c (hnr c (bn hq)))) hnr
  |agg hl _ ih=>intro hx;exact .agg hl (fun j c v h1 h2=>ih j c v h1 h2 (kO hx h1))
  |tup hl _ ih=>intro hx;exact .tup hl (fun j c v h1 h2=>ih j c v h1 h2 (kO hx h1))
  | clo h1 h2 _ _ ih1 ih2=>
    intro hx
    simp only[o5,aT] at hx
    exact .clo h1 h2 (fun j c v a b=>ih1 j c v a b (kO hx.1 a)) (fun j c v a b=>ih2 j c v a b (kO hx.2 a))
noncomputable def qh (r:Nat) (μ:Mu) (m:Nat→MS):Mu:=fun t=>
  if t<r then μ t else if lM≤t then(match m (t-lM) with
    |.live _ _ false=>μ (t-lM)
    |_=>none) else none
section
variable {P : Program} {N : Nat} {w0 : World} {W0 : Nat → Prop} {L μ : Mu} {σ : aC} {a : Act} {w : World} {r : Nat}
theorem FQ (hr:r≤lM){b:Nat}(h:jB μ σ.mem b):xD (qh r μ σ.mem) b:=by
  obtain⟨t,B,wd,rows,h1,h2,h3,h4⟩:=h
  refine⟨lM+t,B,?_,h3,h4⟩
  unfold qh
  rw[if_neg (by omega),if_pos (by omega),show lM+t-lM=t by omega,h1]
  exact h2
theorem pJ (hlive:∀t,t<r→∃wd rows,σ.mem t=.live wd rows false){b:Nat}(h:xD (qh r μ σ.mem) b):jB μ σ.mem b:=by
  obtain⟨t,B,h1,h2,h3⟩:=h
  unfold qh at h1
  split at h1
  · rename_i ht
    obtain⟨wd,rows,hm⟩:=hlive t ht
    exact⟨t,B,wd,rows,hm,h1,h2,h3⟩
  · split at h1
    · split at h1
      · rename_i wd rows hm
        exact⟨_,B,wd,rows,hm,h1,h2,h3⟩
      ·cases h1
    ·cases h1
theorem cB.I7 (h:cB P N w0 W0 L μ σ a w)(hr:r≤lM)(hlive:∀t,t<r→∃wd rows,σ.mem t=.live wd rows false){sl:Nat→AV}{a':Act}(ha:a'.tmps.size=N)(hd:a'.defers=[])
    (hsl:∀i,cH (Wr W0 μ σ.mem) μ w (sl i) (a'.tmps.getD i undef)):cB P N {w with drawn:=1} W0 (qh r μ σ.mem) μ ⟨sl,σ.mem⟩ a' w where
  tabs :=by
    have:=h.sC (L':=qh r μ σ.mem) (fun b hb=>by
      obtain⟨t,B,wd,rows,h1,h2,rfl,h4⟩:=pJ (σ:=σ) hlive hb
      exact(h.out t wd rows false B h1 h2 h4).2 rfl)
    exact this
  tsize:=ha
  defers:=by rw[hd];exact .nil
  os:=rfl
  tape:=rfl
  output:=rfl
  hsize:=Nat.le_refl _
  shp _ _ _ hb:=hb
  keep _ _ _:=rfl
  w0lt b hb:=lQ (h.w0lt b hb) h.hsize
  lentμ t B hb hB:=by
    unfold qh at hB
    split at hB
    ·exact hB
    ·rw[if_neg (by omega)] at hB;cases hB
  free:=h.free
  slots:=hsl
  objs:=h.objs
  inj:=h.inj
  out t wd rows ro B h1 h2 h3:=⟨(h.out t wd rows ro B h1 h2 h3).1,fun hro=>.inr (FQ hr ⟨t,B,wd,rows,by rw[←hro];exact h1,h2,rfl,h3⟩)⟩
structure PV (P:Program) (N:Nat) (r:Nat) (w0:World) (W0:Nat→Prop) (L μ:Mu) (σ:aC) (w:World) (μ':Mu) (σ':aC) (w':World):Prop where
  keep:∀b,b<w.heap.size→¬jB μ σ.mem b→w'.heap[b]? =w.heap[b]?
  grow:Ez r (Wr W0 μ σ.mem) μ w (Wr W0 μ' σ'.mem) μ' w'
  Ng:∀ (sl:Nat→AV) (a':Act),a'.tmps.size=N→Marks w0 a'.defers w'→(∀i,cH (Wr W0 μ' σ'.mem) μ' w' (sl i) (a'.tmps.getD i undef))→cB P N w0 W0 L μ' ⟨sl,σ'.mem⟩ a' w'
theorem cB.Bx (h:cB P N w0 W0 L μ σ a w)(hL:∀t,r≤t→L t=none)(hr:r≤lM)(hlive:∀t,t<r→∃wd rows,σ.mem t=.live wd rows false){N':Nat}{μ':Mu}{σ':aC}{a':Act}{w':World}
    (k:cB P N' {w with drawn:=1} W0 (qh r μ σ.mem) μ' σ' a' w'):PV P N r w0 W0 L μ σ w μ' σ' w':=by
  have mineLent:∀b,jB μ σ.mem b→w0.heap.size≤b∨xD L b:=by
    rintro b ⟨t,B,wd,rows,h1,h2,rfl,h4⟩
    exact(h.out t wd rows false B h1 h2 h4).2 rfl
  have keep:∀b,b<w.heap.size→¬jB μ σ.mem b→w'.heap[b]? =w.heap[b]? :=fun b hb hm=>k.keep b hb fun hl=>hm (pJ hlive hl)
  have wr:∀b,b<w.heap.size→Wr W0 μ' σ'.mem b→Wr W0 μ σ.mem b:=by
    rintro b hb (hw|⟨t,B,wd,rows,h1,h2,rfl,h4⟩)
    ·exact .inl hw
    · rcases(k.out t wd rows false B h1 h2 h4).2 rfl with hh|hh
      · have:w.heap.size≤B.b:=hh
        omega
      ·exact .inr (pJ hlive hh)
  have mu:∀t B,t<r→μ t=some B→μ' t=some B:=fun t B ht hB=>k.lentμ t B (by omega) (by unfold qh;rw[if_pos ht];exact hB)
  refine⟨keep,⟨k.hsize,fun b hb hl=>keep b hl fun hm=>hb (.inr hm),k.shp,wr,mu⟩,fun sl a2 hN hd hsl=>?_⟩
  exact {
    tabs:=h.tabs
    tsize:=hN
    defers:=hd
    os:=k.os.trans h.os
    tape:=k.tape.trans h.tape
    output:=k.output.trans h.output
    hsize:=Nat.le_trans h.hsize k.hsize
    shp:=fun b e n hb=>k.shp b e n (h.shp b e n hb)
    keep :=fun b hb hl=>by
      rw[keep b (lQ hb h.hsize) ?_]
      ·exact h.keep b hb hl
      · intro hm
        rcases mineLent b hm with hh|hh
        ·omega
        ·exact hl hh
    w0lt:=h.w0lt
    lentμ:=fun t B hb hB=>mu t B (by
      rcases Nat.lt_or_ge t r with ht|ht
      ·exact ht
      ·rw[hL t ht] at hB;cases hB) (h.lentμ t B hb hB)
    free:=k.free
    slots:=hsl
    objs:=k.objs
    inj:=k.inj
    out:=fun t wd rows ro B h1 h2 h3=>⟨(k.out t wd rows ro B h1 h2 h3).1,fun hro=>by
      rcases(k.out t wd rows ro B h1 h2 h3).2 hro with hh|hh
      ·exact .inl (Nat.le_trans h.hsize hh)
      ·exact mineLent _ (pJ hlive hh)⟩}
end
def IJ (Wn:Nat→Prop)(w:World)(Wn':Nat→Prop)(w':World):Prop:=
  w.heap.size≤w'.heap.size∧(∀b,b<w.heap.size→¬Wn b→w'.heap[b]? =w.heap[b]?)∧∀b,b<w.heap.size→Wn' b→Wn b
def L1 (P:Program)(g:FuncId)(caps:List AV)(n:Nat)(enc:Nat→List AV):Prop:=
  ∀ (vals:List Value) (l:Nat) (J:Nat→(Nat→Prop)→World→Prop) (Jx:World→Prop),
    (∀k Wn W,J k Wn W→(∃μ,cz Wn μ W caps vals)∧k8 P W fun _=>none)→(∀k Wn W W',J k Wn W→lT W W'→J k Wn W')→(∀W W',Jx W→lT W W'→Jx W')→(∀k Wn W,J k Wn W→∀b,Wn b→b<W.heap.size)→
    (∀ k Wn W vs,k<n→J k Wn W→(∀Wn' μ,cz Wn' μ W caps vals→cz Wn' μ W (enc k) vs)→
      YieldAt Fence.wide 0 P l vs.toArray W fun e W'=>(e=.returned (.bool true)∧∃Wn',J (k+1) Wn' W'∧IJ Wn W Wn' W')∨(e=.returned (.bool false)∧Jx W'))→
    ∀Wn w,J 0 Wn w→Calls P g ((.func (.yield l) #[] #[])::vals).toArray w fun e w'=>(∃v,e=.returned v)∧((∃Wn',J n Wn' w')∨Jx w')
def Ij (P:Program)(r:Nat)(S:SL)(m':ML)(Q:Exit→aC→Prop)(e:Exit)(σ:aC):Prop:=
  match e with
  |.normal=>jt P r σ (St S m')
  |.ret=> ∃m,jt P r σ (St S m)∧Q .ret (St S m)
  |.exit id=> ∃m,jt P r σ (St S m)∧Q (.exit id) (St S m)
  |_=>False
def B7:List Tmp→List AV→SL→SL
  |p::ps,x::xs,sl=>(p,x)::B7 ps xs sl
  |_,_,sl=>sl
theorem zg:∀ (ps:List Tmp) (xs:List AV) (sl:SL) (i:Nat),ps.length=xs.length→ps.Nodup→cu (B7 ps xs sl) i=match ps.idxOf? i with
    |some j=>xs.getD j .any
    |none=>cu sl i
  |[],[],sl,i,_,_=>rfl
  | p ::ps,x::xs,sl,i,hl,hd=>by
    simp only[B7,cu,List.idxOf?_cons]
    by_cases h:i=p
    ·subst h;simp
    · have h1:(i==p)=false:=by simpa using h
      have h2:(p==i)=false:=by simpa using Ne.symm h
      rw[h1,h2]
      have ih:=zg ps xs sl i (by simpa using hl) (List.nodup_cons.1 hd).2
      simp only[Bool.false_eq_true,if_false]
      rw[ih]
      cases ps.idxOf? i<;>simp
  |p::ps,[],sl,i,hl,_=>by simp at hl
  |[],x::xs,sl,i,hl,_=>by simp at hl
theorem xK:∀ (ps:List Tmp) (vs:List Value) (t:Array Value),ps.length=vs.length→ps.Nodup→(∀p∈ps,p<t.size)→
    (∀ i,((ps.zip vs).foldl (fun t (x:Tmp×Value)=>t.setIfInBounds x.1 x.2) t).getD i undef=match ps.idxOf? i with
      |some j=>vs.getD j undef
      |none=>t.getD i undef)∧((ps.zip vs).foldl (fun t (x:Tmp×Value)=>t.setIfInBounds x.1 x.2) t).size=t.size
  |[],[],t,_,_,_=>⟨fun i=>rfl,rfl⟩
  | p :: ps,v::vs,t,hl,hd,hp=>by
    obtain⟨h1,h2⟩:=xK ps vs (t.setIfInBounds p v) (by simpa using hl) (List.nodup_cons.1 hd).2 (fun q hq=>by simpa using hp q (by simp[hq]))
    simp only[List.zip_cons_cons,List.foldl_cons]
    refine⟨fun i=>?_,by rw[h2];simp⟩
    rw[h1 i]
    simp only[List.idxOf?_cons]
    by_cases h:p=i
    · subst h
      have hn:ps.idxOf? p=none:=by
        rw[List.idxOf?_eq_none_iff];exact(List.nodup_cons.1 hd).1
      rw[hn]
      have hlt:=hp p (by simp)
      simp[hlt]
    · have h2:(p==i)=false:=by simpa using h
      rw[h2]
      simp only[Bool.false_eq_true,if_false]
      cases ps.idxOf? i with
      |none=>simp[Array.getElem?_setIfInBounds_ne h]
      |some j=>simp
  |p::ps,[],t,hl,_,_=>by simp at hl
  |[],v::vs,t,hl,_,_=>by simp at hl
theorem Cg {W:Nat→Prop}{μ:Mu}{w:World}{g:FuncId}{caps:List AV}{A B:Array Value}(h:cH W μ w (.clo (.func g) [] caps) (.func (.func g) A B)):A= #[]∧cz W μ w caps B.toList:=by
  generalize hv:Value.func (.func g) A B=v at h
  cases h with
  | @clo _ _ _ va vb h1 h2 h3 h4=>
    cases hv
    have e:va=[]:=List.eq_nil_of_length_eq_zero (by simpa using h1)
    exact⟨by rw[e],by show cz W μ w caps vb;exact⟨h2,h4⟩⟩
theorem AT {W:Nat→Prop}{μ:Mu}{w:World}{g:FuncId}{caps:List AV}{v:Value}(h:cH W μ w (.clo (.func g) [] caps) v):∃vals:List Value,v=.func (.func g) #[] vals.toArray:=by
  cases h with
  | @clo _ _ _ va vb h1 h2 h3 h4=>
    have e:va=[]:=List.eq_nil_of_length_eq_zero (by simpa using h1)
    exact⟨vb,by rw[e]⟩
theorem cB.Rf {P:Program}{N:Nat}{w0:World}{W0:Nat→Prop}{L μ:Mu}{σ:aC}{a:Act}{w:World}(h:cB P N w0 W0 L μ σ a w){b:Nat}(hb:Wr W0 μ σ.mem b):b<w.heap.size:=by
  rcases hb with hb|⟨t,B,wd,rows,m1,m2,rfl,hv⟩
  ·exact lQ (h.w0lt b hb) h.hsize
  · obtain⟨B',hB',hobj⟩:=h.objs t wd rows false m1
    rw[m2] at hB';cases hB'
    cases hmp:B.mp with
    |false=>obtain⟨C,e,fz,h3,_⟩:=hobj.blk hv hmp;exact(Array.getElem?_eq_some_iff.1 h3).1
    |true=>obtain⟨es,clock,h3,_⟩:=hobj.map hmp;exact(Array.getElem?_eq_some_iff.1 h3).1
set_option maxHeartbeats 2000000 in
/-- **A loop over a function.** S: what the frame's slots hold, in each round; M k: the objects when k rounds are over; those with names below r keep their names. -/
theorem gP.range {P:Program}{N nL:Nat}{σ:aC}{Q:Exit→aC→Prop}{f:Operand}{ps:Array Tmp}{assign body:Code}{g:FuncId}{caps:List AV}{n:Nat}{enc:Nat→List AV}
    (r:Nat) (S:SL) (M:Nat→ML) (hit:L1 P g caps n enc) (hg:ae P g) (h0:jt P nL σ (St S (M 0))) (hf:(St S (M 0)).eval f=.clo (.func g) [] caps)
    (hnL:nL≤r) (hr:r≤lM) (hlive:∀k,k≤n→∀t,t<r→∃wd rows,bg (M k) t=.live wd rows false) (hS:∀i,o5 r (cu S i)=true)
    (henc:∀k,k<n→(enc k).length=ps.size) (hnd:ps.toList.Nodup) (hlt:∀p∈ps.toList,p<N) (hpa:dB assign=true) (hpb:dB body=true)
    (hround:∀k,k<n→gP P N r assign (fun e σ'=>e=.normal∧(∀t,t<r→∃wd rows,σ'.mem t=.live wd rows false)∧gP P N r body (Ij P r S (M (k+1)) Q) σ') (St (B7 ps.toList (enc k) S) (M k)))
    (hdone:Q .normal (St S (M n))):gP P N nL (.rangeFunc f ps assign body) Q σ:=by
  intro rd hp w0 W0 L μ a w hL hs
  have hrd:rd=none:=hp.resolve_right (by simp[dB])
  subst hrd
  obtain⟨μ0,hs0⟩:=h0 N w0 W0 L μ a w (fun t h1 h2=>hL.1 t h1 (.inl h2)) hs
  have hLr:∀t,r≤t→L t=none:=fun t h=>hL.1 t (Nat.le_trans hnL h) (.inr rfl)
  have hdr:=hL.2 rfl
  have hfk:∀m,(St S m).eval f=.clo (.func g) [] caps:=fun m=>hf
  obtain⟨vals,hval⟩:=AT (by have:=hs0.eval f;rw[hfk] at this;exact this)
  refine wpIn_rangeFunc (F:=kY none) ?_
  intro fn _
  obtain⟨rec,hrec⟩:∃rec:LoopState→Option Code→Loop,rec=fun st pe=>{state:=st,pending:=pe,fn,tmps:=a.tmps,params:=ps,assign,body,defers:=w.heap.size}:=⟨_,rfl⟩
  obtain⟨W1,hW1⟩:∃W1,(w.alloc (.deferred (some []))).alloc (.loop (rec .ready none))=W1:=⟨_,rfl⟩
  have hmore:lT w W1:=by rw[←hW1];exact(lT.alloc _).trans (lT.alloc _)
  have hl1:W1.heap[w.heap.size+1]? =some (.loop (rec .ready none)):=by
    rw[←hW1];have:=World.alloc_heap_new (w.alloc (.deferred (some []))) (.loop (rec .ready none));rwa [World.size_alloc] at this
  have hD1:W1.heap[w.heap.size]? =some (.deferred (some [])):=by
    rw[←hW1,(lT.alloc (w:=w.alloc (.deferred (some []))) (.loop (rec .ready none))).blk _ (by simp)]
    exact World.alloc_heap_new w _
  have hDge:w0.heap.size≤w.heap.size:=hs0.hsize
  let J:Nat→(Nat→Prop)→World→Prop:=fun k Wn W=> ∃μk,cB P N w0 W0 L μk (St S (M k)) a W∧Wn=Wr W0 μk (bg (M k))∧W.heap[w.heap.size+1]? =some (.loop (rec .ready none))∧W.heap[w.heap.size]? =some (.deferred (some []))∧k≤n
  let Jx:World→Prop:=fun W=> ∃c e m μk,cB P N w0 W0 L μk (St S m) a W∧W.heap[w.heap.size+1]? =some (.loop (rec .done (some c)))∧W.heap[w.heap.size]? =some (.deferred (some []))∧(c=.ret∧e=.ret∨∃id,c=.exit id∧e=.exit id)∧Q e (St S m)
  have hcaps:∀k Wn W,J k Wn W→(∃μ,cz Wn μ W caps vals)∧k8 P W fun _=>none:=by
    rintro k Wn W ⟨μk,h1,rfl,_⟩
    have h2:=h1.eval f
    rw[hfk,hval] at h2
    have h3:cz (Wr W0 μk (St S (M k)).mem) μk W caps vals:=by simpa using(Cg h2).2
    exact⟨⟨μk,h3⟩,h1.sC fun b h=>by obtain⟨_,_,h,_⟩:=h;cases h⟩
  have hbk:∀ {W W':World} {b:Nat} {o:Obj},lT W W'→W.heap[b]? =some o→W'.heap[b]? =some o:=fun m h=>by rw[m.blk _ (Array.getElem?_eq_some_iff.1 h).1];exact h
  have key:=hit vals (w.heap.size+1) J Jx hcaps
    (by rintro k Wn W W' ⟨μk,h1,h2,h3,h4,h5⟩ m;exact⟨μk,h1.more m,h2,hbk m h3,hbk m h4,h5⟩)
    (by rintro W W' ⟨c,e,m',μk,h1,h2,h3,h4⟩ m;exact⟨c,e,m',μk,h1.more m,hbk m h2,hbk m h3,h4⟩)
    (by rintro k Wn W ⟨μk,h1,rfl,_⟩ b hb;exact h1.Rf hb)
    ?round _ W1 ⟨μ0,hs0.more hmore,rfl,hl1,hD1,Nat.zero_le _⟩
  case round =>
    rintro k Wn W vs hk ⟨μk,hsk,rfl,hl,hD,hkn⟩ hvs
    have hrep:cz (Wr W0 μk (bg (M k))) μk W (enc k) vs:=by
      refine hvs _ _ ?_
      have h2:=hsk.eval f
      rw[hfk,hval] at h2
      have h3:cz (Wr W0 μk (St S (M k)).mem) μk W caps vals:=by simpa using(Cg h2).2
      exact h3
    have hvl:vs.length=ps.toList.length:=by rw[hrep.1,henc k hk];simp
    obtain⟨hget,hsz⟩:=xK ps.toList vs a.tmps hvl.symm hnd (fun p hp=>by rw[hsk.tsize];exact hlt p hp)
    have hfold:(ps.zip vs.toArray).foldl (fun tmps (t,a)=>tmps.setIfInBounds t a) a.tmps=(ps.toList.zip vs).foldl (fun t (x:Tmp×Value)=>t.setIfInBounds x.1 x.2) a.tmps:=by
      rw[←Array.foldl_toList];simp
    have hlk:∀t,t<r→∃wd rows,(St S (M k)).mem t=.live wd rows false:=hlive k hkn
    have hreb:=hsk.I7 (sl:=(St (B7 ps.toList (enc k) S) (M k)).slots) (a':={tmps:=(ps.toList.zip vs).foldl (fun t (x:Tmp×Value)=>t.setIfInBounds x.1 x.2) a.tmps,defers:=[]}) hr hlk
      (by rw [hsz];exact hsk.tsize) rfl (fun i=>by
        show cH _ _ _ (cu (B7 ps.toList (enc k) S) i) _
        rw[zg _ _ _ _ (by rw[←hvl,hrep.1]) hnd,hget i]
        cases hj:ps.toList.idxOf? i with
        |none=>exact hsk.slots i
        | some j=>
          simp only
          rcases Nat.lt_or_ge j (enc k).length with h|h
          · rw[List.getD_eq_getElem?_getD,aP h,List.getD_eq_getElem?_getD,aP (by rw[hrep.1];exact h)]
            exact hrep.2 j _ _ (aP h) (aP _)
          ·rw[List.getD_eq_getElem?_getD,ri h];exact .any)
    have hargs:vs.toArray.size=(rec .ready none).params.size:=by rw[hrec];simpa using hvl
    have hy:=run_yield (P:=P) (args:=vs.toArray) hl hargs
    rw[hrec] at hy
    simp only at hy
    rw[hfold] at hy
    refine⟨fn,_,assign,body,hy,roundIn_of_wpIn trivial ?_⟩
    have hrebL:∀t,r≤t→(t<lM∨(some (w.heap.size+1):Option Nat)=none)→qh r μk (bg (M k)) t=none:=fun t h1 h2=>by
      unfold qh
      rcases h2 with h2|h2
      ·rw[if_neg (by omega),if_neg (by omega)]
      ·cases h2
    have ha:=hround k hk (some (w.heap.size+1)) (.inr hpa) {W with drawn:=1} W0 (qh r μk (bg (M k))) μk _ W ⟨hrebL,fun h=>by cases h⟩ hreb
    refine wpIn_mono (F:=kY (some (w.heap.size+1))) ha ?_
    rintro e a1 Wa ⟨μ1,σ1,⟨rfl,hlive1,hb⟩,hs1⟩
    have U1:=hsk.Bx hLr hr hlk hs1
    have hd1:a1.defers=[]:=hs1.defers.1 (Nat.succ_ne_zero 0)
    have notMine:∀ {b:Nat} {o:Obj} {μ':Mu} {σ':aC} {a':Act} {W':World},cB P N w0 W0 L μ' σ' a' W'→W'.heap[b]? =some o→BF o=true→¬jB μ' σ'.mem b:=by
      rintro b o μ' σ' a' W' hs' ho hbo ⟨t,B,wd,rows,m1,m2,rfl,hv⟩
      obtain⟨B',hB',hobj⟩:=hs'.objs t wd rows false m1
      rw[m2] at hB';cases hB'
      cases hmp:B.mp with
      |false=>obtain⟨C,e,fz,h3,_⟩:=hobj.blk hv hmp;rw[ho] at h3;cases h3;cases hbo
      |true=>obtain⟨es,clock,h3,_⟩:=hobj.map hmp;rw[ho] at h3;cases h3;cases hbo
    have ltOf:∀ {b:Nat} {o:Obj} {W':World},W'.heap[b]? =some o→b<W'.heap.size:=fun h=>(Array.getElem?_eq_some_iff.1 h).1
    have hla:Wa.heap[w.heap.size+1]? =some (.loop (rec .ready none)):=by rw[U1.keep _ (ltOf hl) (notMine hsk hl rfl)];exact hl
    have hDa:Wa.heap[w.heap.size]? =some (.deferred (some [])):=by rw[U1.keep _ (ltOf hD) (notMine hsk hD rfl)];exact hD
    -- what the frame itself holds
    have out1:∀i,cH (Wr W0 μ1 σ1.mem) μ1 Wa (cu S i) (a.tmps.getD i undef):=fun i=>(hsk.slots i).Nq U1.grow (hS i)
    have mk1:Marks w0 a.defers Wa:=hsk.defers.keep fun E _ h2=>by rw[U1.keep E (ltOf h2) (notMine hsk h2 rfl)];exact h2
    have sa:cB P N w0 W0 L μ1 ⟨cu S,σ1.mem⟩ a Wa:=U1.Ng _ a hsk.tsize mk1 out1
    -- the round is on
    have tb:eI (w.heap.size+1) Wa (Wa.putObj (w.heap.size+1) (.loop {rec .ready none with state:=.busy})):=eI.put hla rfl
    obtain⟨Wb,hWb⟩:∃Wb,Wa.putObj (w.heap.size+1) (.loop {rec .ready none with state:=.busy})=Wb:=⟨_,rfl⟩
    rw[hWb] at tb
    have hlb:Wb.heap[w.heap.size+1]? =some (.loop {rec .ready none with state:=.busy}):=by rw[←hWb];exact World.putObj_heap_same (ltOf hla)
    have hDb:Wb.heap[w.heap.size]? =some (.deferred (some [])):=by rw[tb.blk _ (by omega)];exact hDa
    refine⟨Wb,by rw[←hWb];exact run_beginRound hla (by rw[hrec]),?_⟩
    have mkb:Marks w0 a.defers Wb:=mk1.keep fun E h1 h2=>by
      rw[tb.blk E (fun e=>by rw[e,hla] at h2;cases h2)];exact h2
    have sb:cB P N w0 W0 L μ1 ⟨cu S,σ1.mem⟩ a Wb:=sa.uD tb (by omega) mkb
    have slot1:∀i,cH (Wr W0 μ1 σ1.mem) μ1 Wb (σ1.slots i) (a1.tmps.getD i undef):=fun i=>(hs1.slots i).uD tb
    have hrb:=sb.I7 (sl:=σ1.slots) (a':=a1) hr hlive1 hs1.tsize hd1 slot1
    have hrebL1:∀t,r≤t→(t<lM∨(some (w.heap.size+1):Option Nat)=none)→qh r μ1 σ1.mem t=none:=fun t h1 h2=>by
      unfold qh
      rcases h2 with h2|h2
      ·rw[if_neg (by omega),if_neg (by omega)]
      ·cases h2
    refine wpIn_mono (F:=kY (some (w.heap.size+1))) (hb (some (w.heap.size+1)) (.inr hpb) {Wb with drawn:=1} W0 (qh r μ1 σ1.mem) μ1 a1 Wb ⟨hrebL1,fun h=>by cases h⟩ hrb) ?_
    rintro e a2 Wc ⟨μ2,σ2,he,hs2⟩
    -- the round is over
    have fin:∀ (mm:ML),jt P r σ2 (St S mm)→∃μ3,(∀b,b<Wb.heap.size→¬jB μ1 σ1.mem b→Wc.heap[b]? =Wb.heap[b]?)∧(∀b,b<Wb.heap.size→Wr W0 μ3 (bg mm) b→Wr W0 μ1 σ1.mem b)∧
        Wc.heap[w.heap.size+1]? =some (.loop {rec .ready none with state:=.busy})∧Wc.heap[w.heap.size]? =some (.deferred (some []))∧cB P N w0 W0 L μ3 (St S mm) a Wc∧Wb.heap.size≤Wc.heap.size:=by
      intro mm hsits
      obtain⟨μ3,hs3⟩:=hsits N _ W0 (qh r μ1 σ1.mem) μ2 a2 Wc (fun t h1 h2=>hrebL1 t h1 (.inl h2)) hs2
      have U2:=sb.Bx hLr hr hlive1 hs3
      have hDc:Wc.heap[w.heap.size]? =some (.deferred (some [])):=by rw[U2.keep _ (ltOf hDb) (notMine sb hDb rfl)];exact hDb
      refine⟨μ3,U2.keep,U2.grow.wr,by rw[U2.keep _ (ltOf hlb) (notMine sb hlb rfl)];exact hlb,hDc,?_,U2.grow.size⟩
      exact U2.Ng _ a hsk.tsize (mkb.keep fun E _ h2=>by rw[U2.keep E (ltOf h2) (notMine sb h2 rfl)];exact h2) (fun i=>((out1 i).uD tb).Nq U2.grow (hS i))
    have over:∀ (jump:Option Code) (mm:ML),jt P r σ2 (St S mm)→∃μ3 Wd,(Instr.endRound (w.heap.size+1) jump).run P Wc=.ok (.bool jump.isNone) Wd∧cB P N w0 W0 L μ3 (St S mm) a Wd∧
        Wd.heap[w.heap.size+1]? =some (.loop (rec (if jump.isNone then .ready else .done) jump))∧Wd.heap[w.heap.size]? =some (.deferred (some []))∧
        (jump=none→IJ (Wr W0 μk (bg (M k))) W (Wr W0 μ3 (bg mm)) Wd):=by
      intro jump mm hsits
      obtain⟨μ3,keep2,wr2,hlc,hDc,s3,hsz3⟩:=fin mm hsits
      have hend:=run_endRound (P:=P) jump hlc
      have td:eI (w.heap.size+1) Wc (Wc.putObj (w.heap.size+1) (.loop { {rec .ready none with state:=.busy} with state:=if jump.isNone then .ready else .done,pending:=jump})):=eI.put hlc rfl
      obtain⟨Wd,hWd⟩:∃Wd,Wc.putObj (w.heap.size+1) (.loop { {rec .ready none with state:=.busy} with state:=if jump.isNone then .ready else .done,pending:=jump})=Wd:=⟨_,rfl⟩
      rw[hWd] at td
      have hld:Wd.heap[w.heap.size+1]? =some (.loop (rec (if jump.isNone then .ready else .done) jump)):=by
        rw[←hWd,World.putObj_heap_same (ltOf hlc),hrec]
      refine⟨μ3,Wd,by rw[←hWd];exact hend,s3.uD td (by omega) (s3.defers.keep fun E h1 h2=>?_),hld,by rw[td.blk _ (by omega)];exact hDc,fun hj=>?_⟩
      ·rw[td.blk E (fun e=>by rw[e,hlc] at h2;cases h2)];exact h2
      · have hsz1:W.heap.size≤Wa.heap.size:=hs1.hsize
        have hsz2:Wb.heap.size=Wa.heap.size:=tb.size
        refine⟨by rw[td.size];omega,fun b hb hn=>?_,fun b hb hw=>?_⟩
        · by_cases hbl:b=w.heap.size+1
          · subst hbl
            rw[hld,hl,hj];rfl
          · have h1:¬jB μk (bg (M k)) b:=fun h=>hn (.inr h)
            have h2:¬jB μ1 σ1.mem b:=fun h=>hn (U1.grow.wr b hb (.inr h))
            rw[td.blk b hbl,keep2 b (by omega) h2,tb.blk b hbl,U1.keep b hb h1]
        ·exact U1.grow.wr b hb (wr2 b (by omega) hw)
    cases e with
    | normal=>
      obtain⟨μ3,Wd,h1,h2,h3,h4,h5⟩:=over none (M (k+1)) he
      exact⟨_,Wd,h1,.inl ⟨rfl,_,⟨μ3,h2,rfl,h3,h4,hk⟩,h5 rfl⟩⟩
    | ret=>
      obtain⟨mm,hm,hq⟩:=he
      obtain⟨μ3,Wd,h1,h2,h3,h4,h5⟩:=over (some .ret) mm hm
      exact⟨_,Wd,h1,.inr ⟨rfl,.ret,.ret,mm,μ3,h2,h3,h4,.inl ⟨rfl,rfl⟩,hq⟩⟩
    | exit id=>
      obtain⟨mm,hm,hq⟩:=he
      obtain⟨μ3,Wd,h1,h2,h3,h4,h5⟩:=over (some (.exit id)) mm hm
      exact⟨_,Wd,h1,.inr ⟨rfl,.exit id,.exit id,mm,μ3,h2,h3,h4,.inr ⟨id,rfl,rfl⟩,hq⟩⟩
    |goto t=>exact he.elim
    |panic c=>exact he.elim
    |outgrown=>exact he.elim
  have hres:(resolve a.eval (rangeCall f (w.heap.size+1)) 0).run P W1=.ok {target:=.fn (.func g) vals.toArray,args:= #[.func (.yield (w.heap.size+1)) #[] #[]]} W1:=by
    simp only[resolve,hval]
    simp[go_sem]
  refine⟨w.heap.size+1,[{target:=.collected w.heap.size,args:= #[]}],W1,{target:=.fn (.func g) vals.toArray,args:= #[.func (.yield (w.heap.size+1)) #[] #[]]},W1,g,
    #[.func (.yield (w.heap.size + 1)) #[] #[]] ++ vals.toArray, W1, ?_, hres, fun _ _ => trivial, ?_, fun h => (by cases h), ?_⟩
  ·rw[←hW1,hrec];exact run_enterLoop_outer _ _ _ _ _
  ·simp[invoke,go_sem,hg _ _]
  have eargs:(#[.func (.yield (w.heap.size+1)) #[] #[]]++vals.toArray:Array Value)=(.func (.yield (w.heap.size+1)) #[] #[]::vals).toArray:=by simp
  rw[eargs]
  refine qy (key.mono ?_)
  have hmark:∀ {W W':World} {μ':Mu} {σ':aC},cB P N w0 W0 L μ' σ' a W→eI (w.heap.size+1) W W'→W.heap[w.heap.size]? =some (.deferred (some []))→(∃o,W.heap[w.heap.size+1]? =some (.loop o))→
      cB P N w0 W0 L μ' σ' {a with defers:=[{target:=.collected w.heap.size,args:= #[]}]++a.defers} W':=by
    rintro W W' μ' σ' h t hD ⟨o,hl⟩
    refine h.uD t (by omega) ⟨fun h0=>absurd hdr h0,?_⟩
    obtain⟨_,Ds,d1,d2,d3⟩:=hs.defers
    obtain⟨_,Es,e1,e2,e3⟩:=h.defers
    have hE:Es=Ds:=by
      have:Es.map tG=Ds.map tG:=by rw[←e1,←d1]
      exact(List.map_inj_right (fun x y hxy=>by simpa[tG] using hxy)).1 this
    refine⟨w.heap.size::Ds,by rw[d1];rfl,List.nodup_cons.2 ⟨fun hm=>?_,d2⟩,fun D hD'=>?_⟩
    ·have:=(Array.getElem?_eq_some_iff.1 (d3 _ hm).2).1;omega
    · rcases fj.1 hD' with rfl|hm
      ·exact⟨hDge,by rw[t.blk _ (by omega)];exact hD⟩
      · have h3:=e3 D (by rw[hE];exact hm)
        exact⟨h3.1,by rw[t.blk D (fun e=>by rw[e,hl] at h3;cases h3.2)];exact h3.2⟩
  rintro e W2 ⟨⟨v,rfl⟩,⟨Wn',μk,h1,_,h3,h4,_⟩|⟨c,e',mm,μk,h1,h2,h3,h4,h5⟩⟩
  · have hend:=run_endLoop (P:=P) h3 (by rw[hrec];simp)
    have e0:(rec .ready none).pending=none:=by rw[hrec]
    rw[e0] at hend
    refine⟨none,_,hend,μk,_,hdone,hmark h1 (eI.put h3 rfl) h4 ⟨_,h3⟩⟩
  · have hend:=run_endLoop (P:=P) h2 (by rw[hrec];simp)
    have e0:(rec .done (some c)).pending=some c:=by rw[hrec]
    rw[e0] at hend
    refine⟨some c,_,hend,?_⟩
    have hsim:=fun o'=>hmark h1 (eI.put h2 (o':=o') rfl) h3 ⟨_,h2⟩
    rcases h4 with⟨rfl,rfl⟩|⟨id,rfl,rfl⟩
    ·exact wpIn_ret ⟨μk,_,h5,hsim _⟩
    ·exact wpIn_exit ⟨μk,_,h5,hsim _⟩
@[reducible] def zA (m : ML) : Nat → Bool
  |0=>true
  | r +1=>match eC m r with
    | .live _ _ ro=>match ro with
      |true=>false
      |false=>zA m r
    |_=>false
theorem xg {m:ML}:∀ {r:Nat},zA m r=true→∀t,t<r→∃wd rows,bg m t=.live wd rows false
  |0,_,t,h=>by omega
  | r + 1, h,t,ht=>by
    simp only[zA] at h
    split at h
    · rename_i wd rows ro hm
      split at h
      ·cases h
      · rcases Nat.lt_or_ge t r with h1|h1
        ·exact xg h t h1
        · have:t=r:=by omega
          subst this
          exact⟨wd,rows,dh hm⟩
    ·cases h
@[reducible] def My : List Tmp → List AV → SL → SL
  |p::ps,x::xs,sl=>(p,x)::My ps xs sl
  |_,_,sl=>sl
theorem Eo:∀ (ps:List Tmp) (xs:List AV) (sl:SL),My ps xs sl=B7 ps xs sl
  |[],[],_=>rfl
  |[],_::_,_=>rfl
  |_::_,[],_=>rfl
  |p::ps,x::xs,sl=>by simp only[My,B7,Eo ps xs sl]
def Bt (nL:Nat)(sl:SL)(m:ML)(S:SL)(m':ML):Prop:=Fit nL sl m S m'
theorem Bt.mk {nL:Nat}{sl:SL}{m:ML}{S:SL}{m':ML}(h:Fit nL sl m S m'):Bt nL sl m S m':=h
def EZ (nL:Nat)(sl:SL)(m:ML)(S:SL){A:ML→Prop}:Prop:=∃m',Fit nL sl m S m'∧A m'
theorem EZ.mk {nL:Nat}{sl:SL}{m:ML}{S:SL}{A:ML→Prop}(m':ML)(h:Fit nL sl m S m')(ha:A m'):EZ nL sl m S (A:=A):=⟨m',h,ha⟩
@[reducible] def P5 (r : Nat) (S : SL) (m' : ML) (Q : Exit → SL → ML → Prop) (e : Exit) (sl : SL) (m : ML) : Prop :=
  match e with
  |.normal=>Bt r sl m S m'
  |.ret=>EZ r sl m S (A:=fun m'=>Q .ret S m')
  |.exit id=>EZ r sl m S (A:=fun m'=>Q (.exit id) S m')
  |_=>False
def Bz (r:Nat)(sl:SL)(m:ML){A:SL→ML→Prop}:Prop:=zA m r=true∧A sl m
theorem Bz.mk {r:Nat}{sl:SL}{m:ML}{A:SL→ML→Prop}(h:zA m r=true)(ha:A sl m):Bz r sl m (A:=A):=⟨h,ha⟩
@[reducible] def Ac (N : Nat) : List Nat → Bool
  |[]=>true
  | p::ps=>match Nat.ble (Nat.add p 1) N with
    |true=>Ac N ps
    |false=>false
theorem yC {N:Nat}:∀ {l:List Nat},Ac N l=true→∀p∈l,p<N
  |[],_,p,h=>by cases h
  | q ::l,h,p,hp=>by
    simp only[Ac] at h
    split at h
    · rename_i hb
      rcases fj.1 hp with rfl|hm
      ·exact gp hb
      ·exact yC h p hm
    ·cases h
def K9 (r:Nat):SL→Bool
  |[]=>true
  |(_,x)::l=>o5 r x&&K9 r l
theorem EG {r:Nat}:∀ {S:SL},K9 r S=true→∀i,o5 r (cu S i)=true
  |[],_,i=>rfl
  | (d,x)::l,h,i=>by
    simp only[K9,aT] at h
    simp only[cu]
    cases i==d with
    |true=>exact h.1
    |false=>exact EG h.2 i
theorem aR.range {P:Program}{N nL:Nat}{sl:SL}{m:ML}{f:Operand}{ps:Array Tmp}{assign body:Code}{Q:Exit→SL→ML→Prop}{g:FuncId}{caps:List AV}{n:Nat}{enc:Nat→List AV}(Γ:cT)(hΓ:Γ.Good P)
    (r:Nat) (S:SL) (M:Nat→ML) (hit:L1 P g caps n enc) (hg:ae P g) (h0:Fit nL sl m S (M 0)) (hf:gj S f=.clo (.func g) [] caps)
    (hr:(Nat.ble nL r=true∧Nat.ble r lM=true)∧K9 r S=true) (hlive:∀k,k≤n→zA (M k) r=true) (henc:∀k,k<n→gb (enc k)=gb ps.toList)
    (hps:(vV ps.toList=true∧Ac N ps.toList=true)∧dB assign=true∧dB body=true)
    (round:∀k,k<n→Cj P N r Γ assign (My ps.toList (enc k) S) (M k) (fun e sl m=>match e with
      |.normal=>Bz r sl m (A:=fun sl m=>Cj P N r Γ body sl m (P5 r S (M (k+1)) Q))
      |_=>False))
    (hdone:Q .normal S (M n)):aR P N nL sl m (c:=.rangeFunc f ps assign body) (Q:=Q):=by
  refine gP.range r S M hit hg h0.A3 ?_ (gp hr.1.1) (gp hr.1.2) (fun k hk t ht=>xg (hlive k hk) t ht) (EG hr.2) (fun k hk=>?_) (tJ hps.1.1) (yC hps.1.2) hps.2.1 hps.2.2 (fun k hk=>?_) ⟨S,M n,rfl,hdone⟩
  ·rw[ev_eq];exact hf
  · have:=henc k hk
    rw[dz,dz] at this
    simpa using this
  · rw [←Eo]
    refine(vG hΓ _ _ _ _ (round k hk)).mono ?_
    rintro e σ ⟨sl',m',rfl,h⟩
    cases e with
    | normal=>
      refine⟨rfl,fun t ht=>xg h.1 t ht,(vG hΓ _ _ _ _ h.2).mono ?_⟩
      rintro e σ ⟨sl2,m2,rfl,h2⟩
      cases e with
      |normal=>exact Fit.A3 h2
      |ret=>obtain⟨m3,h3,h4⟩:=h2;exact⟨m3,h3.A3,S,m3,rfl,h4⟩
      |exit id=>obtain⟨m3,h3,h4⟩:=h2;exact⟨m3,h3.A3,S,m3,rfl,h4⟩
      |goto t=>exact h2.elim
      |panic c=>exact h2.elim
      |outgrown=>exact h2.elim
    |ret=>exact h.elim
    |exit id=>exact h.elim
    |goto t=>exact h.elim
    |panic c=>exact h.elim
    |outgrown=>exact h.elim
theorem hK {acc:Tk}{sl:SL}{m:ML}{A:Tk→SL→ML→Prop}(h:A acc sl m):nW acc sl m (A:=A):=h
theorem sK {sl:SL}{m:ML}{A:SL→ML→Prop}(h:A sl m):nS sl m (A:=A):=h
theorem nK {p:Prop}{acc:Tk}{sl:SL}{m:ML}{A:Tk→SL→ML→Prop}(h1:A acc sl m)(h:p:=by(try simp only[aq]);omega):bW p acc sl m (A:=A):=⟨h,h1⟩
theorem dK {P:Program}{l:List Oper}{acc:Tk}{sl:SL}{m:ML}{A:SL→ML→Prop}(h4:A sl m)(h1:P.follows .mixedOrders=true:=by kernel_rfl)(h2:Region.lexB .any l.toArray=true:=by kernel_rfl)(h3:(Bh l.toArray acc||jK l.toArray acc)=true:=by kernel_rfl):bL P acc sl m (l:=l) (A:=A):=⟨h1,h2,h3,h4⟩
theorem wK {p q:Prop}(h:q)(e:q→p:=by intro hQ;with_reducible ((conv=>whnf);(conv=>congr<;>reduce);repeat((first|refine hK ?_|refine sK ?_);(conv=>whnf);(conv=>congr<;>reduce)));exact hQ):p:=e h
theorem wD {p q:Prop}(h:q)(e:q→p:=by intro hQ;delta List.toArray;with_reducible ((conv=>whnf);(conv=>congr<;>reduce);repeat((first|refine hK ?_|refine sK ?_);(conv=>whnf);(conv=>congr<;>reduce)));exact hQ):p:=e h
theorem gK {p q:Prop}(h:q)(e:q→p:=by
    intro hQ
    first
      |((with_reducible show aQ _ _ _ _);first|refine aQ.ff ?_|refine aQ.tt ?_|refine aQ.no (by clear hQ;first|rfl|assumption|exact nf (by assumption)|exact nt (by assumption)|((try simp only[aq]);first|(simp;done)|(simp;omega))) ?_|refine aQ.yes (by clear hQ;first|rfl|assumption|exact nf (by assumption)|exact nt (by assumption)|((try simp only[aq]);first|(simp;done)|(simp;omega))) ?_)
      |((with_reducible show bW _ _ _ _);refine bW.mk (by clear hQ;(try simp only[aq]);omega) ?_)
      |((with_reducible show bL _ _ _ _);refine dK ?_)
    with_reducible ((conv=>whnf);(conv=>congr<;>reduce);repeat((first|refine hK ?_|refine sK ?_);(conv=>whnf);(conv=>congr<;>reduce)))
    exact hQ):p:=e h
theorem gF {p q:Prop}(h:q)(e:q→p:=by
    intro hQ
    first
      |((with_reducible show aQ _ _ _ _);first|refine aQ.ff ?_|refine aQ.tt ?_|refine aQ.no (by clear hQ;first|rfl|assumption|exact nf (by assumption)|exact nt (by assumption)|((try simp only[aq]);first|(simp[fct];done)|(simp[fct];omega))) ?_|refine aQ.yes (by clear hQ;first|rfl|assumption|exact nf (by assumption)|exact nt (by assumption)|((try simp only[aq]);first|(simp[fct];done)|(simp[fct];omega))) ?_)
      |((with_reducible show bW _ _ _ _);refine bW.mk (by clear hQ;(try simp only[aq]);omega) ?_)
      |((with_reducible show bL _ _ _ _);refine dK ?_)
    with_reducible ((conv=>whnf);(conv=>congr<;>reduce);repeat((first|refine hK ?_|refine sK ?_);(conv=>whnf);(conv=>congr<;>reduce)))
    exact hQ):p:=e h
theorem iK {p q:Prop}(h:q)(e:q→p:=by
    intro hQ
    first
      |refine aQ.yes (by clear hQ;assumption) ?_
      |refine aQ.no (by clear hQ;assumption) ?_
      |with_reducible refine aQ.yes Bool.not_false ?_
      |with_reducible refine aQ.no Bool.not_true ?_
      |with_reducible refine aQ.yes (nf (by clear hQ;assumption)) ?_
      |with_reducible refine aQ.no (nt (by clear hQ;assumption)) ?_
      |with_reducible refine aQ.tt ?_
      |with_reducible refine aQ.ff ?_
    with_reducible ((conv=>whnf);(conv=>congr<;>reduce);repeat((first|refine hK ?_|refine sK ?_);(conv=>whnf);(conv=>congr<;>reduce)))
    exact hQ):p:=e h
theorem eK {x y c d c' d':Prop}(h1:c')(h2:d')(hx:x:=by rfl)(hy:y:=by rfl)(e1:c'→c:=by first|(intro hQ;with_reducible (conv=>whnf);exact hQ)|(refine fun(hQ:True)=>?_;with_reducible (conv=>whnf);done))(e2:d'→d:=by first|(intro hQ;with_reducible (conv=>whnf);exact hQ)|(refine fun(hQ:True)=>?_;with_reducible (conv=>whnf);done)):(x∧y)∧c∧d:=⟨⟨hx,hy⟩,e1 h1,e2 h2⟩
theorem aK {c d c' d':Prop}(h1:c')(h2:d')(e1:c'→c:=by first|(intro hQ;with_reducible (conv=>whnf);exact hQ)|(refine fun(hQ:True)=>?_;with_reducible (conv=>whnf);done))(e2:d'→d:=by first|(intro hQ;with_reducible (conv=>whnf);exact hQ)|(refine fun(hQ:True)=>?_;with_reducible (conv=>whnf);done)):c∧d:=⟨e1 h1,e2 h2⟩
theorem fK {x y c c':Prop}(h1:c')(hx:x:=by rfl)(hy:y:=by rfl)(e1:c'→c:=by first|(intro hQ;with_reducible (conv=>whnf);exact hQ)|(refine fun(hQ:True)=>?_;with_reducible (conv=>whnf);done)):(x∧y)∧c:=⟨⟨hx,hy⟩,e1 h1⟩
theorem pK {p q:Prop}(h:q)(e:q→p:=by
    intro hQ
    first
      |((with_reducible show aQ _ _ _ _);first|refine aQ.ff ?_|refine aQ.tt ?_|refine aQ.no (by clear hQ;first|rfl|assumption|exact nf (by assumption)|exact nt (by assumption)|exact aV (by(try simp only[aq]);omega)|exact aS (by(try simp only[aq]);omega)|(simp only[aq,Bool.not_eq_true',Bool.not_eq_false',aL,bh];omega)) ?_|refine aQ.yes (by clear hQ;first|rfl|assumption|exact nf (by assumption)|exact nt (by assumption)|exact aV (by(try simp only[aq]);omega)|exact aS (by(try simp only[aq]);omega)|(simp only[aq,Bool.not_eq_true',Bool.not_eq_false',aL,bh];omega)) ?_)
      |((with_reducible show bW _ _ _ _);refine bW.mk (by clear hQ;(try simp only[aq]);omega) ?_)
      |((with_reducible show bL _ _ _ _);refine dK ?_)
    with_reducible ((conv=>whnf);(conv=>congr<;>reduce);repeat((first|refine hK ?_|refine sK ?_);(conv=>whnf);(conv=>congr<;>reduce)))
    exact hQ):p:=e h
theorem pF {p q:Prop}(h:q)(e:q→p:=by
    intro hQ
    first
      |((with_reducible show aQ _ _ _ _);first|refine aQ.ff ?_|refine aQ.tt ?_|refine aQ.no (by clear hQ;first|rfl|assumption|exact nf (by assumption)|exact nt (by assumption)|exact aV (by(try simp only[aq]);omega)|exact aS (by(try simp only[aq]);omega)|(simp only[aq,Bool.not_eq_true',Bool.not_eq_false',aL,bh];omega)|((try simp only[aq]);first|(simp[fct];done)|(simp[fct];omega))) ?_|refine aQ.yes (by clear hQ;first|rfl|assumption|exact nf (by assumption)|exact nt (by assumption)|exact aV (by(try simp only[aq]);omega)|exact aS (by(try simp only[aq]);omega)|(simp only[aq,Bool.not_eq_true',Bool.not_eq_false',aL,bh];omega)|((try simp only[aq]);first|(simp[fct];done)|(simp[fct];omega))) ?_)
      |((with_reducible show bW _ _ _ _);refine bW.mk (by clear hQ;(try simp only[aq]);omega) ?_)
      |((with_reducible show bL _ _ _ _);refine dK ?_)
    with_reducible ((conv=>whnf);(conv=>congr<;>reduce);repeat((first|refine hK ?_|refine sK ?_);(conv=>whnf);(conv=>congr<;>reduce)))
    exact hQ):p:=e h
theorem fN {P:Program}:cT.Good P []:=fun _ h=>by simp at h
theorem fC {P:Program}{t:Nat}{x:TI}{r:cT}(h:cT.Good P r)(h1:TI.ok P t x):cT.Good P ((t,x)::r):=List.forall_mem_cons.2 ⟨h1,h⟩
theorem fS {P:Program}{t:Nat}{z:Value}{r:cT}(h:cT.Good P r)(h1:j8 P t:=by exact fun _=>by kernel_rfl)(h2:fg P t 1:=by exact fun _=>by kernel_rfl)(h3:jW P t z:=by exact fun _=>by kernel_rfl):cT.Good P ((t,.sc z)::r):=fC h ⟨h1,h2,h3⟩
theorem fB {P:Program}{t:Nat}{r:cT}(h:cT.Good P r)(h1:j8 P t:=by exact fun _=>by kernel_rfl)(h2:fg P t 1:=by exact fun _=>by kernel_rfl)(h3:jW P t (.bool false):=by exact fun _=>by kernel_rfl)(h4:P.underlying t=some .bool:=by kernel_rfl):cT.Good P ((t,.bl)::r):=fC h ⟨h1,h2,h3,h4⟩
theorem fG {P:Program}{t:Nat}{r:cT}(h:cT.Good P r)(h1:j8 P t:=by exact fun _=>by kernel_rfl)(h2:fg P t 1:=by exact fun _=>by kernel_rfl)(h3:jW P t (.string ByteArray.empty):=by exact fun _=>by kernel_rfl)(h4:P.underlying t=some .string:=by kernel_rfl):cT.Good P ((t,.str)::r):=fC h ⟨h1,h2,h3,h4⟩
theorem fL {P:Program}{t e wd b:Nat}{r:cT}(h:cT.Good P r)(h1:j8 P t:=by exact fun _=>by kernel_rfl)(h2:fg P t 1:=by exact fun _=>by kernel_rfl)(h3:jW P t (.slice none 0 0):=by exact fun _=>by kernel_rfl)(h4:fg P e wd:=by exact fun _=>by kernel_rfl)
    (h5:wL P t e wd b ((P.info? e).getD default) (((P.info? e).getD default).zero.getD default):=by exact⟨by kernel_rfl,by kernel_rfl,by kernel_rfl,by kernel_rfl,by kernel_rfl,by kernel_rfl⟩):cT.Good P ((t,.sl e wd b)::r):=fC h ⟨h1,h2,h3,h4,_,_,h5⟩
def FF (P:Program)(t:Nat):Nat→List (Nat×TypeId)→Prop
  |_,[]=>True
  |k,(off,ft)::r=>(rK P t k off∧uO P t k off ft)∧FF P t (k+1) r
theorem Hx {P:Program}{t:Nat}:∀ (fs:List (Nat×TypeId)) (k:Nat),FF P t k fs→∀ (f off:Nat) (ft:TypeId),fs[f]? =some (off,ft)→rK P t (k+f) off∧uO P t (k+f) off ft
  |[],_,_,f,off,ft,h=>by simp at h
  | (o,u)::r,k,hF,0,off,ft,h=>by
    simp at h;obtain⟨rfl,rfl⟩:=h;exact hF.1
  | (o,u)::r,k,hF,f+1,off,ft,h=>by
    have:=Hx r (k+1) hF.2 f off ft (by simpa using h)
    rwa [show k+1+f=k+ (f+1) by omega] at this
theorem GV (fs:List (Nat×TypeId))(szs:List Nat)(i:Nat):(match fs[i]?,szs[i]? with|some (off,_),some sz=>some (off,sz)|_,_=>none)=((fs.map Prod.fst).zip szs).toArray[i]? :=by
  simp only[List.getElem?_toArray]
  induction fs generalizing szs i with
  |nil=>simp
  | cons a l ih=>
    cases szs with
    |nil=>obtain⟨a1,a2⟩:=a;cases i<;>simp<;>split<;>simp_all
    | cons b m=>cases i with
      |zero=>simp
      |succ i=>simpa using ih m i
theorem fT {P:Program}{t n:Nat}{fs:List (Nat×TypeId)}{z:Array Value}{szs:List Nat}{fields:Array Field}{r:cT}(hu:P.underlying t=some (.struct fields))(h:cT.Good P r)(h1:FH P t:=by exact fun _=>by kernel_rfl)(h2:fg P t n:=by exact fun _=>by kernel_rfl)(h3:jW P t (.agg z):=by exact fun _=>by kernel_rfl)
    (h4:FF P t 0 fs:=by repeat' (first|exact trivial|(refine And.intro ⟨fun _ _=>?_,fun _ _=>?_⟩ ?_)|kernel_rfl))
    (h5:∀w,(fields.toList.mapM (m:=Sem) fun f=>do pure (f.offset,←sizeOf f.type)).run P w=.ok ((fs.map Prod.fst).zip szs) w:=by exact fun _=>by kernel_rfl):cT.Good P ((t,.st n fs z szs)::r):=
  fC h ⟨h1,h2,h3,fun f off ft hf=>by have:=Hx fs 0 h4 f off ft hf;rwa [Nat.zero_add] at this,xh.mk (places:=((fs.map Prod.fst).zip szs).toArray) hu h3 h5 (GV fs szs)⟩
theorem qA {b c:Bool}(h:b=c:=by first|rfl|assumption|exact nf (by assumption)|exact nt (by assumption)):b=c:=h
section
variable {P : Program} {N : Nat} {o : Oper} {args args' : List AV} {acc : Tk} {sl : SL} {m : ML} {R : Rest} {res : AV}
theorem kQ (f:Nat)(h:aD P N f args acc sl m (o:=o) (R:=R)):aD P N f args acc sl m (o:=o) (R:=R):=h
theorem cL {f:FuncId}(hf:af P f [] args' [] res)(hc:ae P f)(h:R [] res [] acc sl m)(ha:vq [] m args' args:=by(repeat' (first|exact trivial|exact rfl|refine⟨?_,?_⟩));first|done|fail)(hd:om N o.dst=true:=by exact rfl)(hp:qw res=true:=by exact rfl):
    aD P N f args acc sl m (o:=o) (R:=R):=aD.lit [] hf hc ha hd hp h
theorem cV {f:FuncId}(hf:af P f [] args' [] res)(hc:ae P f)(h:R [] res [] acc sl m)(ha:vq [] m args' args:=by(repeat' (first|exact trivial|exact rfl|refine⟨?_,?_⟩));first|done|fail)(hd:om N o.dst=true:=by exact rfl)(hp:bt res=true:=by exact rfl):
    aD P N f args acc sl m (o:=o) (R:=R):=aD.val [] hf hc ha rfl hd hp h
end
theorem aE {p c d:Prop}(h1:c)(h2:d)(e:c→d→p:=by
    intro hA hB
    first
      |(with_reducible show(_=true∧_=true)∧_∧_);refine⟨⟨rfl,rfl⟩,?_,?_⟩
      |(with_reducible show _∧_);refine⟨?_,?_⟩
    ·first|(with_reducible (conv=>whnf);exact hA)|(have hT:True:=hA;with_reducible (conv=>whnf);done)
    ·first|(with_reducible (conv=>whnf);exact hB)|(have hT:True:=hB;with_reducible (conv=>whnf);done)):p:=e h1 h2
theorem mG.of {R:AV→AV→Prop}:∀ {a b:List AV},Cu R a b→mG R a b
  |[],[],_=>⟨rfl,fun i x y h=>by simp at h⟩
  | x::xs,y::ys,h=>by
    obtain⟨h1,h2⟩:=mG.of h.2
    refine⟨by simp[h1],fun i u v hu hv=>?_⟩
    cases i with
    |zero=>cases hu;cases hv;exact h.1
    |succ i=>exact h2 i u v hu hv
  |[],_::_,h=>h.elim
  |_::_,[],h=>h.elim
def HV (wd:Nat)(rows:List AV):Bool:=rows.all fun r=>(cells r).length==wd
def D4 (m:ML):Bool:=m.all fun p=>match p.2 with
  |.live wd rows _=>HV wd rows
  |_=>true
theorem HT {m:ML}(h:D4 m=true):∀t wd rows ro,eC m t=.live wd rows ro→bI wd rows:=by
  induction m with
  |nil=>intro t wd rows ro h;cases h
  | cons p r ih=>
    intro t wd rows ro hl
    obtain⟨a,b⟩:=p
    unfold D4 at h
    rw[List.all_cons,aT] at h
    rw[kM] at hl
    simp only[bg] at hl
    cases hta:t==a with
    | true=>
      rw[hta] at hl
      change b=_ at hl
      subst hl
      exact bI.fM fun x hx=>by simpa using(List.all_eq_true.1 h.1) x hx
    | false=>
      rw[hta] at hl
      exact ih h.2 t wd rows ro (by rw[kM];exact hl)
theorem af.frozen {P:Program}{f:FuncId}{args:List AV}{outs:List MS}{res res':AV}(m:ML)(hm:bg m=aW outs)(hw:D4 m=true)(h:af P f [] args outs res)(hcv:MF [] (fun _=>true) m 12 res' res):af P f [] args [] res':=by
  intro w W0 L vs hL hs hargs
  refine(h w W0 L vs hL hs hargs).mono ?_
  rintro e w' ⟨v,μ',rfl,hs',hv⟩
  have hLn:∀t,L t=none:=fun t=>hL t (Nat.zero_le _)
  have hW:∀b,Wr W0 (fun _=>none) (aW []) b→W0 b:=by
    rintro b (h|⟨t,B,wd,rows,_,h,_⟩)
    ·exact h
    ·cases h
  refine⟨v,fun _=>none,rfl,?_,?_⟩
  ·refine⟨hs'.tsize,hs'.defers,hs'.os,hs'.tape,hs'.output,hs'.hsize,hs'.shp,hs'.keep,hs'.w0lt,fun t B _ h=>(by rw[hLn] at h;cases h),fun t=>by simp[bare,aW],fun _=>.any,fun t wd rows ro h=>?_,fun t t' wd rows wd' rows' ro' B B' _ h=>?_,fun t wd rows ro B h=>?_,hs'.tabs⟩<;>simp[bare,aW] at h
  · have hc:Cv (bg m) (jf []) (fun _=>False) (fun t=> ∃wd rows ro,bg m t=.live wd rows ro) res' res:=
      sH (fun t wd rows ro h _=>HT hw t wd rows ro h) (fun t u h=>by cases h) (fun t wd rows ro h _=>⟨wd,rows,ro,by rw[←kM];exact h⟩) 12 res' res hcv
    rw[hm] at hc
    refine Cv.rep (W:=Wr W0 μ' (aW outs)) (μ:=μ') (fun t wd rows ro h=>hs'.objs t wd rows ro h) (fun b _ hb=>.inl (hW b hb)) (fun t h=>h.elim) ?_ hc hv
    rintro s B ⟨wd,rows,ro,hl⟩ hB hv hb
    exact(hs'.out s wd rows ro B hl hB hv).1 (hW _ hb)

end Go.Am
