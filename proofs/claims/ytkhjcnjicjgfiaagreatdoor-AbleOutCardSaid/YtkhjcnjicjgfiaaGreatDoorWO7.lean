/- Walks of functions by unfolding over abstract states; runs of functions by an evaluator that is proved. By an AI agent. -/
import Derived.Test.YtkhjcnjicjgfiaaGreatDoorWO6
import Derived.Laws.StructEq
import Derived.IntWalk
set_option linter.unusedSimpArgs false
set_option linter.unusedVariables false
namespace Go.Am
open Go
theorem beq_eq {i d:Nat}(h:Nat.beq i d=true):i=d:=Nat.eq_of_beq_eq_true h
theorem beq_false {i d:Nat}(h:i≠d):Nat.beq i d=false:=by
  cases h':Nat.beq i d with
  |false=>rfl
  |true=>exact absurd (beq_eq h') h
theorem cr {a b:Nat}(h:Nat.ble a b=true):a≤b:=Nat.le_of_ble_eq_true h
theorem EZ {a b:Nat}(h:a≤b):Nat.ble a b=true:=Nat.ble_eq_true_of_le h
theorem EF {a b:Nat}(h:¬a≤b):Nat.ble a b=false:=by
  cases h':Nat.ble a b with
  |false=>rfl
  |true=>exact absurd (cr h') h
@[reducible] def si : Nat → Nat → Bool
  | 0,k=>match k with
    |0=>true
    |_+1=>false
  | n+1,k=>match k with
    |0=>false
    |k+1=>si n k
@[reducible] def LM : Nat → Nat → Bool
  |0,_=>true
  |n+1,k+1=>LM n k
  |_+1,0=>false
@[reducible] def J6 : Nat → Bool
  |0=>true
  |_+1=>false
@[reducible] def nV : Value → Bool
  | .slice ad n c=>match ad with
    | none=>match J6 n with
      |true=>J6 c
      |false=>false
    |some _=>false
  |_=>false
@[reducible] def Ko : AV → Bool
  |.lit v=>nV v
  |_=>false
theorem eW {v:Value}(h:nV v=true):v=.slice none 0 0:=by
  cases v with
  | slice ad n c=>
    cases ad with
    | none=>
      cases n with
      | zero=>cases c with
        |zero=>rfl
        |succ c=>cases h
      |succ n=>cases h
    |some a=>cases h
  |_=>cases h
theorem Cf {x:AV}(h:Ko x=true):x=.lit (.slice none 0 0):=by
  cases x with
  |lit v=>rw[eW h]
  |_=>cases h
theorem dW:∀ (a b:Nat),si a b=Nat.beq a b
  |0,0=>rfl
  |n+1,k+1=>by rw[si,dW n k];rfl
  |0,k+1=>rfl
  |n+1,0=>rfl
theorem xp:∀ (a b:Nat),LM a b=Nat.ble a b
  |0,b=>by simp[LM]
  |n+1,k+1=>by rw[LM,xp n k];rfl
  |n+1,0=>rfl
abbrev SL:=List (Nat×AV)
abbrev ML:=List (Nat×MS)
@[reducible] def sS : SL → Nat → AV
  |[],_=>.any
  | (k,x)::r,i=>match Nat.beq i k with
    |true=>x
    |false=>sS r i
@[reducible] def dX : ML → Nat → MS
  |[],_=>.free
  | (k,x)::r,i=>match Nat.beq i k with
    |true=>x
    |false=>dX r i
@[reducible] def kN : bZ → Nat → Option TI
  |[],_=>none
  | (k,x)::r,i=>match Nat.beq i k with
    |true=>some x
    |false=>kN r i
theorem gR:∀ (l:SL) (i:Nat),sS l i=cq l i
  |[],_=>rfl
  | p ::r,i=>by
    obtain⟨d,x⟩:=p
    simp only[sS,cq,gR r i]
    by_cases h:i=d
    ·subst h;simp
    · have h1:(i==d)=false:=by simpa using h
      have h2:Nat.beq i d=false:=beq_false (by simpa using h1)
      rw[h1,h2];rfl
theorem gO:∀ (l:ML) (i:Nat),dX l i=aO l i
  |[],_=>rfl
  | p ::r,i=>by
    obtain⟨d,x⟩:=p
    simp only[dX,aO,gO r i]
    by_cases h:i=d
    ·subst h;simp
    · have h1:(i==d)=false:=by simpa using h
      have h2:Nat.beq i d=false:=beq_false (by simpa using h1)
      rw[h1,h2];rfl
theorem cw:∀ (l:bZ) (i:Nat),kN l i=cU l i
  |[],_=>rfl
  | p ::r,i=>by
    obtain⟨d,x⟩:=p
    simp only[kN,cU,cw r i]
    by_cases h:d=i
    ·subst h;simp
    · have h1:(i==d)=false:=by simpa using Ne.symm h
      have h2:Nat.beq i d=false:=beq_false (by simpa using h1)
      rw[h1,h2];rfl
@[reducible] def ql (d : Nat) (x : AV) : SL → SL
  |[]=>[(d,x)]
  | (k,y)::r=>match Nat.beq d k with
    |true=>(d,x)::r
    |false=>(k,y)::ql d x r
@[reducible] def jB (d : Nat) (x : MS) : ML → ML
  |[]=>[(d,x)]
  | (k,y)::r=>match Nat.beq d k with
    |true=>(d,x)::r
    |false=>(k,y)::jB d x r
@[reducible] def uX : ML → ML → ML
  |[],m=>m
  |(k,x)::r,m=>jB k x (uX r m)
@[reducible] def pushB : Option Nat → AV → SL → SL
  |none,_,l=>l
  |some d,x,l=>ql d x l
theorem nE (d:Nat)(x:AV):∀ (l:SL) (i:Nat),cq (ql d x l) i=cq ((d,x)::l) i
  |[],i=>rfl
  | p :: r,i=>by
    obtain⟨e,y⟩:=p
    simp only[ql]
    by_cases h:d=e
    · subst h
      simp only[Nat.beq_refl,cq]
      by_cases hi:i=d
      ·subst hi;simp
      · have:(i==d)=false:=by simpa using hi
        simp[this]
    · rw [beq_false h]
      simp only[cq,nE d x r i]
      by_cases hi:i=d
      · subst hi;have:(i==e)=false:=by simpa using h
        simp[this]
      · have:(i==d)=false:=by simpa using hi
        simp[this]
theorem tN (d:Nat)(x:MS):∀ (l:ML) (i:Nat),aO (jB d x l) i=aO ((d,x)::l) i
  |[],i=>rfl
  | p :: r,i=>by
    obtain⟨e,y⟩:=p
    simp only[jB]
    by_cases h:d=e
    · subst h
      simp only[Nat.beq_refl,aO]
      by_cases hi:i=d
      ·subst hi;simp
      · have:(i==d)=false:=by simpa using hi
        simp[this]
    · rw [beq_false h]
      simp only[aO,tN d x r i]
      by_cases hi:i=d
      · subst hi;have:(i==e)=false:=by simpa using h
        simp[this]
      · have:(i==d)=false:=by simpa using hi
        simp[this]
theorem qV:∀ (u m:ML) (i:Nat),aO (uX u m) i=aO (u++m) i
  |[],m,i=>rfl
  | p::r,m,i=>by
    obtain⟨e,y⟩:=p
    simp only[uX,tN,List.cons_append,aO,qV r m i]
theorem Bn (d:Option Nat)(x:AV)(l:SL)(i:Nat):cq (pushB d x l) i=cq (pY d x l) i:=by
  cases d with
  |none=>rfl
  |some d=>exact nE d x l i
theorem sy (d:Option Nat)(x:AV)(l:SL)(u m:ML):St (pY d x l) (u++m)=St (pushB d x l) (uX u m):=by
  unfold St
  congr 1
  ·funext i;exact(Bn d x l i).symm
  ·funext i;exact(qV u m i).symm
@[reducible] def eM (l : SL) : Operand → AV
  |.tmp t=>sS l t
  |.const v=>.lit v
  |.global g=>.lit (.pointer (some ⟨g,0,none⟩))
  |.func f=>.lit (.func (.func f) #[] #[])
theorem dD (l:SL)(y:Operand):eM l y=iU l y:=by cases y<;>simp[eM,iU,gR]
section
universe u v
variable {α : Type u} {β : Type v}
@[reducible] def gd : List α → Nat → Option α
  |[],_=>none
  |x::_,0=>some x
  |_::r,k+1=>gd r k
@[reducible] def eL : List α → Nat
  |[]=>0
  |_::r=>Nat.succ (eL r)
@[reducible] def dU (f : α → β) : List α → List β
  |[]=>[]
  |x::r=>f x::dU f r
@[reducible] def dL : List α → List α → List α
  |[],b=>b
  |x::r,b=>x::dL r b
@[reducible] def gw : Nat → List α → List α
  |0,_=>[]
  |_+1,[]=>[]
  |k+1,x::r=>x::gw k r
@[reducible] def wB : Nat → List α → List α
  |0,l=>l
  |_+1,[]=>[]
  |k+1,_::r=>wB k r
@[reducible] def HR : List α → Nat → α → List α
  |[],_,_=>[]
  |_::r,0,y=>y::r
  |x::r,k+1,y=>x::HR r k y
@[reducible] def iP (p : α → Bool) : List α → Bool
  |[]=>true
  | x::r=>match p x with
    |true=>iP p r
    |false=>false
@[reducible] def uq : List β → List α → List α
  |[],l=>l
  |_::_,[]=>[]
  |_::r,_::l=>uq r l
theorem eU:∀ (l:List α) (k:Nat),gd l k=l[k]?
  |[],_=>rfl
  |_::_,0=>rfl
  |_::r,k+1=>by simp only[gd,eU r k,List.getElem?_cons_succ]
theorem cR:∀ (l:List α),eL l=l.length
  |[]=>rfl
  |_::r=>by show eL r+1=_;rw[cR r];rfl
theorem eo (f:α→β):∀ (l:List α),dU f l=l.map f
  |[]=>rfl
  |x::r=>by simp only[dU,eo f r,List.map_cons]
theorem gW:∀ (a b:List α),dL a b=a++b
  |[],_=>rfl
  |x::r,b=>by simp only[dL,gW r b,List.cons_append]
theorem qd:∀ (k:Nat) (l:List α),gw k l=l.take k
  |0,_=>rfl
  |_+1,[]=>rfl
  |k+1,x::r=>by simp only[gw,qd k r,List.take_succ_cons]
theorem pM:∀ (k:Nat) (l:List α),wB k l=l.drop k
  |0,_=>rfl
  |_+1,[]=>rfl
  |k+1,x::r=>by simp only[wB,pM k r,List.drop_succ_cons]
theorem wg:∀ (a:List β) (l:List α),uq a l=l.drop a.length
  |[],_=>rfl
  |_::_,[]=>by simp[uq]
  |_::r,_::l=>by simp only[uq,wg r l,List.length_cons,List.drop_succ_cons]
theorem BW:∀ (l:List α) (k:Nat) (y:α),HR l k y=l.set k y
  |[],_,_=>rfl
  |_::_,0,_=>rfl
  |x::r,k+1,y=>by simp only[HR,BW r k y,List.set_cons_succ]
theorem CC (p:α→Bool):∀ (l:List α),iP p l=l.all p
  |[]=>rfl
  |x::r=>by simp only[iP,List.all_cons,CC p r];cases p x<;>rfl
end
@[reducible] def dy : AV → List AV
  |.agg cs=>cs
  |.lit (.agg xs)=>dU .lit xs.toList
  |x=>[x]
theorem eI (x:AV):dy x=cells x:=by
  cases x with
  |lit v=>cases v<;>simp[dy,cells,eo]
  |_=>rfl
@[reducible] def EH : AV → Bool
  |.agg _=>true
  |.lit (.agg _)=>true
  |_=>false
theorem Ef (x:AV):EH x=jZ x:=by
  cases x with
  |lit v=>cases v<;>rfl
  |_=>rfl
@[reducible] def sX : AV → Bool
  |.any=>false
  |_=>true
theorem nB (x:AV):sX x=x.kF:=by cases x<;>rfl
@[reducible] def LI : AV → Bool
  |.any=>false
  |.agg _=>false
  |.tup _=>false
  |.lit (.agg _)=>false
  |.lit (.tuple _)=>false
  |_=>true
theorem IA (x:AV):LI x=x.one:=by
  cases x with
  |lit v=>cases v<;>rfl
  |_=>rfl
@[reducible] def qw : IntKind → Nat
  |.i8=>0|.i16=>1|.i32=>2|.i64=>3|.u8=>4|.u16=>5|.u32=>6|.u64=>7
theorem wW {k k':IntKind}(h:Nat.beq (qw k) (qw k')=true):k=k':=by
  cases k<;>cases k'<;>first|rfl|(simp[qw] at h)
@[reducible] def CM (n : Nat) (r : AV) (k : Nat) : Option AV :=
  match Nat.beq k 0,si (eL (dy r)) n,EH r with
  |true,true,true=>some r
  | _,_,_=>match LM (Nat.add k n) (eL (dy r)) with
    |true=>some (.agg (gw n (wB k (dy r))))
    |false=>none
@[reducible] def pD (ti : Option TI) (r : AV) (k : Nat) : Option AV :=
  match ti with
  |some (.sc _)=>gd (dy r) k
  |some .bl=>gd (dy r) k
  |some (.sl ..)=>gd (dy r) k
  |some .str=>gd (dy r) k
  |some (.st n _ _ _)=>CM n r k
  |some (.ar n _ _ _ _)=>CM n r k
  |none=>none
theorem Jh (a b:Nat):Nat.ble a b=decide (a≤b):=by
  by_cases h:a≤b
  ·rw[EZ h,dV h]
  ·rw[EF h,bY h]
theorem I7 (a b:Nat):Nat.beq a b=decide (a=b):=by
  by_cases h:a=b
  ·subst h;simp
  ·rw[beq_false h,bY h]
theorem EY (n:Nat)(r:AV)(k:Nat):CM n r k=if k=0∧(cells r).length=n∧jZ r=true then some r else if k+n≤ (cells r).length then some (.agg (((cells r).drop k).take n)) else none:=by
  unfold CM
  simp only[qd,pM,cR,eI,Ef,dW,xp,I7,Jh]
  show (match decide (k=0),decide ((cells r).length=n),jZ r with
    |true,true,true=>some r
    | _,_,_=>match decide (k+n≤ (cells r).length) with
      |true=>some (AV.agg (((cells r).drop k).take n))
      |false=>none)=_
  by_cases h4:k+n≤ (cells r).length
  · rw [dV h4,if_pos h4]
    by_cases h1:k=0
    · by_cases h2:(cells r).length=n
      · cases h3:jZ r with
        |true=>rw[dV h1,dV h2,if_pos ⟨h1,h2,rfl⟩]
        |false=>rw[dV h1,dV h2,if_neg (fun h=>by cases h.2.2)]
      ·rw[dV h1,bY h2,if_neg (fun h=>h2 h.2.1)]
    ·rw[bY h1,if_neg (fun h=>h1 h.1)]
  · rw [bY h4,if_neg h4]
    by_cases h1:k=0
    · by_cases h2:(cells r).length=n
      · cases h3:jZ r with
        |true=>rw[dV h1,dV h2,if_pos ⟨h1,h2,rfl⟩]
        |false=>rw[dV h1,dV h2,if_neg (fun h=>by cases h.2.2)]
      ·rw[dV h1,bY h2,if_neg (fun h=>h2 h.2.1)]
    ·rw[bY h1,if_neg (fun h=>h1 h.1)]
theorem nn (ti:Option TI)(r:AV)(k:Nat):pD ti r k=rT ti r k:=by
  cases ti with
  |none=>rfl
  |some ti=>cases ti<;>simp only[pD,rT,eU,eI,EY]
@[reducible] def GP : Option TI → Option Nat
  |some (.sc _)=>some 1
  |some .bl=>some 1
  |some (.sl ..)=>some 1
  |some .str=>some 1
  |some (.st n ..)=>some n
  |some (.ar n ..)=>some n
  |none=>none
theorem Hg (ti:Option TI):GP ti=Av ti:=by
  cases ti with
  |none=>rfl
  |some ti=>cases ti<;>rfl
@[reducible] def FR : Option TI → Option AV
  |some (.sc z)=>match z with|.agg _=>none|z=>some (.lit z)
  |some .bl=>some (.lit (.bool false))
  |some (.sl ..)=>some (.lit (.slice none 0 0))
  |some .str=>some (.lit (.string ByteArray.empty))
  |some (.st _ _ z _)=>some (.agg (dU .lit z.toList))
  |some (.ar _ _ _ _ z)=>some (.agg (dU .lit z.toList))
  |none=>none
theorem GC (ti:Option TI):FR ti=mL ti:=by
  cases ti with
  |none=>rfl
  |some ti=>cases ti<;>first|rfl|(simp only[FR,mL,eo])|(rename_i z;cases z<;>rfl)
@[reducible] def rD (ti : Option TI) (r : AV) (k : Nat) (x : AV) : Option AV :=
  match GP ti with
  | some n=>match si (eL (dy x)) n,iP LI (dy x),sX x with
    | true,true,true=>match si (eL (dy r)) n,Nat.beq k 0 with
      |true,true=>some x
      | _,_=>match LM (Nat.add k n) (eL (dy r)) with
        |true=>some (.agg (dL (gw k (dy r)) (dL (dy x) (uq (dy x) (wB k (dy r))))))
        |false=>none
    |_,_,_=>none
  |none=>none
theorem vk {ti:Option TI}{r:AV}{k:Nat}{x r':AV}(h:rD ti r k x=some r'):uo ti r k x=some r':=by
  unfold rD at h
  unfold uo
  rw[←Hg]
  cases hs:GP ti with
  |none=>rw[hs] at h;cases h
  | some n =>
    rw[hs] at h
    simp only[qd,pM,wg,gW,cR,eI,nB,CC,dW,xp,List.drop_drop] at h ⊢
    have ho:((cells x).all LI)=j7 (cells x):=by unfold j7;congr 1;funext y;exact IA y
    rw[ho] at h
    split at h
    · rename_i h1 h2 h3
      rw[if_pos ⟨beq_eq h1,h2,h3⟩]
      split at h
      · rename_i h4 h5
        cases h
        rw[if_pos ⟨beq_eq h4,beq_eq h5⟩]
      · rename_i h4
        split at h
        · rename_i h5
          cases h
          have h5':k+n≤ (cells r).length:=cr h5
          rw[if_neg (fun hh=>h4 (by simp[hh.1]) (by simp[hh.2])),if_pos h5']
          unfold eV
          rw[List.append_assoc]
        ·cases h
    ·cases h
@[reducible] def CL (place : Nat → Option (Nat × Nat)) (cs : List AV) : List (Nat × AV) → Option (List AV)
  |[]=>some cs
  | (i,x)::rest=>
    match place i with
    |none=>none
    | some (off,size)=>match si (eL (dy x)) size,LM (Nat.add off size) (eL cs),sX x with
      |true,true,true=>CL place (dL (gw off cs) (dL (dy x) (wB (Nat.add off size) cs))) rest
      |_,_,_=>none
theorem zC {place:Nat→Option (Nat×Nat)}:∀ {ps:List (Nat×AV)} {cs cs':List AV},CL place cs ps=some cs'→lY place cs ps=some cs'
  |[],cs,cs',h=>h
  | (i, x)::rest,cs,cs',h=>by
    simp only[CL] at h
    simp only[lY]
    cases hp:place i with
    |none=>rw[hp] at h;cases h
    | some os=>
      obtain⟨off,size⟩:=os
      rw[hp] at h
      simp only at h ⊢
      split at h
      · rename_i h1 h2 h3
        rw[dW,cR,eI] at h1
        rw[xp,cR] at h2
        rw[nB] at h3
        have e1:=beq_eq h1
        have e2:=cr h2
        rw[if_pos ⟨e1,by rw[e1];exact e2,h3⟩]
        have:=zC h
        simp only[qd,pM,gW,eI] at this
        unfold eV
        rw[List.append_assoc,e1];exact this
      ·cases h
abbrev Rest:=List Nat→AV→ML→Tk→SL→ML→Prop
def aN (P:Program)(N:Nat){o:Oper}(acc:Tk)(sl:SL)(m:ML){R:Rest}:Prop:=∃rd x ups,aD P N o (St sl m) rd x ups∧R rd x ups acc sl m
def bC (p:Prop)(acc:Tk)(sl:SL)(m:ML){A:Tk→SL→ML→Prop}:Prop:=p∧A acc sl m
def aG (rows:List AV)(i:Int)(acc:Tk)(sl:SL)(m:ML){A:AV→Tk→SL→ML→Prop}:Prop:=∃ (k:Nat) (r:AV),i=k∧rows[k]? =some r∧A r acc sl m
def eO (i:Int)(n:Nat)(acc:Tk)(sl:SL)(m:ML){A:Nat→Tk→SL→ML→Prop}:Prop:=∃k:Nat,i=k∧k<n∧A k acc sl m
def aZ (rows:List AV)(i:Nat)(acc:Tk)(sl:SL)(m:ML){A:AV→Tk→SL→ML→Prop}:Prop:=∃r:AV,rows[i]? =some r∧A r acc sl m
def Bi (l h:Int)(len:Nat)(acc:Tk)(sl:SL)(m:ML){A:Nat→Nat→Tk→SL→ML→Prop}:Prop:=∃a n:Nat,l=a∧h=(a:Int)+n∧a+n≤len∧A a n acc sl m
def FO (l h:Int)(rows:List AV)(acc:Tk)(sl:SL)(m:ML){A:List AV→Tk→SL→ML→Prop}:Prop:=∃ (a n:Nat) (rows':List AV),l=a∧h=(a:Int)+n∧a+n≤rows.length∧rows'=(rows.drop a).take n∧A rows' acc sl m
def j0 (rb:List AV)(off len:Nat)(rs:List AV)(off' len':Nat)(bytes:Nat)(acc:Tk)(sl:SL)(m:ML){A:List AV→Tk→SL→ML→Prop}:Prop:=
  ∃ rows0 news,off+len≤rb.length∧rows0=(rb.drop off).take len∧off'+len'≤rs.length∧news=(rs.drop off').take len'∧j7 (flat news)=true∧
    (rows0.length+news.length)*bytes≤140737488355328∧rows0.length+news.length≤9223372036854775807∧A (rows0++news) acc sl m
def aa (P:Program)(N:Nat){o:Oper}(f:FuncId)(args:List AV)(acc:Tk)(sl:SL)(m:ML){R:Rest}:Prop:=fF (St sl m) o f args→aN P N acc sl m (o:=o) (R:=R)
def qk (P:Program)(N:Nat){o:Oper}(t:TypeId)(c:Bool)(ym kv:AV)(acc:Tk)(sl:SL)(m:ML){R:Rest}:Prop:=
  (∃y x,o.op=.lookup t y x c∧(St sl m).eval y=ym∧(St sl m).eval x=kv)→aN P N acc sl m (o:=o) (R:=R)
def xO (P:Program)(N:Nat){o:Oper}(t:TypeId)(ym kv x:AV)(acc:Tk)(sl:SL)(m:ML){R:Rest}:Prop:=
  (∃y z v,o.op=.mapUpdate t y z v∧(St sl m).eval y=ym∧(St sl m).eval z=kv∧(St sl m).eval v=x)→aN P N acc sl m (o:=o) (R:=R)
def rF (P:Program)(N:Nat){o:Oper}(t:TypeId)(ym:AV)(acc:Tk)(sl:SL)(m:ML){R:Rest}:Prop:=
  (∃y,o.op=.call {callee:=.builtin .len,args:= #[y],argTypes:= #[t]}∧(St sl m).eval y=ym)→aN P N acc sl m (o:=o) (R:=R)
def vn (s:ByteArray)(i:Int)(acc:Tk)(sl:SL)(m:ML){A:Int→Tk→SL→ML→Prop}:Prop:=∃ (k:Nat) (c:UInt8),i=k∧s.data.toList[k]? =some c∧A c.toNat acc sl m
def Gn (s:ByteArray)(l h:Int)(acc:Tk)(sl:SL)(m:ML){A:ByteArray→Tk→SL→ML→Prop}:Prop:=∃a b:Nat,l=a∧h=b∧a≤b∧b≤s.size∧A (s.extract a b) acc sl m
def cT (P:Program)(src dst:TypeId)(v:Value)(acc:Tk)(sl:SL)(m:ML){A:Value→Tk→SL→ML→Prop}:Prop:=∃r,(∀w,(convert src dst v).run P w=.ok r w)∧A r acc sl m
def Br (P:Program)(src dst:TypeId)(rows:List AV)(off len:Nat)(acc:Tk)(sl:SL)(m:ML){A:Value→Tk→SL→ML→Prop}:Prop:=
  ∃ (bs:List UInt8) (e:TypeId),P.underlying src=some (.slice e)∧P.underlying e=some (.int .u8)∧P.underlying dst=some .string∧len=bs.length∧bs≠ []∧
    (∀ (i:Nat) (b:UInt8),bs[i]? =some b→(flat rows)[off+i]? =some (.lit (.int .u8 b.toNat)))∧A (.string ⟨bs.toArray⟩) acc sl m
def M4 (P:Program)(op:BinOp)(t:TypeId)(us vs:List Value)(acc:Tk)(sl:SL)(m:ML){A:Bool→Tk→SL→ML→Prop}:Prop:=
  ∃b,(∀ (y z:Operand) (w:World),((do eqGuard op t y z (.agg us.toArray) (.agg vs.toArray);binOp op t (.agg us.toArray) (.agg vs.toArray):Sem Value)).run P w=.ok (.bool b) w)∧A b acc sl m
@[reducible] def rM : List AV → Option (List Value)
  |[]=>some []
  | .lit v::r=>match rM r with
    |some l=>some (v::l)
    |none=>none
  |_::_=>none
def bk (b:Bool)(acc:Tk)(sl:SL)(m:ML){A B:Tk→SL→ML→Prop}:Prop:=(b=true→A acc sl m)∧(b=false→B acc sl m)
@[reducible] def vL (t : Nat) : Bool := Nat.beq (Nat.mod t 10) 0
@[reducible] def qU (P : Program) (N : Nat) (o : Oper) (acc : Tk) (sl : SL) (m : ML) (R : Rest) : Option (List Nat × AV × ML) → Prop
  |some (rd,x,ups)=>R rd x ups acc sl m
  |none=>aN P N acc sl m (o:=o) (R:=R)
@[reducible] def Ic (op : BinOp) (a b : Value) : Option Value :=
  match op,a,b with
  |.add,.int k a,.int k' b=>match Nat.beq (qw k) (qw k') with|true=>some (.int k (k.wrap (a+b)))|false=>none
  |.sub,.int k a,.int k' b=>match Nat.beq (qw k) (qw k') with|true=>some (.int k (k.wrap (a-b)))|false=>none
  |.lss,.int k a,.int k' b=>match Nat.beq (qw k) (qw k') with|true=>some (.bool (decide (a<b)))|false=>none
  |.leq,.int k a,.int k' b=>match Nat.beq (qw k) (qw k') with|true=>some (.bool (decide (a≤b)))|false=>none
  |.gtr,.int k a,.int k' b=>match Nat.beq (qw k) (qw k') with|true=>some (.bool (decide (b<a)))|false=>none
  |.geq,.int k a,.int k' b=>match Nat.beq (qw k) (qw k') with|true=>some (.bool (decide (b≤a)))|false=>none
  |.eql,.int k a,.int k' b=>match Nat.beq (qw k) (qw k') with|true=>some (.bool (decide (a=b)))|false=>none
  |.neq,.int k a,.int k' b=>match Nat.beq (qw k) (qw k') with|true=>some (.bool (!decide (a=b)))|false=>none
  |.eql,.string a,.string b=>some (.bool (decide (a=b)))
  |.neq,.string a,.string b=>some (.bool (!decide (a=b)))
  |_,_,_=>none
theorem IZ (a b:ByteArray):(a.toList==b.toList)=decide (a=b):=by
  rw[ByteArray.toList_eq,ByteArray.toList_eq]
  by_cases h:a=b
  ·subst h;simp
  · rw [bY h]
    have:a.data.toList≠b.data.toList:=fun e=>h (by
      obtain⟨⟨x⟩⟩:=a
      obtain⟨⟨y⟩⟩:=b
      simp only at e
      rw[e])
    simpa using this
theorem JJ (a b:Int):(a==b)=decide (a=b):=by
  by_cases h:a=b
  ·subst h;simp
  ·rw[bY h];simpa using h
theorem B5 {op:BinOp}{a b r:Value}(h:Ic op a b=some r):xW op a b=some r:=by
  unfold Ic at h
  split at h
  all_goals first
    | (split at h
       ·rename_i hk;have hk':=wW hk;subst hk';cases h;simp[xW,JJ]
       ·cases h)
    |(cases h;simp[xW,IZ])
    |cases h
@[reducible] def CI (op : BinOp) (a b : Value) : Option Value :=
  match op,a,b with
  |.eql,.bool a,.bool b=>some (.bool (a==b))
  |.neq,.bool a,.bool b=>some (.bool (!(a==b)))
  |_,_,_=>none
theorem Fb {op:BinOp}{a b r:Value}(h:CI op a b=some r):G3 op a b=some r:=by
  unfold CI at h
  split at h<;>first|exact h|cases h
@[reducible] def Lt (Γ : bZ) (sl : SL) (c : Call) : Option (List Nat × AV × ML) :=
  match c.callee,c.args.toList,c.argTypes.toList with
  | .builtin .len,[y],[t]=>(match kN Γ t with
    | some (.sl ..)=>match eM sl y with
      |.own _ _ n=>some ([],.lit (.int .i64 n),[])
      |.sl _ rows=>some ([],.lit (.int .i64 rows.length),[])
      |.lit (.slice _ n _)=>some ([],.lit (.int .i64 n),[])
      |_=>none
    | some .str=>match eM sl y with
      |.lit (.string s)=>some ([],.lit (.int .i64 s.size),[])
      |_=>none
    |_=>none)
  |_,_,_=>none
theorem H8 (Γ:bZ)(sl:SL)(c:Call):Lt Γ sl c=HE Γ sl c:=by
  unfold Lt HE
  simp only[cw,dD]
  rfl
@[reducible] def xL (op : BinOp) (ti : Option TI) (n : Nat) : Option (List Nat × AV × ML) :=
  match ti,op with
  |some (.sl ..),.eql=>some ([],.guess (n=0) True,[])
  |some (.sl ..),.neq=>some ([],.guess True (n=0),[])
  |_,_=>none
theorem D1 (op:BinOp)(ti:Option TI)(n:Nat):xL op ti n=qY op ti n:=by
  unfold xL qY
  rfl
@[reducible] def JX (b : Bool) (x y : AV) : AV := match b with | true => x | false => y
theorem G2 (b:Bool)(x y:AV):JX b x y=if b then x else y:=by cases b<;>rfl
@[reducible] def uW {α β : Type} (f : α → β) : Option α → Option β
  |some x=>some (f x)
  |none=>none
theorem lq {α β:Type}(f:α→β)(x:Option α):uW f x=x.map f:=by cases x<;>rfl
@[reducible] def Kk (Γ : bZ) (op : BinOp) (t : TypeId) (x y : AV) : Option (List Nat × AV × ML) :=
  match x with
  | .own _ _ n=>match Ko y with
    |true=>xL op (kN Γ t) n
    |false=>none
  | .sl _ rows=>match Ko y with
    |true=>xL op (kN Γ t) rows.length
    |false=>none
  | .lit a=>match y with
    | .lit b=>match kN Γ t with
      |some .bl=>uW (fun r=>([],.lit r,[])) (CI op a b)
      |_=>uW (fun r=>([],.lit r,[])) (Ic op a b)
    |_=>none
  |_=>none
@[reducible] def cN (Γ : bZ) (sl : SL) (m : ML) (dst : Option Nat) (op : Op) : Option (List Nat × AV × ML) :=
  match op with
  |.move y=>some ([],eM sl y,[])
  |.assign y=>some ([],eM sl y,[])
  | .pick c y z=>match eM sl c with
    |.lit (.bool b)=>some ([],JX b (eM sl y) (eM sl z),[])
    |_=>none
  | .extract y i=>match eM sl y with
    |.tup vs=>uW (fun x=>([],x,[])) (gd vs i)
    |_=>none
  | .field t y f=>match eM sl y,kN Γ t with
    | .agg cs,some (.st _ fs _ _)=>match gd fs f with
      |some (off,ft)=>uW (fun x=>([],x,[])) (pD (kN Γ ft) (.agg cs) off)
      |none=>none
    |_,_=>none
  | .load t y=>match eM sl y with
    | .ptr tk i k=>match dX m tk with
      | .live _ rows _=>match gd rows i with
        |some r=>uW (fun x=>([tk],x,[])) (pD (kN Γ t) r k)
        |none=>none
      |_=>none
    |.fptr r k=>uW (fun x=>([],x,[])) (pD (kN Γ t) r k)
    |_=>none
  | .fieldAddr t y f=>match kN Γ t with
    | some (.st _ fs _ _)=>match gd fs f with
      | some (off,_)=>match eM sl y with
        |.ptr tk i k=>some ([],.ptr tk i (Nat.add k off),[])
        |.fptr r k=>some ([],.fptr r (Nat.add k off),[])
        |_=>none
      |none=>none
    |_=>none
  | .nilCheck y=>match eM sl y with
    |.ptr tk i k=>some ([],.ptr tk i k,[])
    |.fptr r k=>some ([],.fptr r k,[])
    |_=>none
  | .store t y z=>match dst with
    | none =>match eM sl y with
      | .ptr tk i k=>match dX m tk with
        | .live wd rows false=>match gd rows i with
          | some r=>match rD (kN Γ t) r k (eM sl z) with
            |some r'=>some ([tk],.any,[(tk,.live wd (HR rows i r') false)])
            |none=>none
          |none=>none
        |_=>none
      |_=>none
    |some _=>none
  | .box _ y=>match dst with
    | some d=>match dX m (Nat.mul 10 d) with
      | .free=>match sX (eM sl y) with
        |true=>some ([Nat.mul 10 d],.ptr (Nat.mul 10 d) 0 0,[(Nat.mul 10 d,.live (eL (dy (eM sl y))) [eM sl y] false)])
        |false=>none
      |_=>none
    |none=>none
  | .alloc t=>match dst with
    | some d=>match dX m (Nat.mul 10 d) with
      | .free=>match FR (kN Γ t) with
        |some x=>some ([Nat.mul 10 d],.ptr (Nat.mul 10 d) 0 0,[(Nat.mul 10 d,.live (eL (dy x)) [x] false)])
        |none=>none
      |_=>none
    |none=>none
  |.makeFunc fn first cap=>some ([],.clo fn (dU (eM sl) first.toList) (dU (eM sl) cap.toList),[])
  |.binOp op t y z _=>Kk Γ op t (eM sl y) (eM sl z)
  | .unOp .not _ y=>match eM sl y with
    |.lit (.bool b)=>some ([],.lit (.bool (!b)),[])
    |_=>none
  | .build t parts=>match kN Γ t with
    |some (.st _ fs z szs)=>uW (fun cs=>([],.agg cs,[])) (CL (fun i=>match gd fs i,gd szs i with|some (off,_),some sz=>some (off,sz)|_,_=>none) (dU .lit z.toList) (dU (fun(p:Nat×Operand)=>match p with|(i,y)=>(i,eM sl y)) parts.toList))
    |_=>none
  |.call c=>Lt Γ sl c
  |_=>none
theorem DD {Γ:bZ}{sl:SL}{m:ML}{dst:Option Nat}{op:Op}{q:List Nat×AV×ML}(h:cN Γ sl m dst op=some q):dY Γ sl m dst op=some q:=by
  have hcells:∀x,eL (dy x)=(cells x).length:=fun x=>by rw[cR,eI]
  cases op
  case move y=>simp only[cN,dY,dD] at h ⊢;exact h
  case assign y=>simp only[cN,dY,dD] at h ⊢;exact h
  case pick c y z=>simp only[cN,dY,dD,G2] at h ⊢;exact h
  case extract y i=>simp only[cN,dY,dD,eU,lq] at h ⊢;exact h
  case field t y f=>simp only[cN,dY,dD,eU,lq,cw,nn] at h ⊢;exact h
  case load t y=>simp only[cN,dY,dD,eU,lq,cw,gO,nn] at h ⊢;exact h
  case fieldAddr t y f=>simp only[cN,dY,dD,eU,cw] at h ⊢;exact h
  case nilCheck y=>simp only[cN,dY,dD] at h ⊢;exact h
  case store t y z=>
    simp only[cN,dY,dD,eU,cw,gO,BW] at h ⊢
    cases dst with
    |some d=>cases h
    | none =>
      simp only at h ⊢
      generalize iU sl y=vy at h ⊢
      cases vy
      case ptr tk i k=>
        simp only at h ⊢
        generalize aO m tk=ms at h ⊢
        cases ms
        case live wd rows ro=>
          cases ro with
          |true=>simp only at h;cases h
          | false=>
            simp only at h ⊢
            generalize rows[i]? =rw0 at h ⊢
            cases rw0 with
            |none=>simp only at h;cases h
            | some r=>
              simp only at h ⊢
              cases hs:rD (cU Γ t) r k (iU sl z) with
              |none=>rw[hs] at h;simp only at h;cases h
              |some r'=>rw[vk hs];rw[hs] at h;exact h
        all_goals (simp only at h;cases h)
      all_goals (simp only at h;cases h)
  case box t y=>
    simp only[cN,dY,dD,gO,nB,hcells] at h ⊢
    cases dst with
    |none=>cases h
    | some d=>
      simp only at h ⊢
      have e10:Nat.mul 10 d=10*d:=rfl
      rw[e10] at h
      generalize aO m (10*d)=ms at h ⊢
      cases ms
      case free=>
        simp only at h ⊢
        cases hs:(iU sl y).kF with
        |true=>rw[hs] at h;rw[if_pos rfl];exact h
        |false=>rw[hs] at h;simp only at h;cases h
      all_goals (simp only at h;cases h)
  case alloc t=>
    simp only[cN,dY,cw,gO,GC,hcells] at h ⊢
    exact h
  case makeFunc fn a b=>
    have he:eM sl=iU sl:=funext (dD sl)
    simpa only[cN,dY,he,eo] using h
  case binOp op t y z yt=>
    simp only[cN,Kk,dY,dD,cw,D1,lq] at h ⊢
    generalize iU sl y=a at h ⊢
    generalize iU sl z=b at h ⊢
    have lit:∀ (x1 x2:Value),(match cU Γ t with
        |some .bl=>(CI op x1 x2).map (fun r=>(([]:List Nat),AV.lit r,([]:ML)))
        |_=>(Ic op x1 x2).map (fun r=>(([]:List Nat),AV.lit r,([]:ML))))=some q→
      (match cU Γ t with
        |some .bl=>(G3 op x1 x2).map (fun r=>(([]:List Nat),AV.lit r,([]:ML)))
        |_=>(xW op x1 x2).map (fun r=>(([]:List Nat),AV.lit r,([]:ML))))=some q:=by
      intro x1 x2 hh
      have g1:∀ {z1 z2:Option Value},(∀r,z1=some r→z2=some r)→z1.map (fun r=>(([]:List Nat),AV.lit r,([]:ML)))=some q→z2.map (fun r=>(([]:List Nat),AV.lit r,([]:ML)))=some q:=by
        intro z1 z2 hz h1
        rw[Option.map_eq_some_iff] at h1 ⊢
        obtain⟨r,h2,h3⟩:=h1
        exact⟨r,hz r h2,h3⟩
      generalize cU Γ t=ti at hh ⊢
      cases ti with
      |none=>exact g1 (fun r hr=>B5 hr) hh
      |some ti=>cases ti<;>first|exact g1 (fun r hr=>B5 hr) hh|exact g1 (fun r hr=>Fb hr) hh
    cases a
    case own t1 o1 n1=>
      simp only at h
      split at h
      ·rename_i hn;rw[Cf hn];exact h
      ·cases h
    case sl w1 r1=>
      simp only at h
      split at h
      ·rename_i hn;rw[Cf hn];exact h
      ·cases h
    case lit x1=>
      cases b
      case lit x2=>exact lit x1 x2 h
      all_goals (simp only at h;cases h)
    all_goals (simp only at h;cases h)
  case unOp op t y=>cases op<;>(simp only[cN,dY,dD] at h ⊢;exact h)
  case build t parts=>
    simp only[cN,dY,dD,cw,eU,eo,lq] at h ⊢
    generalize cU Γ t=ti at h ⊢
    cases ti with
    |none=>cases h
    | some ti=>
      cases ti
      case st n fs z szs=>
        simp only at h ⊢
        rw[Option.map_eq_some_iff] at h
        obtain⟨cs,h1,h2⟩:=h
        have h3:=zC h1
        rw[Option.map_eq_some_iff]
        exact⟨cs,h3,h2⟩
      all_goals (simp only at h;cases h)
  case call c=>simp only[cN,dY,H8] at h ⊢;exact h
  all_goals simp only[cN] at h;cases h
end Go.Am
