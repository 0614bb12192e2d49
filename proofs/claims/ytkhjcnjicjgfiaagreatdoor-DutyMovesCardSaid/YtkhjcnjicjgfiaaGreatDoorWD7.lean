/- Walks of functions by unfolding over abstract states; runs of functions by an evaluator that is proved. By an AI agent. -/
import Derived.Test.YtkhjcnjicjgfiaaGreatDoorWD6
import Derived.Laws.StructEq
import Derived.IntWalk
set_option linter.unusedSimpArgs false
set_option linter.unusedVariables false
namespace Go.Am
open Go
theorem beq_eq {i d:Nat}(h:Nat.beq i d=true):i=d:=Nat.eq_of_beq_eq_true h
theorem beq_false {i d:Nat}(h:i≠d):Nat.beq i d=false:=by
  cases h':Nat.beq i d with
  |false=>rfl
  |true=>exact absurd (beq_eq h') h
theorem bT {a b:Nat}(h:Nat.ble a b=true):a≤b:=Nat.le_of_ble_eq_true h
theorem Fj {a b:Nat}(h:a≤b):Nat.ble a b=true:=Nat.ble_eq_true_of_le h
theorem El {a b:Nat}(h:¬a≤b):Nat.ble a b=false:=by
  cases h':Nat.ble a b with
  |false=>rfl
  |true=>exact absurd (bT h') h
@[reducible] def rT : Nat → Nat → Bool
  | 0,k=>match k with
    |0=>true
    |_+1=>false
  | n+1,k=>match k with
    |0=>false
    |k+1=>rT n k
@[reducible] def LR : Nat → Nat → Bool
  |0,_=>true
  |n+1,k+1=>LR n k
  |_+1,0=>false
@[reducible] def KB : Nat → Bool
  |0=>true
  |_+1=>false
@[reducible] def nY : Value → Bool
  | .slice ad n c=>match ad with
    | none=>match KB n with
      |true=>KB c
      |false=>false
    |some _=>false
  |_=>false
@[reducible] def Ml : AV → Bool
  |.lit v=>nY v
  |_=>false
theorem eS {v:Value}(h:nY v=true):v=.slice none 0 0:=by
  cases v with
  | slice ad n c=>
    cases ad with
    | none=>
      cases n with
      | zero=>cases c with
        |zero=>rfl
        |succ c=>cases h
      |succ n=>cases h
    |some a=>cases h
  |_=>cases h
theorem Dd {x:AV}(h:Ml x=true):x=.lit (.slice none 0 0):=by
  cases x with
  |lit v=>rw[eS h]
  |_=>cases h
theorem dW:∀ (a b:Nat),rT a b=Nat.beq a b
  |0,0=>rfl
  |n+1,k+1=>by rw[rT,dW n k];rfl
  |0,k+1=>rfl
  |n+1,0=>rfl
theorem xJ:∀ (a b:Nat),LR a b=Nat.ble a b
  |0,b=>by simp[LR]
  |n+1,k+1=>by rw[LR,xJ n k];rfl
  |n+1,0=>rfl
abbrev SL:=List (Nat×AV)
abbrev ML:=List (Nat×MS)
@[reducible] def sZ : SL → Nat → AV
  |[],_=>.any
  | (k,x)::r,i=>match Nat.beq i k with
    |true=>x
    |false=>sZ r i
@[reducible] def dc : ML → Nat → MS
  |[],_=>.free
  | (k,x)::r,i=>match Nat.beq i k with
    |true=>x
    |false=>dc r i
@[reducible] def kH : bL → Nat → Option TI
  |[],_=>none
  | (k,x)::r,i=>match Nat.beq i k with
    |true=>some x
    |false=>kH r i
theorem gQ:∀ (l:SL) (i:Nat),sZ l i=bX l i
  |[],_=>rfl
  | p ::r,i=>by
    obtain⟨d,x⟩:=p
    simp only[sZ,bX,gQ r i]
    by_cases h:i=d
    ·subst h;simp
    · have h1:(i==d)=false:=by simpa using h
      have h2:Nat.beq i d=false:=beq_false (by simpa using h1)
      rw[h1,h2];rfl
theorem gM:∀ (l:ML) (i:Nat),dc l i=aN l i
  |[],_=>rfl
  | p ::r,i=>by
    obtain⟨d,x⟩:=p
    simp only[dc,aN,gM r i]
    by_cases h:i=d
    ·subst h;simp
    · have h1:(i==d)=false:=by simpa using h
      have h2:Nat.beq i d=false:=beq_false (by simpa using h1)
      rw[h1,h2];rfl
theorem ck:∀ (l:bL) (i:Nat),kH l i=cK l i
  |[],_=>rfl
  | p ::r,i=>by
    obtain⟨d,x⟩:=p
    simp only[kH,cK,ck r i]
    by_cases h:d=i
    ·subst h;simp
    · have h1:(i==d)=false:=by simpa using Ne.symm h
      have h2:Nat.beq i d=false:=beq_false (by simpa using h1)
      rw[h1,h2];rfl
@[reducible] def pA (d : Nat) (x : AV) : SL → SL
  |[]=>[(d,x)]
  | (k,y)::r=>match Nat.beq d k with
    |true=>(d,x)::r
    |false=>(k,y)::pA d x r
@[reducible] def jw (d : Nat) (x : MS) : ML → ML
  |[]=>[(d,x)]
  | (k,y)::r=>match Nat.beq d k with
    |true=>(d,x)::r
    |false=>(k,y)::jw d x r
@[reducible] def uV : ML → ML → ML
  |[],m=>m
  |(k,x)::r,m=>jw k x (uV r m)
@[reducible] def pushB : Option Nat → AV → SL → SL
  |none,_,l=>l
  |some d,x,l=>pA d x l
theorem nD (d:Nat)(x:AV):∀ (l:SL) (i:Nat),bX (pA d x l) i=bX ((d,x)::l) i
  |[],i=>rfl
  | p :: r,i=>by
    obtain⟨e,y⟩:=p
    simp only[pA]
    by_cases h:d=e
    · subst h
      simp only[Nat.beq_refl,bX]
      by_cases hi:i=d
      ·subst hi;simp
      · have:(i==d)=false:=by simpa using hi
        simp[this]
    · rw [beq_false h]
      simp only[bX,nD d x r i]
      by_cases hi:i=d
      · subst hi;have:(i==e)=false:=by simpa using h
        simp[this]
      · have:(i==d)=false:=by simpa using hi
        simp[this]
theorem tr (d:Nat)(x:MS):∀ (l:ML) (i:Nat),aN (jw d x l) i=aN ((d,x)::l) i
  |[],i=>rfl
  | p :: r,i=>by
    obtain⟨e,y⟩:=p
    simp only[jw]
    by_cases h:d=e
    · subst h
      simp only[Nat.beq_refl,aN]
      by_cases hi:i=d
      ·subst hi;simp
      · have:(i==d)=false:=by simpa using hi
        simp[this]
    · rw [beq_false h]
      simp only[aN,tr d x r i]
      by_cases hi:i=d
      · subst hi;have:(i==e)=false:=by simpa using h
        simp[this]
      · have:(i==d)=false:=by simpa using hi
        simp[this]
theorem qN:∀ (u m:ML) (i:Nat),aN (uV u m) i=aN (u++m) i
  |[],m,i=>rfl
  | p::r,m,i=>by
    obtain⟨e,y⟩:=p
    simp only[uV,tr,List.cons_append,aN,qN r m i]
theorem By (d:Option Nat)(x:AV)(l:SL)(i:Nat):bX (pushB d x l) i=bX (qf d x l) i:=by
  cases d with
  |none=>rfl
  |some d=>exact nD d x l i
theorem sj (d:Option Nat)(x:AV)(l:SL)(u m:ML):St (qf d x l) (u++m)=St (pushB d x l) (uV u m):=by
  unfold St
  congr 1
  ·funext i;exact(By d x l i).symm
  ·funext i;exact(qN u m i).symm
@[reducible] def eI (l : SL) : Operand → AV
  |.tmp t=>sZ l t
  |.const v=>.lit v
  |.global g=>.lit (.pointer (some ⟨g,0,none⟩))
  |.func f=>.lit (.func (.func f) #[] #[])
theorem di (l:SL)(y:Operand):eI l y=iT l y:=by cases y<;>simp[eI,iT,gQ]
section
universe u v
variable {α : Type u} {β : Type v}
@[reducible] def gh : List α → Nat → Option α
  |[],_=>none
  |x::_,0=>some x
  |_::r,k+1=>gh r k
@[reducible] def dD : List α → Nat
  |[]=>0
  |_::r=>Nat.succ (dD r)
@[reducible] def dO (f : α → β) : List α → List β
  |[]=>[]
  |x::r=>f x::dO f r
@[reducible] def dH : List α → List α → List α
  |[],b=>b
  |x::r,b=>x::dH r b
@[reducible] def gA : Nat → List α → List α
  |0,_=>[]
  |_+1,[]=>[]
  |k+1,x::r=>x::gA k r
@[reducible] def vC : Nat → List α → List α
  |0,l=>l
  |_+1,[]=>[]
  |k+1,_::r=>vC k r
@[reducible] def Iq : List α → Nat → α → List α
  |[],_,_=>[]
  |_::r,0,y=>y::r
  |x::r,k+1,y=>x::Iq r k y
@[reducible] def iQ (p : α → Bool) : List α → Bool
  |[]=>true
  | x::r=>match p x with
    |true=>iQ p r
    |false=>false
@[reducible] def sX : List β → List α → List α
  |[],l=>l
  |_::_,[]=>[]
  |_::r,_::l=>sX r l
theorem eN:∀ (l:List α) (k:Nat),gh l k=l[k]?
  |[],_=>rfl
  |_::_,0=>rfl
  |_::r,k+1=>by simp only[gh,eN r k,List.getElem?_cons_succ]
theorem cq:∀ (l:List α),dD l=l.length
  |[]=>rfl
  |_::r=>by show dD r+1=_;rw[cq r];rfl
theorem dX (f:α→β):∀ (l:List α),dO f l=l.map f
  |[]=>rfl
  |x::r=>by simp only[dO,dX f r,List.map_cons]
theorem gU:∀ (a b:List α),dH a b=a++b
  |[],_=>rfl
  |x::r,b=>by simp only[dH,gU r b,List.cons_append]
theorem pY:∀ (k:Nat) (l:List α),gA k l=l.take k
  |0,_=>rfl
  |_+1,[]=>rfl
  |k+1,x::r=>by simp only[gA,pY k r,List.take_succ_cons]
theorem qg:∀ (k:Nat) (l:List α),vC k l=l.drop k
  |0,_=>rfl
  |_+1,[]=>rfl
  |k+1,x::r=>by simp only[vC,qg k r,List.drop_succ_cons]
theorem wF:∀ (a:List β) (l:List α),sX a l=l.drop a.length
  |[],_=>rfl
  |_::_,[]=>by simp[sX]
  |_::r,_::l=>by simp only[sX,wF r l,List.length_cons,List.drop_succ_cons]
theorem Cp:∀ (l:List α) (k:Nat) (y:α),Iq l k y=l.set k y
  |[],_,_=>rfl
  |_::_,0,_=>rfl
  |x::r,k+1,y=>by simp only[Iq,Cp r k y,List.set_cons_succ]
theorem CE (p:α→Bool):∀ (l:List α),iQ p l=l.all p
  |[]=>rfl
  |x::r=>by simp only[iQ,List.all_cons,CE p r];cases p x<;>rfl
end
@[reducible] def cO : AV → List AV
  |.agg cs=>cs
  |.lit (.agg xs)=>dO .lit xs.toList
  |x=>[x]
theorem eD (x:AV):cO x=cells x:=by
  cases x with
  |lit v=>cases v<;>simp[cO,cells,dX]
  |_=>rfl
@[reducible] def Fh : AV → Bool
  |.agg _=>true
  |.lit (.agg _)=>true
  |_=>false
theorem Ef (x:AV):Fh x=kg x:=by
  cases x with
  |lit v=>cases v<;>rfl
  |_=>rfl
@[reducible] def sy : AV → Bool
  |.any=>false
  |_=>true
theorem nG (x:AV):sy x=x.kY:=by cases x<;>rfl
@[reducible] def Le : AV → Bool
  |.any=>false
  |.agg _=>false
  |.tup _=>false
  |.lit (.agg _)=>false
  |.lit (.tuple _)=>false
  |_=>true
theorem IC (x:AV):Le x=x.one:=by
  cases x with
  |lit v=>cases v<;>rfl
  |_=>rfl
@[reducible] def qX : IntKind → Nat
  |.i8=>0|.i16=>1|.i32=>2|.i64=>3|.u8=>4|.u16=>5|.u32=>6|.u64=>7
theorem yf {k k':IntKind}(h:Nat.beq (qX k) (qX k')=true):k=k':=by
  cases k<;>cases k'<;>first|rfl|(simp[qX] at h)
@[reducible] def CM (n : Nat) (r : AV) (k : Nat) : Option AV :=
  match Nat.beq k 0,rT (dD (cO r)) n,Fh r with
  |true,true,true=>some r
  | _,_,_=>match LR (Nat.add k n) (dD (cO r)) with
    |true=>some (.agg (gA n (vC k (cO r))))
    |false=>none
@[reducible] def pV (ti : Option TI) (r : AV) (k : Nat) : Option AV :=
  match ti with
  |some (.sc _)=>gh (cO r) k
  |some .bl=>gh (cO r) k
  |some (.sl ..)=>gh (cO r) k
  |some .str=>gh (cO r) k
  |some (.st n _ _ _)=>CM n r k
  |some (.ar n _ _ _ _)=>CM n r k
  |none=>none
theorem JG (a b:Nat):Nat.ble a b=decide (a≤b):=by
  by_cases h:a≤b
  ·rw[Fj h,dB h]
  ·rw[El h,dQ h]
theorem J9 (a b:Nat):Nat.beq a b=decide (a=b):=by
  by_cases h:a=b
  ·subst h;simp
  ·rw[beq_false h,dQ h]
theorem FY (n:Nat)(r:AV)(k:Nat):CM n r k=if k=0∧(cells r).length=n∧kg r=true then some r else if k+n≤ (cells r).length then some (.agg (((cells r).drop k).take n)) else none:=by
  unfold CM
  simp only[pY,qg,cq,eD,Ef,dW,xJ,J9,JG]
  show (match decide (k=0),decide ((cells r).length=n),kg r with
    |true,true,true=>some r
    | _,_,_=>match decide (k+n≤ (cells r).length) with
      |true=>some (AV.agg (((cells r).drop k).take n))
      |false=>none)=_
  by_cases h4:k+n≤ (cells r).length
  · rw [dB h4,if_pos h4]
    by_cases h1:k=0
    · by_cases h2:(cells r).length=n
      · cases h3:kg r with
        |true=>rw[dB h1,dB h2,if_pos ⟨h1,h2,rfl⟩]
        |false=>rw[dB h1,dB h2,if_neg (fun h=>by cases h.2.2)]
      ·rw[dB h1,dQ h2,if_neg (fun h=>h2 h.2.1)]
    ·rw[dQ h1,if_neg (fun h=>h1 h.1)]
  · rw [dQ h4,if_neg h4]
    by_cases h1:k=0
    · by_cases h2:(cells r).length=n
      · cases h3:kg r with
        |true=>rw[dB h1,dB h2,if_pos ⟨h1,h2,rfl⟩]
        |false=>rw[dB h1,dB h2,if_neg (fun h=>by cases h.2.2)]
      ·rw[dB h1,dQ h2,if_neg (fun h=>h2 h.2.1)]
    ·rw[dQ h1,if_neg (fun h=>h1 h.1)]
theorem mB (ti:Option TI)(r:AV)(k:Nat):pV ti r k=q9 ti r k:=by
  cases ti with
  |none=>rfl
  |some ti=>cases ti<;>simp only[pV,q9,eN,eD,FY]
@[reducible] def GI : Option TI → Option Nat
  |some (.sc _)=>some 1
  |some .bl=>some 1
  |some (.sl ..)=>some 1
  |some .str=>some 1
  |some (.st n ..)=>some n
  |some (.ar n ..)=>some n
  |none=>none
theorem Hi (ti:Option TI):GI ti=yM ti:=by
  cases ti with
  |none=>rfl
  |some ti=>cases ti<;>rfl
@[reducible] def Fl : Option TI → Option AV
  |some (.sc z)=>match z with|.agg _=>none|z=>some (.lit z)
  |some .bl=>some (.lit (.bool false))
  |some (.sl ..)=>some (.lit (.slice none 0 0))
  |some .str=>some (.lit (.string ByteArray.empty))
  |some (.st _ _ z _)=>some (.agg (dO .lit z.toList))
  |some (.ar _ _ _ _ z)=>some (.agg (dO .lit z.toList))
  |none=>none
theorem GV (ti:Option TI):Fl ti=nj ti:=by
  cases ti with
  |none=>rfl
  |some ti=>cases ti<;>first|rfl|(simp only[Fl,nj,dX])|(rename_i z;cases z<;>rfl)
@[reducible] def qw (ti : Option TI) (r : AV) (k : Nat) (x : AV) : Option AV :=
  match GI ti with
  | some n=>match rT (dD (cO x)) n,iQ Le (cO x),sy x with
    | true,true,true=>match rT (dD (cO r)) n,Nat.beq k 0 with
      |true,true=>some x
      | _,_=>match LR (Nat.add k n) (dD (cO r)) with
        |true=>some (.agg (dH (gA k (cO r)) (dH (cO x) (sX (cO x) (vC k (cO r))))))
        |false=>none
    |_,_,_=>none
  |none=>none
theorem vY {ti:Option TI}{r:AV}{k:Nat}{x r':AV}(h:qw ti r k x=some r'):sA ti r k x=some r':=by
  unfold qw at h
  unfold sA
  rw[←Hi]
  cases hs:GI ti with
  |none=>rw[hs] at h;cases h
  | some n =>
    rw[hs] at h
    simp only[pY,qg,wF,gU,cq,eD,nG,CE,dW,xJ,List.drop_drop] at h ⊢
    have ho:((cells x).all Le)=lX (cells x):=by unfold lX;congr 1;funext y;exact IC y
    rw[ho] at h
    split at h
    · rename_i h1 h2 h3
      rw[if_pos ⟨beq_eq h1,h2,h3⟩]
      split at h
      · rename_i h4 h5
        cases h
        rw[if_pos ⟨beq_eq h4,beq_eq h5⟩]
      · rename_i h4
        split at h
        · rename_i h5
          cases h
          have h5':k+n≤ (cells r).length:=bT h5
          rw[if_neg (fun hh=>h4 (by simp[hh.1]) (by simp[hh.2])),if_pos h5']
          unfold eM
          rw[List.append_assoc]
        ·cases h
    ·cases h
@[reducible] def CH (place : Nat → Option (Nat × Nat)) (cs : List AV) : List (Nat × AV) → Option (List AV)
  |[]=>some cs
  | (i,x)::rest=>
    match place i with
    |none=>none
    | some (off,size)=>match rT (dD (cO x)) size,LR (Nat.add off size) (dD cs),sy x with
      |true,true,true=>CH place (dH (gA off cs) (dH (cO x) (vC (Nat.add off size) cs))) rest
      |_,_,_=>none
theorem yX {place:Nat→Option (Nat×Nat)}:∀ {ps:List (Nat×AV)} {cs cs':List AV},CH place cs ps=some cs'→lZ place cs ps=some cs'
  |[],cs,cs',h=>h
  | (i, x)::rest,cs,cs',h=>by
    simp only[CH] at h
    simp only[lZ]
    cases hp:place i with
    |none=>rw[hp] at h;cases h
    | some os=>
      obtain⟨off,size⟩:=os
      rw[hp] at h
      simp only at h ⊢
      split at h
      · rename_i h1 h2 h3
        rw[dW,cq,eD] at h1
        rw[xJ,cq] at h2
        rw[nG] at h3
        have e1:=beq_eq h1
        have e2:=bT h2
        rw[if_pos ⟨e1,by rw[e1];exact e2,h3⟩]
        have:=yX h
        simp only[pY,qg,gU,eD] at this
        unfold eM
        rw[List.append_assoc,e1];exact this
      ·cases h
abbrev Rest:=List Nat→AV→ML→Tk→SL→ML→Prop
def bt (P:Program)(N:Nat){o:Oper}(acc:Tk)(sl:SL)(m:ML){R:Rest}:Prop:=∃rd x ups,az P N o (St sl m) rd x ups∧R rd x ups acc sl m
def aP (p:Prop)(acc:Tk)(sl:SL)(m:ML){A:Tk→SL→ML→Prop}:Prop:=p∧A acc sl m
def bn (rows:List AV)(i:Int)(acc:Tk)(sl:SL)(m:ML){A:AV→Tk→SL→ML→Prop}:Prop:=∃ (k:Nat) (r:AV),i=k∧rows[k]? =some r∧A r acc sl m
def gX (i:Int)(n:Nat)(acc:Tk)(sl:SL)(m:ML){A:Nat→Tk→SL→ML→Prop}:Prop:=∃k:Nat,i=k∧k<n∧A k acc sl m
def bE (rows:List AV)(i:Nat)(acc:Tk)(sl:SL)(m:ML){A:AV→Tk→SL→ML→Prop}:Prop:=∃r:AV,rows[i]? =some r∧A r acc sl m
def uM (l h:Int)(len:Nat)(acc:Tk)(sl:SL)(m:ML){A:Nat→Nat→Tk→SL→ML→Prop}:Prop:=∃a n:Nat,l=a∧h=(a:Int)+n∧a+n≤len∧A a n acc sl m
def Gc (l h:Int)(rows:List AV)(acc:Tk)(sl:SL)(m:ML){A:List AV→Tk→SL→ML→Prop}:Prop:=∃ (a n:Nat) (rows':List AV),l=a∧h=(a:Int)+n∧a+n≤rows.length∧rows'=(rows.drop a).take n∧A rows' acc sl m
def jR (rb:List AV)(off len:Nat)(rs:List AV)(off' len':Nat)(bytes:Nat)(acc:Tk)(sl:SL)(m:ML){A:List AV→Tk→SL→ML→Prop}:Prop:=
  ∃ rows0 news,off+len≤rb.length∧rows0=(rb.drop off).take len∧off'+len'≤rs.length∧news=(rs.drop off').take len'∧lX (flat news)=true∧
    (rows0.length+news.length)*bytes≤140737488355328∧rows0.length+news.length≤9223372036854775807∧A (rows0++news) acc sl m
def ah (P:Program)(N:Nat){o:Oper}(f:FuncId)(args:List AV)(acc:Tk)(sl:SL)(m:ML){R:Rest}:Prop:=fk (St sl m) o f args→bt P N acc sl m (o:=o) (R:=R)
def jV (P:Program)(N:Nat){o:Oper}(t:TypeId)(c:Bool)(ym kv:AV)(acc:Tk)(sl:SL)(m:ML){R:Rest}:Prop:=
  (∃y x,o.op=.lookup t y x c∧(St sl m).eval y=ym∧(St sl m).eval x=kv)→bt P N acc sl m (o:=o) (R:=R)
def pQ (P:Program)(N:Nat){o:Oper}(t:TypeId)(ym kv x:AV)(acc:Tk)(sl:SL)(m:ML){R:Rest}:Prop:=
  (∃y z v,o.op=.mapUpdate t y z v∧(St sl m).eval y=ym∧(St sl m).eval z=kv∧(St sl m).eval v=x)→bt P N acc sl m (o:=o) (R:=R)
def eZ (P:Program)(N:Nat){o:Oper}(t:TypeId)(ym:AV)(acc:Tk)(sl:SL)(m:ML){R:Rest}:Prop:=
  (∃y,o.op=.call {callee:=.builtin .len,args:= #[y],argTypes:= #[t]}∧(St sl m).eval y=ym)→bt P N acc sl m (o:=o) (R:=R)
def vH (s:ByteArray)(i:Int)(acc:Tk)(sl:SL)(m:ML){A:Int→Tk→SL→ML→Prop}:Prop:=∃ (k:Nat) (c:UInt8),i=k∧s.data.toList[k]? =some c∧A c.toNat acc sl m
def E5 (s:ByteArray)(l h:Int)(acc:Tk)(sl:SL)(m:ML){A:ByteArray→Tk→SL→ML→Prop}:Prop:=∃a b:Nat,l=a∧h=b∧a≤b∧b≤s.size∧A (s.extract a b) acc sl m
def ni (P:Program)(src dst:TypeId)(v:Value)(acc:Tk)(sl:SL)(m:ML){A:Value→Tk→SL→ML→Prop}:Prop:=∃r,(∀w,(convert src dst v).run P w=.ok r w)∧A r acc sl m
def BR (P:Program)(src dst:TypeId)(rows:List AV)(off len:Nat)(acc:Tk)(sl:SL)(m:ML){A:Value→Tk→SL→ML→Prop}:Prop:=
  ∃ (bs:List UInt8) (e:TypeId),P.underlying src=some (.slice e)∧P.underlying e=some (.int .u8)∧P.underlying dst=some .string∧len=bs.length∧bs≠ []∧
    (∀ (i:Nat) (b:UInt8),bs[i]? =some b→(flat rows)[off+i]? =some (.lit (.int .u8 b.toNat)))∧A (.string ⟨bs.toArray⟩) acc sl m
def K6 (P:Program)(op:BinOp)(t:TypeId)(us vs:List Value)(acc:Tk)(sl:SL)(m:ML){A:Bool→Tk→SL→ML→Prop}:Prop:=
  ∃b,(∀ (y z:Operand) (w:World),((do eqGuard op t y z (.agg us.toArray) (.agg vs.toArray);binOp op t (.agg us.toArray) (.agg vs.toArray):Sem Value)).run P w=.ok (.bool b) w)∧A b acc sl m
@[reducible] def rm : List AV → Option (List Value)
  |[]=>some []
  | .lit v::r=>match rm r with
    |some l=>some (v::l)
    |none=>none
  |_::_=>none
def aL (b:Bool)(acc:Tk)(sl:SL)(m:ML){A B:Tk→SL→ML→Prop}:Prop:=(b=true→A acc sl m)∧(b=false→B acc sl m)
@[reducible] def vE (t : Nat) : Bool := Nat.beq (Nat.mod t 10) 0
@[reducible] def qo (P : Program) (N : Nat) (o : Oper) (acc : Tk) (sl : SL) (m : ML) (R : Rest) : Option (List Nat × AV × ML) → Prop
  |some (rd,x,ups)=>R rd x ups acc sl m
  |none=>bt P N acc sl m (o:=o) (R:=R)
@[reducible] def Jl (op : BinOp) (a b : Value) : Option Value :=
  match op,a,b with
  |.add,.int k a,.int k' b=>match Nat.beq (qX k) (qX k') with|true=>some (.int k (k.wrap (a+b)))|false=>none
  |.sub,.int k a,.int k' b=>match Nat.beq (qX k) (qX k') with|true=>some (.int k (k.wrap (a-b)))|false=>none
  |.lss,.int k a,.int k' b=>match Nat.beq (qX k) (qX k') with|true=>some (.bool (decide (a<b)))|false=>none
  |.leq,.int k a,.int k' b=>match Nat.beq (qX k) (qX k') with|true=>some (.bool (decide (a≤b)))|false=>none
  |.gtr,.int k a,.int k' b=>match Nat.beq (qX k) (qX k') with|true=>some (.bool (decide (b<a)))|false=>none
  |.geq,.int k a,.int k' b=>match Nat.beq (qX k) (qX k') with|true=>some (.bool (decide (b≤a)))|false=>none
  |.eql,.int k a,.int k' b=>match Nat.beq (qX k) (qX k') with|true=>some (.bool (decide (a=b)))|false=>none
  |.neq,.int k a,.int k' b=>match Nat.beq (qX k) (qX k') with|true=>some (.bool (!decide (a=b)))|false=>none
  |.eql,.string a,.string b=>some (.bool (decide (a=b)))
  |.neq,.string a,.string b=>some (.bool (!decide (a=b)))
  |_,_,_=>none
theorem Ic (a b:ByteArray):(a.toList==b.toList)=decide (a=b):=by
  rw[ByteArray.toList_eq,ByteArray.toList_eq]
  by_cases h:a=b
  ·subst h;simp
  · rw [dQ h]
    have:a.data.toList≠b.data.toList:=fun e=>h (by
      obtain⟨⟨x⟩⟩:=a
      obtain⟨⟨y⟩⟩:=b
      simp only at e
      rw[e])
    simpa using this
theorem IY (a b:Int):(a==b)=decide (a=b):=by
  by_cases h:a=b
  ·subst h;simp
  ·rw[dQ h];simpa using h
theorem Dx {op:BinOp}{a b r:Value}(h:Jl op a b=some r):xV op a b=some r:=by
  unfold Jl at h
  split at h
  all_goals first
    | (split at h
       ·rename_i hk;have hk':=yf hk;subst hk';cases h;simp[xV,IY]
       ·cases h)
    |(cases h;simp[xV,Ic])
    |cases h
@[reducible] def CI (op : BinOp) (a b : Value) : Option Value :=
  match op,a,b with
  |.eql,.bool a,.bool b=>some (.bool (a==b))
  |.neq,.bool a,.bool b=>some (.bool (!(a==b)))
  |_,_,_=>none
theorem Gg {op:BinOp}{a b r:Value}(h:CI op a b=some r):F2 op a b=some r:=by
  unfold CI at h
  split at h<;>first|exact h|cases h
@[reducible] def Lu (Γ : bL) (sl : SL) (c : Call) : Option (List Nat × AV × ML) :=
  match c.callee,c.args.toList,c.argTypes.toList with
  | .builtin .len,[y],[t]=>(match kH Γ t with
    | some (.sl ..)=>match eI sl y with
      |.own _ _ n=>some ([],.lit (.int .i64 n),[])
      |.sl _ rows=>some ([],.lit (.int .i64 rows.length),[])
      |.lit (.slice _ n _)=>some ([],.lit (.int .i64 n),[])
      |_=>none
    | some .str=>match eI sl y with
      |.lit (.string s)=>some ([],.lit (.int .i64 s.size),[])
      |_=>none
    |_=>none)
  |_,_,_=>none
theorem I2 (Γ:bL)(sl:SL)(c:Call):Lu Γ sl c=Jd Γ sl c:=by
  unfold Lu Jd
  simp only[ck,di]
  rfl
@[reducible] def xm (op : BinOp) (ti : Option TI) (n : Nat) : Option (List Nat × AV × ML) :=
  match ti,op with
  |some (.sl ..),.eql=>some ([],.guess (n=0) True,[])
  |some (.sl ..),.neq=>some ([],.guess True (n=0),[])
  |_,_=>none
theorem Eo (op:BinOp)(ti:Option TI)(n:Nat):xm op ti n=qV op ti n:=by
  unfold xm qV
  rfl
@[reducible] def KL (b : Bool) (x y : AV) : AV := match b with | true => x | false => y
theorem E0 (b:Bool)(x y:AV):KL b x y=if b then x else y:=by cases b<;>rfl
@[reducible] def uL {α β : Type} (f : α → β) : Option α → Option β
  |some x=>some (f x)
  |none=>none
theorem lj {α β:Type}(f:α→β)(x:Option α):uL f x=x.map f:=by cases x<;>rfl
@[reducible] def KH (Γ : bL) (op : BinOp) (t : TypeId) (x y : AV) : Option (List Nat × AV × ML) :=
  match x with
  | .own _ _ n=>match Ml y with
    |true=>xm op (kH Γ t) n
    |false=>none
  | .sl _ rows=>match Ml y with
    |true=>xm op (kH Γ t) rows.length
    |false=>none
  | .lit a=>match y with
    | .lit b=>match kH Γ t with
      |some .bl=>uL (fun r=>([],.lit r,[])) (CI op a b)
      |_=>uL (fun r=>([],.lit r,[])) (Jl op a b)
    |_=>none
  |_=>none
@[reducible] def cC (Γ : bL) (sl : SL) (m : ML) (dst : Option Nat) (op : Op) : Option (List Nat × AV × ML) :=
  match op with
  |.move y=>some ([],eI sl y,[])
  |.assign y=>some ([],eI sl y,[])
  | .pick c y z=>match eI sl c with
    |.lit (.bool b)=>some ([],KL b (eI sl y) (eI sl z),[])
    |_=>none
  | .extract y i=>match eI sl y with
    |.tup vs=>uL (fun x=>([],x,[])) (gh vs i)
    |_=>none
  | .field t y f=>match eI sl y,kH Γ t with
    | .agg cs,some (.st _ fs _ _)=>match gh fs f with
      |some (off,ft)=>uL (fun x=>([],x,[])) (pV (kH Γ ft) (.agg cs) off)
      |none=>none
    |_,_=>none
  | .load t y=>match eI sl y with
    | .ptr tk i k=>match dc m tk with
      | .live _ rows _=>match gh rows i with
        |some r=>uL (fun x=>([tk],x,[])) (pV (kH Γ t) r k)
        |none=>none
      |_=>none
    |.fptr r k=>uL (fun x=>([],x,[])) (pV (kH Γ t) r k)
    |_=>none
  | .fieldAddr t y f=>match kH Γ t with
    | some (.st _ fs _ _)=>match gh fs f with
      | some (off,_)=>match eI sl y with
        |.ptr tk i k=>some ([],.ptr tk i (Nat.add k off),[])
        |.fptr r k=>some ([],.fptr r (Nat.add k off),[])
        |_=>none
      |none=>none
    |_=>none
  | .nilCheck y=>match eI sl y with
    |.ptr tk i k=>some ([],.ptr tk i k,[])
    |.fptr r k=>some ([],.fptr r k,[])
    |_=>none
  | .store t y z=>match dst with
    | none =>match eI sl y with
      | .ptr tk i k=>match dc m tk with
        | .live wd rows false=>match gh rows i with
          | some r=>match qw (kH Γ t) r k (eI sl z) with
            |some r'=>some ([tk],.any,[(tk,.live wd (Iq rows i r') false)])
            |none=>none
          |none=>none
        |_=>none
      |_=>none
    |some _=>none
  | .box _ y=>match dst with
    | some d=>match dc m (Nat.mul 10 d) with
      | .free=>match sy (eI sl y) with
        |true=>some ([Nat.mul 10 d],.ptr (Nat.mul 10 d) 0 0,[(Nat.mul 10 d,.live (dD (cO (eI sl y))) [eI sl y] false)])
        |false=>none
      |_=>none
    |none=>none
  | .alloc t=>match dst with
    | some d=>match dc m (Nat.mul 10 d) with
      | .free=>match Fl (kH Γ t) with
        |some x=>some ([Nat.mul 10 d],.ptr (Nat.mul 10 d) 0 0,[(Nat.mul 10 d,.live (dD (cO x)) [x] false)])
        |none=>none
      |_=>none
    |none=>none
  |.makeFunc fn first cap=>some ([],.clo fn (dO (eI sl) first.toList) (dO (eI sl) cap.toList),[])
  |.binOp op t y z _=>KH Γ op t (eI sl y) (eI sl z)
  | .unOp .not _ y=>match eI sl y with
    |.lit (.bool b)=>some ([],.lit (.bool (!b)),[])
    |_=>none
  | .build t parts=>match kH Γ t with
    |some (.st _ fs z szs)=>uL (fun cs=>([],.agg cs,[])) (CH (fun i=>match gh fs i,gh szs i with|some (off,_),some sz=>some (off,sz)|_,_=>none) (dO .lit z.toList) (dO (fun(p:Nat×Operand)=>match p with|(i,y)=>(i,eI sl y)) parts.toList))
    |_=>none
  |.call c=>Lu Γ sl c
  |_=>none
theorem D7 {Γ:bL}{sl:SL}{m:ML}{dst:Option Nat}{op:Op}{q:List Nat×AV×ML}(h:cC Γ sl m dst op=some q):dV Γ sl m dst op=some q:=by
  have hcells:∀x,dD (cO x)=(cells x).length:=fun x=>by rw[cq,eD]
  cases op
  case move y=>simp only[cC,dV,di] at h ⊢;exact h
  case assign y=>simp only[cC,dV,di] at h ⊢;exact h
  case pick c y z=>simp only[cC,dV,di,E0] at h ⊢;exact h
  case extract y i=>simp only[cC,dV,di,eN,lj] at h ⊢;exact h
  case field t y f=>simp only[cC,dV,di,eN,lj,ck,mB] at h ⊢;exact h
  case load t y=>simp only[cC,dV,di,eN,lj,ck,gM,mB] at h ⊢;exact h
  case fieldAddr t y f=>simp only[cC,dV,di,eN,ck] at h ⊢;exact h
  case nilCheck y=>simp only[cC,dV,di] at h ⊢;exact h
  case store t y z=>
    simp only[cC,dV,di,eN,ck,gM,Cp] at h ⊢
    cases dst with
    |some d=>cases h
    | none =>
      simp only at h ⊢
      generalize iT sl y=vy at h ⊢
      cases vy
      case ptr tk i k=>
        simp only at h ⊢
        generalize aN m tk=ms at h ⊢
        cases ms
        case live wd rows ro=>
          cases ro with
          |true=>simp only at h;cases h
          | false=>
            simp only at h ⊢
            generalize rows[i]? =rw0 at h ⊢
            cases rw0 with
            |none=>simp only at h;cases h
            | some r=>
              simp only at h ⊢
              cases hs:qw (cK Γ t) r k (iT sl z) with
              |none=>rw[hs] at h;simp only at h;cases h
              |some r'=>rw[vY hs];rw[hs] at h;exact h
        all_goals (simp only at h;cases h)
      all_goals (simp only at h;cases h)
  case box t y=>
    simp only[cC,dV,di,gM,nG,hcells] at h ⊢
    cases dst with
    |none=>cases h
    | some d=>
      simp only at h ⊢
      have e10:Nat.mul 10 d=10*d:=rfl
      rw[e10] at h
      generalize aN m (10*d)=ms at h ⊢
      cases ms
      case free=>
        simp only at h ⊢
        cases hs:(iT sl y).kY with
        |true=>rw[hs] at h;rw[if_pos rfl];exact h
        |false=>rw[hs] at h;simp only at h;cases h
      all_goals (simp only at h;cases h)
  case alloc t=>
    simp only[cC,dV,ck,gM,GV,hcells] at h ⊢
    exact h
  case makeFunc fn a b=>
    have he:eI sl=iT sl:=funext (di sl)
    simpa only[cC,dV,he,dX] using h
  case binOp op t y z yt=>
    simp only[cC,KH,dV,di,ck,Eo,lj] at h ⊢
    generalize iT sl y=a at h ⊢
    generalize iT sl z=b at h ⊢
    have lit:∀ (x1 x2:Value),(match cK Γ t with
        |some .bl=>(CI op x1 x2).map (fun r=>(([]:List Nat),AV.lit r,([]:ML)))
        |_=>(Jl op x1 x2).map (fun r=>(([]:List Nat),AV.lit r,([]:ML))))=some q→
      (match cK Γ t with
        |some .bl=>(F2 op x1 x2).map (fun r=>(([]:List Nat),AV.lit r,([]:ML)))
        |_=>(xV op x1 x2).map (fun r=>(([]:List Nat),AV.lit r,([]:ML))))=some q:=by
      intro x1 x2 hh
      have g1:∀ {z1 z2:Option Value},(∀r,z1=some r→z2=some r)→z1.map (fun r=>(([]:List Nat),AV.lit r,([]:ML)))=some q→z2.map (fun r=>(([]:List Nat),AV.lit r,([]:ML)))=some q:=by
        intro z1 z2 hz h1
        rw[Option.map_eq_some_iff] at h1 ⊢
        obtain⟨r,h2,h3⟩:=h1
        exact⟨r,hz r h2,h3⟩
      generalize cK Γ t=ti at hh ⊢
      cases ti with
      |none=>exact g1 (fun r hr=>Dx hr) hh
      |some ti=>cases ti<;>first|exact g1 (fun r hr=>Dx hr) hh|exact g1 (fun r hr=>Gg hr) hh
    cases a
    case own t1 o1 n1=>
      simp only at h
      split at h
      ·rename_i hn;rw[Dd hn];exact h
      ·cases h
    case sl w1 r1=>
      simp only at h
      split at h
      ·rename_i hn;rw[Dd hn];exact h
      ·cases h
    case lit x1=>
      cases b
      case lit x2=>exact lit x1 x2 h
      all_goals (simp only at h;cases h)
    all_goals (simp only at h;cases h)
  case unOp op t y=>cases op<;>(simp only[cC,dV,di] at h ⊢;exact h)
  case build t parts=>
    simp only[cC,dV,di,ck,eN,dX,lj] at h ⊢
    generalize cK Γ t=ti at h ⊢
    cases ti with
    |none=>cases h
    | some ti=>
      cases ti
      case st n fs z szs=>
        simp only at h ⊢
        rw[Option.map_eq_some_iff] at h
        obtain⟨cs,h1,h2⟩:=h
        have h3:=yX h1
        rw[Option.map_eq_some_iff]
        exact⟨cs,h3,h2⟩
      all_goals (simp only at h;cases h)
  case call c=>simp only[cC,dV,I2] at h ⊢;exact h
  all_goals simp only[cC] at h;cases h
end Go.Am
