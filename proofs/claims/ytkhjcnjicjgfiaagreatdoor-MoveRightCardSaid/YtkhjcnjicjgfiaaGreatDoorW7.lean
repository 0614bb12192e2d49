/- Walks of functions by unfolding over abstract states; runs of functions by an evaluator that is proved. By an AI agent. -/
import Derived.Test.YtkhjcnjicjgfiaaGreatDoorW6
import Derived.Laws.StructEq
import Derived.IntWalk
set_option linter.unusedSimpArgs false
set_option linter.unusedVariables false
namespace Go.Am
open Go
theorem beq_eq {i d:Nat}(h:Nat.beq i d=true):i=d:=Nat.eq_of_beq_eq_true h
theorem beq_false {i d:Nat}(h:i≠d):Nat.beq i d=false:=by
  cases h':Nat.beq i d with
  |false=>rfl
  |true=>exact absurd (beq_eq h') h
theorem ga {a b:Nat}(h:Nat.ble a b=true):a≤b:=Nat.le_of_ble_eq_true h
theorem Gm {a b:Nat}(h:a≤b):Nat.ble a b=true:=Nat.ble_eq_true_of_le h
theorem CN {a b:Nat}(h:¬a≤b):Nat.ble a b=false:=by
  cases h':Nat.ble a b with
  |false=>rfl
  |true=>exact absurd (ga h') h
@[reducible] def rZ : Nat → Nat → Bool
  | 0,k=>match k with
    |0=>true
    |_+1=>false
  | n+1,k=>match k with
    |0=>false
    |k+1=>rZ n k
@[reducible] def KE : Nat → Nat → Bool
  |0,_=>true
  |n+1,k+1=>KE n k
  |_+1,0=>false
@[reducible] def IV : Nat → Bool
  |0=>true
  |_+1=>false
@[reducible] def Bc : Value → Bool
  | .slice ad n c=>match ad with
    | none=>match IV n with
      |true=>IV c
      |false=>false
    |some _=>false
  |_=>false
@[reducible] def Js : AV → Bool
  |.lit v=>Bc v
  |_=>false
theorem nU {v:Value}(h:Bc v=true):v=.slice none 0 0:=by
  cases v with
  | slice ad n c=>
    cases ad with
    | none=>
      cases n with
      | zero=>cases c with
        |zero=>rfl
        |succ c=>cases h
      |succ n=>cases h
    |some a=>cases h
  |_=>cases h
theorem B9 {x:AV}(h:Js x=true):x=.lit (.slice none 0 0):=by
  cases x with
  |lit v=>rw[nU h]
  |_=>cases h
theorem eF:∀ (a b:Nat),rZ a b=Nat.beq a b
  |0,0=>rfl
  |n+1,k+1=>by rw[rZ,eF n k];rfl
  |0,k+1=>rfl
  |n+1,0=>rfl
theorem xh:∀ (a b:Nat),KE a b=Nat.ble a b
  |0,b=>by simp[KE]
  |n+1,k+1=>by rw[KE,xh n k];rfl
  |n+1,0=>rfl
abbrev SL:=List (Nat×AV)
abbrev ML:=List (Nat×MS)
@[reducible] def uX : SL → Nat → AV
  |[],_=>.any
  | (k,x)::r,i=>match Nat.beq i k with
    |true=>x
    |false=>uX r i
@[reducible] def eM : ML → Nat → MS
  |[],_=>.free
  | (k,x)::r,i=>match Nat.beq i k with
    |true=>x
    |false=>eM r i
@[reducible] def pI : cR → Nat → Option TI
  |[],_=>none
  | (k,x)::r,i=>match Nat.beq i k with
    |true=>some x
    |false=>pI r i
theorem ic:∀ (l:SL) (i:Nat),uX l i=cE l i
  |[],_=>rfl
  | p ::r,i=>by
    obtain⟨d,x⟩:=p
    simp only[uX,cE,ic r i]
    by_cases h:i=d
    ·subst h;simp
    · have h1:(i==d)=false:=by simpa using h
      have h2:Nat.beq i d=false:=beq_false (by simpa using h1)
      rw[h1,h2];rfl
theorem gZ:∀ (l:ML) (i:Nat),eM l i=aX l i
  |[],_=>rfl
  | p ::r,i=>by
    obtain⟨d,x⟩:=p
    simp only[eM,aX,gZ r i]
    by_cases h:i=d
    ·subst h;simp
    · have h1:(i==d)=false:=by simpa using h
      have h2:Nat.beq i d=false:=beq_false (by simpa using h1)
      rw[h1,h2];rfl
theorem eS:∀ (l:cR) (i:Nat),pI l i=dj l i
  |[],_=>rfl
  | p ::r,i=>by
    obtain⟨d,x⟩:=p
    simp only[pI,dj,eS r i]
    by_cases h:d=i
    ·subst h;simp
    · have h1:(i==d)=false:=by simpa using Ne.symm h
      have h2:Nat.beq i d=false:=beq_false (by simpa using h1)
      rw[h1,h2];rfl
@[reducible] def o5 (d : Nat) (x : AV) : SL → SL
  |[]=>[(d,x)]
  | (k,y)::r=>match Nat.beq d k with
    |true=>(d,x)::r
    |false=>(k,y)::o5 d x r
@[reducible] def jQ (d : Nat) (x : MS) : ML → ML
  |[]=>[(d,x)]
  | (k,y)::r=>match Nat.beq d k with
    |true=>(d,x)::r
    |false=>(k,y)::jQ d x r
@[reducible] def uR : ML → ML → ML
  |[],m=>m
  |(k,x)::r,m=>jQ k x (uR r m)
@[reducible] def pushB : Option Nat → AV → SL → SL
  |none,_,l=>l
  |some d,x,l=>o5 d x l
theorem nH (d:Nat)(x:AV):∀ (l:SL) (i:Nat),cE (o5 d x l) i=cE ((d,x)::l) i
  |[],i=>rfl
  | p :: r,i=>by
    obtain⟨e,y⟩:=p
    simp only[o5]
    by_cases h:d=e
    · subst h
      simp only[Nat.beq_refl,cE]
      by_cases hi:i=d
      ·subst hi;simp
      · have:(i==d)=false:=by simpa using hi
        simp[this]
    · rw [beq_false h]
      simp only[cE,nH d x r i]
      by_cases hi:i=d
      · subst hi;have:(i==e)=false:=by simpa using h
        simp[this]
      · have:(i==d)=false:=by simpa using hi
        simp[this]
theorem sU (d:Nat)(x:MS):∀ (l:ML) (i:Nat),aX (jQ d x l) i=aX ((d,x)::l) i
  |[],i=>rfl
  | p :: r,i=>by
    obtain⟨e,y⟩:=p
    simp only[jQ]
    by_cases h:d=e
    · subst h
      simp only[Nat.beq_refl,aX]
      by_cases hi:i=d
      ·subst hi;simp
      · have:(i==d)=false:=by simpa using hi
        simp[this]
    · rw [beq_false h]
      simp only[aX,sU d x r i]
      by_cases hi:i=d
      · subst hi;have:(i==e)=false:=by simpa using h
        simp[this]
      · have:(i==d)=false:=by simpa using hi
        simp[this]
theorem qJ:∀ (u m:ML) (i:Nat),aX (uR u m) i=aX (u++m) i
  |[],m,i=>rfl
  | p::r,m,i=>by
    obtain⟨e,y⟩:=p
    simp only[uR,sU,List.cons_append,aX,qJ r m i]
theorem Ab (d:Option Nat)(x:AV)(l:SL)(i:Nat):cE (pushB d x l) i=cE (pM d x l) i:=by
  cases d with
  |none=>rfl
  |some d=>exact nH d x l i
theorem sB (d:Option Nat)(x:AV)(l:SL)(u m:ML):St (pM d x l) (u++m)=St (pushB d x l) (uR u m):=by
  unfold St
  congr 1
  ·funext i;exact(Ab d x l i).symm
  ·funext i;exact(qJ u m i).symm
@[reducible] def fQ (l : SL) : Operand → AV
  |.tmp t=>uX l t
  |.const v=>.lit v
  |.global g=>.lit (.pointer (some ⟨g,0,none⟩))
  |.func f=>.lit (.func (.func f) #[] #[])
theorem dW (l:SL)(y:Operand):fQ l y=jq l y:=by cases y<;>simp[fQ,jq,ic]
section
universe u v
variable {α : Type u} {β : Type v}
@[reducible] def iE : List α → Nat → Option α
  |[],_=>none
  |x::_,0=>some x
  |_::r,k+1=>iE r k
@[reducible] def fu : List α → Nat
  |[]=>0
  |_::r=>Nat.succ (fu r)
@[reducible] def eC (f : α → β) : List α → List β
  |[]=>[]
  |x::r=>f x::eC f r
@[reducible] def dR : List α → List α → List α
  |[],b=>b
  |x::r,b=>x::dR r b
@[reducible] def gN : Nat → List α → List α
  |0,_=>[]
  |_+1,[]=>[]
  |k+1,x::r=>x::gN k r
@[reducible] def vg : Nat → List α → List α
  |0,l=>l
  |_+1,[]=>[]
  |k+1,_::r=>vg k r
@[reducible] def Is : List α → Nat → α → List α
  |[],_,_=>[]
  |_::r,0,y=>y::r
  |x::r,k+1,y=>x::Is r k y
@[reducible] def jo (p : α → Bool) : List α → Bool
  |[]=>true
  | x::r=>match p x with
    |true=>jo p r
    |false=>false
@[reducible] def ud : List β → List α → List α
  |[],l=>l
  |_::_,[]=>[]
  |_::r,_::l=>ud r l
theorem gU:∀ (l:List α) (k:Nat),iE l k=l[k]?
  |[],_=>rfl
  |_::_,0=>rfl
  |_::r,k+1=>by simp only[iE,gU r k,List.getElem?_cons_succ]
theorem cW:∀ (l:List α),fu l=l.length
  |[]=>rfl
  |_::r=>by show fu r+1=_;rw[cW r];rfl
theorem eN (f:α→β):∀ (l:List α),eC f l=l.map f
  |[]=>rfl
  |x::r=>by simp only[eC,eN f r,List.map_cons]
theorem gV:∀ (a b:List α),dR a b=a++b
  |[],_=>rfl
  |x::r,b=>by simp only[dR,gV r b,List.cons_append]
theorem pR:∀ (k:Nat) (l:List α),gN k l=l.take k
  |0,_=>rfl
  |_+1,[]=>rfl
  |k+1,x::r=>by simp only[gN,pR k r,List.take_succ_cons]
theorem qg:∀ (k:Nat) (l:List α),vg k l=l.drop k
  |0,_=>rfl
  |_+1,[]=>rfl
  |k+1,x::r=>by simp only[vg,qg k r,List.drop_succ_cons]
theorem vI:∀ (a:List β) (l:List α),ud a l=l.drop a.length
  |[],_=>rfl
  |_::_,[]=>by simp[ud]
  |_::r,_::l=>by simp only[ud,vI r l,List.length_cons,List.drop_succ_cons]
theorem B8:∀ (l:List α) (k:Nat) (y:α),Is l k y=l.set k y
  |[],_,_=>rfl
  |_::_,0,_=>rfl
  |x::r,k+1,y=>by simp only[Is,B8 r k y,List.set_cons_succ]
theorem BB (p:α→Bool):∀ (l:List α),jo p l=l.all p
  |[]=>rfl
  |x::r=>by simp only[jo,List.all_cons,BB p r];cases p x<;>rfl
end
@[reducible] def dx : AV → List AV
  |.agg cs=>cs
  |.lit (.agg xs)=>eC .lit xs.toList
  |x=>[x]
theorem fE (x:AV):dx x=cells x:=by
  cases x with
  |lit v=>cases v<;>simp[dx,cells,eN]
  |_=>rfl
@[reducible] def FU : AV → Bool
  |.agg _=>true
  |.lit (.agg _)=>true
  |_=>false
theorem DI (x:AV):FU x=kO x:=by
  cases x with
  |lit v=>cases v<;>rfl
  |_=>rfl
@[reducible] def tV : AV → Bool
  |.any=>false
  |_=>true
theorem nR (x:AV):tV x=x.mh:=by cases x<;>rfl
@[reducible] def J7 : AV → Bool
  |.any=>false
  |.agg _=>false
  |.tup _=>false
  |.lit (.agg _)=>false
  |.lit (.tuple _)=>false
  |_=>true
theorem Ij (x:AV):J7 x=x.one:=by
  cases x with
  |lit v=>cases v<;>rfl
  |_=>rfl
@[reducible] def tu : IntKind → Nat
  |.i8=>0|.i16=>1|.i32=>2|.i64=>3|.u8=>4|.u16=>5|.u32=>6|.u64=>7
theorem E8 {k k':IntKind}(h:Nat.beq (tu k) (tu k')=true):k=k':=by
  cases k<;>cases k'<;>first|rfl|(simp[tu] at h)
@[reducible] def BZ (n : Nat) (r : AV) (k : Nat) : Option AV :=
  match Nat.beq k 0,rZ (fu (dx r)) n,FU r with
  |true,true,true=>some r
  | _,_,_=>match KE (Nat.add k n) (fu (dx r)) with
    |true=>some (.agg (gN n (vg k (dx r))))
    |false=>none
@[reducible] def rB (ti : Option TI) (r : AV) (k : Nat) : Option AV :=
  match ti with
  |some (.sc _)=>iE (dx r) k
  |some .bl=>iE (dx r) k
  |some (.sl ..)=>iE (dx r) k
  |some .str=>iE (dx r) k
  |some (.st n _ _ _)=>BZ n r k
  |some (.ar n _ _ _ _)=>BZ n r k
  |none=>none
theorem GO (a b:Nat):Nat.ble a b=decide (a≤b):=by
  by_cases h:a≤b
  ·rw[Gm h,bO h]
  ·rw[CN h,bB h]
theorem GS (a b:Nat):Nat.beq a b=decide (a=b):=by
  by_cases h:a=b
  ·subst h;simp
  ·rw[beq_false h,bB h]
theorem E9 (n:Nat)(r:AV)(k:Nat):BZ n r k=if k=0∧(cells r).length=n∧kO r=true then some r else if k+n≤ (cells r).length then some (.agg (((cells r).drop k).take n)) else none:=by
  unfold BZ
  simp only[pR,qg,cW,fE,DI,eF,xh,GS,GO]
  show (match decide (k=0),decide ((cells r).length=n),kO r with
    |true,true,true=>some r
    | _,_,_=>match decide (k+n≤ (cells r).length) with
      |true=>some (AV.agg (((cells r).drop k).take n))
      |false=>none)=_
  by_cases h4:k+n≤ (cells r).length
  · rw [bO h4,if_pos h4]
    by_cases h1:k=0
    · by_cases h2:(cells r).length=n
      · cases h3:kO r with
        |true=>rw[bO h1,bO h2,if_pos ⟨h1,h2,rfl⟩]
        |false=>rw[bO h1,bO h2,if_neg (fun h=>by cases h.2.2)]
      ·rw[bO h1,bB h2,if_neg (fun h=>h2 h.2.1)]
    ·rw[bB h1,if_neg (fun h=>h1 h.1)]
  · rw [bB h4,if_neg h4]
    by_cases h1:k=0
    · by_cases h2:(cells r).length=n
      · cases h3:kO r with
        |true=>rw[bO h1,bO h2,if_pos ⟨h1,h2,rfl⟩]
        |false=>rw[bO h1,bO h2,if_neg (fun h=>by cases h.2.2)]
      ·rw[bO h1,bB h2,if_neg (fun h=>h2 h.2.1)]
    ·rw[bB h1,if_neg (fun h=>h1 h.1)]
theorem pB (ti:Option TI)(r:AV)(k:Nat):rB ti r k=rM ti r k:=by
  cases ti with
  |none=>rfl
  |some ti=>cases ti<;>simp only[rB,rM,gU,fE,E9]
@[reducible] def Ff : Option TI → Option Nat
  |some (.sc _)=>some 1
  |some .bl=>some 1
  |some (.sl ..)=>some 1
  |some .str=>some 1
  |some (.st n ..)=>some n
  |some (.ar n ..)=>some n
  |none=>none
theorem FZ (ti:Option TI):Ff ti=zf ti:=by
  cases ti with
  |none=>rfl
  |some ti=>cases ti<;>rfl
@[reducible] def EC : Option TI → Option AV
  |some (.sc z)=>match z with|.agg _=>none|z=>some (.lit z)
  |some .bl=>some (.lit (.bool false))
  |some (.sl ..)=>some (.lit (.slice none 0 0))
  |some .str=>some (.lit (.string ByteArray.empty))
  |some (.st _ _ z _)=>some (.agg (eC .lit z.toList))
  |some (.ar _ _ _ _ z)=>some (.agg (eC .lit z.toList))
  |none=>none
theorem Fb (ti:Option TI):EC ti=oy ti:=by
  cases ti with
  |none=>rfl
  |some ti=>cases ti<;>first|rfl|(simp only[EC,oy,eN])|(rename_i z;cases z<;>rfl)
@[reducible] def qY (ti : Option TI) (r : AV) (k : Nat) (x : AV) : Option AV :=
  match Ff ti with
  | some n=>match rZ (fu (dx x)) n,jo J7 (dx x),tV x with
    | true,true,true=>match rZ (fu (dx r)) n,Nat.beq k 0 with
      |true,true=>some x
      | _,_=>match KE (Nat.add k n) (fu (dx r)) with
        |true=>some (.agg (dR (gN k (dx r)) (dR (dx x) (ud (dx x) (vg k (dx r))))))
        |false=>none
    |_,_,_=>none
  |none=>none
theorem wu {ti:Option TI}{r:AV}{k:Nat}{x r':AV}(h:qY ti r k x=some r'):ux ti r k x=some r':=by
  unfold qY at h
  unfold ux
  rw[←FZ]
  cases hs:Ff ti with
  |none=>rw[hs] at h;cases h
  | some n =>
    rw[hs] at h
    simp only[pR,qg,vI,gV,cW,fE,nR,BB,eF,xh,List.drop_drop] at h ⊢
    have ho:((cells x).all J7)=kW (cells x):=by unfold kW;congr 1;funext y;exact Ij y
    rw[ho] at h
    split at h
    · rename_i h1 h2 h3
      rw[if_pos ⟨beq_eq h1,h2,h3⟩]
      split at h
      · rename_i h4 h5
        cases h
        rw[if_pos ⟨beq_eq h4,beq_eq h5⟩]
      · rename_i h4
        split at h
        · rename_i h5
          cases h
          have h5':k+n≤ (cells r).length:=ga h5
          rw[if_neg (fun hh=>h4 (by simp[hh.1]) (by simp[hh.2])),if_pos h5']
          unfold fP
          rw[List.append_assoc]
        ·cases h
    ·cases h
@[reducible] def BE (place : Nat → Option (Nat × Nat)) (cs : List AV) : List (Nat × AV) → Option (List AV)
  |[]=>some cs
  | (i,x)::rest=>
    match place i with
    |none=>none
    | some (off,size)=>match rZ (fu (dx x)) size,KE (Nat.add off size) (fu cs),tV x with
      |true,true,true=>BE place (dR (gN off cs) (dR (dx x) (vg (Nat.add off size) cs))) rest
      |_,_,_=>none
theorem yD {place:Nat→Option (Nat×Nat)}:∀ {ps:List (Nat×AV)} {cs cs':List AV},BE place cs ps=some cs'→mq place cs ps=some cs'
  |[],cs,cs',h=>h
  | (i, x)::rest,cs,cs',h=>by
    simp only[BE] at h
    simp only[mq]
    cases hp:place i with
    |none=>rw[hp] at h;cases h
    | some os=>
      obtain⟨off,size⟩:=os
      rw[hp] at h
      simp only at h ⊢
      split at h
      · rename_i h1 h2 h3
        rw[eF,cW,fE] at h1
        rw[xh,cW] at h2
        rw[nR] at h3
        have e1:=beq_eq h1
        have e2:=ga h2
        rw[if_pos ⟨e1,by rw[e1];exact e2,h3⟩]
        have:=yD h
        simp only[pR,qg,gV,fE] at this
        unfold fP
        rw[List.append_assoc,e1];exact this
      ·cases h
abbrev Rest:=List Nat→AV→ML→Tk→SL→ML→Prop
def bD (P:Program)(N:Nat){o:Oper}(acc:Tk)(sl:SL)(m:ML){R:Rest}:Prop:=∃rd x ups,aL P N o (St sl m) rd x ups∧R rd x ups acc sl m
def aY (p:Prop)(acc:Tk)(sl:SL)(m:ML){A:Tk→SL→ML→Prop}:Prop:=p∧A acc sl m
def aH (rows:List AV)(i:Int)(acc:Tk)(sl:SL)(m:ML){A:AV→Tk→SL→ML→Prop}:Prop:=∃ (k:Nat) (r:AV),i=k∧rows[k]? =some r∧A r acc sl m
def fM (i:Int)(n:Nat)(acc:Tk)(sl:SL)(m:ML){A:Nat→Tk→SL→ML→Prop}:Prop:=∃k:Nat,i=k∧k<n∧A k acc sl m
def bu (rows:List AV)(i:Nat)(acc:Tk)(sl:SL)(m:ML){A:AV→Tk→SL→ML→Prop}:Prop:=∃r:AV,rows[i]? =some r∧A r acc sl m
def ve (l h:Int)(len:Nat)(acc:Tk)(sl:SL)(m:ML){A:Nat→Nat→Tk→SL→ML→Prop}:Prop:=∃a n:Nat,l=a∧h=(a:Int)+n∧a+n≤len∧A a n acc sl m
def yE (l h:Int)(rows:List AV)(acc:Tk)(sl:SL)(m:ML){A:List AV→Tk→SL→ML→Prop}:Prop:=∃ (a n:Nat) (rows':List AV),l=a∧h=(a:Int)+n∧a+n≤rows.length∧rows'=(rows.drop a).take n∧A rows' acc sl m
def dO (rb:List AV)(off len:Nat)(rs:List AV)(off' len':Nat)(bytes:Nat)(acc:Tk)(sl:SL)(m:ML){A:List AV→Tk→SL→ML→Prop}:Prop:=
  ∃ rows0 news,off+len≤rb.length∧rows0=(rb.drop off).take len∧off'+len'≤rs.length∧news=(rs.drop off').take len'∧kW (flat news)=true∧
    (rows0.length+news.length)*bytes≤140737488355328∧rows0.length+news.length≤9223372036854775807∧A (rows0++news) acc sl m
def ae (P:Program)(N:Nat){o:Oper}(f:FuncId)(args:List AV)(acc:Tk)(sl:SL)(m:ML){R:Rest}:Prop:=gG (St sl m) o f args→bD P N acc sl m (o:=o) (R:=R)
def pE (P:Program)(N:Nat){o:Oper}(t:TypeId)(c:Bool)(ym kv:AV)(acc:Tk)(sl:SL)(m:ML){R:Rest}:Prop:=
  (∃y x,o.op=.lookup t y x c∧(St sl m).eval y=ym∧(St sl m).eval x=kv)→bD P N acc sl m (o:=o) (R:=R)
def wW (P:Program)(N:Nat){o:Oper}(t:TypeId)(ym kv x:AV)(acc:Tk)(sl:SL)(m:ML){R:Rest}:Prop:=
  (∃y z v,o.op=.mapUpdate t y z v∧(St sl m).eval y=ym∧(St sl m).eval z=kv∧(St sl m).eval v=x)→bD P N acc sl m (o:=o) (R:=R)
def qQ (P:Program)(N:Nat){o:Oper}(t:TypeId)(ym:AV)(acc:Tk)(sl:SL)(m:ML){R:Rest}:Prop:=
  (∃y,o.op=.call {callee:=.builtin .len,args:= #[y],argTypes:= #[t]}∧(St sl m).eval y=ym)→bD P N acc sl m (o:=o) (R:=R)
def kZ (s:ByteArray)(i:Int)(acc:Tk)(sl:SL)(m:ML){A:Int→Tk→SL→ML→Prop}:Prop:=∃ (k:Nat) (c:UInt8),i=k∧s.data.toList[k]? =some c∧A c.toNat acc sl m
def tg (s:ByteArray)(l h:Int)(acc:Tk)(sl:SL)(m:ML){A:ByteArray→Tk→SL→ML→Prop}:Prop:=∃a b:Nat,l=a∧h=b∧a≤b∧b≤s.size∧A (s.extract a b) acc sl m
def rD (P:Program)(src dst:TypeId)(v:Value)(acc:Tk)(sl:SL)(m:ML){A:Value→Tk→SL→ML→Prop}:Prop:=∃r,(∀w,(convert src dst v).run P w=.ok r w)∧A r acc sl m
def ue (P:Program)(src dst:TypeId)(rows:List AV)(off len:Nat)(acc:Tk)(sl:SL)(m:ML){A:Value→Tk→SL→ML→Prop}:Prop:=
  ∃ (bs:List UInt8) (e:TypeId),P.underlying src=some (.slice e)∧P.underlying e=some (.int .u8)∧P.underlying dst=some .string∧len=bs.length∧bs≠ []∧
    (∀ (i:Nat) (b:UInt8),bs[i]? =some b→(flat rows)[off+i]? =some (.lit (.int .u8 b.toNat)))∧A (.string ⟨bs.toArray⟩) acc sl m
def Gr (P:Program)(op:BinOp)(t:TypeId)(us vs:List Value)(acc:Tk)(sl:SL)(m:ML){A:Bool→Tk→SL→ML→Prop}:Prop:=
  ∃b,(∀ (y z:Operand) (w:World),((do eqGuard op t y z (.agg us.toArray) (.agg vs.toArray);binOp op t (.agg us.toArray) (.agg vs.toArray):Sem Value)).run P w=.ok (.bool b) w)∧A b acc sl m
@[reducible] def rJ : List AV → Option (List Value)
  |[]=>some []
  | .lit v::r=>match rJ r with
    |some l=>some (v::l)
    |none=>none
  |_::_=>none
def aM (b:Bool)(acc:Tk)(sl:SL)(m:ML){A B:Tk→SL→ML→Prop}:Prop:=(b=true→A acc sl m)∧(b=false→B acc sl m)
@[reducible] def wk (t : Nat) : Bool := Nat.beq (Nat.mod t 10) 0
@[reducible] def rX (P : Program) (N : Nat) (o : Oper) (acc : Tk) (sl : SL) (m : ML) (R : Rest) : Option (List Nat × AV × ML) → Prop
  |some (rd,x,ups)=>R rd x ups acc sl m
  |none=>bD P N acc sl m (o:=o) (R:=R)
@[reducible] def IB (op : BinOp) (a b : Value) : Option Value :=
  match op,a,b with
  |.add,.int k a,.int k' b=>match Nat.beq (tu k) (tu k') with|true=>some (.int k (k.wrap (a+b)))|false=>none
  |.sub,.int k a,.int k' b=>match Nat.beq (tu k) (tu k') with|true=>some (.int k (k.wrap (a-b)))|false=>none
  |.lss,.int k a,.int k' b=>match Nat.beq (tu k) (tu k') with|true=>some (.bool (decide (a<b)))|false=>none
  |.leq,.int k a,.int k' b=>match Nat.beq (tu k) (tu k') with|true=>some (.bool (decide (a≤b)))|false=>none
  |.gtr,.int k a,.int k' b=>match Nat.beq (tu k) (tu k') with|true=>some (.bool (decide (b<a)))|false=>none
  |.geq,.int k a,.int k' b=>match Nat.beq (tu k) (tu k') with|true=>some (.bool (decide (b≤a)))|false=>none
  |.eql,.int k a,.int k' b=>match Nat.beq (tu k) (tu k') with|true=>some (.bool (decide (a=b)))|false=>none
  |.neq,.int k a,.int k' b=>match Nat.beq (tu k) (tu k') with|true=>some (.bool (!decide (a=b)))|false=>none
  |.eql,.string a,.string b=>some (.bool (decide (a=b)))
  |.neq,.string a,.string b=>some (.bool (!decide (a=b)))
  |_,_,_=>none
theorem G1 (a b:ByteArray):(a.toList==b.toList)=decide (a=b):=by
  rw[ByteArray.toList_eq,ByteArray.toList_eq]
  by_cases h:a=b
  ·subst h;simp
  · rw [bB h]
    have:a.data.toList≠b.data.toList:=fun e=>h (by
      obtain⟨⟨x⟩⟩:=a
      obtain⟨⟨y⟩⟩:=b
      simp only at e
      rw[e])
    simpa using this
theorem II (a b:Int):(a==b)=decide (a=b):=by
  by_cases h:a=b
  ·subst h;simp
  ·rw[bB h];simpa using h
theorem BV {op:BinOp}{a b r:Value}(h:IB op a b=some r):xF op a b=some r:=by
  unfold IB at h
  split at h
  all_goals first
    | (split at h
       ·rename_i hk;have hk':=E8 hk;subst hk';cases h;simp[xF,II]
       ·cases h)
    |(cases h;simp[xF,G1])
    |cases h
@[reducible] def Cb (op : BinOp) (a b : Value) : Option Value :=
  match op,a,b with
  |.eql,.bool a,.bool b=>some (.bool (a==b))
  |.neq,.bool a,.bool b=>some (.bool (!(a==b)))
  |_,_,_=>none
theorem EN {op:BinOp}{a b r:Value}(h:Cb op a b=some r):F6 op a b=some r:=by
  unfold Cb at h
  split at h<;>first|exact h|cases h
@[reducible] def Kh (Γ : cR) (sl : SL) (c : Call) : Option (List Nat × AV × ML) :=
  match c.callee,c.args.toList,c.argTypes.toList with
  | .builtin .len,[y],[t]=>(match pI Γ t with
    | some (.sl ..)=>match fQ sl y with
      |.own _ _ n=>some ([],.lit (.int .i64 n),[])
      |.sl _ rows=>some ([],.lit (.int .i64 rows.length),[])
      |.lit (.slice _ n _)=>some ([],.lit (.int .i64 n),[])
      |_=>none
    | some .str=>match fQ sl y with
      |.lit (.string s)=>some ([],.lit (.int .i64 s.size),[])
      |_=>none
    |_=>none)
  |_,_,_=>none
theorem HD (Γ:cR)(sl:SL)(c:Call):Kh Γ sl c=G8 Γ sl c:=by
  unfold Kh G8
  simp only[eS,dW]
  rfl
@[reducible] def xz (op : BinOp) (ti : Option TI) (n : Nat) : Option (List Nat × AV × ML) :=
  match ti,op with
  |some (.sl ..),.eql=>some ([],.guess (n=0) True,[])
  |some (.sl ..),.neq=>some ([],.guess True (n=0),[])
  |_,_=>none
theorem DZ (op:BinOp)(ti:Option TI)(n:Nat):xz op ti n=qX op ti n:=by
  unfold xz qX
  rfl
@[reducible] def IQ (b : Bool) (x y : AV) : AV := match b with | true => x | false => y
theorem F0 (b:Bool)(x y:AV):IQ b x y=if b then x else y:=by cases b<;>rfl
@[reducible] def uS {α β : Type} (f : α → β) : Option α → Option β
  |some x=>some (f x)
  |none=>none
theorem mc {α β:Type}(f:α→β)(x:Option α):uS f x=x.map f:=by cases x<;>rfl
@[reducible] def I0 (Γ : cR) (op : BinOp) (t : TypeId) (x y : AV) : Option (List Nat × AV × ML) :=
  match x with
  | .own _ _ n=>match Js y with
    |true=>xz op (pI Γ t) n
    |false=>none
  | .sl _ rows=>match Js y with
    |true=>xz op (pI Γ t) rows.length
    |false=>none
  | .lit a=>match y with
    | .lit b=>match pI Γ t with
      |some .bl=>uS (fun r=>([],.lit r,[])) (Cb op a b)
      |_=>uS (fun r=>([],.lit r,[])) (IB op a b)
    |_=>none
  |_=>none
@[reducible] def di (Γ : cR) (sl : SL) (m : ML) (dst : Option Nat) (op : Op) : Option (List Nat × AV × ML) :=
  match op with
  |.move y=>some ([],fQ sl y,[])
  |.assign y=>some ([],fQ sl y,[])
  | .pick c y z=>match fQ sl c with
    |.lit (.bool b)=>some ([],IQ b (fQ sl y) (fQ sl z),[])
    |_=>none
  | .extract y i=>match fQ sl y with
    |.tup vs=>uS (fun x=>([],x,[])) (iE vs i)
    |_=>none
  | .field t y f=>match fQ sl y,pI Γ t with
    | .agg cs,some (.st _ fs _ _)=>match iE fs f with
      |some (off,ft)=>uS (fun x=>([],x,[])) (rB (pI Γ ft) (.agg cs) off)
      |none=>none
    |_,_=>none
  | .load t y=>match fQ sl y with
    | .ptr tk i k=>match eM m tk with
      | .live _ rows _=>match iE rows i with
        |some r=>uS (fun x=>([tk],x,[])) (rB (pI Γ t) r k)
        |none=>none
      |_=>none
    |.fptr r k=>uS (fun x=>([],x,[])) (rB (pI Γ t) r k)
    |_=>none
  | .fieldAddr t y f=>match pI Γ t with
    | some (.st _ fs _ _)=>match iE fs f with
      | some (off,_)=>match fQ sl y with
        |.ptr tk i k=>some ([],.ptr tk i (Nat.add k off),[])
        |.fptr r k=>some ([],.fptr r (Nat.add k off),[])
        |_=>none
      |none=>none
    |_=>none
  | .nilCheck y=>match fQ sl y with
    |.ptr tk i k=>some ([],.ptr tk i k,[])
    |.fptr r k=>some ([],.fptr r k,[])
    |_=>none
  | .store t y z=>match dst with
    | none =>match fQ sl y with
      | .ptr tk i k=>match eM m tk with
        | .live wd rows false=>match iE rows i with
          | some r=>match qY (pI Γ t) r k (fQ sl z) with
            |some r'=>some ([tk],.any,[(tk,.live wd (Is rows i r') false)])
            |none=>none
          |none=>none
        |_=>none
      |_=>none
    |some _=>none
  | .box _ y=>match dst with
    | some d=>match eM m (Nat.mul 10 d) with
      | .free=>match tV (fQ sl y) with
        |true=>some ([Nat.mul 10 d],.ptr (Nat.mul 10 d) 0 0,[(Nat.mul 10 d,.live (fu (dx (fQ sl y))) [fQ sl y] false)])
        |false=>none
      |_=>none
    |none=>none
  | .alloc t=>match dst with
    | some d=>match eM m (Nat.mul 10 d) with
      | .free=>match EC (pI Γ t) with
        |some x=>some ([Nat.mul 10 d],.ptr (Nat.mul 10 d) 0 0,[(Nat.mul 10 d,.live (fu (dx x)) [x] false)])
        |none=>none
      |_=>none
    |none=>none
  |.makeFunc fn first cap=>some ([],.clo fn (eC (fQ sl) first.toList) (eC (fQ sl) cap.toList),[])
  |.binOp op t y z _=>I0 Γ op t (fQ sl y) (fQ sl z)
  | .unOp .not _ y=>match fQ sl y with
    |.lit (.bool b)=>some ([],.lit (.bool (!b)),[])
    |_=>none
  | .build t parts=>match pI Γ t with
    |some (.st _ fs z szs)=>uS (fun cs=>([],.agg cs,[])) (BE (fun i=>match iE fs i,iE szs i with|some (off,_),some sz=>some (off,sz)|_,_=>none) (eC .lit z.toList) (eC (fun(p:Nat×Operand)=>match p with|(i,y)=>(i,fQ sl y)) parts.toList))
    |_=>none
  |.call c=>Kh Γ sl c
  |_=>none
theorem DT {Γ:cR}{sl:SL}{m:ML}{dst:Option Nat}{op:Op}{q:List Nat×AV×ML}(h:di Γ sl m dst op=some q):eG Γ sl m dst op=some q:=by
  have hcells:∀x,fu (dx x)=(cells x).length:=fun x=>by rw[cW,fE]
  cases op
  case move y=>simp only[di,eG,dW] at h ⊢;exact h
  case assign y=>simp only[di,eG,dW] at h ⊢;exact h
  case pick c y z=>simp only[di,eG,dW,F0] at h ⊢;exact h
  case extract y i=>simp only[di,eG,dW,gU,mc] at h ⊢;exact h
  case field t y f=>simp only[di,eG,dW,gU,mc,eS,pB] at h ⊢;exact h
  case load t y=>simp only[di,eG,dW,gU,mc,eS,gZ,pB] at h ⊢;exact h
  case fieldAddr t y f=>simp only[di,eG,dW,gU,eS] at h ⊢;exact h
  case nilCheck y=>simp only[di,eG,dW] at h ⊢;exact h
  case store t y z=>
    simp only[di,eG,dW,gU,eS,gZ,B8] at h ⊢
    cases dst with
    |some d=>cases h
    | none =>
      simp only at h ⊢
      generalize jq sl y=vy at h ⊢
      cases vy
      case ptr tk i k=>
        simp only at h ⊢
        generalize aX m tk=ms at h ⊢
        cases ms
        case live wd rows ro=>
          cases ro with
          |true=>simp only at h;cases h
          | false=>
            simp only at h ⊢
            generalize rows[i]? =rw0 at h ⊢
            cases rw0 with
            |none=>simp only at h;cases h
            | some r=>
              simp only at h ⊢
              cases hs:qY (dj Γ t) r k (jq sl z) with
              |none=>rw[hs] at h;simp only at h;cases h
              |some r'=>rw[wu hs];rw[hs] at h;exact h
        all_goals (simp only at h;cases h)
      all_goals (simp only at h;cases h)
  case box t y=>
    simp only[di,eG,dW,gZ,nR,hcells] at h ⊢
    cases dst with
    |none=>cases h
    | some d=>
      simp only at h ⊢
      have e10:Nat.mul 10 d=10*d:=rfl
      rw[e10] at h
      generalize aX m (10*d)=ms at h ⊢
      cases ms
      case free=>
        simp only at h ⊢
        cases hs:(jq sl y).mh with
        |true=>rw[hs] at h;rw[if_pos rfl];exact h
        |false=>rw[hs] at h;simp only at h;cases h
      all_goals (simp only at h;cases h)
  case alloc t=>
    simp only[di,eG,eS,gZ,Fb,hcells] at h ⊢
    exact h
  case makeFunc fn a b=>
    have he:fQ sl=jq sl:=funext (dW sl)
    simpa only[di,eG,he,eN] using h
  case binOp op t y z yt=>
    simp only[di,I0,eG,dW,eS,DZ,mc] at h ⊢
    generalize jq sl y=a at h ⊢
    generalize jq sl z=b at h ⊢
    have lit:∀ (x1 x2:Value),(match dj Γ t with
        |some .bl=>(Cb op x1 x2).map (fun r=>(([]:List Nat),AV.lit r,([]:ML)))
        |_=>(IB op x1 x2).map (fun r=>(([]:List Nat),AV.lit r,([]:ML))))=some q→
      (match dj Γ t with
        |some .bl=>(F6 op x1 x2).map (fun r=>(([]:List Nat),AV.lit r,([]:ML)))
        |_=>(xF op x1 x2).map (fun r=>(([]:List Nat),AV.lit r,([]:ML))))=some q:=by
      intro x1 x2 hh
      have g1:∀ {z1 z2:Option Value},(∀r,z1=some r→z2=some r)→z1.map (fun r=>(([]:List Nat),AV.lit r,([]:ML)))=some q→z2.map (fun r=>(([]:List Nat),AV.lit r,([]:ML)))=some q:=by
        intro z1 z2 hz h1
        rw[Option.map_eq_some_iff] at h1 ⊢
        obtain⟨r,h2,h3⟩:=h1
        exact⟨r,hz r h2,h3⟩
      generalize dj Γ t=ti at hh ⊢
      cases ti with
      |none=>exact g1 (fun r hr=>BV hr) hh
      |some ti=>cases ti<;>first|exact g1 (fun r hr=>BV hr) hh|exact g1 (fun r hr=>EN hr) hh
    cases a
    case own t1 o1 n1=>
      simp only at h
      split at h
      ·rename_i hn;rw[B9 hn];exact h
      ·cases h
    case sl w1 r1=>
      simp only at h
      split at h
      ·rename_i hn;rw[B9 hn];exact h
      ·cases h
    case lit x1=>
      cases b
      case lit x2=>exact lit x1 x2 h
      all_goals (simp only at h;cases h)
    all_goals (simp only at h;cases h)
  case unOp op t y=>cases op<;>(simp only[di,eG,dW] at h ⊢;exact h)
  case build t parts=>
    simp only[di,eG,dW,eS,gU,eN,mc] at h ⊢
    generalize dj Γ t=ti at h ⊢
    cases ti with
    |none=>cases h
    | some ti=>
      cases ti
      case st n fs z szs=>
        simp only at h ⊢
        rw[Option.map_eq_some_iff] at h
        obtain⟨cs,h1,h2⟩:=h
        have h3:=yD h1
        rw[Option.map_eq_some_iff]
        exact⟨cs,h3,h2⟩
      all_goals (simp only at h;cases h)
  case call c=>simp only[di,eG,HD] at h ⊢;exact h
  all_goals simp only[di] at h;cases h
end Go.Am
