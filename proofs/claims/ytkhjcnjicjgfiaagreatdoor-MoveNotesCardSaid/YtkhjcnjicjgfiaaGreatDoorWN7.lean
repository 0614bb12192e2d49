/- Walks of functions by unfolding over abstract states; runs of functions by an evaluator that is proved. By an AI agent. -/
import Derived.Test.YtkhjcnjicjgfiaaGreatDoorWN6
import Derived.Laws.StructEq
import Derived.IntWalk
set_option linter.unusedSimpArgs false
set_option linter.unusedVariables false
namespace Go.Am
open Go
theorem beq_eq {i d:Nat}(h:Nat.beq i d=true):i=d:=Nat.eq_of_beq_eq_true h
theorem beq_false {i d:Nat}(h:i≠d):Nat.beq i d=false:=by
  cases h':Nat.beq i d with
  |false=>rfl
  |true=>exact absurd (beq_eq h') h
theorem fO {a b:Nat}(h:Nat.ble a b=true):a≤b:=Nat.le_of_ble_eq_true h
theorem EY {a b:Nat}(h:a≤b):Nat.ble a b=true:=Nat.ble_eq_true_of_le h
theorem Dk {a b:Nat}(h:¬a≤b):Nat.ble a b=false:=by
  cases h':Nat.ble a b with
  |false=>rfl
  |true=>exact absurd (fO h') h
@[reducible] def r8 : Nat → Nat → Bool
  | 0,k=>match k with
    |0=>true
    |_+1=>false
  | n+1,k=>match k with
    |0=>false
    |k+1=>r8 n k
@[reducible] def I3 : Nat → Nat → Bool
  |0,_=>true
  |n+1,k+1=>I3 n k
  |_+1,0=>false
@[reducible] def Im : Nat → Bool
  |0=>true
  |_+1=>false
@[reducible] def Aw : Value → Bool
  | .slice ad n c=>match ad with
    | none=>match Im n with
      |true=>Im c
      |false=>false
    |some _=>false
  |_=>false
@[reducible] def II : AV → Bool
  |.lit v=>Aw v
  |_=>false
theorem nC {v:Value}(h:Aw v=true):v=.slice none 0 0:=by
  cases v with
  | slice ad n c=>
    cases ad with
    | none=>
      cases n with
      | zero=>cases c with
        |zero=>rfl
        |succ c=>cases h
      |succ n=>cases h
    |some a=>cases h
  |_=>cases h
theorem B7 {x:AV}(h:II x=true):x=.lit (.slice none 0 0):=by
  cases x with
  |lit v=>rw[nC h]
  |_=>cases h
theorem eo:∀ (a b:Nat),r8 a b=Nat.beq a b
  |0,0=>rfl
  |n+1,k+1=>by rw[r8,eo n k];rfl
  |0,k+1=>rfl
  |n+1,0=>rfl
theorem wH:∀ (a b:Nat),I3 a b=Nat.ble a b
  |0,b=>by simp[I3]
  |n+1,k+1=>by rw[I3,wH n k];rfl
  |n+1,0=>rfl
abbrev SL:=List (Nat×AV)
abbrev ML:=List (Nat×MS)
@[reducible] def uI : SL → Nat → AV
  |[],_=>.any
  | (k,x)::r,i=>match Nat.beq i k with
    |true=>x
    |false=>uI r i
@[reducible] def eD : ML → Nat → MS
  |[],_=>.free
  | (k,x)::r,i=>match Nat.beq i k with
    |true=>x
    |false=>eD r i
@[reducible] def qk : cQ → Nat → Option TI
  |[],_=>none
  | (k,x)::r,i=>match Nat.beq i k with
    |true=>some x
    |false=>qk r i
theorem gS:∀ (l:SL) (i:Nat),uI l i=ct l i
  |[],_=>rfl
  | p ::r,i=>by
    obtain⟨d,x⟩:=p
    simp only[uI,ct,gS r i]
    by_cases h:i=d
    ·subst h;simp
    · have h1:(i==d)=false:=by simpa using h
      have h2:Nat.beq i d=false:=beq_false (by simpa using h1)
      rw[h1,h2];rfl
theorem gW:∀ (l:ML) (i:Nat),eD l i=aR l i
  |[],_=>rfl
  | p ::r,i=>by
    obtain⟨d,x⟩:=p
    simp only[eD,aR,gW r i]
    by_cases h:i=d
    ·subst h;simp
    · have h1:(i==d)=false:=by simpa using h
      have h2:Nat.beq i d=false:=beq_false (by simpa using h1)
      rw[h1,h2];rfl
theorem eJ:∀ (l:cQ) (i:Nat),qk l i=dm l i
  |[],_=>rfl
  | p ::r,i=>by
    obtain⟨d,x⟩:=p
    simp only[qk,dm,eJ r i]
    by_cases h:d=i
    ·subst h;simp
    · have h1:(i==d)=false:=by simpa using Ne.symm h
      have h2:Nat.beq i d=false:=beq_false (by simpa using h1)
      rw[h1,h2];rfl
@[reducible] def pg (d : Nat) (x : AV) : SL → SL
  |[]=>[(d,x)]
  | (k,y)::r=>match Nat.beq d k with
    |true=>(d,x)::r
    |false=>(k,y)::pg d x r
@[reducible] def jF (d : Nat) (x : MS) : ML → ML
  |[]=>[(d,x)]
  | (k,y)::r=>match Nat.beq d k with
    |true=>(d,x)::r
    |false=>(k,y)::jF d x r
@[reducible] def uF : ML → ML → ML
  |[],m=>m
  |(k,x)::r,m=>jF k x (uF r m)
@[reducible] def pushB : Option Nat → AV → SL → SL
  |none,_,l=>l
  |some d,x,l=>pg d x l
theorem nI (d:Nat)(x:AV):∀ (l:SL) (i:Nat),ct (pg d x l) i=ct ((d,x)::l) i
  |[],i=>rfl
  | p :: r,i=>by
    obtain⟨e,y⟩:=p
    simp only[pg]
    by_cases h:d=e
    · subst h
      simp only[Nat.beq_refl,ct]
      by_cases hi:i=d
      ·subst hi;simp
      · have:(i==d)=false:=by simpa using hi
        simp[this]
    · rw [beq_false h]
      simp only[ct,nI d x r i]
      by_cases hi:i=d
      · subst hi;have:(i==e)=false:=by simpa using h
        simp[this]
      · have:(i==d)=false:=by simpa using hi
        simp[this]
theorem ud (d:Nat)(x:MS):∀ (l:ML) (i:Nat),aR (jF d x l) i=aR ((d,x)::l) i
  |[],i=>rfl
  | p :: r,i=>by
    obtain⟨e,y⟩:=p
    simp only[jF]
    by_cases h:d=e
    · subst h
      simp only[Nat.beq_refl,aR]
      by_cases hi:i=d
      ·subst hi;simp
      · have:(i==d)=false:=by simpa using hi
        simp[this]
    · rw [beq_false h]
      simp only[aR,ud d x r i]
      by_cases hi:i=d
      · subst hi;have:(i==e)=false:=by simpa using h
        simp[this]
      · have:(i==d)=false:=by simpa using hi
        simp[this]
theorem rq:∀ (u m:ML) (i:Nat),aR (uF u m) i=aR (u++m) i
  |[],m,i=>rfl
  | p::r,m,i=>by
    obtain⟨e,y⟩:=p
    simp only[uF,ud,List.cons_append,aR,rq r m i]
theorem Bb (d:Option Nat)(x:AV)(l:SL)(i:Nat):ct (pushB d x l) i=ct (qg d x l) i:=by
  cases d with
  |none=>rfl
  |some d=>exact nI d x l i
theorem sL (d:Option Nat)(x:AV)(l:SL)(u m:ML):St (qg d x l) (u++m)=St (pushB d x l) (uF u m):=by
  unfold St
  congr 1
  ·funext i;exact(Bb d x l i).symm
  ·funext i;exact(rq u m i).symm
@[reducible] def eZ (l : SL) : Operand → AV
  |.tmp t=>uI l t
  |.const v=>.lit v
  |.global g=>.lit (.pointer (some ⟨g,0,none⟩))
  |.func f=>.lit (.func (.func f) #[] #[])
theorem dG (l:SL)(y:Operand):eZ l y=jg l y:=by cases y<;>simp[eZ,jg,gS]
section
universe u v
variable {α : Type u} {β : Type v}
@[reducible] def iA : List α → Nat → Option α
  |[],_=>none
  |x::_,0=>some x
  |_::r,k+1=>iA r k
@[reducible] def eV : List α → Nat
  |[]=>0
  |_::r=>Nat.succ (eV r)
@[reducible] def ef (f : α → β) : List α → List β
  |[]=>[]
  |x::r=>f x::ef f r
@[reducible] def dR : List α → List α → List α
  |[],b=>b
  |x::r,b=>x::dR r b
@[reducible] def gG : Nat → List α → List α
  |0,_=>[]
  |_+1,[]=>[]
  |k+1,x::r=>x::gG k r
@[reducible] def vX : Nat → List α → List α
  |0,l=>l
  |_+1,[]=>[]
  |k+1,_::r=>vX k r
@[reducible] def Ib : List α → Nat → α → List α
  |[],_,_=>[]
  |_::r,0,y=>y::r
  |x::r,k+1,y=>x::Ib r k y
@[reducible] def iZ (p : α → Bool) : List α → Bool
  |[]=>true
  | x::r=>match p x with
    |true=>iZ p r
    |false=>false
@[reducible] def tK : List β → List α → List α
  |[],l=>l
  |_::_,[]=>[]
  |_::r,_::l=>tK r l
theorem ij:∀ (l:List α) (k:Nat),iA l k=l[k]?
  |[],_=>rfl
  |_::_,0=>rfl
  |_::r,k+1=>by simp only[iA,ij r k,List.getElem?_cons_succ]
theorem c6:∀ (l:List α),eV l=l.length
  |[]=>rfl
  |_::r=>by show eV r+1=_;rw[c6 r];rfl
theorem eB (f:α→β):∀ (l:List α),ef f l=l.map f
  |[]=>rfl
  |x::r=>by simp only[ef,eB f r,List.map_cons]
theorem gT:∀ (a b:List α),dR a b=a++b
  |[],_=>rfl
  |x::r,b=>by simp only[dR,gT r b,List.cons_append]
theorem pO:∀ (k:Nat) (l:List α),gG k l=l.take k
  |0,_=>rfl
  |_+1,[]=>rfl
  |k+1,x::r=>by simp only[gG,pO k r,List.take_succ_cons]
theorem pq:∀ (k:Nat) (l:List α),vX k l=l.drop k
  |0,_=>rfl
  |_+1,[]=>rfl
  |k+1,x::r=>by simp only[vX,pq k r,List.drop_succ_cons]
theorem vH:∀ (a:List β) (l:List α),tK a l=l.drop a.length
  |[],_=>rfl
  |_::_,[]=>by simp[tK]
  |_::r,_::l=>by simp only[tK,vH r l,List.length_cons,List.drop_succ_cons]
theorem BZ:∀ (l:List α) (k:Nat) (y:α),Ib l k y=l.set k y
  |[],_,_=>rfl
  |_::_,0,_=>rfl
  |x::r,k+1,y=>by simp only[Ib,BZ r k y,List.set_cons_succ]
theorem BB (p:α→Bool):∀ (l:List α),iZ p l=l.all p
  |[]=>rfl
  |x::r=>by simp only[iZ,List.all_cons,BB p r];cases p x<;>rfl
end
@[reducible] def dA : AV → List AV
  |.agg cs=>cs
  |.lit (.agg xs)=>ef .lit xs.toList
  |x=>[x]
theorem eS (x:AV):dA x=cells x:=by
  cases x with
  |lit v=>cases v<;>simp[dA,cells,eB]
  |_=>rfl
@[reducible] def FV : AV → Bool
  |.agg _=>true
  |.lit (.agg _)=>true
  |_=>false
theorem DB (x:AV):FV x=kO x:=by
  cases x with
  |lit v=>cases v<;>rfl
  |_=>rfl
@[reducible] def uw : AV → Bool
  |.any=>false
  |_=>true
theorem nP (x:AV):uw x=x.mw:=by cases x<;>rfl
@[reducible] def IQ : AV → Bool
  |.any=>false
  |.agg _=>false
  |.tup _=>false
  |.lit (.agg _)=>false
  |.lit (.tuple _)=>false
  |_=>true
theorem Ik (x:AV):IQ x=x.one:=by
  cases x with
  |lit v=>cases v<;>rfl
  |_=>rfl
@[reducible] def tG : IntKind → Nat
  |.i8=>0|.i16=>1|.i32=>2|.i64=>3|.u8=>4|.u16=>5|.u32=>6|.u64=>7
theorem ET {k k':IntKind}(h:Nat.beq (tG k) (tG k')=true):k=k':=by
  cases k<;>cases k'<;>first|rfl|(simp[tG] at h)
@[reducible] def Cf (n : Nat) (r : AV) (k : Nat) : Option AV :=
  match Nat.beq k 0,r8 (eV (dA r)) n,FV r with
  |true,true,true=>some r
  | _,_,_=>match I3 (Nat.add k n) (eV (dA r)) with
    |true=>some (.agg (gG n (vX k (dA r))))
    |false=>none
@[reducible] def rL (ti : Option TI) (r : AV) (k : Nat) : Option AV :=
  match ti with
  |some (.sc _)=>iA (dA r) k
  |some .bl=>iA (dA r) k
  |some (.sl ..)=>iA (dA r) k
  |some .str=>iA (dA r) k
  |some (.st n _ _ _)=>Cf n r k
  |some (.ar n _ _ _ _)=>Cf n r k
  |none=>none
theorem GQ (a b:Nat):Nat.ble a b=decide (a≤b):=by
  by_cases h:a≤b
  ·rw[EY h,dJ h]
  ·rw[Dk h,dx h]
theorem Gq (a b:Nat):Nat.beq a b=decide (a=b):=by
  by_cases h:a=b
  ·subst h;simp
  ·rw[beq_false h,dx h]
theorem Fw (n:Nat)(r:AV)(k:Nat):Cf n r k=if k=0∧(cells r).length=n∧kO r=true then some r else if k+n≤ (cells r).length then some (.agg (((cells r).drop k).take n)) else none:=by
  unfold Cf
  simp only[pO,pq,c6,eS,DB,eo,wH,Gq,GQ]
  show (match decide (k=0),decide ((cells r).length=n),kO r with
    |true,true,true=>some r
    | _,_,_=>match decide (k+n≤ (cells r).length) with
      |true=>some (AV.agg (((cells r).drop k).take n))
      |false=>none)=_
  by_cases h4:k+n≤ (cells r).length
  · rw [dJ h4,if_pos h4]
    by_cases h1:k=0
    · by_cases h2:(cells r).length=n
      · cases h3:kO r with
        |true=>rw[dJ h1,dJ h2,if_pos ⟨h1,h2,rfl⟩]
        |false=>rw[dJ h1,dJ h2,if_neg (fun h=>by cases h.2.2)]
      ·rw[dJ h1,dx h2,if_neg (fun h=>h2 h.2.1)]
    ·rw[dx h1,if_neg (fun h=>h1 h.1)]
  · rw [dx h4,if_neg h4]
    by_cases h1:k=0
    · by_cases h2:(cells r).length=n
      · cases h3:kO r with
        |true=>rw[dJ h1,dJ h2,if_pos ⟨h1,h2,rfl⟩]
        |false=>rw[dJ h1,dJ h2,if_neg (fun h=>by cases h.2.2)]
      ·rw[dJ h1,dx h2,if_neg (fun h=>h2 h.2.1)]
    ·rw[dx h1,if_neg (fun h=>h1 h.1)]
theorem pC (ti:Option TI)(r:AV)(k:Nat):rL ti r k=rV ti r k:=by
  cases ti with
  |none=>rfl
  |some ti=>cases ti<;>simp only[rL,rV,ij,eS,Fw]
@[reducible] def Ea : Option TI → Option Nat
  |some (.sc _)=>some 1
  |some .bl=>some 1
  |some (.sl ..)=>some 1
  |some .str=>some 1
  |some (.st n ..)=>some n
  |some (.ar n ..)=>some n
  |none=>none
theorem Ew (ti:Option TI):Ea ti=zL ti:=by
  cases ti with
  |none=>rfl
  |some ti=>cases ti<;>rfl
@[reducible] def EF : Option TI → Option AV
  |some (.sc z)=>match z with|.agg _=>none|z=>some (.lit z)
  |some .bl=>some (.lit (.bool false))
  |some (.sl ..)=>some (.lit (.slice none 0 0))
  |some .str=>some (.lit (.string ByteArray.empty))
  |some (.st _ _ z _)=>some (.agg (ef .lit z.toList))
  |some (.ar _ _ _ _ z)=>some (.agg (ef .lit z.toList))
  |none=>none
theorem Er (ti:Option TI):EF ti=n5 ti:=by
  cases ti with
  |none=>rfl
  |some ti=>cases ti<;>first|rfl|(simp only[EF,n5,eB])|(rename_i z;cases z<;>rfl)
@[reducible] def qU (ti : Option TI) (r : AV) (k : Nat) (x : AV) : Option AV :=
  match Ea ti with
  | some n=>match r8 (eV (dA x)) n,iZ IQ (dA x),uw x with
    | true,true,true=>match r8 (eV (dA r)) n,Nat.beq k 0 with
      |true,true=>some x
      | _,_=>match I3 (Nat.add k n) (eV (dA r)) with
        |true=>some (.agg (dR (gG k (dA r)) (dR (dA x) (tK (dA x) (vX k (dA r))))))
        |false=>none
    |_,_,_=>none
  |none=>none
theorem vU {ti:Option TI}{r:AV}{k:Nat}{x r':AV}(h:qU ti r k x=some r'):tM ti r k x=some r':=by
  unfold qU at h
  unfold tM
  rw[←Ew]
  cases hs:Ea ti with
  |none=>rw[hs] at h;cases h
  | some n =>
    rw[hs] at h
    simp only[pO,pq,vH,gT,c6,eS,nP,BB,eo,wH,List.drop_drop] at h ⊢
    have ho:((cells x).all IQ)=kP (cells x):=by unfold kP;congr 1;funext y;exact Ik y
    rw[ho] at h
    split at h
    · rename_i h1 h2 h3
      rw[if_pos ⟨beq_eq h1,h2,h3⟩]
      split at h
      · rename_i h4 h5
        cases h
        rw[if_pos ⟨beq_eq h4,beq_eq h5⟩]
      · rename_i h4
        split at h
        · rename_i h5
          cases h
          have h5':k+n≤ (cells r).length:=fO h5
          rw[if_neg (fun hh=>h4 (by simp[hh.1]) (by simp[hh.2])),if_pos h5']
          unfold fu
          rw[List.append_assoc]
        ·cases h
    ·cases h
@[reducible] def Bg (place : Nat → Option (Nat × Nat)) (cs : List AV) : List (Nat × AV) → Option (List AV)
  |[]=>some cs
  | (i,x)::rest=>
    match place i with
    |none=>none
    | some (off,size)=>match r8 (eV (dA x)) size,I3 (Nat.add off size) (eV cs),uw x with
      |true,true,true=>Bg place (dR (gG off cs) (dR (dA x) (vX (Nat.add off size) cs))) rest
      |_,_,_=>none
theorem yG {place:Nat→Option (Nat×Nat)}:∀ {ps:List (Nat×AV)} {cs cs':List AV},Bg place cs ps=some cs'→mh place cs ps=some cs'
  |[],cs,cs',h=>h
  | (i, x)::rest,cs,cs',h=>by
    simp only[Bg] at h
    simp only[mh]
    cases hp:place i with
    |none=>rw[hp] at h;cases h
    | some os=>
      obtain⟨off,size⟩:=os
      rw[hp] at h
      simp only at h ⊢
      split at h
      · rename_i h1 h2 h3
        rw[eo,c6,eS] at h1
        rw[wH,c6] at h2
        rw[nP] at h3
        have e1:=beq_eq h1
        have e2:=fO h2
        rw[if_pos ⟨e1,by rw[e1];exact e2,h3⟩]
        have:=yG h
        simp only[pO,pq,gT,eS] at this
        unfold fu
        rw[List.append_assoc,e1];exact this
      ·cases h
abbrev Rest:=List Nat→AV→ML→Tk→SL→ML→Prop
def aW (P:Program)(N:Nat){o:Oper}(acc:Tk)(sl:SL)(m:ML){R:Rest}:Prop:=∃rd x ups,aH P N o (St sl m) rd x ups∧R rd x ups acc sl m
def bE (p:Prop)(acc:Tk)(sl:SL)(m:ML){A:Tk→SL→ML→Prop}:Prop:=p∧A acc sl m
def bg (rows:List AV)(i:Int)(acc:Tk)(sl:SL)(m:ML){A:AV→Tk→SL→ML→Prop}:Prop:=∃ (k:Nat) (r:AV),i=k∧rows[k]? =some r∧A r acc sl m
def ee (i:Int)(n:Nat)(acc:Tk)(sl:SL)(m:ML){A:Nat→Tk→SL→ML→Prop}:Prop:=∃k:Nat,i=k∧k<n∧A k acc sl m
def aT (rows:List AV)(i:Nat)(acc:Tk)(sl:SL)(m:ML){A:AV→Tk→SL→ML→Prop}:Prop:=∃r:AV,rows[i]? =some r∧A r acc sl m
def A0 (l h:Int)(len:Nat)(acc:Tk)(sl:SL)(m:ML){A:Nat→Nat→Tk→SL→ML→Prop}:Prop:=∃a n:Nat,l=a∧h=(a:Int)+n∧a+n≤len∧A a n acc sl m
def zO (l h:Int)(rows:List AV)(acc:Tk)(sl:SL)(m:ML){A:List AV→Tk→SL→ML→Prop}:Prop:=∃ (a n:Nat) (rows':List AV),l=a∧h=(a:Int)+n∧a+n≤rows.length∧rows'=(rows.drop a).take n∧A rows' acc sl m
def iT (rb:List AV)(off len:Nat)(rs:List AV)(off' len':Nat)(bytes:Nat)(acc:Tk)(sl:SL)(m:ML){A:List AV→Tk→SL→ML→Prop}:Prop:=
  ∃ rows0 news,off+len≤rb.length∧rows0=(rb.drop off).take len∧off'+len'≤rs.length∧news=(rs.drop off').take len'∧kP (flat news)=true∧
    (rows0.length+news.length)*bytes≤140737488355328∧rows0.length+news.length≤9223372036854775807∧A (rows0++news) acc sl m
def af (P:Program)(N:Nat){o:Oper}(f:FuncId)(args:List AV)(acc:Tk)(sl:SL)(m:ML){R:Rest}:Prop:=gu (St sl m) o f args→aW P N acc sl m (o:=o) (R:=R)
def pQ (P:Program)(N:Nat){o:Oper}(t:TypeId)(c:Bool)(ym kv:AV)(acc:Tk)(sl:SL)(m:ML){R:Rest}:Prop:=
  (∃y x,o.op=.lookup t y x c∧(St sl m).eval y=ym∧(St sl m).eval x=kv)→aW P N acc sl m (o:=o) (R:=R)
def wL (P:Program)(N:Nat){o:Oper}(t:TypeId)(ym kv x:AV)(acc:Tk)(sl:SL)(m:ML){R:Rest}:Prop:=
  (∃y z v,o.op=.mapUpdate t y z v∧(St sl m).eval y=ym∧(St sl m).eval z=kv∧(St sl m).eval v=x)→aW P N acc sl m (o:=o) (R:=R)
def qW (P:Program)(N:Nat){o:Oper}(t:TypeId)(ym:AV)(acc:Tk)(sl:SL)(m:ML){R:Rest}:Prop:=
  (∃y,o.op=.call {callee:=.builtin .len,args:= #[y],argTypes:= #[t]}∧(St sl m).eval y=ym)→aW P N acc sl m (o:=o) (R:=R)
def u7 (s:ByteArray)(i:Int)(acc:Tk)(sl:SL)(m:ML){A:Int→Tk→SL→ML→Prop}:Prop:=∃ (k:Nat) (c:UInt8),i=k∧s.data.toList[k]? =some c∧A c.toNat acc sl m
def EA (s:ByteArray)(l h:Int)(acc:Tk)(sl:SL)(m:ML){A:ByteArray→Tk→SL→ML→Prop}:Prop:=∃a b:Nat,l=a∧h=b∧a≤b∧b≤s.size∧A (s.extract a b) acc sl m
def oh (P:Program)(src dst:TypeId)(v:Value)(acc:Tk)(sl:SL)(m:ML){A:Value→Tk→SL→ML→Prop}:Prop:=∃r,(∀w,(convert src dst v).run P w=.ok r w)∧A r acc sl m
def oF (P:Program)(src dst:TypeId)(rows:List AV)(off len:Nat)(acc:Tk)(sl:SL)(m:ML){A:Value→Tk→SL→ML→Prop}:Prop:=
  ∃ (bs:List UInt8) (e:TypeId),P.underlying src=some (.slice e)∧P.underlying e=some (.int .u8)∧P.underlying dst=some .string∧len=bs.length∧bs≠ []∧
    (∀ (i:Nat) (b:UInt8),bs[i]? =some b→(flat rows)[off+i]? =some (.lit (.int .u8 b.toNat)))∧A (.string ⟨bs.toArray⟩) acc sl m
def Iq (P:Program)(op:BinOp)(t:TypeId)(us vs:List Value)(acc:Tk)(sl:SL)(m:ML){A:Bool→Tk→SL→ML→Prop}:Prop:=
  ∃b,(∀ (y z:Operand) (w:World),((do eqGuard op t y z (.agg us.toArray) (.agg vs.toArray);binOp op t (.agg us.toArray) (.agg vs.toArray):Sem Value)).run P w=.ok (.bool b) w)∧A b acc sl m
@[reducible] def rJ : List AV → Option (List Value)
  |[]=>some []
  | .lit v::r=>match rJ r with
    |some l=>some (v::l)
    |none=>none
  |_::_=>none
def aX (b:Bool)(acc:Tk)(sl:SL)(m:ML){A B:Tk→SL→ML→Prop}:Prop:=(b=true→A acc sl m)∧(b=false→B acc sl m)
@[reducible] def uU (t : Nat) : Bool := Nat.beq (Nat.mod t 10) 0
@[reducible] def rY (P : Program) (N : Nat) (o : Oper) (acc : Tk) (sl : SL) (m : ML) (R : Rest) : Option (List Nat × AV × ML) → Prop
  |some (rd,x,ups)=>R rd x ups acc sl m
  |none=>aW P N acc sl m (o:=o) (R:=R)
@[reducible] def G2 (op : BinOp) (a b : Value) : Option Value :=
  match op,a,b with
  |.add,.int k a,.int k' b=>match Nat.beq (tG k) (tG k') with|true=>some (.int k (k.wrap (a+b)))|false=>none
  |.sub,.int k a,.int k' b=>match Nat.beq (tG k) (tG k') with|true=>some (.int k (k.wrap (a-b)))|false=>none
  |.lss,.int k a,.int k' b=>match Nat.beq (tG k) (tG k') with|true=>some (.bool (decide (a<b)))|false=>none
  |.leq,.int k a,.int k' b=>match Nat.beq (tG k) (tG k') with|true=>some (.bool (decide (a≤b)))|false=>none
  |.gtr,.int k a,.int k' b=>match Nat.beq (tG k) (tG k') with|true=>some (.bool (decide (b<a)))|false=>none
  |.geq,.int k a,.int k' b=>match Nat.beq (tG k) (tG k') with|true=>some (.bool (decide (b≤a)))|false=>none
  |.eql,.int k a,.int k' b=>match Nat.beq (tG k) (tG k') with|true=>some (.bool (decide (a=b)))|false=>none
  |.neq,.int k a,.int k' b=>match Nat.beq (tG k) (tG k') with|true=>some (.bool (!decide (a=b)))|false=>none
  |.eql,.string a,.string b=>some (.bool (decide (a=b)))
  |.neq,.string a,.string b=>some (.bool (!decide (a=b)))
  |_,_,_=>none
theorem Hz (a b:ByteArray):(a.toList==b.toList)=decide (a=b):=by
  rw[ByteArray.toList_eq,ByteArray.toList_eq]
  by_cases h:a=b
  ·subst h;simp
  · rw [dx h]
    have:a.data.toList≠b.data.toList:=fun e=>h (by
      obtain⟨⟨x⟩⟩:=a
      obtain⟨⟨y⟩⟩:=b
      simp only at e
      rw[e])
    simpa using this
theorem GC (a b:Int):(a==b)=decide (a=b):=by
  by_cases h:a=b
  ·subst h;simp
  ·rw[dx h];simpa using h
theorem B6 {op:BinOp}{a b r:Value}(h:G2 op a b=some r):xb op a b=some r:=by
  unfold G2 at h
  split at h
  all_goals first
    | (split at h
       ·rename_i hk;have hk':=ET hk;subst hk';cases h;simp[xb,GC]
       ·cases h)
    |(cases h;simp[xb,Hz])
    |cases h
@[reducible] def Ce (op : BinOp) (a b : Value) : Option Value :=
  match op,a,b with
  |.eql,.bool a,.bool b=>some (.bool (a==b))
  |.neq,.bool a,.bool b=>some (.bool (!(a==b)))
  |_,_,_=>none
theorem F2 {op:BinOp}{a b r:Value}(h:Ce op a b=some r):Fe op a b=some r:=by
  unfold Ce at h
  split at h<;>first|exact h|cases h
@[reducible] def JW (Γ : cQ) (sl : SL) (c : Call) : Option (List Nat × AV × ML) :=
  match c.callee,c.args.toList,c.argTypes.toList with
  | .builtin .len,[y],[t]=>(match qk Γ t with
    | some (.sl ..)=>match eZ sl y with
      |.own _ _ n=>some ([],.lit (.int .i64 n),[])
      |.sl _ rows=>some ([],.lit (.int .i64 rows.length),[])
      |.lit (.slice _ n _)=>some ([],.lit (.int .i64 n),[])
      |_=>none
    | some .str=>match eZ sl y with
      |.lit (.string s)=>some ([],.lit (.int .i64 s.size),[])
      |_=>none
    |_=>none)
  |_,_,_=>none
theorem GG (Γ:cQ)(sl:SL)(c:Call):JW Γ sl c=G0 Γ sl c:=by
  unfold JW G0
  simp only[eJ,dG]
  rfl
@[reducible] def w5 (op : BinOp) (ti : Option TI) (n : Nat) : Option (List Nat × AV × ML) :=
  match ti,op with
  |some (.sl ..),.eql=>some ([],.guess (n=0) True,[])
  |some (.sl ..),.neq=>some ([],.guess True (n=0),[])
  |_,_=>none
theorem DG (op:BinOp)(ti:Option TI)(n:Nat):w5 op ti n=qA op ti n:=by
  unfold w5 qA
  rfl
@[reducible] def Iw (b : Bool) (x y : AV) : AV := match b with | true => x | false => y
theorem E7 (b:Bool)(x y:AV):Iw b x y=if b then x else y:=by cases b<;>rfl
@[reducible] def uK {α β : Type} (f : α → β) : Option α → Option β
  |some x=>some (f x)
  |none=>none
theorem lZ {α β:Type}(f:α→β)(x:Option α):uK f x=x.map f:=by cases x<;>rfl
@[reducible] def Ip (Γ : cQ) (op : BinOp) (t : TypeId) (x y : AV) : Option (List Nat × AV × ML) :=
  match x with
  | .own _ _ n=>match II y with
    |true=>w5 op (qk Γ t) n
    |false=>none
  | .sl _ rows=>match II y with
    |true=>w5 op (qk Γ t) rows.length
    |false=>none
  | .lit a=>match y with
    | .lit b=>match qk Γ t with
      |some .bl=>uK (fun r=>([],.lit r,[])) (Ce op a b)
      |_=>uK (fun r=>([],.lit r,[])) (G2 op a b)
    |_=>none
  |_=>none
@[reducible] def di (Γ : cQ) (sl : SL) (m : ML) (dst : Option Nat) (op : Op) : Option (List Nat × AV × ML) :=
  match op with
  |.move y=>some ([],eZ sl y,[])
  |.assign y=>some ([],eZ sl y,[])
  | .pick c y z=>match eZ sl c with
    |.lit (.bool b)=>some ([],Iw b (eZ sl y) (eZ sl z),[])
    |_=>none
  | .extract y i=>match eZ sl y with
    |.tup vs=>uK (fun x=>([],x,[])) (iA vs i)
    |_=>none
  | .field t y f=>match eZ sl y,qk Γ t with
    | .agg cs,some (.st _ fs _ _)=>match iA fs f with
      |some (off,ft)=>uK (fun x=>([],x,[])) (rL (qk Γ ft) (.agg cs) off)
      |none=>none
    |_,_=>none
  | .load t y=>match eZ sl y with
    | .ptr tk i k=>match eD m tk with
      | .live _ rows _=>match iA rows i with
        |some r=>uK (fun x=>([tk],x,[])) (rL (qk Γ t) r k)
        |none=>none
      |_=>none
    |.fptr r k=>uK (fun x=>([],x,[])) (rL (qk Γ t) r k)
    |_=>none
  | .fieldAddr t y f=>match qk Γ t with
    | some (.st _ fs _ _)=>match iA fs f with
      | some (off,_)=>match eZ sl y with
        |.ptr tk i k=>some ([],.ptr tk i (Nat.add k off),[])
        |.fptr r k=>some ([],.fptr r (Nat.add k off),[])
        |_=>none
      |none=>none
    |_=>none
  | .nilCheck y=>match eZ sl y with
    |.ptr tk i k=>some ([],.ptr tk i k,[])
    |.fptr r k=>some ([],.fptr r k,[])
    |_=>none
  | .store t y z=>match dst with
    | none =>match eZ sl y with
      | .ptr tk i k=>match eD m tk with
        | .live wd rows false=>match iA rows i with
          | some r=>match qU (qk Γ t) r k (eZ sl z) with
            |some r'=>some ([tk],.any,[(tk,.live wd (Ib rows i r') false)])
            |none=>none
          |none=>none
        |_=>none
      |_=>none
    |some _=>none
  | .box _ y=>match dst with
    | some d=>match eD m (Nat.mul 10 d) with
      | .free=>match uw (eZ sl y) with
        |true=>some ([Nat.mul 10 d],.ptr (Nat.mul 10 d) 0 0,[(Nat.mul 10 d,.live (eV (dA (eZ sl y))) [eZ sl y] false)])
        |false=>none
      |_=>none
    |none=>none
  | .alloc t=>match dst with
    | some d=>match eD m (Nat.mul 10 d) with
      | .free=>match EF (qk Γ t) with
        |some x=>some ([Nat.mul 10 d],.ptr (Nat.mul 10 d) 0 0,[(Nat.mul 10 d,.live (eV (dA x)) [x] false)])
        |none=>none
      |_=>none
    |none=>none
  |.makeFunc fn first cap=>some ([],.clo fn (ef (eZ sl) first.toList) (ef (eZ sl) cap.toList),[])
  |.binOp op t y z _=>Ip Γ op t (eZ sl y) (eZ sl z)
  | .unOp .not _ y=>match eZ sl y with
    |.lit (.bool b)=>some ([],.lit (.bool (!b)),[])
    |_=>none
  | .build t parts=>match qk Γ t with
    |some (.st _ fs z szs)=>uK (fun cs=>([],.agg cs,[])) (Bg (fun i=>match iA fs i,iA szs i with|some (off,_),some sz=>some (off,sz)|_,_=>none) (ef .lit z.toList) (ef (fun(p:Nat×Operand)=>match p with|(i,y)=>(i,eZ sl y)) parts.toList))
    |_=>none
  |.call c=>JW Γ sl c
  |_=>none
theorem CP {Γ:cQ}{sl:SL}{m:ML}{dst:Option Nat}{op:Op}{q:List Nat×AV×ML}(h:di Γ sl m dst op=some q):ep Γ sl m dst op=some q:=by
  have hcells:∀x,eV (dA x)=(cells x).length:=fun x=>by rw[c6,eS]
  cases op
  case move y=>simp only[di,ep,dG] at h ⊢;exact h
  case assign y=>simp only[di,ep,dG] at h ⊢;exact h
  case pick c y z=>simp only[di,ep,dG,E7] at h ⊢;exact h
  case extract y i=>simp only[di,ep,dG,ij,lZ] at h ⊢;exact h
  case field t y f=>simp only[di,ep,dG,ij,lZ,eJ,pC] at h ⊢;exact h
  case load t y=>simp only[di,ep,dG,ij,lZ,eJ,gW,pC] at h ⊢;exact h
  case fieldAddr t y f=>simp only[di,ep,dG,ij,eJ] at h ⊢;exact h
  case nilCheck y=>simp only[di,ep,dG] at h ⊢;exact h
  case store t y z=>
    simp only[di,ep,dG,ij,eJ,gW,BZ] at h ⊢
    cases dst with
    |some d=>cases h
    | none =>
      simp only at h ⊢
      generalize jg sl y=vy at h ⊢
      cases vy
      case ptr tk i k=>
        simp only at h ⊢
        generalize aR m tk=ms at h ⊢
        cases ms
        case live wd rows ro=>
          cases ro with
          |true=>simp only at h;cases h
          | false=>
            simp only at h ⊢
            generalize rows[i]? =rw0 at h ⊢
            cases rw0 with
            |none=>simp only at h;cases h
            | some r=>
              simp only at h ⊢
              cases hs:qU (dm Γ t) r k (jg sl z) with
              |none=>rw[hs] at h;simp only at h;cases h
              |some r'=>rw[vU hs];rw[hs] at h;exact h
        all_goals (simp only at h;cases h)
      all_goals (simp only at h;cases h)
  case box t y=>
    simp only[di,ep,dG,gW,nP,hcells] at h ⊢
    cases dst with
    |none=>cases h
    | some d=>
      simp only at h ⊢
      have e10:Nat.mul 10 d=10*d:=rfl
      rw[e10] at h
      generalize aR m (10*d)=ms at h ⊢
      cases ms
      case free=>
        simp only at h ⊢
        cases hs:(jg sl y).mw with
        |true=>rw[hs] at h;rw[if_pos rfl];exact h
        |false=>rw[hs] at h;simp only at h;cases h
      all_goals (simp only at h;cases h)
  case alloc t=>
    simp only[di,ep,eJ,gW,Er,hcells] at h ⊢
    exact h
  case makeFunc fn a b=>
    have he:eZ sl=jg sl:=funext (dG sl)
    simpa only[di,ep,he,eB] using h
  case binOp op t y z yt=>
    simp only[di,Ip,ep,dG,eJ,DG,lZ] at h ⊢
    generalize jg sl y=a at h ⊢
    generalize jg sl z=b at h ⊢
    have lit:∀ (x1 x2:Value),(match dm Γ t with
        |some .bl=>(Ce op x1 x2).map (fun r=>(([]:List Nat),AV.lit r,([]:ML)))
        |_=>(G2 op x1 x2).map (fun r=>(([]:List Nat),AV.lit r,([]:ML))))=some q→
      (match dm Γ t with
        |some .bl=>(Fe op x1 x2).map (fun r=>(([]:List Nat),AV.lit r,([]:ML)))
        |_=>(xb op x1 x2).map (fun r=>(([]:List Nat),AV.lit r,([]:ML))))=some q:=by
      intro x1 x2 hh
      have g1:∀ {z1 z2:Option Value},(∀r,z1=some r→z2=some r)→z1.map (fun r=>(([]:List Nat),AV.lit r,([]:ML)))=some q→z2.map (fun r=>(([]:List Nat),AV.lit r,([]:ML)))=some q:=by
        intro z1 z2 hz h1
        rw[Option.map_eq_some_iff] at h1 ⊢
        obtain⟨r,h2,h3⟩:=h1
        exact⟨r,hz r h2,h3⟩
      generalize dm Γ t=ti at hh ⊢
      cases ti with
      |none=>exact g1 (fun r hr=>B6 hr) hh
      |some ti=>cases ti<;>first|exact g1 (fun r hr=>B6 hr) hh|exact g1 (fun r hr=>F2 hr) hh
    cases a
    case own t1 o1 n1=>
      simp only at h
      split at h
      ·rename_i hn;rw[B7 hn];exact h
      ·cases h
    case sl w1 r1=>
      simp only at h
      split at h
      ·rename_i hn;rw[B7 hn];exact h
      ·cases h
    case lit x1=>
      cases b
      case lit x2=>exact lit x1 x2 h
      all_goals (simp only at h;cases h)
    all_goals (simp only at h;cases h)
  case unOp op t y=>cases op<;>(simp only[di,ep,dG] at h ⊢;exact h)
  case build t parts=>
    simp only[di,ep,dG,eJ,ij,eB,lZ] at h ⊢
    generalize dm Γ t=ti at h ⊢
    cases ti with
    |none=>cases h
    | some ti=>
      cases ti
      case st n fs z szs=>
        simp only at h ⊢
        rw[Option.map_eq_some_iff] at h
        obtain⟨cs,h1,h2⟩:=h
        have h3:=yG h1
        rw[Option.map_eq_some_iff]
        exact⟨cs,h3,h2⟩
      all_goals (simp only at h;cases h)
  case call c=>simp only[di,ep,GG] at h ⊢;exact h
  all_goals simp only[di] at h;cases h
end Go.Am
