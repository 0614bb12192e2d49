/- Walks of functions by unfolding over abstract states; runs of functions by an evaluator that is proved. By an AI agent. -/
import Derived.Test.YtkhjcnjicjgfiaaGreatDoorW2
import Derived.Laws.StructEq
import Derived.IntWalk
import Derived.Test.YtkhjcnjicjgfiaaGreatDoorW1
import Derived.RangeFuncSeq
set_option linter.unusedSimpArgs false
set_option linter.unusedVariables false
namespace Go.Am
open Go
theorem beq_eq {i d:Nat}(h:Nat.beq i d=true):i=d:=Nat.eq_of_beq_eq_true h
theorem beq_false {i d:Nat}(h:i≠d):Nat.beq i d=false:=by
  cases h':Nat.beq i d with
  |false=>rfl
  |true=>exact absurd (beq_eq h') h
theorem cC {a b:Nat}(h:Nat.ble a b=true):a≤b:=Nat.le_of_ble_eq_true h
theorem Gv {a b:Nat}(h:a≤b):Nat.ble a b=true:=Nat.ble_eq_true_of_le h
theorem EJ {a b:Nat}(h:¬a≤b):Nat.ble a b=false:=by
  cases h':Nat.ble a b with
  |false=>rfl
  |true=>exact absurd (cC h') h
@[reducible] def tg : Nat → Nat → Bool
  | 0,k=>match k with
    |0=>true
    |_+1=>false
  | n+1,k=>match k with
    |0=>false
    |k+1=>tg n k
@[reducible] def Mp : Nat → Nat → Bool
  |0,_=>true
  |n+1,k+1=>Mp n k
  |_+1,0=>false
@[reducible] def LG : Nat → Bool
  |0=>true
  |_+1=>false
@[reducible] def oD : Value → Bool
  | .slice ad n c=>match ad with
    | none=>match LG n with
      |true=>LG c
      |false=>false
    |some _=>false
  |_=>false
@[reducible] def Ng : AV → Bool
  |.lit v=>oD v
  |_=>false
theorem fP {v:Value}(h:oD v=true):v=.slice none 0 0:=by
  cases v with
  | slice ad n c=>
    cases ad with
    | none=>
      cases n with
      | zero=>cases c with
        |zero=>rfl
        |succ c=>cases h
      |succ n=>cases h
    |some a=>cases h
  |_=>cases h
theorem D3 {x:AV}(h:Ng x=true):x=.lit (.slice none 0 0):=by
  cases x with
  |lit v=>rw[fP h]
  |_=>cases h
theorem eD:∀ (a b:Nat),tg a b=Nat.beq a b
  |0,0=>rfl
  |n+1,k+1=>by rw[tg,eD n k];rfl
  |0,k+1=>rfl
  |n+1,0=>rfl
theorem zF:∀ (a b:Nat),Mp a b=Nat.ble a b
  |0,b=>by simp[Mp]
  |n+1,k+1=>by rw[Mp,zF n k];rfl
  |n+1,0=>rfl
abbrev SL:=List (Nat×AV)
abbrev ML:=List (Nat×MS)
@[reducible] def uQ : SL → Nat → AV
  |[],_=>.any
  | (k,x)::r,i=>match Nat.beq i k with
    |true=>x
    |false=>uQ r i
@[reducible] def eG : ML → Nat → MS
  |[],_=>.free
  | (k,x)::r,i=>match Nat.beq i k with
    |true=>x
    |false=>eG r i
@[reducible] def lK : ct → Nat → Option TI
  |[],_=>none
  | (k,x)::r,i=>match Nat.beq i k with
    |true=>some x
    |false=>lK r i
theorem iq:∀ (l:SL) (i:Nat),uQ l i=cB l i
  |[],_=>rfl
  | p ::r,i=>by
    obtain⟨d,x⟩:=p
    simp only[uQ,cB,iq r i]
    by_cases h:i=d
    ·subst h;simp
    · have h1:(i==d)=false:=by simpa using h
      have h2:Nat.beq i d=false:=beq_false (by simpa using h1)
      rw[h1,h2];rfl
theorem iw:∀ (l:ML) (i:Nat),eG l i=aX l i
  |[],_=>rfl
  | p ::r,i=>by
    obtain⟨d,x⟩:=p
    simp only[eG,aX,iw r i]
    by_cases h:i=d
    ·subst h;simp
    · have h1:(i==d)=false:=by simpa using h
      have h2:Nat.beq i d=false:=beq_false (by simpa using h1)
      rw[h1,h2];rfl
theorem cE:∀ (l:ct) (i:Nat),lK l i=dz l i
  |[],_=>rfl
  | p ::r,i=>by
    obtain⟨d,x⟩:=p
    simp only[lK,dz,cE r i]
    by_cases h:d=i
    ·subst h;simp
    · have h1:(i==d)=false:=by simpa using Ne.symm h
      have h2:Nat.beq i d=false:=beq_false (by simpa using h1)
      rw[h1,h2];rfl
@[reducible] def qv (d : Nat) (x : AV) : SL → SL
  |[]=>[(d,x)]
  | (k,y)::r=>match Nat.beq d k with
    |true=>(d,x)::r
    |false=>(k,y)::qv d x r
@[reducible] def jU (d : Nat) (x : MS) : ML → ML
  |[]=>[(d,x)]
  | (k,y)::r=>match Nat.beq d k with
    |true=>(d,x)::r
    |false=>(k,y)::jU d x r
@[reducible] def wC : ML → ML → ML
  |[],m=>m
  |(k,x)::r,m=>jU k x (wC r m)
@[reducible] def pushB : Option Nat → AV → SL → SL
  |none,_,l=>l
  |some d,x,l=>qv d x l
theorem ox (d:Nat)(x:AV):∀ (l:SL) (i:Nat),cB (qv d x l) i=cB ((d,x)::l) i
  |[],i=>rfl
  | p :: r,i=>by
    obtain⟨e,y⟩:=p
    simp only[qv]
    by_cases h:d=e
    · subst h
      simp only[Nat.beq_refl,cB]
      by_cases hi:i=d
      ·subst hi;simp
      · have:(i==d)=false:=by simpa using hi
        simp[this]
    · rw [beq_false h]
      simp only[cB,ox d x r i]
      by_cases hi:i=d
      · subst hi;have:(i==e)=false:=by simpa using h
        simp[this]
      · have:(i==d)=false:=by simpa using hi
        simp[this]
theorem vB (d:Nat)(x:MS):∀ (l:ML) (i:Nat),aX (jU d x l) i=aX ((d,x)::l) i
  |[],i=>rfl
  | p :: r,i=>by
    obtain⟨e,y⟩:=p
    simp only[jU]
    by_cases h:d=e
    · subst h
      simp only[Nat.beq_refl,aX]
      by_cases hi:i=d
      ·subst hi;simp
      · have:(i==d)=false:=by simpa using hi
        simp[this]
    · rw [beq_false h]
      simp only[aX,vB d x r i]
      by_cases hi:i=d
      · subst hi;have:(i==e)=false:=by simpa using h
        simp[this]
      · have:(i==d)=false:=by simpa using hi
        simp[this]
theorem rU:∀ (u m:ML) (i:Nat),aX (wC u m) i=aX (u++m) i
  |[],m,i=>rfl
  | p::r,m,i=>by
    obtain⟨e,y⟩:=p
    simp only[wC,vB,List.cons_append,aX,rU r m i]
theorem BX (d:Option Nat)(x:AV)(l:SL)(i:Nat):cB (pushB d x l) i=cB (qI d x l) i:=by
  cases d with
  |none=>rfl
  |some d=>exact ox d x l i
theorem tZ (d:Option Nat)(x:AV)(l:SL)(u m:ML):St (qI d x l) (u++m)=St (pushB d x l) (wC u m):=by
  unfold St
  congr 1
  ·funext i;exact(BX d x l i).symm
  ·funext i;exact(rU u m i).symm
@[reducible] def fH (l : SL) : Operand → AV
  |.tmp t=>uQ l t
  |.const v=>.lit v
  |.global g=>.lit (.pointer (some ⟨g,0,none⟩))
  |.func f=>.lit (.func (.func f) #[] #[])
theorem dU (l:SL)(y:Operand):fH l y=jl l y:=by cases y<;>simp[fH,jl,iq]
section
universe u v
variable {α : Type u} {β : Type v}
@[reducible] def gN : List α → Nat → Option α
  |[],_=>none
  |x::_,0=>some x
  |_::r,k+1=>gN r k
@[reducible] def fg : List α → Nat
  |[]=>0
  |_::r=>Nat.succ (fg r)
@[reducible] def eC (f : α → β) : List α → List β
  |[]=>[]
  |x::r=>f x::eC f r
@[reducible] def ee : List α → List α → List α
  |[],b=>b
  |x::r,b=>x::ee r b
@[reducible] def gW : Nat → List α → List α
  |0,_=>[]
  |_+1,[]=>[]
  |k+1,x::r=>x::gW k r
@[reducible] def wP : Nat → List α → List α
  |0,l=>l
  |_+1,[]=>[]
  |k+1,_::r=>wP k r
@[reducible] def Ks : List α → Nat → α → List α
  |[],_,_=>[]
  |_::r,0,y=>y::r
  |x::r,k+1,y=>x::Ks r k y
@[reducible] def jm (p : α → Bool) : List α → Bool
  |[]=>true
  | x::r=>match p x with
    |true=>jm p r
    |false=>false
@[reducible] def vk : List β → List α → List α
  |[],l=>l
  |_::_,[]=>[]
  |_::r,_::l=>vk r l
theorem fO:∀ (l:List α) (k:Nat),gN l k=l[k]?
  |[],_=>rfl
  |_::_,0=>rfl
  |_::r,k+1=>by simp only[gN,fO r k,List.getElem?_cons_succ]
theorem dj:∀ (l:List α),fg l=l.length
  |[]=>rfl
  |_::r=>by show fg r+1=_;rw[dj r];rfl
theorem eO (f:α→β):∀ (l:List α),eC f l=l.map f
  |[]=>rfl
  |x::r=>by simp only[eC,eO f r,List.map_cons]
theorem iG:∀ (a b:List α),ee a b=a++b
  |[],_=>rfl
  |x::r,b=>by simp only[ee,iG r b,List.cons_append]
theorem qF:∀ (k:Nat) (l:List α),gW k l=l.take k
  |0,_=>rfl
  |_+1,[]=>rfl
  |k+1,x::r=>by simp only[gW,qF k r,List.take_succ_cons]
theorem qL:∀ (k:Nat) (l:List α),wP k l=l.drop k
  |0,_=>rfl
  |_+1,[]=>rfl
  |k+1,x::r=>by simp only[wP,qL k r,List.drop_succ_cons]
theorem xn:∀ (a:List β) (l:List α),vk a l=l.drop a.length
  |[],_=>rfl
  |_::_,[]=>by simp[vk]
  |_::r,_::l=>by simp only[vk,xn r l,List.length_cons,List.drop_succ_cons]
theorem DB:∀ (l:List α) (k:Nat) (y:α),Ks l k y=l.set k y
  |[],_,_=>rfl
  |_::_,0,_=>rfl
  |x::r,k+1,y=>by simp only[Ks,DB r k y,List.set_cons_succ]
theorem Ez (p:α→Bool):∀ (l:List α),jm p l=l.all p
  |[]=>rfl
  |x::r=>by simp only[jm,List.all_cons,Ez p r];cases p x<;>rfl
end
@[reducible] def dN : AV → List AV
  |.agg cs=>cs
  |.lit (.agg xs)=>eC .lit xs.toList
  |x=>[x]
theorem fu (x:AV):dN x=cells x:=by
  cases x with
  |lit v=>cases v<;>simp[dN,cells,eO]
  |_=>rfl
@[reducible] def Gs : AV → Bool
  |.agg _=>true
  |.lit (.agg _)=>true
  |_=>false
theorem Ff (x:AV):Gs x=k7 x:=by
  cases x with
  |lit v=>cases v<;>rfl
  |_=>rfl
@[reducible] def vY : AV → Bool
  |.any=>false
  |_=>true
theorem oB (x:AV):vY x=x.lF:=by cases x<;>rfl
@[reducible] def MJ : AV → Bool
  |.any=>false
  |.agg _=>false
  |.tup _=>false
  |.lit (.agg _)=>false
  |.lit (.tuple _)=>false
  |_=>true
theorem K1 (x:AV):MJ x=x.one:=by
  cases x with
  |lit v=>cases v<;>rfl
  |_=>rfl
@[reducible] def so : IntKind → Nat
  |.i8=>0|.i16=>1|.i32=>2|.i64=>3|.u8=>4|.u16=>5|.u32=>6|.u64=>7
theorem yZ {k k':IntKind}(h:Nat.beq (so k) (so k')=true):k=k':=by
  cases k<;>cases k'<;>first|rfl|(simp[so] at h)
@[reducible] def Ep (n : Nat) (r : AV) (k : Nat) : Option AV :=
  match Nat.beq k 0,tg (fg (dN r)) n,Gs r with
  |true,true,true=>some r
  | _,_,_=>match Mp (Nat.add k n) (fg (dN r)) with
    |true=>some (.agg (gW n (wP k (dN r))))
    |false=>none
@[reducible] def qn (ti : Option TI) (r : AV) (k : Nat) : Option AV :=
  match ti with
  |some (.sc _)=>gN (dN r) k
  |some .bl=>gN (dN r) k
  |some (.sl ..)=>gN (dN r) k
  |some .str=>gN (dN r) k
  |some (.st n _ _ _)=>Ep n r k
  |some (.ar n _ _ _ _)=>Ep n r k
  |none=>none
theorem Lh (a b:Nat):Nat.ble a b=decide (a≤b):=by
  by_cases h:a≤b
  ·rw[Gv h,dG h]
  ·rw[EJ h,dy h]
theorem J6 (a b:Nat):Nat.beq a b=decide (a=b):=by
  by_cases h:a=b
  ·subst h;simp
  ·rw[beq_false h,dy h]
theorem I0 (n:Nat)(r:AV)(k:Nat):Ep n r k=if k=0∧(cells r).length=n∧k7 r=true then some r else if k+n≤ (cells r).length then some (.agg (((cells r).drop k).take n)) else none:=by
  unfold Ep
  simp only[qF,qL,dj,fu,Ff,eD,zF,J6,Lh]
  show (match decide (k=0),decide ((cells r).length=n),k7 r with
    |true,true,true=>some r
    | _,_,_=>match decide (k+n≤ (cells r).length) with
      |true=>some (AV.agg (((cells r).drop k).take n))
      |false=>none)=_
  by_cases h4:k+n≤ (cells r).length
  · rw [dG h4,if_pos h4]
    by_cases h1:k=0
    · by_cases h2:(cells r).length=n
      · cases h3:k7 r with
        |true=>rw[dG h1,dG h2,if_pos ⟨h1,h2,rfl⟩]
        |false=>rw[dG h1,dG h2,if_neg (fun h=>by cases h.2.2)]
      ·rw[dG h1,dy h2,if_neg (fun h=>h2 h.2.1)]
    ·rw[dy h1,if_neg (fun h=>h1 h.1)]
  · rw [dy h4,if_neg h4]
    by_cases h1:k=0
    · by_cases h2:(cells r).length=n
      · cases h3:k7 r with
        |true=>rw[dG h1,dG h2,if_pos ⟨h1,h2,rfl⟩]
        |false=>rw[dG h1,dG h2,if_neg (fun h=>by cases h.2.2)]
      ·rw[dG h1,dy h2,if_neg (fun h=>h2 h.2.1)]
    ·rw[dy h1,if_neg (fun h=>h1 h.1)]
theorem nV (ti:Option TI)(r:AV)(k:Nat):qn ti r k=sJ ti r k:=by
  cases ti with
  |none=>rfl
  |some ti=>cases ti<;>simp only[qn,sJ,fO,fu,I0]
@[reducible] def GU : Option TI → Option Nat
  |some (.sc _)=>some 1
  |some .bl=>some 1
  |some (.sl ..)=>some 1
  |some .str=>some 1
  |some (.st n ..)=>some n
  |some (.ar n ..)=>some n
  |none=>none
theorem Ja (ti:Option TI):GU ti=By ti:=by
  cases ti with
  |none=>rfl
  |some ti=>cases ti<;>rfl
@[reducible] def Ge : Option TI → Option AV
  |some (.sc z)=>match z with|.agg _=>none|z=>some (.lit z)
  |some .bl=>some (.lit (.bool false))
  |some (.sl ..)=>some (.lit (.slice none 0 0))
  |some .str=>some (.lit (.string ByteArray.empty))
  |some (.st _ _ z _)=>some (.agg (eC .lit z.toList))
  |some (.ar _ _ _ _ z)=>some (.agg (eC .lit z.toList))
  |none=>none
theorem H6 (ti:Option TI):Ge ti=nB ti:=by
  cases ti with
  |none=>rfl
  |some ti=>cases ti<;>first|rfl|(simp only[Ge,nB,eO])|(rename_i z;cases z<;>rfl)
@[reducible] def r9 (ti : Option TI) (r : AV) (k : Nat) (x : AV) : Option AV :=
  match GU ti with
  | some n=>match tg (fg (dN x)) n,jm MJ (dN x),vY x with
    | true,true,true=>match tg (fg (dN r)) n,Nat.beq k 0 with
      |true,true=>some x
      | _,_=>match Mp (Nat.add k n) (fg (dN r)) with
        |true=>some (.agg (ee (gW k (dN r)) (ee (dN x) (vk (dN x) (wP k (dN r))))))
        |false=>none
    |_,_,_=>none
  |none=>none
theorem xb {ti:Option TI}{r:AV}{k:Nat}{x r':AV}(h:r9 ti r k x=some r'):u7 ti r k x=some r':=by
  unfold r9 at h
  unfold u7
  rw[←Ja]
  cases hs:GU ti with
  |none=>rw[hs] at h;cases h
  | some n =>
    rw[hs] at h
    simp only[qF,qL,xn,iG,dj,fu,oB,Ez,eD,zF,List.drop_drop] at h ⊢
    have ho:((cells x).all MJ)=jP (cells x):=by unfold jP;congr 1;funext y;exact K1 y
    rw[ho] at h
    split at h
    · rename_i h1 h2 h3
      rw[if_pos ⟨beq_eq h1,h2,h3⟩]
      split at h
      · rename_i h4 h5
        cases h
        rw[if_pos ⟨beq_eq h4,beq_eq h5⟩]
      · rename_i h4
        split at h
        · rename_i h5
          cases h
          have h5':k+n≤ (cells r).length:=cC h5
          rw[if_neg (fun hh=>h4 (by simp[hh.1]) (by simp[hh.2])),if_pos h5']
          unfold fV
          rw[List.append_assoc]
        ·cases h
    ·cases h
@[reducible] def DA (place : Nat → Option (Nat × Nat)) (cs : List AV) : List (Nat × AV) → Option (List AV)
  |[]=>some cs
  | (i,x)::rest=>
    match place i with
    |none=>none
    | some (off,size)=>match tg (fg (dN x)) size,Mp (Nat.add off size) (fg cs),vY x with
      |true,true,true=>DA place (ee (gW off cs) (ee (dN x) (wP (Nat.add off size) cs))) rest
      |_,_,_=>none
theorem A4 {place:Nat→Option (Nat×Nat)}:∀ {ps:List (Nat×AV)} {cs cs':List AV},DA place cs ps=some cs'→mZ place cs ps=some cs'
  |[],cs,cs',h=>h
  | (i, x)::rest,cs,cs',h=>by
    simp only[DA] at h
    simp only[mZ]
    cases hp:place i with
    |none=>rw[hp] at h;cases h
    | some os=>
      obtain⟨off,size⟩:=os
      rw[hp] at h
      simp only at h ⊢
      split at h
      · rename_i h1 h2 h3
        rw[eD,dj,fu] at h1
        rw[zF,dj] at h2
        rw[oB] at h3
        have e1:=beq_eq h1
        have e2:=cC h2
        rw[if_pos ⟨e1,by rw[e1];exact e2,h3⟩]
        have:=A4 h
        simp only[qF,qL,iG,fu] at this
        unfold fV
        rw[List.append_assoc,e1];exact this
      ·cases h
abbrev Rest:=List Nat→AV→ML→Tk→SL→ML→Prop
def aZ (P:Program)(N:Nat){o:Oper}(acc:Tk)(sl:SL)(m:ML){R:Rest}:Prop:=∃rd x ups,aG P N o (St sl m) rd x ups∧R rd x ups acc sl m
def bH (p:Prop)(acc:Tk)(sl:SL)(m:ML){A:Tk→SL→ML→Prop}:Prop:=p∧A acc sl m
def aN (rows:List AV)(i:Int)(acc:Tk)(sl:SL)(m:ML){A:AV→Tk→SL→ML→Prop}:Prop:=∃ (k:Nat) (r:AV),i=k∧rows[k]? =some r∧A r acc sl m
def eY (i:Int)(n:Nat)(acc:Tk)(sl:SL)(m:ML){A:Nat→Tk→SL→ML→Prop}:Prop:=∃k:Nat,i=k∧k<n∧A k acc sl m
def bh (rows:List AV)(i:Nat)(acc:Tk)(sl:SL)(m:ML){A:AV→Tk→SL→ML→Prop}:Prop:=∃r:AV,rows[i]? =some r∧A r acc sl m
def BN (l h:Int)(len:Nat)(acc:Tk)(sl:SL)(m:ML){A:Nat→Nat→Tk→SL→ML→Prop}:Prop:=∃a n:Nat,l=a∧h=(a:Int)+n∧a+n≤len∧A a n acc sl m
def Bz (l h:Int)(rows:List AV)(acc:Tk)(sl:SL)(m:ML){A:List AV→Tk→SL→ML→Prop}:Prop:=∃ (a n:Nat) (rows':List AV),l=a∧h=(a:Int)+n∧a+n≤rows.length∧rows'=(rows.drop a).take n∧A rows' acc sl m
def dZ (rb:List AV)(off len:Nat)(rs:List AV)(off' len':Nat)(bytes:Nat)(acc:Tk)(sl:SL)(m:ML){A:List AV→Tk→SL→ML→Prop}:Prop:=
  ∃ rows0 news,off+len≤rb.length∧rows0=(rb.drop off).take len∧off'+len'≤rs.length∧news=(rs.drop off').take len'∧jP (flat news)=true∧
    (rows0.length+news.length)*bytes≤140737488355328∧rows0.length+news.length≤9223372036854775807∧A (rows0++news) acc sl m
def ae (P:Program)(N:Nat){o:Oper}(f:FuncId)(args:List AV)(acc:Tk)(sl:SL)(m:ML){R:Rest}:Prop:=gj (St sl m) o f args→aZ P N acc sl m (o:=o) (R:=R)
def qW (P:Program)(N:Nat){o:Oper}(t:TypeId)(c:Bool)(ym kv:AV)(acc:Tk)(sl:SL)(m:ML){R:Rest}:Prop:=
  (∃y x,o.op=.lookup t y x c∧(St sl m).eval y=ym∧(St sl m).eval x=kv)→aZ P N acc sl m (o:=o) (R:=R)
def zn (P:Program)(N:Nat){o:Oper}(t:TypeId)(ym kv x:AV)(acc:Tk)(sl:SL)(m:ML){R:Rest}:Prop:=
  (∃y z v,o.op=.mapUpdate t y z v∧(St sl m).eval y=ym∧(St sl m).eval z=kv∧(St sl m).eval v=x)→aZ P N acc sl m (o:=o) (R:=R)
def rj (P:Program)(N:Nat){o:Oper}(t:TypeId)(ym:AV)(acc:Tk)(sl:SL)(m:ML){R:Rest}:Prop:=
  (∃y,o.op=.call {callee:=.builtin .len,args:= #[y],argTypes:= #[t]}∧(St sl m).eval y=ym)→aZ P N acc sl m (o:=o) (R:=R)
def yg (s:ByteArray)(i:Int)(acc:Tk)(sl:SL)(m:ML){A:Int→Tk→SL→ML→Prop}:Prop:=∃ (k:Nat) (c:UInt8),i=k∧s.data.toList[k]? =some c∧A c.toNat acc sl m
def Ig (s:ByteArray)(l h:Int)(acc:Tk)(sl:SL)(m:ML){A:ByteArray→Tk→SL→ML→Prop}:Prop:=∃a b:Nat,l=a∧h=b∧a≤b∧b≤s.size∧A (s.extract a b) acc sl m
def fJ (P:Program)(src dst:TypeId)(v:Value)(acc:Tk)(sl:SL)(m:ML){A:Value→Tk→SL→ML→Prop}:Prop:=∃r,(∀w,(convert src dst v).run P w=.ok r w)∧A r acc sl m
def BU (P:Program)(src dst:TypeId)(rows:List AV)(off len:Nat)(acc:Tk)(sl:SL)(m:ML){A:Value→Tk→SL→ML→Prop}:Prop:=
  ∃ (bs:List UInt8) (e:TypeId),P.underlying src=some (.slice e)∧P.underlying e=some (.int .u8)∧P.underlying dst=some .string∧len=bs.length∧bs≠ []∧
    (∀ (i:Nat) (b:UInt8),bs[i]? =some b→(flat rows)[off+i]? =some (.lit (.int .u8 b.toNat)))∧A (.string ⟨bs.toArray⟩) acc sl m
def Hu (P:Program)(op:BinOp)(t:TypeId)(us vs:List Value)(acc:Tk)(sl:SL)(m:ML){A:Bool→Tk→SL→ML→Prop}:Prop:=
  ∃b,(∀ (y z:Operand) (w:World),((do eqGuard op t y z (.agg us.toArray) (.agg vs.toArray);binOp op t (.agg us.toArray) (.agg vs.toArray):Sem Value)).run P w=.ok (.bool b) w)∧A b acc sl m
@[reducible] def sR : List AV → Option (List Value)
  |[]=>some []
  | .lit v::r=>match sR r with
    |some l=>some (v::l)
    |none=>none
  |_::_=>none
def bq (b:Bool)(acc:Tk)(sl:SL)(m:ML){A B:Tk→SL→ML→Prop}:Prop:=(b=true→A acc sl m)∧(b=false→B acc sl m)
@[reducible] def yp (t : Nat) : Bool := Nat.beq (Nat.mod t 10) 0
@[reducible] def rN (P : Program) (N : Nat) (o : Oper) (acc : Tk) (sl : SL) (m : ML) (R : Rest) : Option (List Nat × AV × ML) → Prop
  |some (rd,x,ups)=>R rd x ups acc sl m
  |none=>aZ P N acc sl m (o:=o) (R:=R)
@[reducible] def Js (op : BinOp) (a b : Value) : Option Value :=
  match op,a,b with
  |.add,.int k a,.int k' b=>match Nat.beq (so k) (so k') with|true=>some (.int k (k.wrap (a+b)))|false=>none
  |.sub,.int k a,.int k' b=>match Nat.beq (so k) (so k') with|true=>some (.int k (k.wrap (a-b)))|false=>none
  |.lss,.int k a,.int k' b=>match Nat.beq (so k) (so k') with|true=>some (.bool (decide (a<b)))|false=>none
  |.leq,.int k a,.int k' b=>match Nat.beq (so k) (so k') with|true=>some (.bool (decide (a≤b)))|false=>none
  |.gtr,.int k a,.int k' b=>match Nat.beq (so k) (so k') with|true=>some (.bool (decide (b<a)))|false=>none
  |.geq,.int k a,.int k' b=>match Nat.beq (so k) (so k') with|true=>some (.bool (decide (b≤a)))|false=>none
  |.eql,.int k a,.int k' b=>match Nat.beq (so k) (so k') with|true=>some (.bool (decide (a=b)))|false=>none
  |.neq,.int k a,.int k' b=>match Nat.beq (so k) (so k') with|true=>some (.bool (!decide (a=b)))|false=>none
  |.eql,.string a,.string b=>some (.bool (decide (a=b)))
  |.neq,.string a,.string b=>some (.bool (!decide (a=b)))
  |_,_,_=>none
theorem Jw (a b:ByteArray):(a.toList==b.toList)=decide (a=b):=by
  rw[ByteArray.toList_eq,ByteArray.toList_eq]
  by_cases h:a=b
  ·subst h;simp
  · rw [dy h]
    have:a.data.toList≠b.data.toList:=fun e=>h (by
      obtain⟨⟨x⟩⟩:=a
      obtain⟨⟨y⟩⟩:=b
      simp only at e
      rw[e])
    simpa using this
theorem JX (a b:Int):(a==b)=decide (a=b):=by
  by_cases h:a=b
  ·subst h;simp
  ·rw[dy h];simpa using h
theorem Dh {op:BinOp}{a b r:Value}(h:Js op a b=some r):yB op a b=some r:=by
  unfold Js at h
  split at h
  all_goals first
    | (split at h
       ·rename_i hk;have hk':=yZ hk;subst hk';cases h;simp[yB,JX]
       ·cases h)
    |(cases h;simp[yB,Jw])
    |cases h
@[reducible] def DC (op : BinOp) (a b : Value) : Option Value :=
  match op,a,b with
  |.eql,.bool a,.bool b=>some (.bool (a==b))
  |.neq,.bool a,.bool b=>some (.bool (!(a==b)))
  |_,_,_=>none
theorem I7 {op:BinOp}{a b r:Value}(h:DC op a b=some r):G2 op a b=some r:=by
  unfold DC at h
  split at h<;>first|exact h|cases h
@[reducible] def Mg (Γ : ct) (sl : SL) (c : Call) : Option (List Nat × AV × ML) :=
  match c.callee,c.args.toList,c.argTypes.toList with
  | .builtin .len,[y],[t]=>(match lK Γ t with
    | some (.sl ..)=>match fH sl y with
      |.own _ _ n=>some ([],.lit (.int .i64 n),[])
      |.sl _ rows=>some ([],.lit (.int .i64 rows.length),[])
      |.lit (.slice _ n _)=>some ([],.lit (.int .i64 n),[])
      |_=>none
    | some .str=>match fH sl y with
      |.lit (.string s)=>some ([],.lit (.int .i64 s.size),[])
      |_=>none
    |_=>none)
  |_,_,_=>none
theorem Kb (Γ:ct)(sl:SL)(c:Call):Mg Γ sl c=Jr Γ sl c:=by
  unfold Mg Jr
  simp only[cE,dU]
  rfl
@[reducible] def yW (op : BinOp) (ti : Option TI) (n : Nat) : Option (List Nat × AV × ML) :=
  match ti,op with
  |some (.sl ..),.eql=>some ([],.guess (n=0) True,[])
  |some (.sl ..),.neq=>some ([],.guess True (n=0),[])
  |_,_=>none
theorem EN (op:BinOp)(ti:Option TI)(n:Nat):yW op ti n=sw op ti n:=by
  unfold yW sw
  rfl
@[reducible] def LF (b : Bool) (x y : AV) : AV := match b with | true => x | false => y
theorem Iz (b:Bool)(x y:AV):LF b x y=if b then x else y:=by cases b<;>rfl
@[reducible] def wk {α β : Type} (f : α → β) : Option α → Option β
  |some x=>some (f x)
  |none=>none
theorem mg {α β:Type}(f:α→β)(x:Option α):wk f x=x.map f:=by cases x<;>rfl
@[reducible] def LH (Γ : ct) (op : BinOp) (t : TypeId) (x y : AV) : Option (List Nat × AV × ML) :=
  match x with
  | .own _ _ n=>match Ng y with
    |true=>yW op (lK Γ t) n
    |false=>none
  | .sl _ rows=>match Ng y with
    |true=>yW op (lK Γ t) rows.length
    |false=>none
  | .lit a=>match y with
    | .lit b=>match lK Γ t with
      |some .bl=>wk (fun r=>([],.lit r,[])) (DC op a b)
      |_=>wk (fun r=>([],.lit r,[])) (Js op a b)
    |_=>none
  |_=>none
@[reducible] def c6 (Γ : ct) (sl : SL) (m : ML) (dst : Option Nat) (op : Op) : Option (List Nat × AV × ML) :=
  match op with
  |.move y=>some ([],fH sl y,[])
  |.assign y=>some ([],fH sl y,[])
  | .pick c y z=>match fH sl c with
    |.lit (.bool b)=>some ([],LF b (fH sl y) (fH sl z),[])
    |_=>none
  | .extract y i=>match fH sl y with
    |.tup vs=>wk (fun x=>([],x,[])) (gN vs i)
    |_=>none
  | .field t y f=>match fH sl y,lK Γ t with
    | .agg cs,some (.st _ fs _ _)=>match gN fs f with
      |some (off,ft)=>wk (fun x=>([],x,[])) (qn (lK Γ ft) (.agg cs) off)
      |none=>none
    |_,_=>none
  | .load t y=>match fH sl y with
    | .ptr tk i k=>match eG m tk with
      | .live _ rows _=>match gN rows i with
        |some r=>wk (fun x=>([tk],x,[])) (qn (lK Γ t) r k)
        |none=>none
      |_=>none
    |.fptr r k=>wk (fun x=>([],x,[])) (qn (lK Γ t) r k)
    |_=>none
  | .fieldAddr t y f=>match lK Γ t with
    | some (.st _ fs _ _)=>match gN fs f with
      | some (off,_)=>match fH sl y with
        |.ptr tk i k=>some ([],.ptr tk i (Nat.add k off),[])
        |.fptr r k=>some ([],.fptr r (Nat.add k off),[])
        |_=>none
      |none=>none
    |_=>none
  | .nilCheck y=>match fH sl y with
    |.ptr tk i k=>some ([],.ptr tk i k,[])
    |.fptr r k=>some ([],.fptr r k,[])
    |_=>none
  | .store t y z=>match dst with
    | none =>match fH sl y with
      | .ptr tk i k=>match eG m tk with
        | .live wd rows false=>match gN rows i with
          | some r=>match r9 (lK Γ t) r k (fH sl z) with
            |some r'=>some ([tk],.any,[(tk,.live wd (Ks rows i r') false)])
            |none=>none
          |none=>none
        |_=>none
      |_=>none
    |some _=>none
  | .box _ y=>match dst with
    | some d=>match eG m (Nat.mul 10 d) with
      | .free=>match vY (fH sl y) with
        |true=>some ([Nat.mul 10 d],.ptr (Nat.mul 10 d) 0 0,[(Nat.mul 10 d,.live (fg (dN (fH sl y))) [fH sl y] false)])
        |false=>none
      |_=>none
    |none=>none
  | .alloc t=>match dst with
    | some d=>match eG m (Nat.mul 10 d) with
      | .free=>match Ge (lK Γ t) with
        |some x=>some ([Nat.mul 10 d],.ptr (Nat.mul 10 d) 0 0,[(Nat.mul 10 d,.live (fg (dN x)) [x] false)])
        |none=>none
      |_=>none
    |none=>none
  |.makeFunc fn first cap=>some ([],.clo fn (eC (fH sl) first.toList) (eC (fH sl) cap.toList),[])
  |.binOp op t y z _=>LH Γ op t (fH sl y) (fH sl z)
  | .unOp .not _ y=>match fH sl y with
    |.lit (.bool b)=>some ([],.lit (.bool (!b)),[])
    |_=>none
  | .build t parts=>match lK Γ t with
    |some (.st _ fs z szs)=>wk (fun cs=>([],.agg cs,[])) (DA (fun i=>match gN fs i,gN szs i with|some (off,_),some sz=>some (off,sz)|_,_=>none) (eC .lit z.toList) (eC (fun(p:Nat×Operand)=>match p with|(i,y)=>(i,fH sl y)) parts.toList))
    |_=>none
  |.call c=>Mg Γ sl c
  |_=>none
theorem Fb {Γ:ct}{sl:SL}{m:ML}{dst:Option Nat}{op:Op}{q:List Nat×AV×ML}(h:c6 Γ sl m dst op=some q):eF Γ sl m dst op=some q:=by
  have hcells:∀x,fg (dN x)=(cells x).length:=fun x=>by rw[dj,fu]
  cases op
  case move y=>simp only[c6,eF,dU] at h ⊢;exact h
  case assign y=>simp only[c6,eF,dU] at h ⊢;exact h
  case pick c y z=>simp only[c6,eF,dU,Iz] at h ⊢;exact h
  case extract y i=>simp only[c6,eF,dU,fO,mg] at h ⊢;exact h
  case field t y f=>simp only[c6,eF,dU,fO,mg,cE,nV] at h ⊢;exact h
  case load t y=>simp only[c6,eF,dU,fO,mg,cE,iw,nV] at h ⊢;exact h
  case fieldAddr t y f=>simp only[c6,eF,dU,fO,cE] at h ⊢;exact h
  case nilCheck y=>simp only[c6,eF,dU] at h ⊢;exact h
  case store t y z=>
    simp only[c6,eF,dU,fO,cE,iw,DB] at h ⊢
    cases dst with
    |some d=>cases h
    | none =>
      simp only at h ⊢
      generalize jl sl y=vy at h ⊢
      cases vy
      case ptr tk i k=>
        simp only at h ⊢
        generalize aX m tk=ms at h ⊢
        cases ms
        case live wd rows ro=>
          cases ro with
          |true=>simp only at h;cases h
          | false=>
            simp only at h ⊢
            generalize rows[i]? =rw0 at h ⊢
            cases rw0 with
            |none=>simp only at h;cases h
            | some r=>
              simp only at h ⊢
              cases hs:r9 (dz Γ t) r k (jl sl z) with
              |none=>rw[hs] at h;simp only at h;cases h
              |some r'=>rw[xb hs];rw[hs] at h;exact h
        all_goals (simp only at h;cases h)
      all_goals (simp only at h;cases h)
  case box t y=>
    simp only[c6,eF,dU,iw,oB,hcells] at h ⊢
    cases dst with
    |none=>cases h
    | some d=>
      simp only at h ⊢
      have e10:Nat.mul 10 d=10*d:=rfl
      rw[e10] at h
      generalize aX m (10*d)=ms at h ⊢
      cases ms
      case free=>
        simp only at h ⊢
        cases hs:(jl sl y).lF with
        |true=>rw[hs] at h;rw[if_pos rfl];exact h
        |false=>rw[hs] at h;simp only at h;cases h
      all_goals (simp only at h;cases h)
  case alloc t=>
    simp only[c6,eF,cE,iw,H6,hcells] at h ⊢
    exact h
  case makeFunc fn a b=>
    have he:fH sl=jl sl:=funext (dU sl)
    simpa only[c6,eF,he,eO] using h
  case binOp op t y z yt=>
    simp only[c6,LH,eF,dU,cE,EN,mg] at h ⊢
    generalize jl sl y=a at h ⊢
    generalize jl sl z=b at h ⊢
    have lit:∀ (x1 x2:Value),(match dz Γ t with
        |some .bl=>(DC op x1 x2).map (fun r=>(([]:List Nat),AV.lit r,([]:ML)))
        |_=>(Js op x1 x2).map (fun r=>(([]:List Nat),AV.lit r,([]:ML))))=some q→
      (match dz Γ t with
        |some .bl=>(G2 op x1 x2).map (fun r=>(([]:List Nat),AV.lit r,([]:ML)))
        |_=>(yB op x1 x2).map (fun r=>(([]:List Nat),AV.lit r,([]:ML))))=some q:=by
      intro x1 x2 hh
      have g1:∀ {z1 z2:Option Value},(∀r,z1=some r→z2=some r)→z1.map (fun r=>(([]:List Nat),AV.lit r,([]:ML)))=some q→z2.map (fun r=>(([]:List Nat),AV.lit r,([]:ML)))=some q:=by
        intro z1 z2 hz h1
        rw[Option.map_eq_some_iff] at h1 ⊢
        obtain⟨r,h2,h3⟩:=h1
        exact⟨r,hz r h2,h3⟩
      generalize dz Γ t=ti at hh ⊢
      cases ti with
      |none=>exact g1 (fun r hr=>Dh hr) hh
      |some ti=>cases ti<;>first|exact g1 (fun r hr=>Dh hr) hh|exact g1 (fun r hr=>I7 hr) hh
    cases a
    case own t1 o1 n1=>
      simp only at h
      split at h
      ·rename_i hn;rw[D3 hn];exact h
      ·cases h
    case sl w1 r1=>
      simp only at h
      split at h
      ·rename_i hn;rw[D3 hn];exact h
      ·cases h
    case lit x1=>
      cases b
      case lit x2=>exact lit x1 x2 h
      all_goals (simp only at h;cases h)
    all_goals (simp only at h;cases h)
  case unOp op t y=>cases op<;>(simp only[c6,eF,dU] at h ⊢;exact h)
  case build t parts=>
    simp only[c6,eF,dU,cE,fO,eO,mg] at h ⊢
    generalize dz Γ t=ti at h ⊢
    cases ti with
    |none=>cases h
    | some ti=>
      cases ti
      case st n fs z szs=>
        simp only at h ⊢
        rw[Option.map_eq_some_iff] at h
        obtain⟨cs,h1,h2⟩:=h
        have h3:=A4 h1
        rw[Option.map_eq_some_iff]
        exact⟨cs,h3,h2⟩
      all_goals (simp only at h;cases h)
  case call c=>simp only[c6,eF,Kb] at h ⊢;exact h
  all_goals simp only[c6] at h;cases h
@[reducible] def Mn : Nat → Nat → Nat
  |0,k=>k
  |n+1,k=>Nat.add (n+1) k
theorem KT (a b:Nat):Mn a b=a+b:=by cases a<;>simp[Mn]
@[reducible] def BE : Value → Bool
  |.agg _=>false
  |_=>true
theorem vp {v:Value}(h:BE v=true):cells (.lit v)=[.lit v]:=by cases v<;>first|rfl|cases h
theorem wZ:∀ {l:List Value},jm BE l=true→flat (l.map .lit)=l.map .lit
  |[],_=>rfl
  | v ::r,h=>by
    simp only[jm] at h
    split at h
    · rename_i hv
      show cells (.lit v)++flat (r.map .lit)=_
      rw[vp hv,wZ h];rfl
    ·cases h
theorem xE:∀ {l:List Value},jm BE l=true→bJ 1 (l.map .lit)
  |[],_=>bJ.nil 1
  | v ::r,h=>by
    simp only[jm] at h
    split at h
    · rename_i hv
      exact .cons (by rw[vp hv];rfl) (xE h)
    ·cases h
theorem aG.EO {P:Program}{N:Nat}{o:Oper}{σ:aA}{t:TypeId}{tk:Nat}{z:Array Value}(ho:o.op=.alloc t)(hz:jo P t (.agg z))(hs:jm BE z.toList=true)(hf:σ.mem tk=.free)(hd:∀d,o.dst=some d→d<N):
    aG P N o σ [tk] (.ptr tk 0 0) [(tk,.live 1 (z.toList.map .lit) false)]:=
  .new hf (xE hs) (fun σ2 he2 w0 W0 L μ a w h=>by
    refine⟨z,t,.pointer (some ⟨w.heap.size,0,none⟩),w.drawn,?_,?_,fun q c hq=>?_,.inl ⟨rfl,rfl⟩⟩
    ·simp[execOp,ho,Instr.alloc,hz w,newVar,newRow,Value.cells]
    ·simp
    · rw [wZ hs,fI] at hq
      cases hv:z.toList[q]? with
      |none=>rw[hv] at hq;cases hq
      | some v=>
        rw[hv] at hq
        cases hq
        exact⟨v,by rw[←Array.getElem?_toList];exact hv,.lit⟩) hd
theorem aG.Ch {P:Program}{N:Nat}{o:Oper}{σ:aA}{y z:Operand}{t e:TypeId}{tk i0 k0 wd n:Nat}{kd:IntKind}{i:Int}(ho:o.op=.indexAddr t y z)(he:σ.eval y=.ptr tk i0 k0)(hz:σ.eval z=.lit (.int kd i))
    (ht:CU P t n e) (hsz:eW P e wd) (h0:0≤i) (h1:i<n) (hwd:∃rows ro,σ.mem tk=.live wd rows ro) (hd:∀d,o.dst=some d→d<N):aG P N o σ [tk] (.ptr tk (i0+i.toNat) k0) []:=
  .val (fun σ2 he2 hrd w0 W0 L μ a w hs=>by
    have k1:=hs.eval y
    have k2:=hs.eval z
    rw[he2 y (by simp[ho,Op.operands]),he] at k1
    rw[he2 z (by simp[ho,Op.operands]),hz] at k2
    obtain⟨rows,ro,hm⟩:=hwd
    have hm2:σ2.mem tk=.live wd rows ro:=by rw[hrd tk (by simp)];exact hm
    obtain⟨B,hB,hobj⟩:=hs.objs tk wd rows ro hm2
    generalize hv:a.eval y=v at k1
    cases k1 with
    | @ptr _ _ _ B' a1 ap=>
      rw[hB] at a1;cases a1
      refine⟨.pointer (some ⟨B.b,B.o+ ((i0+i.toNat)*B.wd+k0),none⟩),?_,.ptr hB ap⟩
      simp[execOp,ho,hv,k2.val,Instr.indexAt,asIntOf,run_underlying ht,hsz w,h0,h1,Addr.add_lit,Instr.sureAddr,hobj.width,Nat.add_mul,Nat.add_assoc,Nat.add_comm,Nat.add_left_comm]) hd
section
variable (P : Program) (N : Nat) (Γ : ct) (o : Oper) (acc : Tk) (sl : SL) (m : ML) (R : Rest)
@[reducible] def LO (t : TypeId) (y z : AV) : Prop :=
  match z with
  | .lit (.int _ i)=>match lK Γ t with
    | some (.sl _ wd _)=>match y with
      | .own tk off len=>match eG m tk with
        | .live wd' _ _=>match tg wd' wd with
          |true=>eY i len acc sl m (A:=fun k=>R [tk] (.ptr tk (off+k) 0) [])
          |false=>aZ P N acc sl m (o:=o) (R:=R)
        |_=>aZ P N acc sl m (o:=o) (R:=R)
      | .sl wd' rows=>match tg wd' wd with
        |true=>aN rows i acc sl m (A:=fun r=>R [] (.fptr r 0) [])
        |false=>aZ P N acc sl m (o:=o) (R:=R)
      |_=>aZ P N acc sl m (o:=o) (R:=R)
    | some (.ar _ len _ wd _)=>match y with
      | .ptr tk i0 k0=>match yp tk with
        |true=>eY i len acc sl m (A:=fun k=>R [] (.ptr tk i0 (Nat.add k0 (Nat.mul k wd))) [])
        | false=>match eG m tk with
          | .live wd' _ _=>match tg wd' wd with
            |true=>eY i len acc sl m (A:=fun k=>R [tk] (.ptr tk (Mn i0 k) k0) [])
            |false=>aZ P N acc sl m (o:=o) (R:=R)
          |_=>aZ P N acc sl m (o:=o) (R:=R)
      |_=>aZ P N acc sl m (o:=o) (R:=R)
    |_=>aZ P N acc sl m (o:=o) (R:=R)
  |_=>aZ P N acc sl m (o:=o) (R:=R)
@[reducible] def GR (t : TypeId) (y : AV) : Prop :=
  match y with
  | .ptr tk i k=>match yp tk with
    |true=>rN P N o acc sl m R (c6 Γ sl m o.dst o.op)
    | false=>match eG m tk with
      |.live _ rows _=>bh rows i acc sl m (A:=fun r acc sl m=>rN P N o acc sl m R (wk (fun x=>([tk],x,[])) (qn (lK Γ t) r k)))
      |_=>aZ P N acc sl m (o:=o) (R:=R)
  |_=>rN P N o acc sl m R (c6 Γ sl m o.dst o.op)
@[reducible] def CJ (t : TypeId) (y z : AV) : Prop :=
  match y with
  | .ptr tk i k=>match yp tk with
    |true=>rN P N o acc sl m R (c6 Γ sl m o.dst o.op)
    | false=>match o.dst with
      | none=>match eG m tk with
        |.live wd rows false=>bh rows i acc sl m (A:=fun r acc sl m=>rN P N o acc sl m R (wk (fun r'=>([tk],.any,[(tk,.live wd (rows.set i r') false)])) (r9 (lK Γ t) r k z)))
        |_=>aZ P N acc sl m (o:=o) (R:=R)
      |some _=>aZ P N acc sl m (o:=o) (R:=R)
  |_=>aZ P N acc sl m (o:=o) (R:=R)
@[reducible] def mM (d : Int) : Option Operand → Option Int
  |none=>some d
  | some z=>match fH sl z with
    |.lit (.int _ n)=>some n
    |_=>none
@[reducible] def KD (t : TypeId) (y : AV) (lo hi : Option Operand) : Option Operand → Prop
  | none =>match lK Γ t with
    | some (.sl _ wd _)=>match y with
      | .own tk off len=>match mM sl 0 lo,mM sl len hi,eG m tk with
        | some l,some h,.live wd' _ _=>match tg wd' wd with
          |true=>BN l h len acc sl m (A:=fun a n=>R [tk] (.own tk (off+a) n) [])
          |false=>aZ P N acc sl m (o:=o) (R:=R)
        |_,_,_=>aZ P N acc sl m (o:=o) (R:=R)
      | .sl wd' rows=>match mM sl 0 lo,mM sl rows.length hi with
        | some l,some h=>match tg wd' wd with
          |true=>Bz l h rows acc sl m (A:=fun rows'=>R [] (.sl wd rows') [])
          |false=>aZ P N acc sl m (o:=o) (R:=R)
        |_,_=>aZ P N acc sl m (o:=o) (R:=R)
      |_=>aZ P N acc sl m (o:=o) (R:=R)
    | some .str=>match y with
      | .lit (.string s)=>match mM sl 0 lo,mM sl s.size hi with
        |some l,some h=>Ig s l h acc sl m (A:=fun s=>R [] (.lit (.string s)) [])
        |_,_=>aZ P N acc sl m (o:=o) (R:=R)
      |_=>aZ P N acc sl m (o:=o) (R:=R)
    |_=>aZ P N acc sl m (o:=o) (R:=R)
  | some mx=>match lo,hi with
    | none,some hi=>match lK Γ t,fH sl hi,fH sl mx with
      | some (.sl _ _ _),.lit (.int _ a),.lit (.int _ b)=>match y with
        |.own _ _ _=>bH (a=0∧b=0) acc sl m (A:=R [] .emp [])
        |.sl _ _=>bH (a=0∧b=0) acc sl m (A:=R [] .emp [])
        |.emp=>bH (a=0∧b=0) acc sl m (A:=R [] .emp [])
        |_=>aZ P N acc sl m (o:=o) (R:=R)
      |_,_,_=>aZ P N acc sl m (o:=o) (R:=R)
    |_,_=>aZ P N acc sl m (o:=o) (R:=R)
@[reducible] def nk (wd : Nat) : Nat → List (Nat × AV) → Bool
  |_,[]=>true
  | k,(i,x)::r=>match Nat.beq i k,tg (fg (dN x)) wd,vY x with
    |true,true,true=>nk wd (Nat.add k 1) r
    |_,_,_=>false
@[reducible] def mw (d : Nat) : Nat := Nat.add (Nat.mul 10 d) 1
@[reducible] def MU (t : TypeId) (len : Nat) (parts : List (Nat × Operand)) : Prop :=
  match o.dst,lK Γ t with
  | some d,some (.sl _ wd _)=>match eG m (mw d) with
    | .free=>match nk wd 0 (eC (fun(p:Nat×Operand)=>match p with|(i,y)=>(i,fH sl y)) parts),tg (fg parts) len,Nat.ble (Nat.mul len wd) 16777216 with
      |true,true,true=>R [mw d] (.own (mw d) 0 len) [(mw d,.live wd (eC (fun(p:Nat×Operand)=>match p with|(_,y)=>fH sl y) parts) false)] acc sl m
      |_,_,_=>aZ P N acc sl m (o:=o) (R:=R)
    |_=>aZ P N acc sl m (o:=o) (R:=R)
  |_,_=>aZ P N acc sl m (o:=o) (R:=R)
@[reducible] def NL (wd : Nat) : AV → Option (List AV × Nat × Nat × List Nat)
  | .own t off len=>match eG m t with
    | .live wd' rows _=>match tg wd' wd with
      |true=>some (rows,off,len,[t])
      |false=>none
    |_=>none
  | .sl wd' rows=>match tg wd' wd with
    |true=>some (rows,0,rows.length,[])
    |false=>none
  |.emp=>some ([],0,0,[])
  | .lit v=>match oD v with
    |true=>some ([],0,0,[])
    |false=>none
  |_=>none
@[reducible] def Lj (wd : Nat) : AV → Option (List AV × Nat × Nat × List Nat)
  | .own t off len=>match eG m t with
    | .live wd' rows false=>match tg wd' wd with
      |true=>some (rows,off,len,[t])
      |false=>none
    |_=>none
  |.emp=>some ([],0,0,[])
  | .lit v=>match oD v with
    |true=>some ([],0,0,[])
    |false=>none
  |_=>none
@[reducible] def M3 (args : List Operand) (types : List TypeId) : Prop :=
  match args,types with
  | [y, z], [t,t2]=>match o.dst,lK Γ t,lK Γ t2 with
    | some d,some (.sl _ wd bytes),some (.sl _ _ _)=>match eG m (mw d) with
      | .free=>match Lj m wd (fH sl y),NL m wd (fH sl z) with
        |some (rb,off,len,k),some (rs,off',len',rd)=>dZ rb off len rs off' len' bytes acc sl m
            (A:=fun rows=>R (mw d::ee k rd) (.own (mw d) 0 rows.length) ((mw d,.live wd rows false)::eC (fun t=>(t,MS.dead)) k))
        |_,_=>aZ P N acc sl m (o:=o) (R:=R)
      |_=>aZ P N acc sl m (o:=o) (R:=R)
    |_,_,_=>aZ P N acc sl m (o:=o) (R:=R)
  |_,_=>aZ P N acc sl m (o:=o) (R:=R)
@[reducible] def Mf (args : List Operand) (types : List TypeId) : Prop :=
  match args,types with
  | [y],[t]=>match fH sl y with
    |.mapr k=>rj P N t (.mapr k) acc sl m (o:=o) (R:=R)
    |.fmap k=>rj P N t (.fmap k) acc sl m (o:=o) (R:=R)
    |_=>rN P N o acc sl m R (c6 Γ sl m o.dst o.op)
  |_,_=>rN P N o acc sl m R (c6 Γ sl m o.dst o.op)
@[reducible] def LN : Option Operand → Prop
  | none=>match o.dst with
    | some d=>match eG m (mw d) with
      |.free=>R [mw d] (.mapr (mw d)) [(mw d,.live 2 [] false)] acc sl m
      |_=>aZ P N acc sl m (o:=o) (R:=R)
    |none=>aZ P N acc sl m (o:=o) (R:=R)
  |some _=>aZ P N acc sl m (o:=o) (R:=R)
@[reducible] def IU (c : Call) : Prop :=
  match c.callee with
  |.builtin .len=>Mf P N Γ o acc sl m R c.args.toList c.argTypes.toList
  |.builtin .append=>M3 P N Γ o acc sl m R c.args.toList c.argTypes.toList
  | .value f=>match f with
    |.func g=>ae P N g (eC (fH sl) c.args.toList) acc sl m (o:=o) (R:=R)
    | f=>match fH sl f with
      |.clo (.func g) first cap=>ae P N g (ee first (ee (eC (fH sl) c.args.toList) cap)) acc sl m (o:=o) (R:=R)
      |_=>aZ P N acc sl m (o:=o) (R:=R)
  |_=>aZ P N acc sl m (o:=o) (R:=R)
@[reducible] def MI (op : BinOp) (t : TypeId) (x y : AV) : Prop :=
  match op,x,y with
  |.add,.lit (.int .i64 a),.lit (.int .i64 b)=>bH (-9223372036854775808≤a+b∧a+b≤9223372036854775807) acc sl m (A:=R [] (.lit (.int .i64 (a+b))) [])
  |.sub,.lit (.int .i64 a),.lit (.int .i64 b)=>bH (-9223372036854775808≤a-b∧a-b≤9223372036854775807) acc sl m (A:=R [] (.lit (.int .i64 (a-b))) [])
  |.add,.lit (.string a),.lit (.string b)=>bH (a.size+b.size≤9223372036854775807) acc sl m (A:=R [] (.lit (.string (a++b))) [])
  | .eql,.agg cs,.agg ds=>match sR cs,sR ds with
    |some us,some vs=>Hu P .eql t us vs acc sl m (A:=fun b=>R [] (.lit (.bool b)) [])
    |_,_=>aZ P N acc sl m (o:=o) (R:=R)
  | .neq,.agg cs,.agg ds=>match sR cs,sR ds with
    |some us,some vs=>Hu P .neq t us vs acc sl m (A:=fun b=>R [] (.lit (.bool b)) [])
    |_,_=>aZ P N acc sl m (o:=o) (R:=R)
  |_,_,_=>rN P N o acc sl m R (c6 Γ sl m o.dst o.op)
@[reducible] def Im (t : TypeId) (y z : AV) : Prop :=
  match lK Γ t,y,z with
  |some .str,.lit (.string s),.lit (.int _ i)=>yg s i acc sl m (A:=fun c=>R [] (.lit (.int .u8 c)) [])
  |_,_,_=>aZ P N acc sl m (o:=o) (R:=R)
@[reducible] def IG (src dst : TypeId) (y : AV) : Prop :=
  match y with
  |.lit v=>fJ P src dst v acc sl m (A:=fun r=>R [] (.lit r) [])
  | .own tk off len=>match eG m tk with
    | .live wd rows _=>match tg wd 1 with
      |true=>BU P src dst rows off len acc sl m (A:=fun r=>R [tk] (.lit r) [])
      |false=>aZ P N acc sl m (o:=o) (R:=R)
    |_=>aZ P N acc sl m (o:=o) (R:=R)
  |_=>aZ P N acc sl m (o:=o) (R:=R)
@[reducible] def Cq (t : TypeId) : Prop :=
  match o.dst,lK Γ t with
  | some d,some (.ar _ _ e _ z)=>match lK Γ e with
    |some (.sl _ _ _)=>rN P N o acc sl m R (c6 Γ sl m o.dst o.op)
    | _=>match jm BE z.toList,eG m (mw d) with
      |true,.free=>R [mw d] (.ptr (mw d) 0 0) [(mw d,.live 1 (eC .lit z.toList) false)] acc sl m
      |_,_=>aZ P N acc sl m (o:=o) (R:=R)
  |_,_=>rN P N o acc sl m R (c6 Γ sl m o.dst o.op)
@[reducible] def wpOp : Prop :=
  match o.op with
  |.alloc t=>Cq P N Γ o acc sl m R t
  |.indexAddr t y z=>LO P N Γ o acc sl m R t (fH sl y) (fH sl z)
  |.load t y=>GR P N Γ o acc sl m R t (fH sl y)
  |.store t y z=>CJ P N Γ o acc sl m R t (fH sl y) (fH sl z)
  |.slice t y lo hi mx=>KD P N Γ o acc sl m R t (fH sl y) lo hi mx
  |.buildSlice t len parts=>MU P N Γ o acc sl m R t len parts.toList
  |.call c=>IU P N Γ o acc sl m R c
  |.binOp op t y z _=>MI P N Γ o acc sl m R op t (fH sl y) (fH sl z)
  |.index t y z=>Im P N Γ o acc sl m R t (fH sl y) (fH sl z)
  |.convert src dst y=>IG P N o acc sl m R src dst (fH sl y)
  |.makeMap _ hint=>LN P N o acc sl m R hint
  |.lookup t y x c=>qW P N t c (fH sl y) (fH sl x) acc sl m (o:=o) (R:=R)
  |.mapUpdate t y x v=>zn P N t (fH sl y) (fH sl x) (fH sl v) acc sl m (o:=o) (R:=R)
  |_=>rN P N o acc sl m R (c6 Γ sl m o.dst o.op)
end
section
variable {P : Program} {N : Nat} {Γ : ct} {o : Oper} {acc : Tk} {sl : SL} {m : ML} {R : Rest}
def oW (P:Program)(N:Nat)(o:Oper)(acc:Tk)(sl:SL)(m:ML)(R:Rest):Prop:=∃rd x ups,aG P N o (St sl m) rd x ups∧R rd x ups acc sl m
theorem iV (hΓ:Γ.Good P)(hd:cZ N o.dst=true)(h:rN P N o acc sl m R (c6 Γ sl m o.dst o.op)):oW P N o acc sl m R:=by
  cases hp:c6 Γ sl m o.dst o.op with
  |none=>rw[hp] at h;exact h
  | some q=>
    obtain⟨rd,x,ups⟩:=q
    rw[hp] at h
    exact⟨rd,x,ups,E5 hΓ (Fb hp) (aJ hd),h⟩
theorem ny:∀ {cs:List AV} {us:List Value},sR cs=some us→mS cs=some us
  |[],us,h=>h
  | c :: r,us,h=>by
    cases c with
    | lit v=>
      simp only[sR] at h
      split at h
      · rename_i l hl
        cases h
        simp[mS,ny hl]
      ·cases h
    |_=>simp[sR] at h
theorem ev_eq (y:Operand):(St sl m).eval y=fH sl y:=by rw[fR,dU]
theorem mem_eq (t:Nat):(St sl m).mem t=eG m t:=(iw m t).symm
theorem JO (hΓ:Γ.Good P)(hd:cZ N o.dst=true){t:TypeId}{y z:Operand}(ho:o.op=.indexAddr t y z)(h:LO P N Γ o acc sl m R t (fH sl y) (fH sl z)):oW P N o acc sl m R:=by
  unfold LO at h
  split at h
  · rename_i hz
    split at h
    · rename_i ht
      rw[cE] at ht
      have ok:=hΓ.look ht
      obtain⟨i,z',te⟩:=ok.2.2.2.2
      split at h
      · rename_i hy
        split at h
        · rename_i hm
          split at h
          · rename_i hw
            obtain⟨k,rfl,hk,h⟩:=h
            have hw':=beq_eq (by rw[←eD];exact hw)
            subst hw'
            refine⟨_,_,_,?_,h⟩
            have:=aG.wH (P:=P) (N:=N) (σ:=St sl m) ho (by rw[ev_eq];exact hy) (by rw[ev_eq];exact hz) te.ty ok.2.2.2.1 (Int.natCast_nonneg k) (by omega) ⟨_,_,by rw[mem_eq];exact hm⟩ (aJ hd)
            simpa using this
          ·exact h
        ·exact h
      · rename_i hy
        split at h
        · rename_i hw
          obtain⟨k,r,rfl,hk,h⟩:=h
          have hw':=beq_eq (by rw[←eD];exact hw)
          subst hw'
          exact⟨_,_,_,aG.AX (P:=P) (N:=N) (σ:=St sl m) ho (by rw[ev_eq];exact hy) (by rw[ev_eq];exact hz) te.ty ok.2.2.2.1 (Int.natCast_nonneg k) (by simpa using hk) (aJ hd),h⟩
        ·exact h
      ·exact h
    · rename_i ht
      rw[cE] at ht
      have ok:=hΓ.look ht
      split at h
      · rename_i hy
        split at h
        · obtain⟨k,rfl,hk,h⟩:=h
          refine⟨_,_,_,?_,h⟩
          have:=aG.xG (P:=P) (N:=N) (σ:=St sl m) ho (by rw[ev_eq];exact hy) (by rw[ev_eq];exact hz) ok.2.2.2.1 ok.2.2.2.2 (Int.natCast_nonneg k) (by omega) (aJ hd)
          simpa using this
        · split at h
          · rename_i hm
            split at h
            · rename_i hw
              obtain⟨k,rfl,hk,h⟩:=h
              have hw':=beq_eq (by rw[←eD];exact hw)
              subst hw'
              refine⟨_,_,_,?_,h⟩
              have:=aG.Ch (P:=P) (N:=N) (σ:=St sl m) ho (by rw[ev_eq];exact hy) (by rw[ev_eq];exact hz) ok.2.2.2.1 ok.2.2.2.2 (Int.natCast_nonneg k) (by omega) ⟨_,_,by rw[mem_eq];exact hm⟩ (aJ hd)
              simpa[KT] using this
            ·exact h
          ·exact h
      ·exact h
    ·exact h
  ·exact h
theorem Jb (hΓ:Γ.Good P)(hd:cZ N o.dst=true){t:TypeId}{y:Operand}(ho:o.op=.load t y)(h:GR P N Γ o acc sl m R t (fH sl y)):oW P N o acc sl m R:=by
  unfold GR at h
  split at h
  · rename_i tk i k hy
    split at h
    ·exact iV hΓ hd h
    · split at h
      · rename_i hm
        obtain⟨r,hr,h⟩:=h
        rw[mg] at h
        cases hl:qn (lK Γ t) r k with
        |none=>rw[hl] at h;exact h
        | some x=>
          rw[hl] at h
          exact⟨_,_,_,aG.AQ (P:=P) (N:=N) (σ:=St sl m) ho (by rw[ev_eq];exact hy) (by rw[mem_eq];exact hm) hr (lN hΓ (by rw[←cE,←nV];exact hl)) (aJ hd),h⟩
      ·exact h
  ·exact iV hΓ hd h
theorem FE (hΓ:Γ.Good P)(hd:cZ N o.dst=true){t:TypeId}{y z:Operand}(ho:o.op=.store t y z)(h:CJ P N Γ o acc sl m R t (fH sl y) (fH sl z)):oW P N o acc sl m R:=by
  unfold CJ at h
  split at h
  · rename_i tk i k hy
    split at h
    ·exact iV hΓ hd h
    · split at h
      · rename_i hdst
        split at h
        · rename_i hm
          obtain⟨r,hr,h⟩:=h
          rw[mg] at h
          cases hl:r9 (lK Γ t) r k (fH sl z) with
          |none=>rw[hl] at h;exact h
          | some r'=>
            rw[hl] at h
            have hs:=yq (P:=P) (Γ:=Γ) (t:=t) hΓ (by rw[←cE];exact xb hl)
            exact⟨_,_,_,aG.store (P:=P) (N:=N) (σ:=St sl m) ho (by rw[ev_eq];exact hy) (by rw[ev_eq]) (by rw[mem_eq];exact hm) hr hs.1 hs.2.1 hs.2.2 hdst,h⟩
        ·exact h
      ·exact h
  ·exact h
theorem jH {d l:Int}{lo:Option Operand}(h:mM sl d lo=some l)(h0:0≤l):lo=none∧l.toNat=d.toNat∨∃z k,lo=some z∧(St sl m).eval z=.lit (.int k (l.toNat:Nat)):=by
  cases lo with
  |none=>simp only[mM,Option.some.injEq] at h;subst h;exact .inl ⟨rfl,rfl⟩
  | some z=>
    simp only[mM] at h
    split at h
    · rename_i k n he
      cases h
      exact .inr ⟨z,k,rfl,by rw[ev_eq,he,Int.toNat_of_nonneg h0]⟩
    ·cases h
theorem Kf (hΓ:Γ.Good P)(hd:cZ N o.dst=true){t:TypeId}{y:Operand}{lo hi mx:Option Operand}(ho:o.op=.slice t y lo hi mx)(h:KD P N Γ o acc sl m R t (fH sl y) lo hi mx):oW P N o acc sl m R:=by
  cases mx with
  | none =>
    simp only[KD] at h
    split at h
    · rename_i ht
      rw[cE] at ht
      have ok:=hΓ.look ht
      obtain⟨i,z',te⟩:=ok.2.2.2.2
      split at h
      · rename_i hy
        split at h
        · rename_i hl hh hm
          split at h
          · rename_i hw
            obtain⟨a,n,rfl,rfl,hn,h⟩:=h
            have hw':=beq_eq (by rw[←eD];exact hw)
            subst hw'
            refine⟨_,_,_,?_,h⟩
            have:=aG.wG (P:=P) (N:=N) (σ:=St sl m) (l:=a) (h:=a+n) ho (by rw[ev_eq];exact hy) (by have:=jH (m:=m) hl (Int.natCast_nonneg _);simpa using this)
              (by rw[show((a:Int)+ (n:Int))=((a+n:Nat):Int) from by omega] at hh;have:=jH (m:=m) hh (Int.natCast_nonneg _);simp only[Int.toNat_natCast] at this;exact this) (by omega) (by omega) te.ty ok.2.2.2.1 ⟨_,_,by rw[mem_eq];exact hm⟩ (aJ hd)
            simpa using this
          ·exact h
        ·exact h
      · rename_i hy
        split at h
        · rename_i hl hh
          split at h
          · rename_i hw
            obtain⟨a,n,rows',rfl,rfl,hn,rfl,h⟩:=h
            have hw':=beq_eq (by rw[←eD];exact hw)
            subst hw'
            refine⟨_,_,_,?_,h⟩
            have:=aG.Bl (P:=P) (N:=N) (σ:=St sl m) (l:=a) (h:=a+n) ho (by rw[ev_eq];exact hy) (by have:=jH (m:=m) hl (Int.natCast_nonneg _);simpa using this)
              (by rw[show((a:Int)+ (n:Int))=((a+n:Nat):Int) from by omega] at hh;have:=jH (m:=m) hh (Int.natCast_nonneg _);simp only[Int.toNat_natCast] at this;exact this) (by omega) (by omega) te.ty ok.2.2.2.1 (aJ hd)
            simpa using this
          ·exact h
        ·exact h
      ·exact h
    · rename_i ht
      rw[cE] at ht
      have ok:=hΓ.look ht
      split at h
      · rename_i hy
        split at h
        · rename_i hl hh
          obtain⟨a,b,rfl,rfl,h1,h2,h⟩:=h
          exact⟨_,_,_,aG.I6 (P:=P) (N:=N) (σ:=St sl m) (a:=a) (b:=b) ho (by rw[ev_eq];exact hy) ok.2.2.2 (by have:=jH (m:=m) hl (Int.natCast_nonneg _);simpa using this) (by have:=jH (m:=m) hh (Int.natCast_nonneg _);simpa using this) h1 h2 (aJ hd),h⟩
        ·exact h
      ·exact h
    ·exact h
  | some mx=>
    simp only[KD] at h
    split at h
    · split at h
      · rename_i ht h1 h2
        rw[cE] at ht
        have ok:=hΓ.look ht
        obtain⟨i,z',te⟩:=ok.2.2.2.2
        split at h
        · rename_i hy
          obtain⟨⟨rfl,rfl⟩,h⟩:=h
          exact⟨_,_,_,aG.slice3 (P:=P) (N:=N) (σ:=St sl m) ho (by rw[ev_eq];exact hy) (.inl ⟨_,_,_,rfl⟩) (by rw[ev_eq];exact h1) (by rw[ev_eq];exact h2) te.ty ⟨_,ok.2.2.2.1⟩ (aJ hd),h⟩
        · rename_i hy
          obtain⟨⟨rfl,rfl⟩,h⟩:=h
          exact⟨_,_,_,aG.slice3 (P:=P) (N:=N) (σ:=St sl m) ho (by rw[ev_eq];exact hy) (.inr (.inl ⟨_,_,rfl⟩)) (by rw[ev_eq];exact h1) (by rw[ev_eq];exact h2) te.ty ⟨_,ok.2.2.2.1⟩ (aJ hd),h⟩
        · rename_i hy
          obtain⟨⟨rfl,rfl⟩,h⟩:=h
          exact⟨_,_,_,aG.slice3 (P:=P) (N:=N) (σ:=St sl m) ho (by rw[ev_eq];exact hy) (.inr (.inr (.inl rfl))) (by rw[ev_eq];exact h1) (by rw[ev_eq];exact h2) te.ty ⟨_,ok.2.2.2.1⟩ (aJ hd),h⟩
        ·exact h
      ·exact h
    ·exact h
theorem nj {wd:Nat}:∀ {k:Nat} {ps:List (Nat×AV)},nk wd k ps=true→jv wd k ps=true
  |k,[],_=>rfl
  | k, (i,x)::r,h=>by
    simp only[nk] at h
    split at h
    · rename_i h1 h2 h3
      rw[eD,dj,fu] at h2
      rw[oB] at h3
      have h4:jv wd (k+1) r=true:=nj h
      simp only[jv,bO,beq_iff_eq]
      exact⟨⟨⟨beq_eq h1,beq_eq h2⟩,h3⟩,h4⟩
    ·cases h
theorem J9 (hΓ:Γ.Good P)(hd:cZ N o.dst=true){t:TypeId}{len:Nat}{parts:Array (Nat×Operand)}(ho:o.op=.buildSlice t len parts)(h:MU P N Γ o acc sl m R t len parts.toList):oW P N o acc sl m R:=by
  unfold MU at h
  split at h
  · rename_i d e wd bytes hdst ht
    rw[cE] at ht
    have ok:=hΓ.look ht
    obtain⟨i,z',te⟩:=ok.2.2.2.2
    split at h
    · rename_i hm
      split at h
      · rename_i g1 g2 g3
        have g1':=nj g1
        rw[eO] at g1'
        rw[eD,dj] at g2
        have g2':=beq_eq g2
        have g3':len*wd≤16777216:=cC g3
        have hev:(fun p:Nat×Operand=>(p.1,fH sl p.2))=fun p=>(p.1,(St sl m).eval p.2):=by funext p;rw[ev_eq]
        rw[hev] at g1'
        have hfi:=mh _ 0 [] g1' (by simp)
        have hmap:eC (fun(p:Nat×Operand)=>match p with|(_,y)=>fH sl y) parts.toList=(parts.toList.map fun p=>(p.1,(St sl m).eval p.2)).map (·.2):=by
          rw[eO,List.map_map];apply List.map_congr_left;intro p _;simp[ev_eq]
        have:=aG.buildSlice (P:=P) (N:=N) (σ:=St sl m) (tk:=mw d) ho te g3' (rows:=(parts.toList.map fun p=>(p.1,(St sl m).eval p.2)).map (·.2)) (by simp[←g2']) (l8 _ 0 g1')
          (by simp only[List.nil_append,bN] at hfi;rw[←g2'];exact hfi) (by rw[mem_eq];exact hm) (aJ hd)
        rw[hmap] at h
        refine⟨_,_,_,?_,h⟩
        simp only[bN,g2'] at this
        exact this
      ·exact h
    ·exact h
  ·exact h
theorem JQ (hΓ:Γ.Good P)(hd:cZ N o.dst=true){args:Array Operand}{types:Array TypeId}(ho:o.op=.call {callee:=.builtin .append,args:=args,argTypes:=types})(h:M3 P N Γ o acc sl m R args.toList types.toList):oW P N o acc sl m R:=by
  unfold M3 at h
  split at h
  · rename_i y z t t2 ea et
    obtain rfl:args= #[y,z]:=Array.ext' ea
    obtain rfl:types= #[t,t2]:=Array.ext' et
    split at h
    · rename_i d e wd bytes e2 wd2 bytes2 hdst ht ht2
      rw[cE] at ht ht2
      have ok:=hΓ.look ht
      obtain⟨i,z',te⟩:=ok.2.2.2.2
      have ok2:=hΓ.look ht2
      obtain⟨i2,z2,te2⟩:=ok2.2.2.2.2
      split at h
      · rename_i hm
        split at h
        · rename_i rb off len k rs off' len' rd hb hx
          obtain⟨rows0,news,c1,rfl,c2,rfl,c3,c4,c5,h⟩:=h
          have hb':sG (St sl m) wd ((St sl m).eval y) ((rb.drop off).take len) k:=by
            rw[ev_eq]
            unfold Lj at hb
            split at hb
            · rename_i hy
              split at hb
              · rename_i hmm
                split at hb
                ·rename_i hw;have hw':=beq_eq (by rw[←eD];exact hw);subst hw';cases hb;rw[hy];exact .own (by rw[mem_eq];exact hmm) c1
                ·cases hb
              ·cases hb
            ·rename_i hy;cases hb;rw[hy];simpa using sG.emp
            · rename_i hy
              split at hb
              ·rename_i hn;cases hb;rw[hy,fP hn];simpa using sG.nil
              ·cases hb
            ·cases hb
          have hx':Src (St sl m) wd ((St sl m).eval z) ((rs.drop off').take len') rd:=by
            rw[ev_eq]
            unfold NL at hx
            split at hx
            · rename_i hy
              split at hx
              · rename_i hmm
                split at hx
                ·rename_i hw;have hw':=beq_eq (by rw[←eD];exact hw);subst hw';cases hx;rw[hy];exact .own (by rw[mem_eq];exact hmm) c2
                ·cases hx
              ·cases hx
            · rename_i hy
              split at hx
              ·rename_i hw;have hw':=beq_eq (by rw[←eD];exact hw);subst hw';cases hx;rw[hy];simpa using Src.sl
              ·cases hx
            ·rename_i hy;cases hx;rw[hy];simpa using Src.emp
            · rename_i hy
              split at hx
              ·rename_i hn;cases hx;rw[hy,fP hn];simpa using Src.nil
              ·cases hx
            ·cases hx
          refine⟨_,_,_,?_,h⟩
          have:=aG.append (P:=P) (N:=N) (σ:=St sl m) (tn:=mw d) ho te te2.ty hb' hx' c3 c4 (by unfold maxLen;omega) (by rw[mem_eq];exact hm) (aJ hd)
          rw[iG,eO]
          exact this
        ·exact h
      ·exact h
    ·exact h
  ·exact h
theorem args_eq (args:Array Operand):args.toList.map (St sl m).eval=eC (fH sl) args.toList:=by
  rw[eO];apply List.map_congr_left;intro y _;exact ev_eq y
theorem JA (hΓ:Γ.Good P)(hd:cZ N o.dst=true){args:Array Operand}{types:Array TypeId}(ho:o.op=.call {callee:=.builtin .len,args:=args,argTypes:=types})(h:Mf P N Γ o acc sl m R args.toList types.toList):oW P N o acc sl m R:=by
  unfold Mf at h
  split at h
  · rename_i y t ea et
    obtain rfl:args= #[y]:=Array.ext' ea
    obtain rfl:types= #[t]:=Array.ext' et
    split at h
    ·rename_i hy;exact h ⟨y,ho,by rw[ev_eq];exact hy⟩
    ·rename_i hy;exact h ⟨y,ho,by rw[ev_eq];exact hy⟩
    ·exact iV hΓ hd h
  ·exact iV hΓ hd h
theorem KZ (hd:cZ N o.dst=true){t:TypeId}{hint:Option Operand}(ho:o.op=.makeMap t hint)(h:LN P N o acc sl m R hint):oW P N o acc sl m R:=by
  cases hint with
  |some _=>exact h
  | none =>
    simp only[LN] at h
    split at h
    · rename_i d hdst
      split at h
      · rename_i hm
        exact⟨_,_,_,aG.makeMap (P:=P) (N:=N) (σ:=St sl m) (tk:=mw d) ho (by rw[mem_eq];exact hm) (aJ hd),h⟩
      ·exact h
    ·exact h
theorem G0 (hΓ:Γ.Good P)(hd:cZ N o.dst=true){c:Call}(ho:o.op=.call c)(h:IU P N Γ o acc sl m R c):oW P N o acc sl m R:=by
  obtain⟨callee,args,types⟩:=c
  unfold IU at h
  simp only at h
  split at h
  ·exact JA hΓ hd ho h
  ·exact JQ hΓ hd ho h
  · split at h
    · refine h ?_
      have:=gj.func (σ:=St sl m) ho (by rfl)
      rw[show eC (fH sl) args.toList=args.toList.map (St sl m).eval from(args_eq args).symm]
      exact this
    · split at h
      · rename_i hy
        refine h ?_
        have:=gj.clo (σ:=St sl m) ho (by rw[ev_eq];exact hy)
        rw[iG,iG,show eC (fH sl) args.toList=args.toList.map (St sl m).eval from(args_eq args).symm,←List.append_assoc]
        exact this
      ·exact h
  ·exact h
theorem JJ (hΓ:Γ.Good P)(hd:cZ N o.dst=true){op:BinOp}{t yt:TypeId}{y z:Operand}(ho:o.op=.binOp op t y z yt)(h:MI P N Γ o acc sl m R op t (fH sl y) (fH sl z)):oW P N o acc sl m R:=by
  unfold MI at h
  split at h
  · rename_i a b hx hy
    obtain⟨hn,h⟩:=h
    refine⟨_,_,_,aG.binOp (P:=P) (N:=N) (σ:=St sl m) ho (by rw[ev_eq];exact hx) (by rw[ev_eq];exact hy) (vh (by simp only[yB,if_true];rw[IntWalk.i64_in _ hn]) _ _ _) (aJ hd),h⟩
  · rename_i a b hx hy
    obtain⟨hn,h⟩:=h
    refine⟨_,_,_,aG.binOp (P:=P) (N:=N) (σ:=St sl m) ho (by rw[ev_eq];exact hx) (by rw[ev_eq];exact hy) (vh (by simp only[yB,if_true];rw[IntWalk.i64_in _ hn]) _ _ _) (aJ hd),h⟩
  · rename_i a b hx hy
    obtain⟨hn,h⟩:=h
    refine⟨_,_,_,aG.binOp (P:=P) (N:=N) (σ:=St sl m) ho (by rw[ev_eq];exact hx) (by rw[ev_eq];exact hy) (fun w=>by simp[eqGuard,binOp,run_string_add_sum w a b hn]) (aJ hd),h⟩
  · rename_i cs ds hx hy
    split at h
    · rename_i us vs h1 h2
      obtain⟨b,hr,h⟩:=h
      exact iS.He (R:=fun rd x ups=>R rd x ups acc sl m) ho (by rw[←dU];exact hx) (ny h1) (by rw[←dU];exact hy) (ny h2) (fun w=>hr y z w) hd h
    ·exact h
  · rename_i cs ds hx hy
    split at h
    · rename_i us vs h1 h2
      obtain⟨b,hr,h⟩:=h
      exact iS.He (R:=fun rd x ups=>R rd x ups acc sl m) ho (by rw[←dU];exact hx) (ny h1) (by rw[←dU];exact hy) (ny h2) (fun w=>hr y z w) hd h
    ·exact h
  ·exact iV hΓ hd h
theorem Hr (hΓ:Γ.Good P)(hd:cZ N o.dst=true){t:TypeId}{y z:Operand}(ho:o.op=.index t y z)(h:Im P N Γ o acc sl m R t (fH sl y) (fH sl z)):oW P N o acc sl m R:=by
  unfold Im at h
  split at h
  · rename_i ht hy hz
    rw[cE] at ht
    have ok:=hΓ.look ht
    obtain⟨k,c,rfl,hc,h⟩:=h
    exact⟨_,_,_,aG.IE (P:=P) (N:=N) (σ:=St sl m) ho (by rw[ev_eq];exact hy) (by rw[ev_eq];exact hz) ok.2.2.2 hc (aJ hd),h⟩
  ·exact h
theorem IK (hd:cZ N o.dst=true){src dst:TypeId}{y:Operand}(ho:o.op=.convert src dst y)(h:IG P N o acc sl m R src dst (fH sl y)):oW P N o acc sl m R:=by
  unfold IG at h
  split at h
  · rename_i hy
    obtain⟨r,hr,h⟩:=h
    exact⟨_,_,_,aG.DL (P:=P) (N:=N) (σ:=St sl m) ho (by rw[ev_eq];exact hy) hr (aJ hd),h⟩
  · rename_i hy
    split at h
    · rename_i hm
      split at h
      · rename_i hw
        have hw':=beq_eq (by rw[←eD];exact hw)
        subst hw'
        obtain⟨bs,e,h1,h2,h3,h4,h5,h6,h⟩:=h
        exact⟨_,_,_,aG.Ic (P:=P) (N:=N) (σ:=St sl m) ho (by rw[ev_eq];exact hy) h1 h2 h3 (by rw[mem_eq];exact hm) h4 h5 h6 (aJ hd),h⟩
      ·exact h
    ·exact h
  ·exact h
theorem Fs (hΓ:Γ.Good P)(hd:cZ N o.dst=true){t:TypeId}(ho:o.op=.alloc t)(h:Cq P N Γ o acc sl m R t):oW P N o acc sl m R:=by
  unfold Cq at h
  split at h
  · rename_i hdst ht
    rw[cE] at ht
    have ok:=hΓ.look ht
    split at h
    ·exact iV hΓ hd h
    split at h
    · rename_i hs hm
      exact⟨_,_,_,aG.EO (P:=P) (N:=N) (σ:=St sl m) ho ok.2.2.1 hs (by rw[mem_eq];exact hm) (aJ hd),by rw[eO] at h;exact h⟩
    ·exact h
  ·exact iV hΓ hd h
theorem KL (hΓ:Γ.Good P)(hd:cZ N o.dst=true)(h:wpOp P N Γ o acc sl m R):oW P N o acc sl m R:=by
  unfold wpOp at h
  split at h
  ·rename_i ho;exact Fs hΓ hd ho h
  ·rename_i ho;exact JO hΓ hd ho h
  ·rename_i ho;exact Jb hΓ hd ho h
  ·rename_i ho;exact FE hΓ hd ho h
  ·rename_i ho;exact Kf hΓ hd ho h
  ·rename_i ho;exact J9 hΓ hd ho h
  ·rename_i ho;exact G0 hΓ hd ho h
  ·rename_i ho;exact JJ hΓ hd ho h
  ·rename_i ho;exact Hr hΓ hd ho h
  ·rename_i ho;exact IK hd ho h
  ·rename_i ho;exact KZ hd ho h
  ·rename_i ho;exact h ⟨_,_,ho,ev_eq _,ev_eq _⟩
  ·rename_i ho;exact h ⟨_,_,_,ho,ev_eq _,ev_eq _,ev_eq _⟩
  ·exact iV hΓ hd h
end
def jj (ops:Array Oper):Nat→Nat→Nat→Bool
  |0,_,_=>false
  | n+1,j,i=>match ops[j]? with
    |none=>false
    |some o=>o.after.any fun e=>Region.binds .any e&&(e.on==i||jj ops n e.on i)
def rO (ops:Array Oper)(listed:Array Bool):Prop:=∀ (m:Nat) (o:Oper),ops[m]? =some o→listed.getD m true=true→∀e∈o.after,Region.binds .any e=true→listed.getD e.on true=true
section
variable {P : Program} {N : Nat} {ops : Array Oper} {w0 : World} {W0 : Nat → Prop} {L μ : Mu} {σ : aA} {a : Act} {w : World}
theorem qo {listed:Array Bool}(hc:rO ops listed):∀ (n j i:Nat) (o:Oper),ops[j]? =some o→(∀e∈o.after,Region.binds .any e=true→listed.getD e.on true=true)→jj ops n j i=true→listed.getD i true=true
  |0,_,_,_,_,_,h=>by cases h
  | n + 1,j,i,o,hj,ha,h=>by
    simp only[jj,hj] at h
    rw[Array.any_eq_true] at h
    obtain⟨k,hk,h⟩:=h
    simp only[bO,kg,beq_iff_eq] at h
    obtain⟨hb,h⟩:=h
    have hl:=ha _ (Array.getElem_mem hk) hb
    rcases h with h|h
    ·rw[←h];exact hl
    · cases hm:ops[(o.after[k]).on]? with
      | none=>cases n with
        |zero=>cases h
        |succ n=>simp[jj,hm] at h
      |some o'=>exact qo hc n _ i o' hm (hc _ o' hm hl) h
theorem rO.set {listed:Array Bool}(hc:rO ops listed){j:Nat}{o:Oper}(hj:ops[j]? =some o)(ha:∀e∈o.after,Region.binds .any e=true→listed.getD e.on true=true):rO ops (listed.setIfInBounds j true):=by
  have up:∀i,listed.getD i true=true→(listed.setIfInBounds j true).getD i true=true:=fun i h=>by
    by_cases hij:j=i
    · subst hij
      by_cases hlt:j<listed.size
      ·simp[hlt]
      ·rw[Array.getD_eq_getD_getElem?,Array.getElem?_eq_none (by simpa using hlt)];rfl
    ·rw[getD_set_ne true hij];exact h
  intro m o' hm hl e he hb
  by_cases hjm:j=m
  · subst hjm
    rw[hj] at hm;cases hm
    exact up _ (ha e he hb)
  · rw[getD_set_ne true hjm] at hl
    exact up _ (hc m o' hm hl e he hb)
theorem A5 {es:List jg}{K:aA→Prop}{i:Nat}{x:jg}(hf:∀ (j:Nat) (e:jg),es[j]? =some e→ops[j]? =some e.o)(hi:es[i]? =some x):
    ∀ (fuel:Nat) (listed:Array Bool) (σ:aA),rO ops listed→
      (∀ (j:Nat) (y:jg),es[j]? =some y→j≠i→listed.getD j true=false→(∀e∈y.o.after,Region.binds .any e=true→e.on≠i)→(∀n,jj ops n j i=false)→x.o.apart ops y.o=true∧kf x.toks y.toks=true)→
      i∈Region.ready .any ops listed→Holds ops x σ→
      Hj ops es K fuel (listed.setIfInBounds i true) (σ.app x)→Hj ops es K (fuel+1) listed σ:=by
  intro fuel
  induction fuel with
  | zero=>
    intro listed σ _ _ hr hy H
    refine⟨fun h=>(by rw[h] at hr;cases hr),fun j hj=>?_⟩
    by_cases hji:j=i
    ·subst hji;exact⟨x,hi,hy,H⟩
    · have:=ready_mono hj hji
      rw[H.1] at this
      cases this
  | succ fuel ih=>
    intro listed σ hcl hfree hr hy H
    refine⟨fun h=>(by rw[h] at hr;cases hr),fun j hj=>?_⟩
    by_cases hji:j=i
    ·subst hji;exact⟨x,hi,hy,H⟩
    · obtain⟨y,hy1,hy2,hy3⟩:=H.2 j (ready_mono hj hji)
      obtain⟨hjun,oj,hoj,hall⟩:=mem_ready.1 hj
      have hoj':=hf j y hy1
      rw[hoj] at hoj'
      cases hoj'
      have hiun:¬listed.getD i true=true:=fun h1=>by
        have h0:=(mem_ready.1 hr).1
        rcases Nat.lt_or_ge i listed.size with h'|h'
        ·simp[h'] at h0 h1;rw[h0] at h1;cases h1
        ·simp[Array.getElem?_eq_none h'] at h0
      have hnot:∀e∈y.o.after,Region.binds .any e=true→e.on≠i:=fun e he hb heq=>hiun (by
        have h1:=hall e he hb
        rw[heq] at h1
        rcases Nat.lt_or_ge i listed.size with h'|h'
        ·simp[h'] at h1 ⊢;exact h1
        ·simp[Array.getElem?_eq_none h'])
      have hall':∀e∈y.o.after,Region.binds .any e=true→listed.getD e.on true=true:=fun e he hb=>by
        have h1:=hall e he hb
        rcases Nat.lt_or_ge e.on listed.size with h'|h'
        ·simp[h'] at h1 ⊢;exact h1
        ·simp[Array.getElem?_eq_none h']
      have hnr:∀n,jj ops n j i=false:=fun n=>by
        cases hB:jj ops n j i with
        |false=>rfl
        |true=>exact absurd (qo hcl n j i y.o hoj hall' hB) hiun
      obtain⟨hap,htok⟩:=hfree j y hy1 hji hjun hnot hnr
      obtain⟨s1,s2,s3⟩:=Oper.apart_spec hap
      obtain⟨t1,t2,t3⟩:=oP htok
      have hyσ:Holds ops y σ:=(Holds.app (x:=x) s1 t1).1 hy2
      refine⟨y,hy1,hyσ,?_⟩
      refine ih (listed.setIfInBounds j true) (σ.app y) (hcl.set hoj hall') (fun k z hk hki hun hno hnr=>?_) (ready_mono hr (Ne.symm hji)) ((Holds.app (x:=y) (y:=x) s3 t3).2 hy) ?_
      · refine hfree k z hk hki ?_ hno hnr
        by_cases hjk:j=k
        ·subst hjk;exact hjun
        ·rw[getD_set_ne true hjk] at hun;exact hun
      · rw[←Ir s2 htok,Array.setIfInBounds_comm _ _ hji]
        exact hy3
def iM (ops:Array Oper)(ts:List (List Nat×List Nat)):Bool:=
  (List.range ts.length).all fun j=>(List.range j).all fun i=>
    kf (ts.getD i ([],[])) (ts.getD j ([],[]))||(jj ops 4 j i||jj ops 9 j i)
theorem BA {es:List jg}(h:iM ops (es.map jg.toks)=true){i j:Nat}{x y:jg}(hij:i<j)(hx:es[i]? =some x)(hy:es[j]? =some y)
    (hno:∀n,jj ops n j i=false):kf x.toks y.toks=true:=by
  unfold iM at h
  have hj:j<es.length:=(bj hy).1
  have:=List.all_eq_true.1 h j (by simpa using hj)
  have:=List.all_eq_true.1 this i (by simpa using hij)
  simp only[List.getD_eq_getElem?_getD,fI,hx,hy,Option.map_some,Option.getD_some,kg] at this
  rcases this with h'|h'|h'
  ·exact h'
  ·rw[hno] at h';cases h'
  ·rw[hno] at h';cases h'
theorem xp {es:List jg}{K:aA→Prop}{l:List Oper}(hl:ops.toList=l)(hlen:es.length=l.length)(hf:∀ (i:Nat) (e:jg),es[i]? =some e→ops[i]? =some e.o)
    (hchain:∀ (k:Nat) (e e':jg),es[k]? =some e→es[k+1]? =some e'→e'.σ=e.σ.app e) (hlast:∀e,es.getLast? =some e→K (e.σ.app e))
    (htok:iM ops (es.map jg.toks)=true):
    ∀ (n k:Nat) (listed:Array Bool) (σ:aA),rO ops listed→n+k=es.length→(∀e,es[k]? =some e→e.σ=σ)→(n=0→K σ)→(∀j,j<k→listed.getD j true=true)→listed.size=ops.size→Region.lexFrom .any ops n k listed=true→
      Hj ops es K n listed σ
  |0,k,listed,σ,hcl,hn,hσ,hK,hlst,hsz,hB=>⟨by simpa[Region.lexFrom] using hB,hK rfl⟩
  | n + 1, k,listed,σ,hcl,hn,hσ,hK,hlst,hsz,hB=>by
    simp only[Region.lexFrom,bO] at hB
    obtain⟨⟨hr,hfr⟩,hB'⟩:=hB
    have hk:k<es.length:=by omega
    obtain⟨e,he⟩:∃e,es[k]? =some e:=⟨es[k],by simp[hk]⟩
    have hσe:=hσ e he
    have h0:=hf k e he
    have hall':∀d∈e.o.after,Region.binds .any d=true→listed.getD d.on true=true:=fun d hd hb=>by
      obtain⟨_,o1,ho1,hall⟩:=mem_ready.1 (show k∈Region.ready .any ops listed by simpa using hr)
      rw[h0] at ho1;cases ho1
      have h1:=hall d hd hb
      rcases Nat.lt_or_ge d.on listed.size with h'|h'
      ·simp[h'] at h1 ⊢;exact h1
      ·simp[Array.getElem?_eq_none h']
    refine A5 hf he n listed σ hcl (fun j y hy hjk hun hno hnr=>⟨Region.free_spec h0 hfr j y.o (hf j y hy) hjk hun hno,?_⟩) (by simpa using hr) (by rw[←hσe];exact Holds.self) ?_
    · have hkj:k<j:=by
        rcases Nat.lt_trichotomy j k with h|h|h
        ·rw[hlst j h] at hun;cases hun
        ·exact absurd h hjk
        ·exact h
      exact BA htok hkj he hy hnr
    · refine xp hl hlen hf hchain hlast htok n (k+1) _ _ (hcl.set h0 hall') (by omega) (fun e' he'=>by rw[hchain k e e' he he',hσe]) (fun hn0=>?_) (fun j hj=>?_) (by simp[hsz]) hB'
      · rw[←hσe]
        refine hlast e ?_
        rw[List.getLast?_eq_getElem?,show es.length-1=k from by omega];exact he
      · by_cases hjk:k=j
        · subst hjk
          have:k<listed.size:=by
            have:=(Array.getElem?_eq_some_iff.1 h0).1
            omega
          simp[this]
        ·rw[getD_set_ne true hjk];exact hlst j (by omega)
theorem gH.zK {rd:Option Nat}{Q:Exit→Act→World→Prop}{l:List Oper}{id:Nat}{K:aA→Prop}(hp:rd=none∨l.all nu=true)(hm:P.follows .mixedOrders=true)(hB:Region.lexB .any l.toArray=true)
    (h:gH P N l.toArray l σ (fun es σ'=>iM l.toArray (es.map jg.toks)=true∧K σ')) (hs:cz P N w0 W0 L μ σ a w)
    (hK:∀σ',K σ'→∀μ' a' w',cz P N w0 W0 L μ' σ' a' w'→Q .normal a' w'):(Code.region id l.toArray true).wpIn (ko rd) 0 P Q a w:=by
  simp only[Region.lexB,bO] at hB
  obtain⟨es,σ',⟨htok,hk⟩,h2,h3,_,h5,h6,h7,h8⟩:=gH.trace h
  refine wpIn_region_any hm ?_
  have hf:∀ (i:Nat) (e:jg),es[i]? =some e→l.toArray[i]? =some e.o:=fun i e he=>by simpa using(h3 i e he).1
  refine qq (es:=es) (K:=K) (hp.imp (fun h=>h) fun h i o ho=>List.all_eq_true.1 h o (bV (by simpa using ho))) (fun i e he=>⟨hf i e he,(h3 i e he).2⟩) hK _ _ σ μ a _ ?_ (hs.drawn _)
  have hsize:l.toArray.size=es.length:=by simp[h2]
  rw[hsize]
  refine xp (l:=l) (by simp) h2 hf h5 (fun e he=>by rw[←h7 e he];exact hk) htok es.length 0 _ σ (fun m o hm hl=>?_) (by omega) (fun e he=>h6 e he) (fun h0=>?_) (fun j hj=>by omega) (by simp[h2]) (by rw[←hsize];exact hB.2)
  · have hlt:=(Array.getElem?_eq_some_iff.1 hm).1
    simp at hl
    have:m<es.length:=by rw[h2];simpa using hlt
    simp[this] at hl
  ·rw[←h8 (List.eq_nil_of_length_eq_zero h0)];exact hk
theorem fj.zK {nL:Nat}{Q:Exit→aA→Prop}{id:Nat}{l:List Oper}(hm:P.follows .mixedOrders=true)(hB:Region.lexB .any l.toArray=true)
    (h:gH P N l.toArray l σ (fun es σ'=>iM l.toArray (es.map jg.toks)=true∧Q .normal σ')):fj P N nL (.region id l.toArray true) Q σ:=by
  intro rd hp w0 W0 L μ a w hL hs
  exact gH.zK (hp.imp (fun h=>h) fun h=>by simpa[dO] using h) hm hB h hs fun σ' hq μ' a' w' hs'=>⟨μ',σ',hq,hs'⟩
end
theorem Fw {ops:Array Oper}{ts:List (List Nat×List Nat)}(h:(Bb ops ts||iM ops ts)=true):iM ops ts=true:=by
  rcases kg _ _▸h with h|h
  · unfold Bb at h
    unfold iM
    rw[List.all_eq_true] at h ⊢
    intro j hj
    have h1:=h j hj
    rw[List.all_eq_true] at h1 ⊢
    intro i hi
    have h2:=h1 i hi
    rw[kg] at h2
    rcases h2 with h2|h2
    · have h3:jj ops 4 j i=true:=by
        cases ho:ops[j]? with
        |none=>rw[ho] at h2;cases h2
        | some o=>
          rw[ho] at h2
          simp only[jj,ho]
          rw[Array.any_eq_true] at h2 ⊢
          obtain⟨k,hk,h4⟩:=h2
          refine⟨k,hk,?_⟩
          rw[bO] at h4 ⊢
          exact⟨h4.1,by rw[h4.2];rfl⟩
      rw[h3];simp
    ·rw[h2];rfl
  ·exact h
@[reducible] def kO (N : Nat) : Option Nat → Bool
  |none=>true
  |some d=>Nat.ble (Nat.add d 1) N
theorem yy {N:Nat}{d:Option Nat}(h:kO N d=true):cZ N d=true:=by
  cases d with
  |none=>rfl
  |some d=>simp only[kO] at h;simp only[cZ,bE];exact cC h
@[reducible] def pq (l : List Nat) (k : Nat) : Bool :=
  match l with
  |[]=>false
  | x::r=>match Nat.beq x k with
    |true=>true
    |false=>pq r k
@[reducible] def PL : Bool → Bool → Bool
  |true,true=>true
  |false,false=>true
  |_,_=>false
theorem Eu {a b:Bool}:PL a b=(a==b):=by cases a<;>cases b<;>rfl
@[reducible] def qf (dr : Bool) (acc : Tk) (rd : List Nat) (ups : ML) : Tk :=
  match dr with
  |true=>ee acc [(rd,eC Prod.fst ups)]
  |false=>acc
def bQ (acc:Tk)(sl:SL)(m:ML){A:Tk→SL→ML→Prop}:Prop:=A acc sl m
@[reducible] def mX (rest : List Oper) (acc : Tk) (sl : SL) (m : ML) (F : Tk → SL → ML → Prop) : Prop :=
  match Nat.beq (Nat.mod (fg rest) 4) 3 with
  |true=>bQ acc sl m (A:=F)
  |false=>F acc sl m
theorem xS {rest:List Oper}{acc:Tk}{sl:SL}{m:ML}{F:Tk→SL→ML→Prop}(h:mX rest acc sl m F):F acc sl m:=by
  unfold mX at h
  split at h<;>exact h
section
variable (P : Program) (N : Nat) (Γ : ct) (ds : List (Option Nat)) (dr : Bool)
@[reducible] def wpOps : List Oper → List Nat → Tk → SL → ML → (Tk → SL → ML → Prop) → Prop
  |[],_,acc,sl,m,K=>K acc sl m
  | o :: rest, gs, acc,sl,m,K=>match kO N o.dst with
    |false=>False
    | true => match o.guard with
      |none=>wpOp P N Γ o acc sl m (fun rd x ups acc sl m=>mX rest (qf dr acc rd ups) (pushB o.dst x sl) (wC ups m) (fun acc sl m=>wpOps rest gs acc sl m K))
      | some (j, b)=>match gN ds j with
        | some (some d)=>match Nat.ble (Nat.add d 1) N with
          |false=>False
          | true =>match uQ sl d with
            | .lit (.bool c)=>match pq gs j with
              | true=>match PL c b with
                |true=>wpOp P N Γ o acc sl m (fun rd x ups acc sl m=>mX rest (qf dr acc rd ups) (pushB o.dst x sl) (wC ups m) (fun acc sl m=>wpOps rest gs acc sl m K))
                |false=>mX rest (qf dr acc [] []) (pushB o.dst (.lit (.tuple #[])) sl) m (fun acc sl m=>wpOps rest gs acc sl m K)
              | false=>bq c acc sl m
                (A :=fun acc sl m=>match b with
                  |true=>wpOp P N Γ o acc (qv d (.lit (.bool true)) sl) m (fun rd x ups acc sl m=>mX rest (qf dr acc rd ups) (pushB o.dst x sl) (wC ups m) (fun acc sl m=>wpOps rest (j::gs) acc sl m K))
                  |false=>mX rest (qf dr acc [] []) (pushB o.dst (.lit (.tuple #[])) (qv d (.lit (.bool true)) sl)) m (fun acc sl m=>wpOps rest (j::gs) acc sl m K))
                (B :=fun acc sl m=>match b with
                  |false=>wpOp P N Γ o acc (qv d (.lit (.bool false)) sl) m (fun rd x ups acc sl m=>mX rest (qf dr acc rd ups) (pushB o.dst x sl) (wC ups m) (fun acc sl m=>wpOps rest (j::gs) acc sl m K))
                  |true=>mX rest (qf dr acc [] []) (pushB o.dst (.lit (.tuple #[])) (qv d (.lit (.bool false)) sl)) m (fun acc sl m=>wpOps rest (j::gs) acc sl m K))
            |.lit (.tuple _)=>mX rest (qf dr acc [] []) (pushB o.dst (.lit (.tuple #[])) sl) m (fun acc sl m=>wpOps rest gs acc sl m K)
            |_=>False
        |_=>False
end
def aI (P:Program){l:List Oper}(acc:Tk)(sl:SL)(m:ML){A:SL→ML→Prop}:Prop:=
  P.follows .mixedOrders=true∧Region.lexB .any l.toArray=true∧(Bb l.toArray acc||iM l.toArray acc)=true∧A sl m
def bP (sl:SL)(m:ML){A:SL→ML→Prop}:Prop:=A sl m
def kZ (p q:Prop)(sl:SL)(m:ML){A B:SL→ML→Prop}:Prop:=(p→A sl m)∧(q→B sl m)
def N0 (Q:Exit→SL→ML→Prop):Exit→aA→Prop:=fun e σ=> ∃sl m,σ=St sl m∧Q e sl m
def bW (P:Program)(N nL:Nat)(sl:SL)(m:ML){c:Code}{Q:Exit→SL→ML→Prop}:Prop:=fj P N nL c (N0 Q) (St sl m)
section
variable (P : Program) (N nL : Nat) (Γ : ct)
@[reducible] def vL : Code → SL → ML → (Exit → SL → ML → Prop) → Prop
  |.skip,sl,m,Q=>Q .normal sl m
  | .region _ ops dr,sl,m,Q=>wpOps P N Γ (eC Oper.dst ops.toList) dr ops.toList [] [] sl m (fun acc sl m=>match dr with
    |false=>Q .normal sl m
    |true=>aI P (l:=ops.toList) acc sl m (A:=Q .normal))
  | .seq a b,sl,m,Q=>vL a sl m (fun e sl m=>match e with
    |.normal=>bP sl m (A:=fun sl m=>vL b sl m Q)
    |e=>Q e sl m)
  | .cond x a b,sl,m,Q=>match fH sl x with
    |.lit (.bool c)=>bq c [] sl m (A:=fun _ sl m=>vL a sl m Q) (B:=fun _ sl m=>vL b sl m Q)
    |.guess p q=>kZ p q sl m (A:=fun sl m=>vL a sl m Q) (B:=fun sl m=>vL b sl m Q)
    |_=>False
  | .block id c,sl,m,Q=>vL c sl m (fun e sl m=>match e with
    | .exit j=>match Nat.beq j id with
      |true=>Q .normal sl m
      |false=>Q (.exit j) sl m
    |e=>Q e sl m)
  |.exit i,sl,m,Q=>Q (.exit i) sl m
  |.ret,sl,m,Q=>Q .ret sl m
  |.label _,sl,m,Q=>Q .normal sl m
  |c,sl,m,Q=>bW P N nL sl m (c:=c) (Q:=Q)
end
section
variable {P : Program} {N nL : Nat} {Γ : ct} {ds : List (Option Nat)} {dr : Bool} {ops : Array Oper}
theorem Au {sl:SL}{m:ML}{d:Nat}{x:AV}(h:uQ sl d=x):St (qv d x sl) m=St sl m:=by
  unfold St
  congr 1
  funext i
  rw[ox]
  simp only[cB]
  by_cases hi:i=d
  ·subst hi;simp[←h,iq]
  · have:(i==d)=false:=by simpa using hi
    rw[this];rfl
def KA (dr:Bool)(acc:Tk)(K:Tk→SL→ML→Prop):List jg→aA→Prop:=fun es σ'=> ∃sl m,σ'=St sl m∧K (if dr then acc++es.map jg.toks else acc) sl m
theorem uq (hΓ:Γ.Good P)(hds:∀j:Nat,(ops[j]?).bind (·.dst)=(ds[j]?).bind id):∀ (l:List Oper) (gs:List Nat) (acc:Tk) (sl:SL) (m:ML) (K:Tk→SL→ML→Prop),wpOps P N Γ ds dr l gs acc sl m K→
    gH P N ops l (St sl m) (KA dr acc K)
  | [],gs,acc,sl,m,K,h=>by
    simp only[gH,KA,List.map_nil,List.append_nil,ite_self]
    exact⟨sl,m,rfl,h⟩
  | o :: rest, gs,acc,sl,m,K,h=>by
    unfold wpOps at h
    split at h
    ·exact h.elim
    rename_i hd0
    have hd:=yy hd0
    have toks:∀ (rd:List Nat) (x:AV) (ups:ML) (w:Bool) (sl1:SL) (es:List jg),(if dr then qf dr acc rd ups++es.map jg.toks else qf dr acc rd ups)=(if dr then acc++ (jg.mk o w (St sl1 m) rd x ups::es).map jg.toks else acc):=by
      intro rd x ups w sl1 es
      cases dr with
      |true=>simp[qf,iG,eO,jg.toks]
      |false=>simp[qf]
    have go:∀ (sl:SL) (gs:List Nat),gA N ops o (St sl m) true→wpOp P N Γ o acc sl m (fun rd x ups acc sl m=>mX rest (qf dr acc rd ups) (pushB o.dst x sl) (wC ups m) (fun acc sl m=>wpOps P N Γ ds dr rest gs acc sl m K))→
        gH P N ops (o::rest) (St sl m) (KA dr acc K):=by
      intro sl gs hw h
      obtain⟨rd,x,ups,h1,h2⟩:=KL hΓ hd h
      refine⟨⟨o,true,St sl m,rd,x,ups⟩,rfl,rfl,⟨hw,aJ hd,fun _=>h1,fun h=>by cases h⟩,?_⟩
      have:=uq hΓ hds rest _ _ _ _ _ (xS h2)
      rw[show aA.app (St sl m) ⟨o,true,St sl m,rd,x,ups⟩=St (pushB o.dst x sl) (wC ups m) from(uZ sl m ups o.dst x).trans (tZ _ _ _ _ _)]
      unfold KA at this ⊢
      simp only[toks rd x ups true sl] at this
      exact this
    have skip:∀ (sl:SL) (gs:List Nat),gA N ops o (St sl m) false→mX rest (qf dr acc [] []) (pushB o.dst (.lit (.tuple #[])) sl) m (fun acc sl m=>wpOps P N Γ ds dr rest gs acc sl m K)→gH P N ops (o::rest) (St sl m) (KA dr acc K):=by
      intro sl gs hw h
      refine⟨⟨o,false,St sl m,[],.lit undef,[]⟩,rfl,rfl,⟨hw,aJ hd,(fun h=>by cases h),fun _=>⟨rfl,rfl⟩⟩,?_⟩
      have:=uq hΓ hds rest _ _ _ _ _ (xS h)
      rw[show aA.app (St sl m) ⟨o,false,St sl m,[],.lit undef,[]⟩=St (pushB o.dst (.lit (.tuple #[])) sl) m from(uZ sl m [] o.dst _).trans (tZ _ _ _ _ _)]
      unfold KA at this ⊢
      simp only[toks [] (.lit (.tuple #[])) [] false sl] at this
      exact this
    split at h
    · rename_i hg
      exact go sl gs (by simp[gA,hg]) h
    · rename_i j b hg
      split at h
      · rename_i d hj
        rw[fO] at hj
        split at h
        ·exact h.elim
        · rename_i hN
          have hdN:d<N:=cC hN
          split at h
          · rename_i c hc
            have hw:∀c',c=c'→∀sl',uQ sl' d=.lit (.bool c')→gA N ops o (St sl' m) (c'==b):=by
              intro c' _ sl' hl
              simp only[gA,hg]
              exact⟨d,.bool c',by rw[hds,hj];rfl,hdN,by show cB sl' d=_;rw[←iq];exact hl,rfl⟩
            have hput:∀x,uQ (qv d x sl) d=x:=fun x=>by rw[iq,ox];simp[cB]
            split at h
            · split at h
              · rename_i he
                rw[Eu] at he
                exact go sl gs (by have:=hw c rfl sl hc;rwa [he] at this) h
              · rename_i he
                rw[Eu] at he
                exact skip sl gs (by have:=hw c rfl sl hc;rwa [he] at this) h
            · cases c with
              | true=>
                have h:=h.1 rfl
                rw[←Au (m:=m) hc]
                cases b with
                |true=>exact go _ _ (hw true rfl _ (hput _)) h
                |false=>exact skip _ _ (hw true rfl _ (hput _)) h
              | false=>
                have h:=h.2 rfl
                rw[←Au (m:=m) hc]
                cases b with
                |true=>exact skip _ _ (hw false rfl _ (hput _)) h
                |false=>exact go _ _ (hw false rfl _ (hput _)) h
          · rename_i vs hc
            refine skip sl gs ?_ h
            simp only[gA,hg]
            exact⟨d,.tuple vs,by rw[hds,hj];rfl,hdN,by show cB sl d=_;rw[←iq];exact hc,rfl⟩
          ·exact h.elim
      ·exact h.elim
theorem gH.post {l:List Oper}:∀ {σ:aA} {K K':List jg→aA→Prop},(∀es σ',K es σ'→K' es σ')→gH P N ops l σ K→gH P N ops l σ K':=by
  induction l with
  |nil=>intro σ K K' hk h;exact hk _ _ h
  | cons o rest ih=>
    intro σ K K' hk h
    obtain⟨e,h1,h2,h3,h4⟩:=h
    exact⟨e,h1,h2,h3,ih (fun es σ' h=>hk _ _ h) h4⟩
theorem nP (hΓ:Γ.Good P):∀ (c:Code) (sl:SL) (m:ML) (Q:Exit→SL→ML→Prop),vL P N nL Γ c sl m Q→fj P N nL c (N0 Q) (St sl m):=by
  have reg:∀ (id:Nat) (ops:Array Oper) (dr:Bool) (sl:SL) (m:ML) (Q:Exit→SL→ML→Prop),vL P N nL Γ (.region id ops dr) sl m Q→fj P N nL (.region id ops dr) (N0 Q) (St sl m):=by
    intro id ops dr sl m Q h
    unfold vL at h
    have h1:=uq (ops:=ops) hΓ (fun j=>by simp[eO,fI,Option.bind_map]) ops.toList [] [] sl m _ h
    obtain⟨l⟩:=ops
    cases dr with
    | false=>
      refine fj.region (gH.post ?_ h1)
      rintro es σ' ⟨sl',m',rfl,hk⟩
      exact⟨sl',m',rfl,hk⟩
    | true=>
      have hh:gH P N l.toArray l (St sl m) (fun es σ'=>P.follows .mixedOrders=true∧Region.lexB .any l.toArray=true∧iM l.toArray (es.map jg.toks)=true∧N0 Q .normal σ'):=by
        refine gH.post ?_ h1
        rintro es σ' ⟨sl',m',rfl,k1,k2,k3,k4⟩
        exact⟨k1,k2,Fw (by simpa using k3),sl',m',rfl,k4⟩
      obtain⟨es,σ',⟨k1,k2,_,_⟩,_⟩:=hh.trace
      exact fj.zK k1 k2 (gH.post (fun es σ' h=>⟨h.2.2.1,h.2.2.2⟩) hh)
  intro c
  induction c with
  |skip=>intro sl m Q h;exact fj.skip ⟨sl,m,rfl,h⟩
  |region id ops dr=>intro sl m Q h;exact reg id ops dr sl m Q h
  | seq a b iha ihb=>
    intro sl m Q h
    refine fj.seq ((iha sl m _ h).mono ?_)
    rintro e σ ⟨sl',m',rfl,h'⟩
    cases e with
    |normal=>exact ihb sl' m' Q h'
    |_=>exact⟨sl',m',rfl,h'⟩
  | cond x a b iha ihb=>
    intro sl m Q h
    unfold vL at h
    split at h
    · rename_i c hc
      exact fj.cond (by rw[ev_eq];exact hc) (fun hb=>iha sl m Q (h.1 hb)) (fun hb=>ihb sl m Q (h.2 hb))
    · rename_i p q hc
      exact fj.FM (by rw[ev_eq];exact hc) (fun hb=>iha sl m Q (h.1 hb)) (fun hb=>ihb sl m Q (h.2 hb))
    ·exact h.elim
  | block id c ih=>
    intro sl m Q h
    refine fj.block ((ih sl m _ h).mono ?_)
    rintro e σ ⟨sl',m',rfl,h'⟩
    cases e with
    | exit j=>
      simp only at h'
      simp only[qd]
      split at h'
      ·rename_i hj;rw[if_pos (beq_eq hj)];exact⟨sl',m',rfl,h'⟩
      · rename_i hj
        rw[if_neg (fun e=>by rw[e,Nat.beq_refl] at hj;cases hj)]
        exact⟨sl',m',rfl,h'⟩
    |_=>exact⟨sl',m',rfl,h'⟩
  |exit i=>intro sl m Q h;exact fj.exit ⟨sl,m,rfl,h⟩
  |ret=>intro sl m Q h;exact fj.ret ⟨sl,m,rfl,h⟩
  |label l=>intro sl m Q h;exact fj.label ⟨sl,m,rfl,h⟩
  |_=>intros;assumption
end
@[reducible] def o8 : List (Nat × Nat) → Nat → Option Nat
  |[],_=>none
  | (k,x)::r,i=>match Nat.beq i k with
    |true=>some x
    |false=>o8 r i
def ij (tab:List (Nat×Nat))(t:Nat):Nat:=(o8 tab t).getD t
def dD (R:AV→AV→Prop)(a b:List AV):Prop:=a.length=b.length∧∀ (i:Nat) (x y:AV),a[i]? =some x→b[i]? =some y→R x y
def zm (m:ML)(fz:Nat→Bool)(R:AV→AV→Prop)(r:AV)(t off len:Nat):Prop:=
  ∃wd rows ro rows',eG m t=.live wd rows ro∧fz t=true∧r=.sl wd rows'∧off+len≤rows.length∧bu rows'=true∧dD R rows' ((rows.drop off).take len)
def NQ (m:ML)(fz:Nat→Bool)(R:AV→AV→Prop)(r:AV)(t i k:Nat):Prop:=
  ∃wd rows ro x y,eG m t=.live wd rows ro∧fz t=true∧r=.fptr x k∧rows[i]? =some y∧bD x=true∧R x y
def Nv (m:ML)(fz:Nat→Bool)(r:AV)(t:Nat):Prop:=
  ∃wd rows ro,eG m t=.live wd rows ro∧fz t=true∧r=.fmap rows∧∀x∈rows,∃key y,x=entry key y∧bD y=true
def kx (r:AV):Prop:=r=.lit (.slice none 0 0)∨r=.emp∨∃wd,r=.sl wd []
def Ni (r:AV):Prop:=r=.emp∨∃wd,r=.sl wd []
@[reducible] def yY (f : AV → AV → Prop) : List AV → List AV → Prop
  |[],[]=>True
  |r::rs,x::xs=>f r x∧yY f rs xs
  |_,_=>False
@[reducible] def MF (tab : List (Nat × Nat)) (fz : Nat → Bool) (m : ML) : Nat → AV → AV → Prop
  |0,r,x=>r=x∧bD x=true
  | n + 1, r,x=>match x with
    | .own t off len=>match r with
      | .own t' off' len'=>match o8 tab t' with
        | some u=>match Nat.beq u t with
          |true=>off'=off∧len'=len
          |false=>False
        |none=>False
      |r=>zm m fz (MF tab fz m n) r t off len
    | .ptr t i k=>match r with
      | .ptr t' i' k'=>match o8 tab t' with
        | some u=>match Nat.beq u t with
          |true=>i'=i∧k'=k
          |false=>False
        |none=>False
      |r=>NQ m fz (MF tab fz m n) r t i k
    | .mapr t=>match r with
      | .mapr t'=>match o8 tab t' with
        | some u=>match Nat.beq u t with
          |true=>True
          |false=>False
        |none=>False
      |r=>Nv m fz r t
    | .agg cs=>match r with
      |.agg rs=>yY (MF tab fz m n) rs cs
      |r=>r=x∧bD x=true
    | .tup cs=>match r with
      |.tup rs=>yY (MF tab fz m n) rs cs
      |r=>r=x∧bD x=true
    | .clo f a b=>match r with
      |.clo f' a' b'=>f'=f∧yY (MF tab fz m n) a' a∧yY (MF tab fz m n) b' b
      |r=>r=x∧bD x=true
    | .lit (.slice ad a c)=>match oD (.slice ad a c) with
      |true=>kx r
      |false=>r=x∧bD x=true
    | .lit (.int k b)=>match r with
      | .lit (.int k' a)=>match Nat.beq (so k') (so k) with
        |true=>a=b
        |false=>False
      |r=>r=x
    | .lit (.bool b)=>match r with
      |.lit (.bool a)=>a=b
      |r=>r=x
    | .lit (.string b)=>match r with
      |.lit (.string a)=>a=b
      |r=>r=x
    | .sl wd rows=>match r with
      | .sl wd' rows'=>match tg wd' wd with
        |true=>rows'=rows
        |false=>False
      |r=>r=x
    |.emp=>Ni r
    |x=>r=x∧bD x=true
section
variable {tab : List (Nat × Nat)} {fz : Nat → Bool} {m : ML} {D F : Nat → Prop}
theorem jV {R:AV→AV→Prop}{mm:Nat→MS}{ρ:Nat→Nat}:∀ {rs xs:List AV},(∀r x,R r x→Cv mm ρ D F r x)→yY R rs xs→ig mm ρ D F rs xs
  |[],[],_,_=>.nil
  |_::_,_::_,hR,h=>.cons (hR _ _ h.1) (jV hR h.2)
  |[],_::_,_,h=>h.elim
  |_::_,[],_,h=>h.elim
theorem Ev {R:AV→AV→Prop}:∀ {rs xs:List AV},yY R rs xs→rs.length=xs.length
  |[],[],_=>rfl
  |_::_,_::_,h=>by simp[Ev h.2]
  |[],_::_,h=>h.elim
  |_::_,[],h=>h.elim
theorem kx.one {r:AV}(h:kx r):cells r=[r]:=by
  rcases h with rfl|rfl|⟨wd,rfl⟩<;>rfl
theorem Ni.one {r:AV}(h:Ni r):cells r=[r]:=by
  rcases h with rfl|⟨wd,rfl⟩<;>rfl
theorem zc:∀ {n:Nat} {r x:AV},MF tab fz m n r x→(cells r).length=(cells x).length
  |0,r,x,h=>by rw[h.1]
  | n +1,r,x,h=>by
    unfold MF at h
    split at h
    · split at h
      ·rfl
      ·obtain⟨wd,rows,ro,rows',_,_,rfl,_⟩:=h;rfl
    · split at h
      ·rfl
      ·obtain⟨wd,rows,ro,a,b,_,_,rfl,_⟩:=h;rfl
    · split at h
      ·rfl
      ·obtain⟨wd,rows,ro,_,_,rfl,_⟩:=h;rfl
    · split at h
      ·exact Ev h
      ·rw[h.1]
    · split at h
      ·rfl
      ·rw[h.1]
    · split at h
      ·rfl
      ·rw[h.1]
    · split at h
      ·rw[h.one];rfl
      ·rw[h.1]
    · split at h
      ·rfl
      ·rw[h]
    · split at h
      ·rfl
      ·rw[h]
    · split at h
      ·rfl
      ·rw[h]
    · split at h
      ·rfl
      ·rw[h]
    ·rw[h.one];rfl
    ·rw[h.1]
theorem dB {t:Nat}{s:MS}(h:eG m t=s):aX m t=s:=by rw[←iw];exact h
theorem lq (hw:∀t wd rows ro,eG m t=.live wd rows ro→fz t=true→bJ wd rows)(hD:∀t u,o8 tab t=some u→D t)(hF:∀t wd rows ro,eG m t=.live wd rows ro→fz t=true→F t):
    ∀ (n:Nat) (r x:AV),MF tab fz m n r x→Cv (aX m) (ij tab) D F r x
  |0,r,x,h=>by rw[h.1];exact .same h.2
  | n + 1, r,x,h=>by
    have ih:=lq hw hD hF n
    unfold MF at h
    split at h
    · split at h
      · split at h
        · rename_i t off len _ t' off' len' _ u hu
          split at h
          · rename_i hb
            have hb':=beq_eq hb
            subst hb'
            obtain⟨rfl,rfl⟩:=h
            have:ij tab t'=u:=by simp[ij,hu]
            rw[←this]
            exact .own (hD _ _ hu)
          ·exact h.elim
        ·exact h.elim
      · obtain⟨wd,rows,ro,rows',h1,h2,rfl,h4,h5,h6⟩:=h
        have hwr:=hw _ _ _ _ h1 h2
        have hcl:ig (aX m) (ij tab) D F rows' ((rows.drop _).take _):=⟨h6.1,fun q c d a b=>ih _ _ (h6.2 q c d a b)⟩
        refine .Gz (hF _ _ _ _ h1 h2) (dB h1) ?_ hwr h4 hcl h5
        intro i y hy
        have hi:=(bj hy).1
        rw[h6.1] at hi
        have hz:=bA hi
        rw[zc (h6.2 i _ _ hy hz)]
        exact hwr.mem (List.mem_of_mem_drop (List.mem_of_mem_take (bV hz)))
    · split at h
      · split at h
        · rename_i t i k _ t' i' k' _ u hu
          split at h
          · rename_i hb
            have hb':=beq_eq hb
            subst hb'
            obtain⟨rfl,rfl⟩:=h
            have:ij tab t'=u:=by simp[ij,hu]
            rw[←this]
            exact .ptr (hD _ _ hu)
          ·exact h.elim
        ·exact h.elim
      · obtain⟨wd,rows,ro,a,b,h1,h2,rfl,h4,h5,h6⟩:=h
        have hwr:=hw _ _ _ _ h1 h2
        have hlen:=zc h6
        have hc:=(ih _ _ h6).cells hlen
        exact .frzp (hF _ _ _ _ h1 h2) (dB h1) h4 (by rw[hlen];exact hwr _ _ h4) (fun q c d h1 h2=>hc.2 q c d h1 h2) (fun c hc=>nU h5 hc)
    · split at h
      · split at h
        · rename_i t _ t' _ u hu
          split at h
          · rename_i hb
            have hb':=beq_eq hb
            subst hb'
            have:ij tab t'=u:=by simp[ij,hu]
            rw[←this]
            exact .mapr (hD _ _ hu)
          ·exact h.elim
        ·exact h.elim
      · obtain⟨wd,rows,ro,h1,h2,rfl,h4⟩:=h
        refine .fmap (hF _ _ _ _ h1 h2) (dB h1) rfl (fun i r' hr=>?_) (fun i key key' x' x k1 k2=>?_) (fun r hr=>?_)
        · obtain⟨key,y,rfl,_⟩:=h4 r' (bV hr)
          exact⟨key,y,y,rfl,hr⟩
        · rw[k1] at k2
          have k3:=Option.some.inj k2
          simp only[entry,AV.agg.injEq,List.cons.injEq,AV.tup.injEq,and_true] at k3
          obtain⟨key2,y2,k4,k5⟩:=h4 _ (bV k1)
          simp only[entry,AV.agg.injEq,List.cons.injEq,AV.tup.injEq,and_true] at k4
          rw[←k3.2,k4.2];exact .same k5
        · obtain⟨key,y,rfl,h5⟩:=h4 r hr
          simp[entry,bD,bu,h5]
    · split at h
      ·exact .uM (jV ih h)
      ·rw[h.1];exact .same h.2
    · split at h
      ·exact .uE (jV ih h)
      ·rw[h.1];exact .same h.2
    · split at h
      · obtain⟨rfl,h1,h2⟩:=h
        exact .MD (jV ih h1) (jV ih h2)
      ·rw[h.1];exact .same h.2
    · split at h
      · rename_i hn
        have hn':=fP hn
        cases hn'
        rcases h with rfl|rfl|⟨wd,rfl⟩
        ·exact .same rfl
        ·exact .nilE
        ·exact .nil
      ·rw[h.1];exact .same h.2
    · split at h
      · split at h
        · rename_i hk
          rw[h,yZ hk];exact .same rfl
        ·exact h.elim
      ·rw[h];exact .same rfl
    · split at h
      ·rw[h];exact .same rfl
      ·rw[h];exact .same rfl
    · split at h
      ·rw[h];exact .same rfl
      ·rw[h];exact .same rfl
    · split at h
      · split at h
        · rename_i hb
          rw[eD] at hb;rw[h,beq_eq hb];exact .same rfl
        ·exact h.elim
      ·rw[h];exact .same rfl
    · rcases h with rfl|⟨wd,rfl⟩
      ·exact .same rfl
      ·exact .empS
    ·rw[h.1];exact .same h.2
theorem jy:∀ (n:Nat) (x:AV),bD x=true→MF tab fz m n x x
  |0,x,h=>⟨rfl,h⟩
  | n + 1,x,h=>by
    have list:∀cs:List AV,bu cs=true→yY (MF tab fz m n) cs cs:=by
      intro cs
      induction cs with
      |nil=>intro _;trivial
      | cons c cs ih=>
        intro hh
        simp only[bu,bO] at hh
        exact⟨jy n c hh.1,ih hh.2⟩
    cases x with
    |own=>simp[bD] at h
    |ptr=>simp[bD] at h
    |mapr=>simp[bD] at h
    |agg cs=>exact list cs (by simpa only[bD] using h)
    |tup cs=>exact list cs (by simpa only[bD] using h)
    | clo f a b=>
      simp only[bD,bO] at h
      exact⟨rfl,list a h.1,list b h.2⟩
    | sl wd rows=>
      show(match tg wd wd with|true=>rows=rows|false=>False)
      rw[eD,Nat.beq_refl]
    |emp=>exact .inl rfl
    | lit v=>
      cases v with
      | int k b=>
        show(match Nat.beq (so k) (so k) with|true=>b=b|false=>False)
        rw[Nat.beq_refl]
      |bool b=>rfl
      |string b=>rfl
      | slice ad a c=>
        show(match oD (.slice ad a c) with|true=>kx _|false=>_=_∧_)
        split
        ·rename_i hn;exact .inl (by rw[fP hn])
        ·exact⟨rfl,rfl⟩
      |_=>exact⟨rfl,rfl⟩
    |_=>exact⟨rfl,h⟩
theorem dD.refl {n:Nat}{rows:List AV}(h:bu rows=true):dD (MF tab fz m n) rows rows:=
  ⟨rfl,fun i x y hx hy=>by rw[hx] at hy;cases hy;exact jy n x (c7.1 h x (bV hx))⟩
end
def tu (R:AV→AV→Prop)(rows' rows:List AV):Prop:=dD R rows' rows∧bu rows'=true
@[reducible] def M7 (t : Nat) : Bool := Nat.beq (Nat.mod t 10) 4
@[reducible] def PE : Bool → Bool → Bool
  |false,true=>false
  |_,_=>true
@[reducible] def Fi (tab : List (Nat × Nat)) (fz : Nat → Bool) (m : ML) (t' : Nat) : MS → Prop
  | .live wd' rows' ro'=>match o8 tab t' with
    | some u =>match eG m u with
      | .live wd rows ro=>match tg wd' wd,PE ro' ro with
        | true,true=>match yp t' with
          |true=>yY (MF tab fz m 12) rows' rows
          | false=>match M7 t' with
            |true=>dD (MF tab fz m 12) rows' rows
            |false=>tu (MF tab fz m 12) rows' rows
        |_,_=>False
      |_=>False
    |none=>False
  | .dead=>match o8 tab t' with
    | some u=>match eG m u with
      |.free=>False
      |_=>True
    |none=>False
  |.free=>False
@[reducible] def qV (tab : List (Nat × Nat)) (fz : Nat → Bool) (m : ML) : ML → Prop
  |[]=>True
  |(t,s)::r=>Fi tab fz m t s∧qV tab fz m r
@[reducible] def Li (tab : List (Nat × Nat)) (fz : Nat → Bool) (m : ML) (sl : SL) : SL → Prop
  |[]=>True
  |(d,x)::r=>MF tab fz m 12 x (uQ sl d)∧Li tab fz m sl r
section
variable (m' m : ML)
@[reducible] def BQ (f : AV → AV → List (Nat × Nat)) : List AV → List AV → List (Nat × Nat)
  |x::xs,y::ys=>ee (f x y) (BQ f xs ys)
  |_,_=>[]
@[reducible] def eV : Nat → AV → AV → List (Nat × Nat)
  |0,_,_=>[]
  | n + 1,x',x=>match x',x with
    |.own t' _ _,.own t _ _=>[(t',t)]
    | .ptr t' _ _,.ptr t _ _=>(t',t)::(match yp t' with
      | true=>match eG m' t',eG m t with
        |.live _ rows' _,.live _ rows _=>BQ (eV n) rows' rows
        |_,_=>[]
      |false=>[])
    |.mapr t',.mapr t=>[(t',t)]
    |.agg cs',.agg cs=>BQ (eV n) cs' cs
    |.tup cs',.tup cs=>BQ (eV n) cs' cs
    |.clo _ a' b',.clo _ a b=>ee (BQ (eV n) a' a) (BQ (eV n) b' b)
    |_,_=>[]
@[reducible] def iY (sl : SL) : SL → List (Nat × Nat)
  |[]=>[]
  |(d,x)::r=>ee (eV m' m 4 x (uQ sl d)) (iY sl r)
end
@[reducible] def dh (ps : List (Nat × Nat)) : ML → List (Nat × Nat)
  |[]=>[]
  | (k,_)::r=>match o8 ps k with
    |some u=>(k,u)::dh ps r
    |none=>(k,k)::dh ps r
@[reducible] def mG : List (Nat × Nat) → Bool
  |[]=>true
  | (k,u)::r=>match pq (eC Prod.snd r) u,pq (eC Prod.fst r) k with
    |false,false=>mG r
    |_,_=>false
@[reducible] def ir (m' : ML) : List (Nat × Nat) → List (Nat × Nat)
  |[]=>[]
  | (k,u)::r=>match eG m' k with
    |.live _ _ _=>(k,u)::ir m' r
    |_=>ir m' r
@[reducible] def oO (m : ML) (tab : List (Nat × Nat)) : Nat → Bool
  |0=>true
  | k + 1=>match eG m k with
    |.free=>oO m tab k
    | _ =>match o8 tab k with
      | some u=>match Nat.beq u k with
        |true=>oO m tab k
        |false=>false
      |none=>false
@[reducible] def j9 (tab : List (Nat × Nat)) (t : Nat) : Bool := match pq (eC Prod.snd tab) t with
  |true=>false
  |false=>true
@[reducible] def Fit (nL : Nat) (sl : SL) (m : ML) (sl' : SL) (m' : ML) : Prop :=
  (mG (ir m' (dh (iY m' m sl sl') m'))=true∧oO m (dh (iY m' m sl sl') m') nL=true)∧
    Li (dh (iY m' m sl sl') m') (j9 (dh (iY m' m sl sl') m')) m sl sl'∧qV (dh (iY m' m sl sl') m') (j9 (dh (iY m' m sl sl') m')) m m'
theorem ej:∀ {l:List Nat} {k:Nat},pq l k=true↔k∈l
  |[],k=>by simp[pq]
  | x :: r,k=>by
    simp only[pq,dP]
    split
    ·rename_i h;simp[beq_eq h]
    · rename_i h
      rw[ej (l:=r)]
      constructor
      ·exact .inr
      · rintro(rfl|h')
        ·rw[Nat.beq_refl] at h;cases h
        ·exact h'
theorem iT:∀ {l:List (Nat×Nat)} {i u:Nat},o8 l i=some u→(i,u)∈l
  |[],i,u,h=>by cases h
  | p::r,i,u,h=>by
    simp only[o8] at h
    split at h
    ·rename_i hb;cases h;rw[beq_eq hb];simp
    ·exact dQ _ (iT h)
theorem vW:∀ {l:List (Nat×Nat)},mG l=true→∀ {i j u:Nat},(i,u)∈l→(j,u)∈l→i=j
  |[],_,i,j,u,h,_=>by simp at h
  | p :: r,hn,i,j,u,h1,h2=>by
    simp only[mG] at hn
    split at hn
    · rename_i g1 g2
      have no:∀k,(k,p.2)∉r:=fun k hk=>by
        have:pq (eC Prod.snd r) p.2=true:=by rw[eO,ej];exact List.mem_map.2 ⟨_,hk,rfl⟩
        rw[this] at g1;cases g1
      rcases dP.1 h1 with h1|h1
      · rcases dP.1 h2 with h2|h2
        ·rw[←h1] at h2;cases h2;rfl
        ·rw[←h1] at no;exact absurd h2 (no j)
      · rcases dP.1 h2 with h2|h2
        ·rw[←h2] at no;exact absurd h1 (no i)
        ·exact vW hn h1 h2
    ·cases hn
theorem nw {m':ML}:∀ {l:List (Nat×Nat)} {i u:Nat} {wd:Nat} {rows:List AV} {ro:Bool},(i,u)∈l→aX m' i=.live wd rows ro→(i,u)∈ir m' l
  | p ::r,i,u,wd,rows,ro,h,hl=>by
    rcases dP.1 h with h|h
    · subst h
      have e:eG m' i=.live wd rows ro:=by rw[iw];exact hl
      simp only[ir,e]
      exact eS
    · have ih:=nw h hl
      simp only[ir]
      split
      ·exact dQ _ ih
      ·exact ih
theorem gQ {ps:List (Nat×Nat)}:∀ {m':ML} {i u:Nat},(i,u)∈dh ps m'→i∈m'.map (·.1)
  |[],i,u,h=>by simp at h
  | (k,s)::r,i,u,h=>by
    simp only[dh] at h
    split at h
    · rcases dP.1 h with h|h
      ·cases h;simp
      ·simp[gQ h]
    · rcases dP.1 h with h|h
      ·cases h;simp
      ·simp[gQ h]
theorem gD {tab:List (Nat×Nat)}{fz:Nat→Bool}{m:ML}:∀ {m':ML},qV tab fz m m'→∀t,aX m' t=.free∧t∉m'.map (·.1)∨(Fi tab fz m t (aX m' t)∧t∈m'.map (·.1))
  |[],_,t=>.inl ⟨rfl,by simp⟩
  | (d,s)::r,h,t=>by
    simp only[aX]
    by_cases hi:t=d
    ·subst hi;simp;exact h.1
    · have h':(t==d)=false:=by simpa using hi
      rw[h']
      rcases gD h.2 t with⟨a,b⟩|⟨a,b⟩
      ·exact .inl ⟨a,by simp[hi];simpa using b⟩
      ·exact .inr ⟨a,by simp;exact .inr (by simpa using b)⟩
theorem si {tab:List (Nat×Nat)}{fz:Nat→Bool}{m:ML}{sl:SL}:∀ {sl':SL},Li tab fz m sl sl'→∀d,cB sl' d=.any∨MF tab fz m 12 (cB sl' d) (uQ sl d)
  |[],_,d=>.inl rfl
  | (e,x)::r,h,d=>by
    simp only[cB]
    by_cases hi:d=e
    ·subst hi;simp;exact .inr h.1
    · have h':(d==e)=false:=by simpa using hi
      rw[h'];exact si h.2 d
section
variable {P : Program} {tab : List (Nat × Nat)} {fz : Nat → Bool} {m m' : ML} {N nL : Nat} {w0 : World} {W0 : Nat → Prop} {L μ : Mu} {sl : SL} {a : Act} {w : World}
theorem um (hs:cz P N w0 W0 L μ (St sl m) a w):∀t wd rows ro,eG m t=.live wd rows ro→bJ wd rows:=by
  intro t wd rows ro h
  obtain⟨B,_,h2⟩:=hs.objs t wd rows ro (dB h)
  exact h2.wide
theorem qV.rP (hs:cz P N w0 W0 L μ (St sl m) a w)(hn:mG (ir m' tab)=true)(hl:oO m tab nL=true)(hk:∀i u,(i,u)∈tab→i∈m'.map (·.1))(hfz:∀t,fz t=true→j9 tab t=true)(h:qV tab fz m m')(sl':Nat→AV)
    (hsl:∀i,Cv (aX m) (ij tab) (fun t=>aX m' t≠ .free) (fun t=>(∃wd rows ro,eG m t=.live wd rows ro)∧fz t=true) (sl' i) (cB sl i)):
    lT nL (ij tab) (fun t=>(∃wd rows ro,eG m t=.live wd rows ro)∧fz t=true) ⟨sl',aX m'⟩ (St sl m):=by
  have hD:∀t u,o8 tab t=some u→aX m' t≠ .free:=by
    intro t u ht e
    rcases gD h t with⟨_,b⟩|⟨b,_⟩
    ·exact b (hk _ _ (iT ht))
    ·rw[e] at b;exact b
  have hcv:∀n r x,MF tab fz m n r x→Cv (aX m) (ij tab) (fun t=>aX m' t≠ .free) (fun t=>(∃wd rows ro,eG m t=.live wd rows ro)∧fz t=true) r x:=
    lq (fun t wd rows ro h _=>um hs t wd rows ro h) hD (fun t wd rows ro h1 h2=>⟨⟨wd,rows,ro,h1⟩,h2⟩)
  have tabd:∀t,aX m' t≠ .free→∃u,o8 tab t=some u∧ij tab t=u:=by
    intro t ht
    rcases gD h t with⟨b,_⟩|⟨b,_⟩
    ·exact absurd b ht
    · revert b
      cases hs':aX m' t with
      |free=>exact fun b=>b.elim
      | dead=>
        intro b
        simp only[Fi] at b
        split at b
        ·rename_i u hu;exact⟨u,hu,by simp[ij,hu]⟩
        ·exact b.elim
      | live wd rows ro=>
        intro b
        simp only[Fi] at b
        split at b
        ·rename_i u hu;exact⟨u,hu,by simp[ij,hu]⟩
        ·exact b.elim
  refine⟨hsl,fun t=>?_,fun t t' wd rows wd' rows' ro' h1 h2 h3=>?_,fun s hsF=>⟨?_,?_⟩,fun t ht hne=>?_⟩
  · show aX m' t =.free∨_
    rcases gD h t with⟨b,_⟩|⟨b,_⟩
    ·exact .inl b
    · right
      show(aX m' t=.dead∧aX m (ij tab t)≠ .free)∨_
      revert b
      cases hs':aX m' t with
      |free=>exact fun b=>b.elim
      | dead=>
        intro b
        simp only[Fi] at b
        split at b
        · rename_i u hu
          have hr:ij tab t=u:=by simp[ij,hu]
          rw[hr]
          refine .inl ⟨rfl,fun e=>?_⟩
          rw[iw,e] at b;exact b
        ·exact b.elim
      | live wd' rows' ro'=>
        intro b
        simp only[Fi] at b
        split at b
        · rename_i u hu
          have hr:ij tab t=u:=by simp[ij,hu]
          split at b
          · rename_i wd rows ro hm
            have hwr:=um hs _ _ _ _ hm
            split at b
            · rename_i g1 g2
              have g1':=beq_eq (by rw[←eD];exact g1)
              subst g1'
              have hcl:ig (aX m) (ij tab) (fun t=>aX m' t≠ .free) (fun t=>(∃wd rows ro,eG m t=.live wd rows ro)∧fz t=true) rows' rows∧bJ wd' rows':=by
                split at b
                · refine⟨jV (fun r x hrx=>hcv 12 r x hrx) b,?_⟩
                  clear hs' hm
                  induction rows' generalizing rows with
                  |nil=>exact .nil _
                  | cons r rs ih=>
                    cases rows with
                    |nil=>exact b.elim
                    |cons y ys=>exact .cons (by rw[zc b.1];exact hwr.tail.1) (ih _ hwr.tail.2 b.2)
                · have b:dD (MF tab fz m 12) rows' rows:=by
                    split at b
                    ·exact b
                    ·exact b.1
                  refine⟨⟨b.1,fun q c d h1 h2=>hcv 12 _ _ (b.2 q c d h1 h2)⟩,fun i y hy=>?_⟩
                  have hi:=(bj hy).1
                  rw[b.1] at hi
                  have hz:=bA hi
                  rw[zc (b.2 i _ _ hy hz)]
                  exact hwr.mem (bV hz)
              refine .inr ⟨wd',rows',rows,ro',ro,hs',?_,?_,hcl.2,hcl.1⟩
              ·rw[hr];exact dB hm
              · intro hro
                subst hro
                cases ro with
                |false=>rfl
                |true=>cases g2
            ·exact b.elim
          ·exact b.elim
        ·exact b.elim
  · obtain⟨u,a1,a2⟩:=tabd t (fun e=>by have g:aX m' t=.live wd rows false:=h1;rw[e] at g;cases g)
    obtain⟨u',b1,b2⟩:=tabd t' (fun e=>by have g:aX m' t'=.live wd' rows' ro':=h2;rw[e] at g;cases g)
    have:u=u':=by rw[←a2,←b2,h3]
    subst this
    exact vW hn (nw (iT a1) h1) (nw (iT b1) h2)
  · obtain⟨⟨wd,rows,ro,h1⟩,_⟩:=hsF
    exact⟨wd,rows,ro,dB h1⟩
  · intro t wd rows ht e
    have hne:aX m' t≠ .free:=by intro e';have:aX m' t=.live wd rows false:=ht;rw[e'] at this;cases this
    obtain⟨u,a1,a2⟩:=tabd t hne
    have h5:=hfz s hsF.2
    have:pq (eC Prod.snd tab) s=true:=by
      rw[eO,ej,List.mem_map]
      exact⟨(t,u),iT a1,by rw[←e,a2]⟩
    simp only[j9,this] at h5
    cases h5
  · have key : ∀k,oO m tab k=true→∀t,t<k→aX m t≠ .free→o8 tab t=some t:=by
      intro k
      induction k with
      |zero=>intro _ t ht;omega
      | succ k ih=>
        intro hk t ht hne
        simp only[oO] at hk
        split at hk
        · rename_i hm
          rcases Nat.lt_succ_iff_lt_or_eq.1 ht with h'|rfl
          ·exact ih hk t h' hne
          ·exact absurd (dB hm) hne
        · split at hk
          · rename_i u hu
            split at hk
            · rename_i hb
              rcases Nat.lt_succ_iff_lt_or_eq.1 ht with h'|rfl
              ·exact ih hk t h' hne
              ·rw[hu,beq_eq hb]
            ·cases hk
          ·cases hk
    have h5:=key nL hl t ht hne
    exact⟨by simp[ij,h5],hD _ _ h5⟩
end
theorem Fit.wB {P:Program}{nL:Nat}{sl sl':SL}{m m':ML}(h:Fit nL sl m sl' m'):iH P nL (St sl m) (St sl' m'):=by
  intro N w0 W0 L μ a w hL hs
  obtain⟨⟨h1,h2⟩,h3,h4⟩:=h
  have hk:∀i u,(i,u)∈dh (iY m' m sl sl') m'→i∈m'.map (·.1):=fun i u h=>gQ h
  have hD:∀t u,o8 (dh (iY m' m sl sl') m') t=some u→aX m' t≠ .free:=by
    intro t u ht e
    rcases gD h4 t with⟨_,b⟩|⟨b,_⟩
    ·exact b (hk _ _ (iT ht))
    ·rw[e] at b;exact b
  have hw:=qV.rP hs h1 h2 hk (fun t h=>h) h4 (cB sl') (fun i=>by
    rcases si h3 i with h|h
    ·rw[h];exact .any
    · rw[←iq sl]
      exact lq (fun t wd rows ro h _=>um hs t wd rows ro h) hD (fun t wd rows ro h1 h2=>⟨⟨wd,rows,ro,h1⟩,h2⟩) 12 _ _ h)
  obtain⟨μ',hs',_⟩:=hw.GF hL hs (.inl ⟨rfl,rfl⟩)
  exact⟨μ',hs'⟩
end Go.Am
section
namespace Go.Am
open Go
@[reducible] def Hl (Γ : ct) (sl : SL) (m : ML) : ResultVar → Option AV
  |.tmp t=>some (uQ sl t)
  | .cell a t=>match uQ sl a with
    | .ptr tk i k=>match eG m tk with
      | .live _ rows _=>match gN rows i with
        |some r=>qn (lK Γ t) r k
        |none=>none
      |_=>none
    |_=>none
@[reducible] def EI (Γ : ct) (sl : SL) (m : ML) : List ResultVar → Option (List AV)
  |[]=>some []
  | rv::r=>match Hl Γ sl m rv,EI Γ sl m r with
    |some x,some xs=>some (x::xs)
    |_,_=>none
@[reducible] def GL : List AV → AV
  |[x]=>x
  |xs=>.tup xs
@[reducible] def bk : Nat → List MS → ML
  |_,[]=>[]
  |k,x::r=>(k,x)::bk (Nat.add k 1) r
@[reducible] def zW : Nat → List AV → SL
  |_,[]=>[]
  |k,x::r=>(k,x)::zW (Nat.add k 1) r
theorem lG:∀ (l:List MS) (k:Nat),bk k l=qD k l
  |[],_=>rfl
  |x::r,k=>by simp only[bk,qD];rw[lG r]
theorem uN:∀ (l:List AV) (k:Nat),zW k l=sL k l
  |[],_=>rfl
  |x::r,k=>by simp only[zW,sL];rw[uN r]
theorem dX (l:List MS):aX (qD 0 l)=aH l:=by
  funext t;rw[vP];simp[aH]
@[reducible] def MG (nL : Nat) (x : AV) (m : ML) (outs : List MS) (res : AV) : Prop :=
  (mG (ir (bk 0 outs) (dh (eV (bk 0 outs) m 6 res x) (bk 0 outs)))=true∧oO m (dh (eV (bk 0 outs) m 6 res x) (bk 0 outs)) nL=true)∧
    MF (dh (eV (bk 0 outs) m 6 res x) (bk 0 outs)) (j9 (dh (eV (bk 0 outs) m 6 res x) (bk 0 outs))) m 12 res x∧
    qV (dh (eV (bk 0 outs) m 6 res x) (bk 0 outs)) (j9 (dh (eV (bk 0 outs) m 6 res x) (bk 0 outs))) m (bk 0 outs)
@[reducible] def oC : List ResultVar → AV → List AV
  |[_],x=>[x]
  | _,x=>match x with
    |.tup xs=>xs
    |_=>[]
@[reducible] def gY (outs : List MS) : List ResultVar → List AV → SL → ML → SL × ML
  |[],_,sl,m=>(sl,m)
  | rv :: rvs,rs,sl,m=>match rs with
    |[]=>(sl,m)
    | r :: rs=>match rv with
      | .tmp d=>match r with
        | .own t _ _=>match uQ sl d with
          | .lit v=>match oD v,eG m (Nat.add 1000003 t),gN outs t with
            |true,.free,some (.live wd _ _)=>gY outs rvs rs (qv d (.own (Nat.add 1000003 t) 0 0) sl) (jU (Nat.add 1000003 t) (.live wd [] false) m)
            |_,_,_=>gY outs rvs rs sl m
          | .emp=>match eG m (Nat.add 1000003 t),gN outs t with
            |.free,some (.live wd _ _)=>gY outs rvs rs (qv d (.own (Nat.add 1000003 t) 0 0) sl) (jU (Nat.add 1000003 t) (.live wd [] false) m)
            |_,_=>gY outs rvs rs sl m
          |_=>gY outs rvs rs sl m
        |_=>gY outs rvs rs sl m
      |_=>gY outs rvs rs sl m
@[reducible] def JZ (Γ : ct) (nL : Nat) (rvs : List ResultVar) (outs : List MS) (res : AV) : SL × ML → Prop
  | (sl,m)=>match EI Γ sl m rvs with
    |some xs=>MG nL (GL xs) m outs res
    |none=>False
@[reducible] def Pg (Γ : ct) (nL : Nat) (rvs : List ResultVar) (outs : List MS) (res : AV) (e : Exit) (sl : SL) (m : ML) : Prop :=
  match e with
  |.normal=>JZ Γ nL rvs outs res (gY outs rvs (oC rvs res) sl m)
  |.ret=>JZ Γ nL rvs outs res (gY outs rvs (oC rvs res) sl m)
  |_=>False
theorem cz.ghost {P:Program}{N:Nat}{w0:World}{W0:Nat→Prop}{L μ:Mu}{sl:SL}{m:ML}{a:Act}{w:World}(hs:cz P N w0 W0 L μ (St sl m) a w){d t:Nat}(wd:Nat)(hd:uQ sl d=.lit (.slice none 0 0)∨uQ sl d=.emp)(ht:eG m t=.free):
    cz P N w0 W0 L (bz μ t ⟨0,0,wd,true,false⟩) (St (qv d (.own t 0 0) sl) (jU t (.live wd [] false) m)) a w:=by
  have h1:=hs.ou (t:=t) (wd:=wd) (dB ht)
  have hv:∃ad,a.tmps.getD d undef=.slice ad 0 0:=by
    have:=hs.slots d
    have e:(St sl m).slots d=uQ sl d:=by rw[iq];rfl
    rw[e] at this
    generalize a.tmps.getD d undef=v at this
    rcases hd with hd|hd<;>(rw[hd] at this;cases this;exact⟨_,rfl⟩)
  obtain⟨ad,hv⟩:=hv
  have key:cz P N w0 W0 L (bz μ t ⟨0,0,wd,true,false⟩) ((St sl m).yI (some d) (.own t 0 0) [(t,.live wd [] false)]) a w:=by
    refine{h1 with slots:=fun i=>?_}
    simp only[aA.yI,dA]
    by_cases hi:i=d
    · subst hi
      rw[if_pos rfl,hv]
      exact .ownNil (B:=⟨0,0,wd,true,false⟩) (by simp[bz])
    ·rw[if_neg hi];exact h1.slots i
  rw[uZ,tZ] at key
  exact key
theorem rA {P:Program}{outs:List MS}{N:Nat}{w0:World}{W0:Nat→Prop}{L:Mu}{a:Act}{w:World}:∀ (rvs:List ResultVar) (rs:List AV) (sl:SL) (m:ML) (μ:Mu),cz P N w0 W0 L μ (St sl m) a w→∃μ',cz P N w0 W0 L μ' (St (gY outs rvs rs sl m).1 (gY outs rvs rs sl m).2) a w
  |[],rs,sl,m,μ,hs=>⟨μ,by simpa only[gY] using hs⟩
  |rv::rvs,[],sl,m,μ,hs=>⟨μ,by simpa only[gY] using hs⟩
  | rv :: rvs,r::rs,sl,m,μ,hs=>by
    have ih:=rA (P:=P) (outs:=outs) (N:=N) (w0:=w0) (W0:=W0) (L:=L) (a:=a) (w:=w) rvs rs
    unfold gY
    dsimp only
    split
    · split
      · split
        · rename_i hd
          split
          · rename_i hn ht _
            exact ih _ _ _ (hs.ghost _ (.inl (by rw[hd,fP hn])) ht)
          ·exact ih _ _ _ hs
        · rename_i hd
          split
          · rename_i ht _
            exact ih _ _ _ (hs.ghost _ (.inr hd) ht)
          ·exact ih _ _ _ hs
        ·exact ih _ _ _ hs
      ·exact ih _ _ _ hs
    ·exact ih _ _ _ hs
section
variable {P : Program} {Γ : ct} {sl : SL} {m : ML}
theorem zC (hΓ:Γ.Good P):∀ {rvs:List ResultVar} {xs:List AV},EI Γ sl m rvs=some xs→yK P (St sl m) rvs xs
  |[],xs,h=>by cases h;trivial
  | rv :: rvs, xs,h=>by
    simp only[EI] at h
    split at h
    · rename_i x ys h1 h2
      cases h
      refine⟨?_,zC hΓ h2⟩
      cases rv with
      | tmp t=>
        simp only[Hl,Option.some.injEq] at h1
        show cB sl t=x
        rw[←iq];exact h1
      | cell a t=>
        simp only[Hl] at h1
        split at h1
        · rename_i tk i k ha
          split at h1
          · rename_i wd rows ro hm
            split at h1
            · rename_i r hr
              rw[fO] at hr
              exact⟨tk,i,k,wd,rows,ro,r,by show cB sl a=_;rw[←iq];exact ha,dB hm,hr,lN hΓ (by rw[←cE,←nV];exact h1)⟩
            ·cases h1
          ·cases h1
        ·cases h1
    ·cases h
theorem Al (xs:List AV):GL xs=s7 xs:=by
  match xs with
  |[]=>rfl
  |[x]=>rfl
  |x::y::r=>rfl
theorem MG.end {nL:Nat}{x:AV}{outs:List MS}{res:AV}(h:MG nL x m outs res){N:Nat}{w0:World}{W0:Nat→Prop}{L μ:Mu}{a:Act}{w:World}{v:Value}(hL:∀t,nL≤t→t<jD→L t=none)
    (hs:cz P N w0 W0 L μ (St sl m) a w) (hv:cD (Wr W0 μ (aX m)) μ w x v):∃μ',cz P 0 w0 W0 L μ' (bare outs) iA w∧cD (Wr W0 μ' (aH outs)) μ' w res v:=by
  obtain⟨⟨h1,h2⟩,h3,h4⟩:=h
  generalize ht:dh (eV (bk 0 outs) m 6 res x) (bk 0 outs)=tab at h1 h2 h3 h4
  have hk:∀i u,(i,u)∈tab→i∈ (bk 0 outs).map (·.1):=fun i u h=>by rw[←ht] at h;exact gQ h
  have hD:∀t u,o8 tab t=some u→aX (bk 0 outs) t≠ .free:=by
    intro t u ht e
    rcases gD h4 t with⟨_,b⟩|⟨b,_⟩
    ·exact b (hk _ _ (iT ht))
    ·rw[e] at b;exact b
  have hw:=qV.rP hs h1 h2 hk (fun t h=>h) h4 (fun _=>.any) (fun i=>.any)
  have hcv:=lq (fun t wd rows ro h _=>um hs t wd rows ro h) hD (F:=fun t=>(∃wd rows ro,eG m t=.live wd rows ro)∧j9 tab t=true) (fun t wd rows ro h1 h2=>⟨⟨wd,rows,ro,h1⟩,h2⟩) 12 _ _ h3
  obtain⟨μ',hs',hrep⟩:=hw.GF hL hs (N':=0) (a':=iA) (.inr ⟨fun _=>rfl,rfl,rfl⟩)
  have e:aX (bk 0 outs)=aH outs:=by rw[lG,dX]
  rw[e] at hs' hrep hcv
  exact⟨μ',hs',hrep _ _ _ hcv hv⟩
theorem aj.aD {f:FuncId}{fn:Func}{c:Code}{ins outs:List MS}{args:List AV}{res:AV}{N:Nat}{rvs:List ResultVar}(Γ:ct)(hΓ:Γ.Good P)(hf:P.funcs[f]? =some fn)(hb:fn.body=some c)(hN:fn.ntmps=N)(hr:fn.results.toList=rvs)
    (hlen:Nat.ble (fg args) N=true) (h:vL P N (fg ins) Γ c (zW 0 args) (bk 0 ins) (Pg Γ (fg ins) rvs outs res)):aj P f ins args outs res:=by
  subst hN;subst hr
  have hlen:args.length≤fn.ntmps:=by rw[←dj];exact cC hlen
  intro w W0 L vs hL hs hr
  have h:=nP hΓ _ _ _ _ h
  rw[uN,lG,dj] at h
  have hst:(⟨fun i=>args.getD i .any,aH ins⟩:aA)=St (sL 0 args) (qD 0 ins):=by
    unfold St
    congr 1
    ·funext i;rw[pE];simp
    ·exact(dX ins).symm
  have hsim:cz P fn.ntmps w W0 L L ⟨fun i=>args.getD i .any,aH ins⟩ {tmps:=vs.toArray++Array.replicate (fn.ntmps-vs.toArray.size) undef,defers:=[]} w:=by
    refine⟨?_,.nil,hs.os,hs.tape,hs.output,hs.hsize,hs.shp,hs.keep,hs.w0lt,hs.lentμ,hs.free,fun i=>?_,hs.objs,hs.inj,hs.out,hs.tabs⟩
    ·simp[hr.1];omega
    · by_cases hi:i<args.length
      · have h1:args[i]? =some args[i]:=bA hi
        have h2:vs[i]? =some (vs[i]'(by rw[hr.1];exact hi)):=bA _
        have:=hr.2 i _ _ h1 h2
        have hv:(vs.toArray++Array.replicate (fn.ntmps-vs.toArray.size) undef).getD i undef=vs[i]'(by rw[hr.1];exact hi):=by
          rw[Array.getD_eq_getD_getElem?,Array.getElem?_append_left (by simp;rw[hr.1];exact hi)]
          simp[h2]
        simp only[hv,List.getD_eq_getElem?_getD,h1,Option.getD_some]
        exact this
      · simp only[List.getD_eq_getElem?_getD,oF (Nat.le_of_not_lt hi),Option.getD_none]
        exact .any
  rw[hst] at hsim
  refine mO hf hb h (fun t ht=>hL t (by omega)) hsim (fun e σ' ⟨sl,m,_,hend⟩=>?_) ?_
  · cases e with
    |normal=>exact .inl rfl
    |ret=>exact .inr rfl
    |_=>exact hend.elim
  rintro e σ' μ' a' w' ⟨sl,m,rfl,hend⟩ hs' hd
  have key:JZ Γ ins.length fn.results.toList outs res (gY outs fn.results.toList (oC fn.results.toList res) sl m)→∃v,(results fn a'.tmps).run P w'=.ok v w'∧∃v_1 μ',Ending.returned v=.returned v_1∧cz P 0 w W0 L μ' (bare outs) iA w'∧cD (Wr W0 μ' (aH outs)) μ' w' res v_1:=by
    intro hend
    obtain⟨μ2,hs2⟩:=rA (outs:=outs) fn.results.toList (oC fn.results.toList res) sl m μ' hs'
    generalize gY outs fn.results.toList (oC fn.results.toList res) sl m=q at hend hs2
    obtain⟨sl2,m2⟩:=q
    simp only[JZ] at hend
    split at hend
    · rename_i xs hxs
      have hres:=(zC hΓ hxs).get
      obtain⟨v,v1,v2⟩:=nr hs2 hres.1 hres.2
      rw[Al] at hend
      obtain⟨μ'',h1,h2⟩:=hend.end (fun t ht _=>hL t ht) hs2 v2
      exact⟨v,v1,v,μ'',rfl,h1,h2⟩
    ·exact hend.elim
  cases e with
  |normal=>exact key hend
  |ret=>exact key hend
  |_=>exact hend.elim
end
def bZ {ι:Type}(sl:SL)(m:ML){nL:Nat}{S:ι→SL}{M:ι→ML}{I:ι→Prop}{μ:ι→Nat}{i:ι}:Prop:=∃j,I j∧μ j<μ i∧Fit nL sl m (S j) (M j)
theorem bZ.mk {ι:Type}{sl:SL}{m:ML}{nL:Nat}{S:ι→SL}{M:ι→ML}{I:ι→Prop}{μ:ι→Nat}{i:ι}(j:ι)(h1:I j)(h2:μ j<μ i)(h3:Fit nL sl m (S j) (M j)):bZ sl m (nL:=nL) (S:=S) (M:=M) (I:=I) (μ:=μ) (i:=i):=⟨j,h1,h2,h3⟩
@[reducible] def MT {ι : Type} (nL : Nat) (S : ι → SL) (M : ι → ML) (I : ι → Prop) (μ : ι → Nat) (i : ι) (Q : Exit → SL → ML → Prop) (e : Exit) (sl : SL) (m : ML) : Prop :=
  match e with
  |.normal=>bZ sl m (nL:=nL) (S:=S) (M:=M) (I:=I) (μ:=μ) (i:=i)
  |e=>Q e sl m
theorem bW.use {P:Program}{N nL:Nat}{sl:SL}{m:ML}{c:Code}{Q:Exit→SL→ML→Prop}{ι:Type}(Γ:ct)(hΓ:Γ.Good P)(S:ι→SL)(M:ι→ML)(I:ι→Prop)(μ:ι→Nat)(i0:ι)(hI:I i0)(h0:Fit nL sl m (S i0) (M i0))
    (round:∀i,I i→vL P N nL Γ c (S i) (M i) (MT nL S M I μ i Q)):bW P N nL sl m (c:=.loop c) (Q:=Q):=by
  refine fj.LL (C:=fun i=>St (S i) (M i)) I μ i0 hI h0.wB ?_
  intro i hi
  refine(nP hΓ _ _ _ _ (round i hi)).mono ?_
  rintro e σ ⟨sl',m',rfl,h⟩
  cases e with
  | normal=>
    obtain⟨j,h1,h2,h3⟩:=h
    exact⟨j,h1,h2,h3.wB⟩
  |_=>exact⟨sl',m',rfl,h⟩
theorem bW.ghost {P:Program}{N nL:Nat}{sl:SL}{m:ML}{c:Code}{Q:Exit→SL→ML→Prop}(d t wd:Nat)(hd:uQ sl d=.lit (.slice none 0 0))(ht:eG m t=.free)(hc:bW P N nL (qv d (.own t 0 0) sl) (jU t (.live wd [] false) m) (c:=c) (Q:=Q)):
    bW P N nL sl m (c:=c) (Q:=Q):=by
  refine fj.ghost (d:=d) (t:=t) wd (.inl (by show cB sl d=_;rw[←iq];exact hd)) (dB ht) ?_
  rw[uZ,tZ]
  exact hc
section
variable {P : Program} {N : Nat} {o : Oper} {f : FuncId} {args args' : List AV} {acc : Tk} {sl : SL} {m : ML} {R : Rest} {res : AV} {outs : List MS}
@[reducible] def Nn (T : List Nat) (t : Nat) : Bool := pq T t
@[reducible] def yf (T : List Nat) (m : ML) (args' args : List AV) : Prop := yY (MF [] (Nn T) m 12) args' args
theorem yf.cv {T:List Nat}(hw:∀t wd rows ro,eG m t=.live wd rows ro→t∈T→bJ wd rows)(h:yf T m args' args):ig (St sl m).mem id (fun _=>False) (· ∈T) args' args:=by
  have:=jV (D:=fun _=>False) (F:=(· ∈T)) (ρ:=ij []) (mm:=aX m) (fun r x=>lq (fun t wd rows ro h1 h2=>hw t wd rows ro h1 (ej.1 h2)) (fun t u h=>by cases h) (fun t wd rows ro _ h2=>ej.1 h2) 12 r x) h
  exact this
theorem gI (hd:kO N o.dst=true):∀d,o.dst=some d→d<N:=aJ (yy hd)
theorem aG.tT {σ:aA}{rd:List Nat}{x:AV}{ups:ML}(h:(∃ (w0:World) (W0:Nat→Prop) (L μ:Mu) (a:Act) (w:World) (σ2:aA),(∀t∈rd,σ2.mem t=σ.mem t)∧cz P N w0 W0 L μ σ2 a w)→aG P N o σ rd x ups):aG P N o σ rd x ups:=by
  intro σ2 he hr w0 W0 L μ a w K Q hs hK
  exact h ⟨w0,W0,L,μ,a,w,σ2,hr,hs⟩ σ2 he hr w0 W0 L μ a w K Q hs hK
theorem D0 {σ:aA}{T:List Nat}(hσ:σ=St sl m)(h:∃ (w0:World) (W0:Nat→Prop) (L μ:Mu) (a:Act) (w:World) (σ2:aA),(∀t∈T,σ2.mem t=σ.mem t)∧cz P N w0 W0 L μ σ2 a w):∀t wd rows ro,eG m t=.live wd rows ro→t∈T→bJ wd rows:=by
  subst hσ
  obtain⟨w0,W0,L,μ,a,w,σ2,h1,h2⟩:=h
  intro t wd rows ro ht hT
  obtain⟨B,_,h3⟩:=h2.objs t wd rows ro (by rw[h1 t hT,mem_eq];exact ht)
  exact h3.wide
theorem ae.lit (T:List Nat)(hf:aj P f [] args' [] res)(hc:ak P f)(ha:yf T m args' args)(hd:kO N o.dst=true)(hp:kj res=true)(h:R T res [] acc sl m):ae P N f args acc sl m (o:=o) (R:=R):=by
  intro hto
  exact⟨T,res,[],aG.tT fun hs=>aG.Dp T hto hc (ha.cv (D0 rfl hs)) hf hp (gI hd),h⟩
@[reducible] def xO (m : ML) : List Nat → Bool
  |[]=>true
  | t::r=>match eG m t with
    |.live _ _ _=>xO m r
    |_=>false
theorem qM {m:ML}:∀ {T:List Nat},xO m T=true→∀t∈T,∃wd rows ro,aX m t=.live wd rows ro
  |[],_,t,h=>by simp at h
  | u ::r,h,t,ht=>by
    simp only[xO] at h
    split at h
    · rename_i hm
      rcases dP.1 ht with rfl|ht
      ·exact⟨_,_,_,dB hm⟩
      ·exact qM h t ht
    ·cases h
@[reducible] def Nq : MS → MS
  |.live wd rows _=>.live wd rows true
  |s=>s
theorem ae.val (T:List Nat)(hf:aj P f [] args' [] res)(hc:ak P f)(ha:yf T m args' args)(hT:xO m T=true)(hd:kO N o.dst=true)(hp:bD res=true)
    (h:R T res (eC (fun t=>(t,Nq (eG m t))) T) acc sl m):ae P N f args acc sl m (o:=o) (R:=R):=by
  intro hto
  have e:eC (fun t=>(t,Nq (eG m t))) T=T.map fun t=>(t,lU ((St sl m).mem t)):=by
    rw[eO];apply List.map_congr_left;intro t _;rw[mem_eq];rfl
  rw[e] at h
  refine⟨T,res,_,aG.tT fun hs=>?_,h⟩
  have:=aG.G1 (P:=P) (N:=N) (o:=o) (σ:=St sl m) (news:=[]) (x:=res) (base:=0) T hto hc (ha.cv (D0 rfl hs)) (fun t ht=>qM hT t ht) hf (by simp) rfl (by simp) (.same hp) (gI hd)
  simpa using this
@[reducible] def sE : Nat → Nat → AV → AV
  |0,_,x=>x
  | n+1,b,x=>match x with
    |.own t o l=>.own (Nat.add b t) o l
    |.ptr t i k=>.ptr (Nat.add b t) i k
    |.mapr t=>.mapr (Nat.add b t)
    |.agg cs=>.agg (eC (sE n b) cs)
    |.tup cs=>.tup (eC (sE n b) cs)
    |x=>x
@[reducible] def zT : Nat → Nat → AV → Bool
  |0,_,x=>bD x
  | n+1,k,x=>match x with
    |.own t _ _=>Nat.ble (Nat.add t 1) k
    |.ptr t _ _=>Nat.ble (Nat.add t 1) k
    |.mapr t=>Nat.ble (Nat.add t 1) k
    |.agg cs=>jm (zT n k) cs
    |.tup cs=>jm (zT n k) cs
    |x=>bD x
theorem wL {mm:Nat→MS}{F:Nat→Prop}{b k:Nat}:∀ (n:Nat) (x:AV),zT n k x=true→Cv mm (· -b) (fun t=>b≤t∧t-b<k) F (sE n b x) x
  |0,x,h=>.same h
  | n + 1,x,h=>by
    have list:∀cs:List AV,jm (zT n k) cs=true→ig mm (· -b) (fun t=>b≤t∧t-b<k) F (eC (sE n b) cs) cs:=by
      intro cs
      induction cs with
      |nil=>intro _;exact .nil
      | cons c cs ih=>
        intro h
        simp only[jm] at h
        split at h
        ·rename_i h1;exact .cons (wL n c h1) (ih h)
        ·cases h
    cases x with
    | own t o l=>
      have ht:t+1≤k:=cC h
      show Cv _ _ _ _ (.own (b+t) o l) _
      have e:t=(b+t)-b:=by omega
      have:=Cv.own (m:=mm) (ρ:=(· -b)) (D:=fun t=>b≤t∧t-b<k) (F:=F) (t:=b+t) (o:=o) (l:=l) ⟨by omega,by omega⟩
      simp only[Nat.add_sub_cancel_left] at this
      exact this
    | ptr t i k'=>
      have ht:t+1≤k:=cC h
      show Cv _ _ _ _ (.ptr (b+t) i k') _
      have:=Cv.ptr (m:=mm) (ρ:=(· -b)) (D:=fun t=>b≤t∧t-b<k) (F:=F) (t:=b+t) (i:=i) (k:=k') ⟨by omega,by omega⟩
      simp only[Nat.add_sub_cancel_left] at this
      exact this
    | mapr t=>
      have ht:t+1≤k:=cC h
      show Cv _ _ _ _ (.mapr (b+t)) _
      have:=Cv.mapr (m:=mm) (ρ:=(· -b)) (D:=fun t=>b≤t∧t-b<k) (F:=F) (t:=b+t) ⟨by omega,by omega⟩
      simp only[Nat.add_sub_cancel_left] at this
      exact this
    |agg cs=>exact .uM (list cs h)
    |tup cs=>exact .uE (list cs h)
    |_=>exact .same h
@[reducible] def zL (b : Nat) : Nat → List MS → ML
  |_,[]=>[]
  |k,s::r=>(Nat.add b k,s)::zL b (Nat.add k 1) r
theorem xz (b:Nat):∀ (l:List MS) (k:Nat),zL b k l=jI b k l
  |[],_=>rfl
  |s::r,k=>by simp only[zL,jI];rw[xz b r];rfl
@[reducible] def De (m : ML) (b : Nat) : List MS → Nat → Bool
  |[],_=>true
  | _::r,k=>match eG m (Nat.add b k) with
    |.free=>De m b r (Nat.add k 1)
    |_=>false
theorem AD {m:ML}{b:Nat}:∀ {l:List MS} {j:Nat},De m b l j=true→∀k,k<l.length→aX m (b+ (j+k))=.free
  |[],j,_,k,hk=>by simp at hk
  | s :: r,j,h,k,hk=>by
    simp only[De] at h
    split at h
    · rename_i hm
      cases k with
      |zero=>exact dB hm
      | succ k=>
        have:=AD h k (by simpa using hk)
        rw[show b+ (j+ (k+1))=b+ (Nat.add j 1+k) from by show _=b+ (j+1+k);omega]
        exact this
    ·cases h
@[reducible] def yx (b : Nat) : Nat → List MS → List Nat
  |_,[]=>[]
  |k,_::r=>Nat.add b k::yx b (Nat.add k 1) r
theorem xq (b:Nat):∀ (l:List MS) (k:Nat),yx b k l=(List.range' k l.length).map (b+ ·)
  |[],_=>rfl
  |s::r,k=>by simp only[yx,List.length_cons,List.range'_succ,List.map_cons,xq b r];rfl
theorem ae.new (b:Nat)(T:List Nat)(hf:aj P f [] args' outs res)(hc:ak P f)(ha:yf T m args' args)(hT:xO m T=true)(hd:kO N o.dst=true)(hp:zT 12 (fg outs) res=true)(ho:jX outs)(hfree:De m b outs 0=true)
    (h:R (ee T (yx b 0 outs)) (sE 12 b res) (ee (zL b 0 outs) (eC (fun t=>(t,Nq (eG m t))) T)) acc sl m):ae P N f args acc sl m (o:=o) (R:=R):=by
  intro hto
  have e:eC (fun t=>(t,Nq (eG m t))) T=T.map fun t=>(t,lU ((St sl m).mem t)):=by
    rw[eO];apply List.map_congr_left;intro t _;rw[mem_eq];rfl
  rw[e,iG,iG,xq,xz,l6,←List.range_eq_range'] at h
  rw[dj] at hp
  refine⟨_,_,_,aG.tT fun hs=>?_,h⟩
  have hwd:∀t wd rows ro,eG m t=.live wd rows ro→t∈T→bJ wd rows:=by
    obtain⟨w0,W0,L,μ,a,w,σ2,h1,h2⟩:=hs
    exact D0 (sl:=sl) rfl ⟨w0,W0,L,μ,a,w,σ2,fun t ht=>h1 t (by simp[ht]),h2⟩
  refine aG.G1 (P:=P) (N:=N) (o:=o) (σ:=St sl m) (news:=outs) (x:=sE 12 b res) (base:=b) T hto hc (ha.cv hwd) (fun t ht=>qM hT t ht) hf (fun k hk=>by have:=AD hfree k hk;rw[Nat.zero_add] at this;exact this) rfl (fun k s hk=>?_) (wL 12 res hp) (gI hd)
  obtain⟨wd,rows,rfl,h1,h2⟩:=mc ho hk
  exact⟨wd,rows,rows,rfl,hk,h1,.same h2⟩
end
end Go.Am
namespace Go.Am
open Go
theorem bQ.mk {acc:Tk}{sl:SL}{m:ML}{A:Tk→SL→ML→Prop}(h:A acc sl m):bQ acc sl m (A:=A):=h
theorem bP.mk {sl:SL}{m:ML}{A:SL→ML→Prop}(h:A sl m):bP sl m (A:=A):=h
theorem bq.mk {b:Bool}{acc:Tk}{sl:SL}{m:ML}{A B:Tk→SL→ML→Prop}(h1:b=true→A acc sl m)(h2:b=false→B acc sl m):bq b acc sl m (A:=A) (B:=B):=⟨h1,h2⟩
theorem bq.tt {acc:Tk}{sl:SL}{m:ML}{A B:Tk→SL→ML→Prop}(h1:A acc sl m):bq true acc sl m (A:=A) (B:=B):=⟨fun _=>h1,fun h=>by cases h⟩
theorem bq.ff {acc:Tk}{sl:SL}{m:ML}{A B:Tk→SL→ML→Prop}(h1:B acc sl m):bq false acc sl m (A:=A) (B:=B):=⟨(fun h=>by cases h),fun _=>h1⟩
theorem bq.yes {b:Bool}{acc:Tk}{sl:SL}{m:ML}{A B:Tk→SL→ML→Prop}(h:b=true)(h1:A acc sl m):bq b acc sl m (A:=A) (B:=B):=⟨fun _=>h1,fun h'=>by rw[h] at h';cases h'⟩
theorem bq.no {b:Bool}{acc:Tk}{sl:SL}{m:ML}{A B:Tk→SL→ML→Prop}(h:b=false)(h1:B acc sl m):bq b acc sl m (A:=A) (B:=B):=⟨(fun h'=>by rw[h] at h';cases h'),fun _=>h1⟩
theorem kZ.mk {p q:Prop}{sl:SL}{m:ML}{A B:SL→ML→Prop}(h1:p→A sl m)(h2:q→B sl m):kZ p q sl m (A:=A) (B:=B):=⟨h1,h2⟩
theorem bH.mk {p:Prop}{acc:Tk}{sl:SL}{m:ML}{A:Tk→SL→ML→Prop}(h:p)(h1:A acc sl m):bH p acc sl m (A:=A):=⟨h,h1⟩
theorem aN.mk {rows:List AV}{i:Int}{acc:Tk}{sl:SL}{m:ML}{A:AV→Tk→SL→ML→Prop}(k:Nat)(r:AV)(hi:i=k)(hr:rows[k]? =some r)(h:A r acc sl m):aN rows i acc sl m (A:=A):=⟨k,r,hi,hr,h⟩
theorem aN.map {α:Type}{e:α→AV}{l:List α}{i:Int}{acc:Tk}{sl:SL}{m:ML}{A:AV→Tk→SL→ML→Prop}(k:Nat)(x:α)(hi:i=k)(hr:l[k]? =some x)(h:A (e x) acc sl m):aN (l.map e) i acc sl m (A:=A):=⟨k,e x,hi,by rw[fI,hr];rfl,h⟩
theorem eY.mk {i:Int}{n:Nat}{acc:Tk}{sl:SL}{m:ML}{A:Nat→Tk→SL→ML→Prop}(k:Nat)(hi:i=k)(hk:k<n)(h:A k acc sl m):eY i n acc sl m (A:=A):=⟨k,hi,hk,h⟩
theorem bh.mk {rows:List AV}{i:Nat}{acc:Tk}{sl:SL}{m:ML}{A:AV→Tk→SL→ML→Prop}(r:AV)(hr:rows[i]? =some r)(h:A r acc sl m):bh rows i acc sl m (A:=A):=⟨r,hr,h⟩
theorem bh.map {α:Type}{e:α→AV}{l:List α}{i:Nat}{acc:Tk}{sl:SL}{m:ML}{A:AV→Tk→SL→ML→Prop}(x:α)(hr:l[i]? =some x)(h:A (e x) acc sl m):bh (l.map e) i acc sl m (A:=A):=⟨e x,by rw[fI,hr];rfl,h⟩
theorem BN.mk {l h:Int}{len:Nat}{acc:Tk}{sl:SL}{m:ML}{A:Nat→Nat→Tk→SL→ML→Prop}(a n:Nat)(h1:l=a)(h2:h=(a:Int)+n)(h3:a+n≤len)(h4:A a n acc sl m):BN l h len acc sl m (A:=A):=⟨a,n,h1,h2,h3,h4⟩
theorem Bz.mk {l h:Int}{rows:List AV}{acc:Tk}{sl:SL}{m:ML}{A:List AV→Tk→SL→ML→Prop}(a n:Nat)(rows':List AV)(h1:l=a)(h2:h=(a:Int)+n)(h3:a+n≤rows.length)(h4:rows'=(rows.drop a).take n)(h5:A rows' acc sl m):Bz l h rows acc sl m (A:=A):=⟨a,n,rows',h1,h2,h3,h4,h5⟩
theorem dZ.mk {rb rs:List AV}{off len off' len' bytes:Nat}{acc:Tk}{sl:SL}{m:ML}{A:List AV→Tk→SL→ML→Prop}(rows0 news:List AV)(h0:off=0∧len=rb.length∧rows0=rb)(h1:off'=0∧len'=rs.length∧news=rs)(h2:jP (flat news)=true)
    (h3:(rows0.length+news.length)*bytes≤140737488355328) (h4:rows0.length+news.length≤9223372036854775807) (h:A (rows0++news) acc sl m):dZ rb off len rs off' len' bytes acc sl m (A:=A):=by
  obtain⟨rfl,rfl,rfl⟩:=h0
  obtain⟨rfl,rfl,rfl⟩:=h1
  exact⟨_,_,by omega,by simp,by omega,by simp,h2,h3,h4,h⟩
theorem aI.mk {P:Program}{l:List Oper}{acc:Tk}{sl:SL}{m:ML}{A:SL→ML→Prop}(h1:P.follows .mixedOrders=true)(h2:Region.lexB .any l.toArray=true)(h3:(Bb l.toArray acc||iM l.toArray acc)=true)(h4:A sl m):aI P acc sl m (l:=l) (A:=A):=⟨h1,h2,h3,h4⟩
theorem nD {α:Type}(e:α→AV)(h:∀a,jP (cells (e a))=true)(l:List α):jP (flat (l.map e))=true:=by
  induction l with
  |nil=>rfl
  | cons x xs ih=>
    simp only[List.map_cons,fF]
    unfold jP at ih h ⊢
    rw[List.all_append,h x,ih];rfl
theorem zm.cut {m:ML}{fz:Nat→Bool}{tab:List (Nat×Nat)}{n:Nat}{t off len wd:Nat}{rows rows':List AV}{ro:Bool}(h1:eG m t=.live wd rows ro)(h2:fz t=true)(h3:off+len≤rows.length)(h4:rows'=(rows.drop off).take len)(h5:bu rows'=true):zm m fz (MF tab fz m n) (.sl wd rows') t off len:=
  ⟨wd,rows,ro,rows',h1,h2,rfl,h3,h5,by rw[←h4];exact .refl h5⟩
end Go.Am
end
namespace Go.Am
open Go Go.MapKept
set_option linter.unusedSectionVars false
@[reducible] def yl (m : ML) (ym : AV) (rows : List AV) : Prop :=
  match ym with
  |.mapr t=> ∃wd ro,eG m t=.live wd rows ro
  |.fmap rs=>rs=rows
  |_=>False
@[reducible] def xM : AV → List Nat
  |.mapr t=>[t]
  |_=>[]
theorem yl.src {sl:SL}{m:ML}{ym:AV}{rows:List AV}(h:yl m ym rows):l7 (St sl m) ym rows (xM ym):=by
  cases ym with
  |mapr t=>obtain⟨wd,ro,h⟩:=h;exact .own (by rw[mem_eq];exact h)
  |fmap rs=>have h':rs=rows:=h;subst h';exact .frz
  |_=>exact h.elim
@[reducible] def zH (c : Bool) (x : AV) (ok : Bool) : AV := match c with
  |true=>.tup [x,.lit (.bool ok)]
  |false=>x
section
variable {P : Program} {N : Nat} {o : Oper} {t : TypeId} {c : Bool} {ym x r : AV} {key z : Value} {d : TypeDesc} {rows : List AV} {acc : Tk} {sl : SL} {m : ML} {R : Rest}
theorem qW.yes (hT:iX P t d z)(hrows:yl m ym rows)(hk:IsKey d key)(hks:jw d rows)(hr:entry key r∈rows)(hd:kO N o.dst=true)(h:R (xM ym) (zH c r true) [] acc sl m):qW P N t c ym (.lit key) acc sl m (o:=o) (R:=R):=by
  rintro⟨y,x,ho,hy,hx⟩
  obtain⟨i,hi⟩:=List.getElem?_of_mem hr
  refine⟨_,_,_,aG.lookup ho hy hrows.src hx hT hk hks hi (gI hd),?_⟩
  cases c<;>exact h
theorem qW.no (hT:iX P t d z)(hrows:yl m ym rows)(hk:IsKey d key)(hks:jw d rows)(hr:∀r,entry key r∉rows)(hd:kO N o.dst=true){zv:AV}(hz:mY z=zv)(h:R (xM ym) (zH c zv false) [] acc sl m):qW P N t c ym (.lit key) acc sl m (o:=o) (R:=R):=by
  rintro⟨y,x,ho,hy,hx⟩
  subst hz
  refine⟨_,_,_,aG.zQ ho hy hrows.src hx hT hk hks hr (gI hd),?_⟩
  cases c<;>exact h
theorem zn.old {tk wd:Nat}(hT:iX P t d z)(hm:eG m tk=.live wd rows false)(hk:IsKey d key)(hks:jw d rows)(i:Nat)(hr:rows[i]? =some (entry key r))(hd:kO N o.dst=true)(h:R [tk] .any [(tk,.live wd (rows.set i (entry key x)) false)] acc sl m):zn P N t (.mapr tk) (.lit key) x acc sl m (o:=o) (R:=R):=by
  rintro⟨y,xx,v,ho,hy,hx,hv⟩
  exact⟨_,_,_,aG.mapUpdate ho hy (by rw[mem_eq];exact hm) hx hv hT hk hks hr (gI hd),h⟩
theorem zn.new {tk wd:Nat}(hT:iX P t d z)(hm:eG m tk=.live wd rows false)(hk:IsKey d key)(hks:jw d rows)(hr:∀r,entry key r∉rows)(hroom:rows.length+1<maxLen)(hwd:wd=2)(hd:kO N o.dst=true)(h:R [tk] .any [(tk,.live wd (rows++ [entry key x]) false)] acc sl m):zn P N t (.mapr tk) (.lit key) x acc sl m (o:=o) (R:=R):=by
  rintro⟨y,xx,v,ho,hy,hx,hv⟩
  exact⟨_,_,_,aG.qH ho hy (by rw[mem_eq];exact hm) hx hv hT hk hks hr hroom hwd (gI hd),h⟩
theorem rj.mk (hT:iX P t d z)(hrows:yl m ym rows)(hd:kO N o.dst=true)(h:R (xM ym) (.lit (.int .i64 rows.length)) [] acc sl m):rj P N t ym acc sl m (o:=o) (R:=R):=by
  rintro⟨y,ho,hy⟩
  exact⟨_,_,_,aG.Il ho hy hrows.src hT (gI hd),h⟩
end
section
variable {α : Type} {K : Type} [DecidableEq K]
def ja (k:K):List (K×α)→Option α
  |[]=>none
  |p::r=>if p.1=k then some p.2 else ja k r
def j8 (k:K)(x:α):List (K×α)→List (K×α)
  |[]=>[(k,x)]
  |p::r=>if p.1=k then(k,x)::r else p::j8 k x r
theorem qp (k k':K)(x:α):∀l:List (K×α),ja k' (j8 k x l)=if k=k' then some x else ja k' l
  |[]=>by simp[j8,ja]
  | p ::r=>by
    simp only[j8]
    by_cases h:p.1=k
    · rw[if_pos h]
      simp only[ja]
      by_cases hk:k=k'
      ·rw[if_pos hk,if_pos hk]
      ·rw[if_neg hk,if_neg hk,if_neg (by rw[h];exact hk)]
    · rw[if_neg h]
      simp only[ja,qp k k' x r]
      by_cases hk:k=k'
      ·subst hk;rw[if_neg h];simp
      ·simp[hk]
theorem xy {k:K}:∀ {l:List (K×α)},ja k l=none↔k∉l.map (·.1)
  |[]=>by simp[ja]
  | p ::r=>by
    simp only[ja,List.map_cons,dP,not_or]
    by_cases h:p.1=k
    ·simp[h]
    · rw[if_neg h,xy (l:=r)]
      exact⟨fun hh=>⟨fun e=>h e.symm,hh⟩,fun hh=>hh.2⟩
theorem Ad {k:K}{x:α}:∀ {l:List (K×α)},ja k l=some x→(k,x)∈l
  |[],h=>by cases h
  | p::r,h=>by
    simp only[ja] at h
    split at h
    ·rename_i hp;cases h;subst hp;exact eS
    ·exact dQ _ (Ad h)
theorem Dm {k:K}{x:α}(f:K×α→AV):∀ {l:List (K×α)} {y:α},ja k l=some y→∃i,(l.map f)[i]? =some (f (k,y))∧(j8 k x l).map f=(l.map f).set i (f (k,x))
  |[],y,h=>by cases h
  | p ::r,y,h=>by
    simp only[ja] at h
    split at h
    ·rename_i hp;cases h;subst hp;exact⟨0,rfl,by simp[j8]⟩
    · rename_i hp
      obtain⟨i,h1,h2⟩:=Dm (x:=x) f h
      exact⟨i+1,by simpa using h1,by simp[j8,hp,h2]⟩
theorem uO {k:K}{x:α}:∀ {l:List (K×α)},ja k l=none→j8 k x l=l++ [(k,x)]
  |[],_=>rfl
  | p::r,h=>by
    simp only[ja] at h
    split at h
    ·cases h
    ·rename_i hp;simp[j8,hp,uO h]
end
def jd {K α:Type}(kv:K→Value)(e:α→AV)(l:List (K×α)):List AV:=l.map fun p=>entry (kv p.1) (e p.2)
section
variable {P : Program} {N : Nat} {o : Oper} {t : TypeId} {c : Bool} {ym : AV} {z : Value} {d : TypeDesc} {acc : Tk} {sl : SL} {m : ML} {R : Rest} {α : Type} {K : Type} [DecidableEq K] {kv : K → Value} {e : α → AV} {l : List (K × α)} {k : K}
theorem mP (hk:∀k,IsKey d (kv k)):jw d (jd kv e l):=jw.map (fun p:K×α=>kv p.1) (fun p=>e p.2) (fun p=>hk p.1) l
theorem Bj (hinj:∀a b,kv a=kv b→a=b)(h:ja k l=none):∀r,entry (kv k) r∉jd kv e l:=by
  intro r hr
  obtain⟨p,hp,he⟩:=List.mem_map.1 hr
  have:=hinj _ _ (sv he).1
  exact xy.1 h (List.mem_map.2 ⟨p,hp,this⟩)
theorem qW.tab (kv:K→Value)(e:α→AV)(l:List (K×α))(hT:iX P t d z)(hrows:yl m ym (jd kv e l))(hk:∀k,IsKey d (kv k))(hinj:∀a b,kv a=kv b→a=b)(hd:kO N o.dst=true){zv:AV}(hz:mY z=zv)
    (h1:∀x,ja k l=some x→R (xM ym) (zH c (e x) true) [] acc sl m) (h2:ja k l=none→R (xM ym) (zH c zv false) [] acc sl m):qW P N t c ym (.lit (kv k)) acc sl m (o:=o) (R:=R):=by
  cases hg:ja k l with
  |some x=>exact .yes hT hrows (hk k) (mP hk) (List.mem_map.2 ⟨(k,x),Ad hg,rfl⟩) hd (h1 x hg)
  |none=>exact .no hT hrows (hk k) (mP hk) (Bj hinj hg) hd hz (h2 hg)
theorem zn.tab {tk:Nat}(kv:K→Value)(e:α→AV)(l:List (K×α))(x:α)(hT:iX P t d z)(hm:eG m tk=.live 2 (jd kv e l) false)(hk:∀k,IsKey d (kv k))(hinj:∀a b,kv a=kv b→a=b)(hroom:l.length+1<maxLen)(hd:kO N o.dst=true)
    (h:R [tk] .any [(tk,.live 2 (jd kv e (j8 k x l)) false)] acc sl m):zn P N t (.mapr tk) (.lit (kv k)) (e x) acc sl m (o:=o) (R:=R):=by
  cases hg:ja k l with
  | some y=>
    obtain⟨i,h1,h2⟩:=Dm (x:=x) (fun p:K×α=>entry (kv p.1) (e p.2)) hg
    refine .old hT hm (hk k) (mP hk) i h1 hd ?_
    have:(jd kv e l).set i (entry (kv k) (e x))=jd kv e (j8 k x l):=h2.symm
    rw[this];exact h
  | none=>
    refine .new hT hm (hk k) (mP hk) (Bj hinj hg) (by simpa[jd] using hroom) rfl hd ?_
    have:jd kv e l++ [entry (kv k) (e x)]=jd kv e (j8 k x l):=by rw[uO hg];simp[jd]
    rw[this];exact h
end
theorem K5 (s:ByteArray):IsKey .string (.string s):=trivial
theorem yH (n:Int):IsKey (.int .i64) (.int .i64 n):=rfl
theorem Jt (a b:ByteArray)(h:Value.string a=.string b):a=b:=by cases h;rfl
theorem zM (a b:Int)(h:Value.int .i64 a=.int .i64 b):a=b:=by cases h;rfl
end Go.Am
namespace Go.Am
open Go
theorem nf {b:Bool}(h:b=false):(!b)=true:=by rw[h];rfl
theorem nt {b:Bool}(h:b=true):(!b)=false:=by rw[h];rfl
theorem az (n:Nat):(NatCast.natCast n:Int)=(Nat.cast n:Int):=rfl
section
variable {P : Program} {N : Nat} {o : Oper} {f : FuncId} {args args' : List AV} {acc : Tk} {sl : SL} {m : ML} {R : Rest} {res : AV} {ins outs news : List MS}
@[reducible] def tr : Nat → Nat → List Nat → List (Nat × Nat)
  |_,_,[]=>[]
  | n,k,t::r=>match n with
    |0=>[]
    |n+1=>(k,t)::tr n (Nat.add k 1) r
theorem Dn:∀ {n k:Nat} {l:List Nat} {i u:Nat},o8 (tr n k l) i=some u→k≤i∧i-k<n∧l[i-k]? =some u
  |n,k,[],i,u,h=>by rw[tr] at h;cases h
  |0,k,t::r,i,u,h=>by rw[tr] at h;cases h
  | n +1,k,t::r,i,u,h=>by
    simp only[tr,o8] at h
    split at h
    · rename_i hb
      have:=beq_eq hb
      subst this
      cases h
      simp
    · rename_i hb
      obtain⟨a,b,c⟩:=Dn h
      have a':k+1≤i:=a
      have b':i- (k+1)<n:=b
      refine⟨by omega,by omega,?_⟩
      rw[show i-k=(i- (k+1))+1 from by omega,List.getElem?_cons_succ]
      exact c
theorem Cv.OL {mm:Nat→MS}{ρ ρ':Nat→Nat}{D D' F:Nat→Prop}(h:∀t,D t→D' t∧ρ t=ρ' t){x y:AV}(hc:Cv mm ρ D F x y):Cv mm ρ' D' F x y:=by
  induction hc with
  |any=>exact .any
  |same h=>exact .same h
  |own h1=>rw[(h _ h1).2];exact .own (h _ h1).1
  |ptr h1=>rw[(h _ h1).2];exact .ptr (h _ h1).1
  |mapr h1=>rw[(h _ h1).2];exact .mapr (h _ h1).1
  |fmap a b c d e f ih=>exact .fmap a b c d (fun i key key' x' x h1 h2=>ih i key key' x' x h1 h2) f
  |nil=>exact .nil
  |nilE=>exact .nilE
  |empS=>exact .empS
  |frz a b c d e _ g ih=>exact .frz a b c d e (fun q c d h1 h2=>ih q c d h1 h2) g
  |frzp a b c d _ g ih=>exact .frzp a b c d (fun q c d h1 h2=>ih q c d h1 h2) g
  |agg a _ ih=>exact .agg a (fun q c d h1 h2=>ih q c d h1 h2)
  |tup a _ ih=>exact .tup a (fun q c d h1 h2=>ih q c d h1 h2)
  |clo a b _ _ ih1 ih2=>exact .clo a b (fun q c d h1 h2=>ih1 q c d h1 h2) (fun q c d h1 h2=>ih2 q c d h1 h2)
@[reducible] def pD (names : List Nat) : Nat → AV → AV
  |0,x=>x
  | n +1,x=>match x with
    | .own t o l=>match gN names t with
      |some u=>.own u o l
      |none=>.any
    | .ptr t i k=>match gN names t with
      |some u=>.ptr u i k
      |none=>.any
    | .mapr t=>match gN names t with
      |some u=>.mapr u
      |none=>.any
    |.agg cs=>.agg (eC (pD names n) cs)
    |.tup cs=>.tup (eC (pD names n) cs)
    |x=>x
theorem yA {mm:Nat→MS}{F:Nat→Prop}{names:List Nat}(hn:names.Nodup):∀ (n:Nat) (x:AV),zT n (fg names) x=true→Cv mm (names.idxOf ·) (· ∈names) F (pD names n x) x
  |0,x,h=>.same h
  | n + 1,x,h=>by
    have list:∀cs:List AV,jm (zT n (fg names)) cs=true→ig mm (names.idxOf ·) (· ∈names) F (eC (pD names n) cs) cs:=by
      intro cs
      induction cs with
      |nil=>intro _;exact .nil
      | cons c cs ih=>
        intro h
        simp only[jm] at h
        split at h
        ·rename_i h1;exact .cons (yA hn n c h1) (ih h)
        ·cases h
    have tk:∀t,t+1≤fg names→∃u,gN names t=some u∧u∈names∧names.idxOf u=t:=by
      intro t ht
      rw[dj] at ht
      have hg:names[t]? =some (names[t]'ht):=bA _
      exact⟨_,by rw[fO];exact hg,bV hg,rY hn hg⟩
    cases x with
    | own t o l=>
      obtain⟨u,h1,h2,h3⟩:=tk t (cC h)
      simp only[pD,h1]
      have:=Cv.own (m:=mm) (ρ:=(names.idxOf ·)) (D:=(· ∈names)) (F:=F) (t:=u) (o:=o) (l:=l) h2
      rwa [h3] at this
    | ptr t i k'=>
      obtain⟨u,h1,h2,h3⟩:=tk t (cC h)
      simp only[pD,h1]
      have:=Cv.ptr (m:=mm) (ρ:=(names.idxOf ·)) (D:=(· ∈names)) (F:=F) (t:=u) (i:=i) (k:=k') h2
      rwa [h3] at this
    | mapr t=>
      obtain⟨u,h1,h2,h3⟩:=tk t (cC h)
      simp only[pD,h1]
      have:=Cv.mapr (m:=mm) (ρ:=(names.idxOf ·)) (D:=(· ∈names)) (F:=F) (t:=u) h2
      rwa [h3] at this
    |agg cs=>exact .uM (list cs h)
    |tup cs=>exact .uE (list cs h)
    |_=>exact .same h
@[reducible] def oJ : List AV → List AV → Bool
  |[],[]=>true
  | x::xs,y::ys=>match tg (fg (dN x)) (fg (dN y)) with
    |true=>oJ xs ys
    |false=>false
  |_,_=>false
theorem pO {wd:Nat}:∀ {xs ys:List AV},oJ xs ys=true→bJ wd ys→bJ wd xs
  |[],[],_,h=>h
  | x ::xs,y::ys,h,hw=>by
    simp only[oJ] at h
    split at h
    · rename_i h1
      have h1':=beq_eq (by rw[←eD];exact h1)
      rw[dj,dj,fu,fu] at h1'
      have ih:=pO h hw.tail.2
      intro i r hr
      cases i with
      |zero=>simp at hr;subst hr;rw[h1'];exact hw.tail.1
      |succ i=>exact ih i r (by simpa using hr)
    ·cases h
  |[],_::_,h,_=>by simp[oJ] at h
  |_::_,[],h,_=>by simp[oJ] at h
@[reducible] def vi (tab : List (Nat × Nat)) (T : List Nat) (m : ML) (rows0 rows : List AV) : Prop := (rows0 = rows ∧ bu rows = true) ∨ (yY (MF tab (Nn T) m 12) rows0 rows ∧ oJ rows0 rows = true)
@[reducible] def CG (tab : List (Nat × Nat)) (T : List Nat) (m : ML) : List MS → List Nat → Prop
  |[],_=>True
  | s::r,t::q=>match s,eG m t with
    |.live wd rows0 false,.live wd' rows false=>(tg wd wd'=true∧vi tab T m rows0 rows)∧CG tab T m r q
    |_,_=>False
  |_::_,[]=>False
@[reducible] def Dy (m : ML) : List Nat → Bool
  |[]=>true
  | t::r=>match eG m t with
    |.free=>Dy m r
    |_=>false
theorem AO {m:ML}:∀ {l:List Nat},Dy m l=true→∀t∈l,aX m t=.free
  |[],_,t,h=>by simp at h
  | u ::r,h,t,ht=>by
    simp only[Dy] at h
    split at h
    · rename_i hm
      rcases dP.1 ht with rfl|ht
      ·exact dB hm
      ·exact AO h t ht
    ·cases h
@[reducible] def xU : Nat → List Nat → List Nat
  |_,[]=>[]
  | n,x::r=>match n with
    |0=>x::r
    |n+1=>xU n r
theorem Bt:∀ (n:Nat) (l:List Nat),xU n l=l.drop n
  |n,[]=>by rw[xU];simp
  |0,x::r=>by rw[xU];rfl
  |n+1,x::r=>by simp only[xU,List.drop_succ_cons];exact Bt n r
@[reducible] def u5 (names : List Nat) : List MS → List MS → Prop
  |[],[]=>True
  | s::r,s'::r'=>match s,s' with
    |.dead,.dead=>u5 names r r'
    |.live wd rows0 false,.live wd' rows false=>(tg wd' wd=true∧((rows=rows0∧bu rows0=true)∨(rows=eC (pD names 12) rows0∧jm (zT 12 (fg names)) rows0=true∧oJ rows rows0=true)))∧u5 names r r'
    |_,_=>False
  |_,_=>False
@[reducible] def EV : List Nat → List MS → ML
  |t::r,s::q=>(t,s)::EV r q
  |_,_=>[]
theorem Ea:∀ (l:List Nat) (q:List MS),EV l q=l.zip q
  |[],q=>by simp[EV]
  |t::r,[]=>by simp[EV]
  |t::r,s::q=>by simp only[EV,List.zip_cons_cons,Ea r q]
@[reducible] def pA : List Nat → Bool
  |[]=>true
  | t::r=>match pq r t with
    |true=>false
    |false=>pA r
theorem ld:∀ {l:List Nat},pA l=true→l.Nodup
  |[],_=>.nil
  | t ::r,h=>by
    simp only[pA] at h
    split at h
    ·cases h
    · rename_i hm
      refine List.nodup_cons.2 ⟨fun hh=>?_,ld h⟩
      rw[ej.2 hh] at hm;cases hm
@[reducible] def yu (names : List Nat) : List Nat → Bool
  |[]=>true
  | t::r=>match pq names t with
    |true=>false
    |false=>yu names r
theorem yc {names:List Nat}:∀ {l:List Nat},yu names l=true→∀t∈l,t∉names
  |[],_,t,h=>by simp at h
  | u ::r,h,t,ht=>by
    simp only[yu] at h
    split at h
    ·cases h
    · rename_i hm
      rcases dP.1 ht with rfl|ht
      ·intro hh;rw[ej.2 hh] at hm;cases hm
      ·exact yc h t ht
theorem AE {mm:Nat→MS}{F:Nat→Prop}{names:List Nat}(hn:names.Nodup):∀ (cs:List AV),jm (zT 12 (fg names)) cs=true→ig mm (names.idxOf ·) (· ∈names) F (eC (pD names 12) cs) cs
  |[],_=>.nil
  | c::cs,h=>by
    simp only[jm] at h
    split at h
    ·rename_i h1;exact .cons (yA hn 12 c h1) (AE hn cs h)
    ·cases h
theorem vO {mm:Nat→MS}{names:List Nat}(hn:names.Nodup):∀ {outs news:List MS},u5 names outs news→news.length=outs.length∧∀ (k:Nat) (s:MS),news[k]? =some s→
    (∃wd rows rows0,s=.live wd rows false∧outs[k]? =some (.live wd rows0 false)∧(bJ wd rows0→bJ wd rows)∧ig mm (names.idxOf ·) (· ∈names) (fun _=>False) rows rows0)∨(s=.dead∧outs[k]? =some .dead)
  |[],[],_=>⟨rfl,fun k s h=>by simp at h⟩
  |s::r,[],h=>by cases s<;>simp[u5] at h
  |[],_::_,h=>by simp[u5] at h
  | s :: r,s'::r',h=>by
    simp only[u5] at h
    split at h
    · obtain⟨a,b⟩:=vO hn h
      refine⟨by simp[a],fun k s h=>?_⟩
      cases k with
      |zero=>simp at h;subst h;exact .inr ⟨rfl,rfl⟩
      |succ k=>simpa using b k s (by simpa using h)
    · rename_i wd rows0 wd' rows
      obtain⟨⟨hw,hr⟩,h⟩:=h
      have hw':=beq_eq (by rw[←eD];exact hw)
      subst hw'
      obtain⟨a,b⟩:=vO hn h
      refine⟨by simp[a],fun k s h=>?_⟩
      cases k with
      | zero=>
        simp at h;subst h
        refine .inl ⟨_,rows,rows0,rfl,rfl,?_⟩
        rcases hr with⟨rfl,h1⟩|⟨h1,h2,h3⟩
        ·exact⟨id,.same h1⟩
        ·exact⟨pO h3,h1▸AE hn rows0 h2⟩
      |succ k=>simpa using b k s (by simpa using h)
    ·exact h.elim
theorem DV {tab:List (Nat×Nat)}{T:List Nat}{m:ML}{D:Nat→Prop}{ρ:Nat→Nat}(hw:∀t wd rows ro,eG m t=.live wd rows ro→t∈T→bJ wd rows)(hD:∀t u,o8 tab t=some u→D t∧ij tab t=ρ t):
    ∀ {ins:List MS} {names:List Nat},CG tab T m ins names→ins.length≤names.length∧∀ (k:Nat) (s:MS) (t:Nat),ins[k]? =some s→names[k]? =some t→
      ∃wd rows rows0,s=.live wd rows0 false∧aX m t=.live wd rows false∧(bJ wd rows→bJ wd rows0)∧ig (aX m) ρ D (· ∈T) rows0 rows
  |[],names,_=>⟨by simp,fun k s t h=>by simp at h⟩
  |s::r,[],h=>by simp[CG] at h
  | s :: r,t::q,h=>by
    simp only[CG] at h
    split at h
    · rename_i wd rows0 wd' rows hm
      obtain⟨⟨hw1,hr⟩,h⟩:=h
      have hw':=beq_eq (by rw[←eD];exact hw1)
      subst hw'
      obtain⟨a,b⟩:=DV hw hD h
      refine⟨by simpa using a,fun k s t h1 h2=>?_⟩
      cases k with
      | zero=>
        simp at h1 h2;subst h1;subst h2
        refine⟨_,rows,rows0,rfl,dB hm,?_⟩
        rcases hr with⟨rfl,h1⟩|⟨h1,h3⟩
        ·exact⟨id,.same h1⟩
        · refine⟨pO h3,?_⟩
          have:=jV (D:=fun t=> ∃u,o8 tab t=some u) (F:=(· ∈T)) (ρ:=ij tab) (mm:=aX m) (fun r x=>lq (fun t wd rows ro h1 h2=>hw t wd rows ro h1 (ej.1 h2)) (fun t u h=>⟨u,h⟩) (fun t wd rows ro _ h2=>ej.1 h2) 12 r x) h1
          exact⟨this.1,fun q c d e1 e2=>(this.2 q c d e1 e2).OL fun t ⟨u,hu⟩=>hD t u hu⟩
      |succ k=>exact b k s t (by simpa using h1) (by simpa using h2)
    ·exact h.elim
theorem ae.dx (names T:List Nat)(hf:aj P f ins args' outs res)(hc:ak P f)(ha:yY (MF (tr (fg ins) 0 names) (Nn T) m 12) args' args)
    (hi:CG (tr (fg ins) 0 names) T m ins names) (hT:xO m T=true) (hs:(pA names=true∧yu names T=true)∧Dy m (xU (fg ins) names)=true) (hl:fg outs=fg names)
    (hn:u5 names outs news) (hd:kO N o.dst=true) (hp:zT 12 (fg names) res=true)
    (h:R (ee T names) (pD names 12 res) (ee (EV names news) (eC (fun t=>(t,Nq (eG m t))) T)) acc sl m) (hib:Nat.ble (fg ins) jD=true:=by rfl):ae P N f args acc sl m (o:=o) (R:=R):=by
  intro hto
  have e:eC (fun t=>(t,Nq (eG m t))) T=T.map fun t=>(t,lU ((St sl m).mem t)):=by
    rw[eO];apply List.map_congr_left;intro t _;rw[mem_eq];rfl
  rw[e,iG,iG,Ea] at h
  rw[dj] at hi ha hib
  rw[dj,Bt] at hs
  rw[dj,dj] at hl
  have hnd:=ld hs.1.1
  obtain⟨n1,n2⟩:=vO (mm:=aH outs) hnd hn
  refine⟨_,_,_,aG.tT fun hsim=>?_,h⟩
  have hwd:∀t wd rows ro,eG m t=.live wd rows ro→t∈T→bJ wd rows:=by
    obtain⟨w0,W0,L,μ,a,w,σ2,h1,h2⟩:=hsim
    exact D0 (sl:=sl) rfl ⟨w0,W0,L,μ,a,w,σ2,fun t ht=>h1 t (by simp[ht]),h2⟩
  have hD:∀t u,o8 (tr ins.length 0 names) t=some u→t<ins.length∧ij (tr ins.length 0 names) t=names.getD t 0:=by
    intro t u hu
    obtain⟨_,b,c⟩:=Dn hu
    simp only[Nat.sub_zero] at b c
    exact⟨b,by simp[ij,hu,List.getD,c]⟩
  obtain⟨i1,i2⟩:=DV hwd hD hi
  refine aG.dx (P:=P) (N:=N) (o:=o) (σ:=St sl m) names T hto hc ?_ (fun t ht=>qM hT t ht) (yc hs.1.2) hnd (cC hib) i1 (by rw[n1,hl]) i2 (fun k t hk ht=>?_) hf n2 (yA hnd 12 res hp) (gI hd)
  · have:=jV (D:=fun t=> ∃u,o8 (tr ins.length 0 names) t=some u) (F:=(· ∈T)) (ρ:=ij (tr ins.length 0 names)) (mm:=aX m) (fun r x=>lq (fun t wd rows ro h1 h2=>hwd t wd rows ro h1 (ej.1 h2)) (fun t u h=>⟨u,h⟩) (fun t wd rows ro _ h2=>ej.1 h2) 12 r x) ha
    exact⟨this.1,fun q c d e1 e2=>(this.2 q c d e1 e2).OL fun t ⟨u,hu⟩=>hD t u hu⟩
  · refine AO hs.2 t (bV (i:=k-ins.length) ?_)
    rw[List.getElem?_drop,show ins.length+ (k-ins.length)=k from by omega]
    exact ht
end
theorem yg.mk {s:ByteArray}{i:Int}{acc:Tk}{sl:SL}{m:ML}{A:Int→Tk→SL→ML→Prop}(k:Nat)(c:UInt8)(h0:i=k)(h1:s.data.toList[k]? =some c)(h:A c.toNat acc sl m):yg s i acc sl m (A:=A):=⟨k,c,h0,h1,h⟩
theorem Ig.mk {s:ByteArray}{l h:Int}{acc:Tk}{sl:SL}{m:ML}{A:ByteArray→Tk→SL→ML→Prop}(a b:Nat)(h0:l=a)(h1:h=b)(h2:a≤b)(h3:b≤s.size)(hh:A (s.extract a b) acc sl m):Ig s l h acc sl m (A:=A):=⟨a,b,h0,h1,h2,h3,hh⟩
theorem fJ.mk {P:Program}{src dst:TypeId}{v:Value}{acc:Tk}{sl:SL}{m:ML}{A:Value→Tk→SL→ML→Prop}(r:Value)(hr:∀w,(convert src dst v).run P w=.ok r w)(h:A r acc sl m):fJ P src dst v acc sl m (A:=A):=⟨r,hr,h⟩
theorem fJ.int {P:Program}{src dst:TypeId}{k k':IntKind}{n:Int}{acc:Tk}{sl:SL}{m:ML}{A:Value→Tk→SL→ML→Prop}(hs:(P.underlying src).isSome=true)(hd:P.underlying dst=some (.int k'))(hn:k'.wrap n=n)(h:A (.int k' n) acc sl m):fJ P src dst (.int k n) acc sl m (A:=A):=by
  refine⟨_,fun w=>?_,h⟩
  have hk:P.intKind dst=k':=by simp[Program.intKind,hd]
  have:=run_convert_int (P:=P) w src dst k n hs (by rw[hk];exact hd)
  rw[hk,hn] at this
  exact this
theorem BU.mk {P:Program}{src dst:TypeId}{rows:List AV}{off len:Nat}{acc:Tk}{sl:SL}{m:ML}{A:Value→Tk→SL→ML→Prop}(bs:List UInt8){e:TypeId}(h1:P.underlying src=some (.slice e))(h2:P.underlying e=some (.int .u8))(h3:P.underlying dst=some .string)(h4:len=bs.length)(h5:bs≠ [])
    (h6:∀ (i:Nat) (b:UInt8),bs[i]? =some b→(flat rows)[off+i]? =some (.lit (.int .u8 b.toNat))) (h:A (.string ⟨bs.toArray⟩) acc sl m):BU P src dst rows off len acc sl m (A:=A):=⟨bs,e,h1,h2,h3,h4,h5,h6,h⟩
theorem Hu.mk {P:Program}{op:BinOp}{t:TypeId}{us vs:List Value}{acc:Tk}{sl:SL}{m:ML}{A:Bool→Tk→SL→ML→Prop}(b:Bool)(hr:∀ (y z:Operand) (w:World),((do eqGuard op t y z (.agg us.toArray) (.agg vs.toArray);binOp op t (.agg us.toArray) (.agg vs.toArray):Sem Value)).run P w=.ok (.bool b) w)(h:A b acc sl m):Hu P op t us vs acc sl m (A:=A):=⟨b,hr,h⟩
end Go.Am
section
namespace Go.Am
open Go Go.RowKit Go.Lib
variable {P : Program}
theorem wrap_u8 {a:Int}(h:0≤a∧a<256):IntKind.i64.wrap a=a:=IntWalk.i64_in _ (by omega)
theorem aZ.rem {N:Nat}{o:Oper}{acc:Tk}{sl:SL}{m:ML}{R:Rest}{ty:TypeId}{κ:IntKind}{x y:Operand}{a b:Int}(ha:0≤a)(hb:0<b)(ho:o.op=.binOp .rem ty x y ty)(h1:fH sl x=.lit (.int κ a))(h2:fH sl y=.lit (.int κ b))(hd:kO N o.dst=true)(h:R [] (.lit (.int κ (a%b))) [] acc sl m):aZ P N acc sl m (o:=o) (R:=R):=by
  rw[dU] at h1 h2
  refine⟨[],.lit (.int κ (a%b)),[],?_,h⟩
  refine .val (fun σ2 he2 hrd w0 W0 L μ a' w hs=>⟨.int κ (a%b),?_,.lit⟩) (gI hd)
  have k1:=hs.eval x
  have k2:=hs.eval y
  rw[he2 x (by simp[ho,Op.operands]),fR,h1] at k1
  rw[he2 y (by simp[ho,Op.operands]),fR,h2] at k2
  have hx:=k1.val
  have hy:=k2.val
  have hb0:b≠0:=by omega
  simp only[execOp,ho,hx,hy]
  simp only[eqGuard,binOp,Op.intDiv]
  go_simp
  exact Int.tmod_eq_emod_of_nonneg ha
theorem aZ.min {N:Nat}{o:Oper}{acc:Tk}{sl:SL}{m:ML}{R:Rest}{x y:Operand}{ts:Array TypeId}{κ:IntKind}{a b c:Int}(hc:(if b<a then b else a)=c)(ho:o.op=.call {callee:=.builtin .min,args:= #[x,y],argTypes:=ts})(h1:fH sl x=.lit (.int κ a))(h2:fH sl y=.lit (.int κ b))(hd:kO N o.dst=true)(h:R [] (.lit (.int κ c)) [] acc sl m):aZ P N acc sl m (o:=o) (R:=R):=by
  rw[dU] at h1 h2
  refine⟨[],.lit (.int κ c),[],?_,h⟩
  refine .val (fun σ2 he2 hrd w0 W0 L μ a' w hs=>⟨.int κ c,?_,.lit⟩) (gI hd)
  have k1:=hs.eval x
  have k2:=hs.eval y
  rw[he2 x (by simp[ho,Op.operands,Call.operands]),fR,h1] at k1
  rw[he2 y (by simp[ho,Op.operands,Call.operands]),fR,h2] at k2
  have hx:=k1.val
  have hy:=k2.val
  subst hc
  simp[execOp,ho,hx,hy,resolve,invoke,builtin,Builtin.min_,Builtin.min2]
end Go.Am
namespace Go.Am
open Go Go.RowKit Go.Lib
section
variable {P : Program} {N : Nat} {w0 : World} {W0 : Nat → Prop} {L μ : Mu} {σ : aA} {a : Act} {w : World}
theorem zS {m:Nat→MS}{tb wd:Nat}{rows rows':List AV}{ro:Bool}(hm:m tb=.live wd rows ro):Wr W0 μ (br m [(tb,.live wd rows' ro)])=Wr W0 μ m:=by
  have h :iZ μ (br m [(tb,.live wd rows' ro)])=iZ μ m:=by
    funext b
    apply propext
    constructor
    · rintro⟨t,B,wd1,rows1,h1,h2⟩
      by_cases ht:t=tb
      · subst ht
        simp[br] at h1
        obtain⟨rfl,rfl,rfl⟩:=h1
        exact⟨t,B,_,_,hm,h2⟩
      · simp[br,ht] at h1
        exact⟨t,B,_,_,h1,h2⟩
    · rintro⟨t,B,wd1,rows1,h1,h2⟩
      by_cases ht:t=tb
      · subst ht
        rw[hm] at h1
        cases h1
        exact⟨t,B,wd,rows',by simp[br],h2⟩
      ·exact⟨t,B,_,_,by simp[br,ht];exact h1,h2⟩
  unfold Wr
  rw[h]
theorem cz.NA (h:cz P N w0 W0 L μ σ a w){tb wd:Nat}{rows rows':List AV}{ro:Bool}(hm:σ.mem tb=.live wd rows ro)
    (hob:∀B,μ tb=some B→fM (Wr W0 μ σ.mem) μ w B wd rows ro→fM (Wr W0 μ σ.mem) μ w B wd rows' ro):cz P N w0 W0 L μ ⟨σ.slots,br σ.mem [(tb,.live wd rows' ro)]⟩ a w where
  tsize:=h.tsize
  defers:=h.defers
  os:=h.os
  tape:=h.tape
  output:=h.output
  hsize:=h.hsize
  shp:=h.shp
  keep:=h.keep
  w0lt:=h.w0lt
  lentμ:=h.lentμ
  free t:=by
    by_cases ht:t=tb
    ·subst ht;have:=h.free t;rw[hm] at this;simpa[br] using this
    ·simpa[br,ht] using h.free t
  slots i:=by rw[show(⟨σ.slots,br σ.mem [(tb,.live wd rows' ro)]⟩:aA).mem=br σ.mem [(tb,.live wd rows' ro)] from rfl,zS hm];exact h.slots i
  objs t wd1 rows1 ro1 h1:=by
    rw[show(⟨σ.slots,br σ.mem [(tb,.live wd rows' ro)]⟩:aA).mem=br σ.mem [(tb,.live wd rows' ro)] from rfl] at h1 ⊢
    rw[zS hm]
    by_cases ht:t=tb
    · subst ht
      simp[br] at h1
      obtain⟨rfl,rfl,rfl⟩:=h1
      obtain⟨B,h2,h3⟩:=h.objs t _ _ _ hm
      exact⟨B,h2,hob B h2 h3⟩
    · simp[br,ht] at h1
      exact h.objs t _ _ _ h1
  inj t t' wd1 rows1 wd2 rows2 ro2 B B' hne h1 h2 h3 h4:=by
    have key:∀u wd1 rows1 ro1,br σ.mem [(tb,.live wd rows' ro)] u=.live wd1 rows1 ro1→∃wd2 rows2,σ.mem u=.live wd2 rows2 ro1:=by
      intro u wd1 rows1 ro1 hu
      by_cases ht:u=tb
      ·subst ht;simp[br] at hu;exact⟨_,_,by rw[hm,hu.2.2]⟩
      ·simp[br,ht] at hu;exact⟨_,_,hu⟩
    obtain⟨_,_,k1⟩:=key t _ _ _ h1
    obtain⟨_,_,k2⟩:=key t' _ _ _ h2
    exact h.inj t t' _ _ _ _ _ B B' hne k1 k2 h3 h4
  out t wd1 rows1 ro1 B h1:=by
    have h1':br σ.mem [(tb,.live wd rows' ro)] t=.live wd1 rows1 ro1:=h1
    by_cases ht:t=tb
    ·subst ht;simp[br] at h1';exact h.out t _ _ _ B (by rw[hm,h1'.2.2])
    ·simp[br,ht] at h1';exact h.out t _ _ _ B h1'
  tabs:=h.tabs
theorem cz.j4 (h:cz P N w0 W0 L μ σ a w){d0 tb t wd wdt i i0 k0 j:Nat}{rows:List AV}{r r':AV}{ro:Bool}(hp:σ.slots d0=.ptr tb i0 k0)(hm:σ.mem tb=.live wd rows ro)(hr:rows[i]? =some r)(hj:(cells r)[j]? =some (.lit (.slice none 0 0)))
    (hc:cells r'=(cells r).set j (.own t 0 0)) (ht:σ.mem t=.free):
    cz P N w0 W0 L (bz μ t ⟨0,0,wdt,true,false⟩) ⟨σ.slots,br (br σ.mem [(t,.live wdt [] false)]) [(tb,.live wd (rows.set i r') ro)]⟩ a w:=by
  have h1:=h.ou (t:=t) (wd:=wdt) ht
  have hne:tb≠t:=fun e=>by rw[e,ht] at hm;cases hm
  refine h1.NA (σ:=⟨σ.slots,br σ.mem [(t,.live wdt [] false)]⟩) (rows:=rows) (by simp[br,hne];exact hm) fun B hB O=>?_
  have hmp:B.mp=false:=by
    have:=h1.slots d0
    rw[show(⟨σ.slots,br σ.mem [(t,.live wdt [] false)]⟩:aA).slots d0=.ptr tb i0 k0 from hp] at this
    generalize a.tmps.getD d0 undef=v at this
    cases this with
    |ptr a1 ap=>rw[hB] at a1;cases a1;exact ap
  have hlen:(cells r').length=wd:=by rw[hc,List.length_set];exact O.wide i r hr
  exact {
    width:=O.width
    wide:=O.wide.set hlen
    blk:=fun hv hm'=>by rw[List.length_set];exact O.blk hv hm'
    virt:=fun hv=>by rw[O.real hr] at hv;cases hv
    cell :=fun _ q c hq=>by
      obtain⟨i',k,r2,rfl,h2,h3,_⟩:=qK (O.wide.set hlen) hq
      have hil:=(bj hr).1
      by_cases hi:i'=i
      · subst hi
        rw[List.getElem?_set_self hil] at h2
        cases h2
        rw[hc] at h3
        by_cases hk:k=j
        · subst hk
          rw[List.getElem?_set_self (bj hj).1] at h3
          cases h3
          obtain⟨v,e1,e2⟩:=O.cell hmp _ _ (eN O.wide hr hj)
          cases e2
          exact⟨_,e1,.ownNil (B:=⟨0,0,wdt,true,false⟩) (by simp[bz])⟩
        · rw[List.getElem?_set_ne (by omega)] at h3
          exact O.cell hmp _ _ (eN O.wide hr h3)
      · rw[List.getElem?_set_ne (by omega)] at h2
        exact O.cell hmp _ _ (eN O.wide h2 h3)
    vm:=O.vm
    map:=fun hm'=>by rw[hmp] at hm';cases hm'}
end
theorem qA {sl:SL}{m:ML}{t:Nat}{s:MS}:br (St sl m).mem [(t,s)]=(St sl (jU t s m)).mem:=by
  have h1:br (St sl m).mem [(t,s)]=aX ([(t,s)]++m):=by
    have:=congrArg aA.mem (uZ sl m [(t,s)] none .any)
    exact this
  rw[h1]
  funext i
  exact(rU [(t,s)] m i).symm
theorem bW.j4 {P:Program}{N nL:Nat}{sl:SL}{m:ML}{c:Code}{Q:Exit→SL→ML→Prop}(d0 tb t wdt i j:Nat)(r r':AV){i0 k0 wd:Nat}{rows:List AV}{ro:Bool}(hp:uQ sl d0=.ptr tb i0 k0)(hm:eG m tb=.live wd rows ro)(hr:rows[i]? =some r)(hj:(cells r)[j]? =some (.lit (.slice none 0 0)))
    (hcell:cells r'=(cells r).set j (.own t 0 0)) (ht:eG m t=.free) (hc:bW P N nL sl (jU tb (.live wd (rows.set i r') ro) (jU t (.live wdt [] false) m)) (c:=c) (Q:=Q)):bW P N nL sl m (c:=c) (Q:=Q):=by
  intro rd hrd w0 W0 L μ a w hL hs
  have h1:=hs.j4 (d0:=d0) (tb:=tb) (t:=t) (wdt:=wdt) (i:=i) (j:=j) (r:=r) (r':=r') (by show cB sl d0=_;rw[←iq];exact hp) (dB hm) hr hj hcell (dB ht)
  rw[qA,qA] at h1
  exact hc rd hrd w0 W0 L _ a w hL h1
def Bg (P:Program){ι:Type}(sl:SL)(m:ML){nL:Nat}{S:ι→SL}{M:ι→ML}{I:ι→Prop}{μ:ι→Nat}{i:ι}:Prop:=∃j,I j∧μ j<μ i∧iH P nL (St sl m) (St (S j) (M j))
theorem Bg.mk {P:Program}{ι:Type}{sl:SL}{m:ML}{nL:Nat}{S:ι→SL}{M:ι→ML}{I:ι→Prop}{μ:ι→Nat}{i:ι}(j:ι)(h1:I j)(h2:μ j<μ i)(h3:Fit nL sl m (S j) (M j)):Bg P sl m (nL:=nL) (S:=S) (M:=M) (I:=I) (μ:=μ) (i:=i):=⟨j,h1,h2,h3.wB⟩
theorem iH.j4 {P:Program}{nL:Nat}{sl:SL}{m:ML}(d0 tb t wdt i j:Nat)(r r':AV){i0 k0 wd:Nat}{rows:List AV}{ro:Bool}(hp:uQ sl d0=.ptr tb i0 k0)(hm:eG m tb=.live wd rows ro)(hr:rows[i]? =some r)(hj:(cells r)[j]? =some (.lit (.slice none 0 0)))
    (hcell:cells r'=(cells r).set j (.own t 0 0)) (ht:eG m t=.free):iH P nL (St sl m) (St sl (jU tb (.live wd (rows.set i r') ro) (jU t (.live wdt [] false) m))):=by
  intro N w0 W0 L μ a w hL hs
  have h1:=hs.j4 (d0:=d0) (tb:=tb) (t:=t) (wdt:=wdt) (i:=i) (j:=j) (r:=r) (r':=r') (by show cB sl d0=_;rw[←iq];exact hp) (dB hm) hr hj hcell (dB ht)
  rw[qA,qA] at h1
  exact⟨_,h1⟩
theorem Bg.j4 {P:Program}{ι:Type}{sl:SL}{m:ML}{nL:Nat}{S:ι→SL}{M:ι→ML}{I:ι→Prop}{μ:ι→Nat}{x:ι}(d0 tb t wdt i j:Nat)(r r':AV){i0 k0 wd:Nat}{rows:List AV}{ro:Bool}(hp:uQ sl d0=.ptr tb i0 k0)(hm:eG m tb=.live wd rows ro)(hr:rows[i]? =some r)(hj:(cells r)[j]? =some (.lit (.slice none 0 0)))
    (hcell:cells r'=(cells r).set j (.own t 0 0)) (ht:eG m t=.free) (hc:Bg P sl (jU tb (.live wd (rows.set i r') ro) (jU t (.live wdt [] false) m)) (nL:=nL) (S:=S) (M:=M) (I:=I) (μ:=μ) (i:=x)):Bg P sl m (nL:=nL) (S:=S) (M:=M) (I:=I) (μ:=μ) (i:=x):=by
  obtain⟨y,h1,h2,h3⟩:=hc
  exact⟨y,h1,h2,(iH.j4 d0 tb t wdt i j r r' hp hm hr hj hcell ht).trans h3⟩
end Go.Am
end
namespace Go.Am
open Go Go.RowKit Go.Lib MapKept
section
variable {P : Program} {N : Nat} {o : Oper} {σ : aA}
end
section
variable {P : Program} {N : Nat} {o : Oper} {acc : Tk} {sl : SL} {m : ML} {R : Rest}
end
end Go.Am
namespace Go.Am
open Go
@[reducible] def jc (m' m : ML) : ML → List (Nat × Nat)
  |[]=>[]
  | (k,_)::r=>match yp k with
    | true=>match eG m' k,eG m k with
      |.live _ rows' _,.live _ rows _=>ee (BQ (eV m' m 6) rows' rows) (jc m' m r)
      |_,_=>jc m' m r
    |false=>jc m' m r
section
variable {P : Program} {Γ : ct} {sl : SL} {m : ML}
@[reducible] def Oa (nL : Nat) (x : AV) (m : ML) (outs : List MS) (res : AV) : Prop :=
  (mG (ir (bk 0 outs) (dh (ee (eV (bk 0 outs) m 6 res x) (jc (bk 0 outs) m (gW nL (bk 0 outs)))) (bk 0 outs)))=true∧oO m (dh (ee (eV (bk 0 outs) m 6 res x) (jc (bk 0 outs) m (gW nL (bk 0 outs)))) (bk 0 outs)) nL=true)∧
    MF (dh (ee (eV (bk 0 outs) m 6 res x) (jc (bk 0 outs) m (gW nL (bk 0 outs)))) (bk 0 outs)) (j9 (dh (ee (eV (bk 0 outs) m 6 res x) (jc (bk 0 outs) m (gW nL (bk 0 outs)))) (bk 0 outs))) m 12 res x∧
    qV (dh (ee (eV (bk 0 outs) m 6 res x) (jc (bk 0 outs) m (gW nL (bk 0 outs)))) (bk 0 outs)) (j9 (dh (ee (eV (bk 0 outs) m 6 res x) (jc (bk 0 outs) m (gW nL (bk 0 outs)))) (bk 0 outs))) m (bk 0 outs)
theorem Oa.end {nL:Nat}{x:AV}{outs:List MS}{res:AV}(h:Oa nL x m outs res){N:Nat}{w0:World}{W0:Nat→Prop}{L μ:Mu}{a:Act}{w:World}{v:Value}(hL:∀t,nL≤t→t<jD→L t=none)
    (hs:cz P N w0 W0 L μ (St sl m) a w) (hv:cD (Wr W0 μ (aX m)) μ w x v):∃μ',cz P 0 w0 W0 L μ' (bare outs) iA w∧cD (Wr W0 μ' (aH outs)) μ' w res v:=by
  obtain⟨⟨h1,h2⟩,h3,h4⟩:=h
  generalize ht:dh (ee (eV (bk 0 outs) m 6 res x) (jc (bk 0 outs) m (gW nL (bk 0 outs)))) (bk 0 outs)=tab at h1 h2 h3 h4
  have hk:∀i u,(i,u)∈tab→i∈ (bk 0 outs).map (·.1):=fun i u h=>by rw[←ht] at h;exact gQ h
  have hD:∀t u,o8 tab t=some u→aX (bk 0 outs) t≠ .free:=by
    intro t u ht e
    rcases gD h4 t with⟨_,b⟩|⟨b,_⟩
    ·exact b (hk _ _ (iT ht))
    ·rw[e] at b;exact b
  have hw:=qV.rP hs h1 h2 hk (fun t h=>h) h4 (fun _=>.any) (fun i=>.any)
  have hcv:=lq (fun t wd rows ro h _=>um hs t wd rows ro h) hD (F:=fun t=>(∃wd rows ro,eG m t=.live wd rows ro)∧j9 tab t=true) (fun t wd rows ro h1 h2=>⟨⟨wd,rows,ro,h1⟩,h2⟩) 12 _ _ h3
  obtain⟨μ',hs',hrep⟩:=hw.GF hL hs (N':=0) (a':=iA) (.inr ⟨fun _=>rfl,rfl,rfl⟩)
  have e:aX (bk 0 outs)=aH outs:=by rw[lG,dX]
  rw[e] at hs' hrep hcv
  exact⟨μ',hs',hrep _ _ _ hcv hv⟩
end
section
variable {P : Program} {N : Nat} {w0 : World} {W0 : Nat → Prop} {L μ : Mu} {σ : aA} {a : Act} {w : World}
end
mutual
/-- Its references are to objects with names below r. -/
def nI (r:Nat):AV→Bool
  |.any=>true
  |.emp=>true
  |.guess _ _=>true
  |.lit _=>true
  |.sl _ _=>true
  |.own t _ _=>Nat.ble (t+1) r
  |.ptr t _ _=>Nat.ble (t+1) r
  |.fptr _ _=>true
  |.mapr t=>Nat.ble (t+1) r
  |.fmap _=>true
  |.agg cs=>kN r cs
  |.tup cs=>kN r cs
  |.clo _ a b=>kN r a&&kN r b
def kN (r:Nat):List AV→Bool
  |[]=>true
  |x::xs=>nI r x&&kN r xs
end
mutual
theorem kK (r:Nat):∀x:AV,bD x=true→nI r x=true
  |.any,_=>rfl
  |.emp,_=>rfl
  |.guess _ _,_=>rfl
  |.lit _,_=>rfl
  |.sl _ _,_=>rfl
  |.own _ _ _,h=>by simp[bD] at h
  |.ptr _ _ _,h=>by simp[bD] at h
  |.fptr _ _,_=>rfl
  |.mapr _,h=>by simp[bD] at h
  |.fmap _,_=>rfl
  |.agg cs,h=>by simp only[bD] at h;simp only[nI];exact iy r cs h
  |.tup cs,h=>by simp only[bD] at h;simp only[nI];exact iy r cs h
  | .clo f a b,h=>by
    simp only[bD,bO] at h
    simp only[nI,bO]
    exact⟨iy r a h.1,iy r b h.2⟩
theorem iy (r:Nat):∀xs:List AV,bu xs=true→kN r xs=true
  |[],_=>rfl
  | x::xs,h=>by
    simp only[bu,bO] at h
    simp only[kN,bO]
    exact⟨kK r x h.1,iy r xs h.2⟩
end
theorem jN {r:Nat}:∀ {xs:List AV},kN r xs=true→∀ {j:Nat} {c:AV},xs[j]? =some c→nI r c=true
  |[],_,j,c,h=>by simp at h
  | x::xs,hx,0,c,h=>by
    simp only[kN,bO] at hx
    simp at h;subst h;exact hx.1
  | x::xs,hx,j+1,c,h=>by
    simp only[kN,bO] at hx
    exact jN hx.2 (by simpa using h)
structure Ed (r:Nat) (W:Nat→Prop) (μ:Mu) (w:World) (W':Nat→Prop) (μ':Mu) (w':World):Prop where
  size:w.heap.size≤w'.heap.size
  blk:∀b,¬W b→b<w.heap.size→w'.heap[b]? =w.heap[b]?
  shape:∀b e n,w.shape? b=some (e,n)→w'.shape? b=some (e,n)
  wr:∀b,b<w.heap.size→W' b→W b
  mu:∀t B,t<r→μ t=some B→μ' t=some B
theorem Ed.cell {r:Nat}{W W':Nat→Prop}{μ μ':Mu}{w w':World}(h:Ed r W μ w W' μ' w'){b q:Nat}(hb:¬W b)(hl:b<w.heap.size):w'.cell? ⟨b,q,none⟩=w.cell? ⟨b,q,none⟩:=
  World.cell?_of_block (h.blk b hb hl)
theorem cD.Lq {r:Nat}{W W':Nat→Prop}{μ μ':Mu}{w w':World}(g:Ed r W μ w W' μ' w'){x:AV}{v:Value}(h:cD W μ w x v):nI r x=true→cD W' μ' w' x v:=by
  induction h with
  |any=>intro _;exact .any
  |lit=>intro _;exact .lit
  |guess h1 h2=>intro _;exact .guess h1 h2
  |emp=>intro _;exact .emp
  |slNil=>intro _;exact .slNil
  | sl hW hb hn hc hwd hcell _ hnr ih=>
    intro _
    exact .sl (fun h=>hW (g.wr _ hb h)) (jS hb g.size) hn hc hwd (fun q c hq=>by rw[g.cell hW hb];exact hcell q c hq) (fun q c hq=>ih q c hq (kK r c (hnr c (bV hq)))) hnr
  |own hm hv hp hl hs ho=>intro hx;exact .own (g.mu _ _ (Nat.le_of_ble_eq_true hx) hm) hv hp hl (g.shape _ _ _ hs) ho
  |ownNil hm=>intro hx;exact .ownNil (g.mu _ _ (Nat.le_of_ble_eq_true hx) hm)
  |ptr hm hp=>intro hx;exact .ptr (g.mu _ _ (Nat.le_of_ble_eq_true hx) hm) hp
  |mapr hm hp=>intro hx;exact .mapr (g.mu _ _ (Nat.le_of_ble_eq_true hx) hm) hp
  | fmap hW hb h1 h2 h3 h4 h5 _ hn ih=>
    intro _
    refine .fmap (fun h=>hW (g.wr _ hb h)) (jS hb g.size) (by rw[g.blk _ hW hb];exact h1) h2 h3 h4 h5 (fun i key x hi=>ih i key x hi ?_) hn
    have:=hn _ (bV hi)
    simp only[entry,Go.Am.bD,Go.Am.bu,Bool.and_true,Bool.true_and] at this
    exact kK r x this
  | fptr hW hb hcell _ hnr ih=>
    intro _
    exact .fptr (fun h=>hW (g.wr _ hb h)) (jS hb g.size) (fun q c hq=>by rw[g.cell hW hb];exact hcell q c hq) (fun q c hq=>ih q c hq (kK r c (hnr c (bV hq)))) hnr
  |agg hl _ ih=>intro hx;exact .agg hl (fun j c v h1 h2=>ih j c v h1 h2 (jN hx h1))
  |tup hl _ ih=>intro hx;exact .tup hl (fun j c v h1 h2=>ih j c v h1 h2 (jN hx h1))
  | clo h1 h2 _ _ ih1 ih2=>
    intro hx
    simp only[nI,bO] at hx
    exact .clo h1 h2 (fun j c v a b=>ih1 j c v a b (jN hx.1 a)) (fun j c v a b=>ih2 j c v a b (jN hx.2 a))
noncomputable def oI (r:Nat) (μ:Mu) (m:Nat→MS):Mu:=fun t=>
  if t<r then μ t else if jD≤t then(match m (t-jD) with
    |.live _ _ false=>μ (t-jD)
    |_=>none) else none
section
variable {P : Program} {N : Nat} {w0 : World} {W0 : Nat → Prop} {L μ : Mu} {σ : aA} {a : Act} {w : World} {r : Nat}
theorem FH (hr:r≤jD){b:Nat}(h:iZ μ σ.mem b):th (oI r μ σ.mem) b:=by
  obtain⟨t,B,wd,rows,h1,h2,h3,h4⟩:=h
  refine⟨jD+t,B,?_,h3,h4⟩
  unfold oI
  rw[if_neg (by omega),if_pos (by omega),show jD+t-jD=t by omega,h1]
  exact h2
theorem n9 (hlive:∀t,t<r→∃wd rows,σ.mem t=.live wd rows false){b:Nat}(h:th (oI r μ σ.mem) b):iZ μ σ.mem b:=by
  obtain⟨t,B,h1,h2,h3⟩:=h
  unfold oI at h1
  split at h1
  · rename_i ht
    obtain⟨wd,rows,hm⟩:=hlive t ht
    exact⟨t,B,wd,rows,hm,h1,h2,h3⟩
  · split at h1
    · split at h1
      · rename_i wd rows hm
        exact⟨_,B,wd,rows,hm,h1,h2,h3⟩
      ·cases h1
    ·cases h1
theorem cz.Hg (h:cz P N w0 W0 L μ σ a w)(hr:r≤jD)(hlive:∀t,t<r→∃wd rows,σ.mem t=.live wd rows false){sl:Nat→AV}{a':Act}(ha:a'.tmps.size=N)(hd:a'.defers=[])
    (hsl:∀i,cD (Wr W0 μ σ.mem) μ w (sl i) (a'.tmps.getD i undef)):cz P N {w with drawn:=1} W0 (oI r μ σ.mem) μ ⟨sl,σ.mem⟩ a' w where
  tabs :=by
    have:=h.qO (L':=oI r μ σ.mem) (fun b hb=>by
      obtain⟨t,B,wd,rows,h1,h2,rfl,h4⟩:=n9 (σ:=σ) hlive hb
      exact(h.out t wd rows false B h1 h2 h4).2 rfl)
    exact this
  tsize:=ha
  defers:=by rw[hd];exact .nil
  os:=rfl
  tape:=rfl
  output:=rfl
  hsize:=Nat.le_refl _
  shp _ _ _ hb:=hb
  keep _ _ _:=rfl
  w0lt b hb:=jS (h.w0lt b hb) h.hsize
  lentμ t B hb hB:=by
    unfold oI at hB
    split at hB
    ·exact hB
    ·rw[if_neg (by omega)] at hB;cases hB
  free:=h.free
  slots:=hsl
  objs:=h.objs
  inj:=h.inj
  out t wd rows ro B h1 h2 h3:=⟨(h.out t wd rows ro B h1 h2 h3).1,fun hro=>.inr (FH hr ⟨t,B,wd,rows,by rw[←hro];exact h1,h2,rfl,h3⟩)⟩
structure NX (P:Program) (N:Nat) (r:Nat) (w0:World) (W0:Nat→Prop) (L μ:Mu) (σ:aA) (w:World) (μ':Mu) (σ':aA) (w':World):Prop where
  keep:∀b,b<w.heap.size→¬iZ μ σ.mem b→w'.heap[b]? =w.heap[b]?
  grow:Ed r (Wr W0 μ σ.mem) μ w (Wr W0 μ' σ'.mem) μ' w'
  GF:∀ (sl:Nat→AV) (a':Act),a'.tmps.size=N→Marks w0 a'.defers w'→(∀i,cD (Wr W0 μ' σ'.mem) μ' w' (sl i) (a'.tmps.getD i undef))→cz P N w0 W0 L μ' ⟨sl,σ'.mem⟩ a' w'
theorem cz.Av (h:cz P N w0 W0 L μ σ a w)(hL:∀t,r≤t→L t=none)(hr:r≤jD)(hlive:∀t,t<r→∃wd rows,σ.mem t=.live wd rows false){N':Nat}{μ':Mu}{σ':aA}{a':Act}{w':World}
    (k:cz P N' {w with drawn:=1} W0 (oI r μ σ.mem) μ' σ' a' w'):NX P N r w0 W0 L μ σ w μ' σ' w':=by
  have mineLent:∀b,iZ μ σ.mem b→w0.heap.size≤b∨th L b:=by
    rintro b ⟨t,B,wd,rows,h1,h2,rfl,h4⟩
    exact(h.out t wd rows false B h1 h2 h4).2 rfl
  have keep:∀b,b<w.heap.size→¬iZ μ σ.mem b→w'.heap[b]? =w.heap[b]? :=fun b hb hm=>k.keep b hb fun hl=>hm (n9 hlive hl)
  have wr:∀b,b<w.heap.size→Wr W0 μ' σ'.mem b→Wr W0 μ σ.mem b:=by
    rintro b hb (hw|⟨t,B,wd,rows,h1,h2,rfl,h4⟩)
    ·exact .inl hw
    · rcases(k.out t wd rows false B h1 h2 h4).2 rfl with hh|hh
      · have:w.heap.size≤B.b:=hh
        omega
      ·exact .inr (n9 hlive hh)
  have mu:∀t B,t<r→μ t=some B→μ' t=some B:=fun t B ht hB=>k.lentμ t B (by omega) (by unfold oI;rw[if_pos ht];exact hB)
  refine⟨keep,⟨k.hsize,fun b hb hl=>keep b hl fun hm=>hb (.inr hm),k.shp,wr,mu⟩,fun sl a2 hN hd hsl=>?_⟩
  exact {
    tabs:=h.tabs
    tsize:=hN
    defers:=hd
    os:=k.os.trans h.os
    tape:=k.tape.trans h.tape
    output:=k.output.trans h.output
    hsize:=Nat.le_trans h.hsize k.hsize
    shp:=fun b e n hb=>k.shp b e n (h.shp b e n hb)
    keep :=fun b hb hl=>by
      rw[keep b (jS hb h.hsize) ?_]
      ·exact h.keep b hb hl
      · intro hm
        rcases mineLent b hm with hh|hh
        ·omega
        ·exact hl hh
    w0lt:=h.w0lt
    lentμ:=fun t B hb hB=>mu t B (by
      rcases Nat.lt_or_ge t r with ht|ht
      ·exact ht
      ·rw[hL t ht] at hB;cases hB) (h.lentμ t B hb hB)
    free:=k.free
    slots:=hsl
    objs:=k.objs
    inj:=k.inj
    out:=fun t wd rows ro B h1 h2 h3=>⟨(k.out t wd rows ro B h1 h2 h3).1,fun hro=>by
      rcases(k.out t wd rows ro B h1 h2 h3).2 hro with hh|hh
      ·exact .inl (Nat.le_trans h.hsize hh)
      ·exact mineLent _ (n9 hlive hh)⟩}
end
def HX (Wn:Nat→Prop)(w:World)(Wn':Nat→Prop)(w':World):Prop:=
  w.heap.size≤w'.heap.size∧(∀b,b<w.heap.size→¬Wn b→w'.heap[b]? =w.heap[b]?)∧∀b,b<w.heap.size→Wn' b→Wn b
def MH (P:Program)(g:FuncId)(caps:List AV)(n:Nat)(enc:Nat→List AV):Prop:=
  ∀ (vals:List Value) (l:Nat) (J:Nat→(Nat→Prop)→World→Prop) (Jx:World→Prop),
    (∀k Wn W,J k Wn W→(∃μ,cN Wn μ W caps vals)∧ku P W fun _=>none)→(∀k Wn W W',J k Wn W→kX W W'→J k Wn W')→(∀W W',Jx W→kX W W'→Jx W')→(∀k Wn W,J k Wn W→∀b,Wn b→b<W.heap.size)→
    (∀ k Wn W vs,k<n→J k Wn W→(∀Wn' μ,cN Wn' μ W caps vals→cN Wn' μ W (enc k) vs)→
      YieldAt Fence.wide 0 P l vs.toArray W fun e W'=>(e=.returned (.bool true)∧∃Wn',J (k+1) Wn' W'∧HX Wn W Wn' W')∨(e=.returned (.bool false)∧Jx W'))→
    ∀Wn w,J 0 Wn w→Calls P g ((.func (.yield l) #[] #[])::vals).toArray w fun e w'=>(∃v,e=.returned v)∧((∃Wn',J n Wn' w')∨Jx w')
def Gm (P:Program)(r:Nat)(S:SL)(m':ML)(Q:Exit→aA→Prop)(e:Exit)(σ:aA):Prop:=
  match e with
  |.normal=>iH P r σ (St S m')
  |.ret=> ∃m,iH P r σ (St S m)∧Q .ret (St S m)
  |.exit id=> ∃m,iH P r σ (St S m)∧Q (.exit id) (St S m)
  |_=>False
def zR:List Tmp→List AV→SL→SL
  |p::ps,x::xs,sl=>(p,x)::zR ps xs sl
  |_,_,sl=>sl
theorem xH:∀ (ps:List Tmp) (xs:List AV) (sl:SL) (i:Nat),ps.length=xs.length→ps.Nodup→cB (zR ps xs sl) i=match ps.idxOf? i with
    |some j=>xs.getD j .any
    |none=>cB sl i
  |[],[],sl,i,_,_=>rfl
  | p ::ps,x::xs,sl,i,hl,hd=>by
    simp only[zR,cB,List.idxOf?_cons]
    by_cases h:i=p
    ·subst h;simp
    · have h1:(i==p)=false:=by simpa using h
      have h2:(p==i)=false:=by simpa using Ne.symm h
      rw[h1,h2]
      have ih:=xH ps xs sl i (by simpa using hl) (List.nodup_cons.1 hd).2
      simp only[Bool.false_eq_true,if_false]
      rw[ih]
      cases ps.idxOf? i<;>simp
  |p::ps,[],sl,i,hl,_=>by simp at hl
  |[],x::xs,sl,i,hl,_=>by simp at hl
theorem yj:∀ (ps:List Tmp) (vs:List Value) (t:Array Value),ps.length=vs.length→ps.Nodup→(∀p∈ps,p<t.size)→
    (∀ i,((ps.zip vs).foldl (fun t (x:Tmp×Value)=>t.setIfInBounds x.1 x.2) t).getD i undef=match ps.idxOf? i with
      |some j=>vs.getD j undef
      |none=>t.getD i undef)∧((ps.zip vs).foldl (fun t (x:Tmp×Value)=>t.setIfInBounds x.1 x.2) t).size=t.size
  |[],[],t,_,_,_=>⟨fun i=>rfl,rfl⟩
  | p :: ps,v::vs,t,hl,hd,hp=>by
    obtain⟨h1,h2⟩:=yj ps vs (t.setIfInBounds p v) (by simpa using hl) (List.nodup_cons.1 hd).2 (fun q hq=>by simpa using hp q (by simp[hq]))
    simp only[List.zip_cons_cons,List.foldl_cons]
    refine⟨fun i=>?_,by rw[h2];simp⟩
    rw[h1 i]
    simp only[List.idxOf?_cons]
    by_cases h:p=i
    · subst h
      have hn:ps.idxOf? p=none:=by
        rw[List.idxOf?_eq_none_iff];exact(List.nodup_cons.1 hd).1
      rw[hn]
      have hlt:=hp p (by simp)
      simp[hlt]
    · have h2:(p==i)=false:=by simpa using h
      rw[h2]
      simp only[Bool.false_eq_true,if_false]
      cases ps.idxOf? i with
      |none=>simp[Array.getElem?_setIfInBounds_ne h]
      |some j=>simp
  |p::ps,[],t,hl,_,_=>by simp at hl
  |[],v::vs,t,hl,_,_=>by simp at hl
theorem A7 {W:Nat→Prop}{μ:Mu}{w:World}{g:FuncId}{caps:List AV}{A B:Array Value}(h:cD W μ w (.clo (.func g) [] caps) (.func (.func g) A B)):A= #[]∧cN W μ w caps B.toList:=by
  generalize hv:Value.func (.func g) A B=v at h
  cases h with
  | @clo _ _ _ va vb h1 h2 h3 h4=>
    cases hv
    have e:va=[]:=List.eq_nil_of_length_eq_zero (by simpa using h1)
    exact⟨by rw[e],by show cN W μ w caps vb;exact⟨h2,h4⟩⟩
theorem AW {W:Nat→Prop}{μ:Mu}{w:World}{g:FuncId}{caps:List AV}{v:Value}(h:cD W μ w (.clo (.func g) [] caps) v):∃vals:List Value,v=.func (.func g) #[] vals.toArray:=by
  cases h with
  | @clo _ _ _ va vb h1 h2 h3 h4=>
    have e:va=[]:=List.eq_nil_of_length_eq_zero (by simpa using h1)
    exact⟨vb,by rw[e]⟩
theorem cz.PD {P:Program}{N:Nat}{w0:World}{W0:Nat→Prop}{L μ:Mu}{σ:aA}{a:Act}{w:World}(h:cz P N w0 W0 L μ σ a w){b:Nat}(hb:Wr W0 μ σ.mem b):b<w.heap.size:=by
  rcases hb with hb|⟨t,B,wd,rows,m1,m2,rfl,hv⟩
  ·exact jS (h.w0lt b hb) h.hsize
  · obtain⟨B',hB',hobj⟩:=h.objs t wd rows false m1
    rw[m2] at hB';cases hB'
    cases hmp:B.mp with
    |false=>obtain⟨C,e,fz,h3,_⟩:=hobj.blk hv hmp;exact(Array.getElem?_eq_some_iff.1 h3).1
    |true=>obtain⟨es,clock,h3,_⟩:=hobj.map hmp;exact(Array.getElem?_eq_some_iff.1 h3).1
set_option maxHeartbeats 2000000 in
/-- **A loop over a function.** S: what the frame's slots hold, in each round; M k: the objects when k rounds are over; those with names below r keep their names. -/
theorem fj.range {P:Program}{N nL:Nat}{σ:aA}{Q:Exit→aA→Prop}{f:Operand}{ps:Array Tmp}{assign body:Code}{g:FuncId}{caps:List AV}{n:Nat}{enc:Nat→List AV}
    (r:Nat) (S:SL) (M:Nat→ML) (hit:MH P g caps n enc) (hg:ak P g) (h0:iH P nL σ (St S (M 0))) (hf:(St S (M 0)).eval f=.clo (.func g) [] caps)
    (hnL:nL≤r) (hr:r≤jD) (hlive:∀k,k≤n→∀t,t<r→∃wd rows,aX (M k) t=.live wd rows false) (hS:∀i,nI r (cB S i)=true)
    (henc:∀k,k<n→(enc k).length=ps.size) (hnd:ps.toList.Nodup) (hlt:∀p∈ps.toList,p<N) (hpa:dO assign=true) (hpb:dO body=true)
    (hround:∀k,k<n→fj P N r assign (fun e σ'=>e=.normal∧(∀t,t<r→∃wd rows,σ'.mem t=.live wd rows false)∧fj P N r body (Gm P r S (M (k+1)) Q) σ') (St (zR ps.toList (enc k) S) (M k)))
    (hdone:Q .normal (St S (M n))):fj P N nL (.rangeFunc f ps assign body) Q σ:=by
  intro rd hp w0 W0 L μ a w hL hs
  have hrd:rd=none:=hp.resolve_right (by simp[dO])
  subst hrd
  obtain⟨μ0,hs0⟩:=h0 N w0 W0 L μ a w (fun t h1 h2=>hL.1 t h1 (.inl h2)) hs
  have hLr:∀t,r≤t→L t=none:=fun t h=>hL.1 t (Nat.le_trans hnL h) (.inr rfl)
  have hdr:=hL.2 rfl
  have hfk:∀m,(St S m).eval f=.clo (.func g) [] caps:=fun m=>hf
  obtain⟨vals,hval⟩:=AW (by have:=hs0.eval f;rw[hfk] at this;exact this)
  refine wpIn_rangeFunc (F:=ko none) ?_
  intro fn _
  obtain⟨rec,hrec⟩:∃rec:LoopState→Option Code→Loop,rec=fun st pe=>{state:=st,pending:=pe,fn,tmps:=a.tmps,params:=ps,assign,body,defers:=w.heap.size}:=⟨_,rfl⟩
  obtain⟨W1,hW1⟩:∃W1,(w.alloc (.deferred (some []))).alloc (.loop (rec .ready none))=W1:=⟨_,rfl⟩
  have hmore:kX w W1:=by rw[←hW1];exact(kX.alloc _).trans (kX.alloc _)
  have hl1:W1.heap[w.heap.size+1]? =some (.loop (rec .ready none)):=by
    rw[←hW1];have:=World.alloc_heap_new (w.alloc (.deferred (some []))) (.loop (rec .ready none));rwa [World.size_alloc] at this
  have hD1:W1.heap[w.heap.size]? =some (.deferred (some [])):=by
    rw[←hW1,(kX.alloc (w:=w.alloc (.deferred (some []))) (.loop (rec .ready none))).blk _ (by simp)]
    exact World.alloc_heap_new w _
  have hDge:w0.heap.size≤w.heap.size:=hs0.hsize
  let J:Nat→(Nat→Prop)→World→Prop:=fun k Wn W=> ∃μk,cz P N w0 W0 L μk (St S (M k)) a W∧Wn=Wr W0 μk (aX (M k))∧W.heap[w.heap.size+1]? =some (.loop (rec .ready none))∧W.heap[w.heap.size]? =some (.deferred (some []))∧k≤n
  let Jx:World→Prop:=fun W=> ∃c e m μk,cz P N w0 W0 L μk (St S m) a W∧W.heap[w.heap.size+1]? =some (.loop (rec .done (some c)))∧W.heap[w.heap.size]? =some (.deferred (some []))∧(c=.ret∧e=.ret∨∃id,c=.exit id∧e=.exit id)∧Q e (St S m)
  have hcaps:∀k Wn W,J k Wn W→(∃μ,cN Wn μ W caps vals)∧ku P W fun _=>none:=by
    rintro k Wn W ⟨μk,h1,rfl,_⟩
    have h2:=h1.eval f
    rw[hfk,hval] at h2
    have h3:cN (Wr W0 μk (St S (M k)).mem) μk W caps vals:=by simpa using(A7 h2).2
    exact⟨⟨μk,h3⟩,h1.qO fun b h=>by obtain⟨_,_,h,_⟩:=h;cases h⟩
  have hbk:∀ {W W':World} {b:Nat} {o:Obj},kX W W'→W.heap[b]? =some o→W'.heap[b]? =some o:=fun m h=>by rw[m.blk _ (Array.getElem?_eq_some_iff.1 h).1];exact h
  have key:=hit vals (w.heap.size+1) J Jx hcaps
    (by rintro k Wn W W' ⟨μk,h1,h2,h3,h4,h5⟩ m;exact⟨μk,h1.more m,h2,hbk m h3,hbk m h4,h5⟩)
    (by rintro W W' ⟨c,e,m',μk,h1,h2,h3,h4⟩ m;exact⟨c,e,m',μk,h1.more m,hbk m h2,hbk m h3,h4⟩)
    (by rintro k Wn W ⟨μk,h1,rfl,_⟩ b hb;exact h1.PD hb)
    ?round _ W1 ⟨μ0,hs0.more hmore,rfl,hl1,hD1,Nat.zero_le _⟩
  case round =>
    rintro k Wn W vs hk ⟨μk,hsk,rfl,hl,hD,hkn⟩ hvs
    have hrep:cN (Wr W0 μk (aX (M k))) μk W (enc k) vs:=by
      refine hvs _ _ ?_
      have h2:=hsk.eval f
      rw[hfk,hval] at h2
      have h3:cN (Wr W0 μk (St S (M k)).mem) μk W caps vals:=by simpa using(A7 h2).2
      exact h3
    have hvl:vs.length=ps.toList.length:=by rw[hrep.1,henc k hk];simp
    obtain⟨hget,hsz⟩:=yj ps.toList vs a.tmps hvl.symm hnd (fun p hp=>by rw[hsk.tsize];exact hlt p hp)
    have hfold:(ps.zip vs.toArray).foldl (fun tmps (t,a)=>tmps.setIfInBounds t a) a.tmps=(ps.toList.zip vs).foldl (fun t (x:Tmp×Value)=>t.setIfInBounds x.1 x.2) a.tmps:=by
      rw[←Array.foldl_toList];simp
    have hlk:∀t,t<r→∃wd rows,(St S (M k)).mem t=.live wd rows false:=hlive k hkn
    have hreb:=hsk.Hg (sl:=(St (zR ps.toList (enc k) S) (M k)).slots) (a':={tmps:=(ps.toList.zip vs).foldl (fun t (x:Tmp×Value)=>t.setIfInBounds x.1 x.2) a.tmps,defers:=[]}) hr hlk
      (by rw [hsz];exact hsk.tsize) rfl (fun i=>by
        show cD _ _ _ (cB (zR ps.toList (enc k) S) i) _
        rw[xH _ _ _ _ (by rw[←hvl,hrep.1]) hnd,hget i]
        cases hj:ps.toList.idxOf? i with
        |none=>exact hsk.slots i
        | some j=>
          simp only
          rcases Nat.lt_or_ge j (enc k).length with h|h
          · rw[List.getD_eq_getElem?_getD,bA h,List.getD_eq_getElem?_getD,bA (by rw[hrep.1];exact h)]
            exact hrep.2 j _ _ (bA h) (bA _)
          ·rw[List.getD_eq_getElem?_getD,oF h];exact .any)
    have hargs:vs.toArray.size=(rec .ready none).params.size:=by rw[hrec];simpa using hvl
    have hy:=run_yield (P:=P) (args:=vs.toArray) hl hargs
    rw[hrec] at hy
    simp only at hy
    rw[hfold] at hy
    refine⟨fn,_,assign,body,hy,roundIn_of_wpIn trivial ?_⟩
    have hrebL:∀t,r≤t→(t<jD∨(some (w.heap.size+1):Option Nat)=none)→oI r μk (aX (M k)) t=none:=fun t h1 h2=>by
      unfold oI
      rcases h2 with h2|h2
      ·rw[if_neg (by omega),if_neg (by omega)]
      ·cases h2
    have ha:=hround k hk (some (w.heap.size+1)) (.inr hpa) {W with drawn:=1} W0 (oI r μk (aX (M k))) μk _ W ⟨hrebL,fun h=>by cases h⟩ hreb
    refine wpIn_mono (F:=ko (some (w.heap.size+1))) ha ?_
    rintro e a1 Wa ⟨μ1,σ1,⟨rfl,hlive1,hb⟩,hs1⟩
    have U1:=hsk.Av hLr hr hlk hs1
    have hd1:a1.defers=[]:=hs1.defers.1 (Nat.succ_ne_zero 0)
    have notMine:∀ {b:Nat} {o:Obj} {μ':Mu} {σ':aA} {a':Act} {W':World},cz P N w0 W0 L μ' σ' a' W'→W'.heap[b]? =some o→AA o=true→¬iZ μ' σ'.mem b:=by
      rintro b o μ' σ' a' W' hs' ho hbo ⟨t,B,wd,rows,m1,m2,rfl,hv⟩
      obtain⟨B',hB',hobj⟩:=hs'.objs t wd rows false m1
      rw[m2] at hB';cases hB'
      cases hmp:B.mp with
      |false=>obtain⟨C,e,fz,h3,_⟩:=hobj.blk hv hmp;rw[ho] at h3;cases h3;cases hbo
      |true=>obtain⟨es,clock,h3,_⟩:=hobj.map hmp;rw[ho] at h3;cases h3;cases hbo
    have ltOf:∀ {b:Nat} {o:Obj} {W':World},W'.heap[b]? =some o→b<W'.heap.size:=fun h=>(Array.getElem?_eq_some_iff.1 h).1
    have hla:Wa.heap[w.heap.size+1]? =some (.loop (rec .ready none)):=by rw[U1.keep _ (ltOf hl) (notMine hsk hl rfl)];exact hl
    have hDa:Wa.heap[w.heap.size]? =some (.deferred (some [])):=by rw[U1.keep _ (ltOf hD) (notMine hsk hD rfl)];exact hD
    -- what the frame itself holds
    have out1:∀i,cD (Wr W0 μ1 σ1.mem) μ1 Wa (cB S i) (a.tmps.getD i undef):=fun i=>(hsk.slots i).Lq U1.grow (hS i)
    have mk1:Marks w0 a.defers Wa:=hsk.defers.keep fun E _ h2=>by rw[U1.keep E (ltOf h2) (notMine hsk h2 rfl)];exact h2
    have sa:cz P N w0 W0 L μ1 ⟨cB S,σ1.mem⟩ a Wa:=U1.GF _ a hsk.tsize mk1 out1
    -- the round is on
    have tb:eE (w.heap.size+1) Wa (Wa.putObj (w.heap.size+1) (.loop {rec .ready none with state:=.busy})):=eE.put hla rfl
    obtain⟨Wb,hWb⟩:∃Wb,Wa.putObj (w.heap.size+1) (.loop {rec .ready none with state:=.busy})=Wb:=⟨_,rfl⟩
    rw[hWb] at tb
    have hlb:Wb.heap[w.heap.size+1]? =some (.loop {rec .ready none with state:=.busy}):=by rw[←hWb];exact World.putObj_heap_same (ltOf hla)
    have hDb:Wb.heap[w.heap.size]? =some (.deferred (some [])):=by rw[tb.blk _ (by omega)];exact hDa
    refine⟨Wb,by rw[←hWb];exact run_beginRound hla (by rw[hrec]),?_⟩
    have mkb:Marks w0 a.defers Wb:=mk1.keep fun E h1 h2=>by
      rw[tb.blk E (fun e=>by rw[e,hla] at h2;cases h2)];exact h2
    have sb:cz P N w0 W0 L μ1 ⟨cB S,σ1.mem⟩ a Wb:=sa.tq tb (by omega) mkb
    have slot1:∀i,cD (Wr W0 μ1 σ1.mem) μ1 Wb (σ1.slots i) (a1.tmps.getD i undef):=fun i=>(hs1.slots i).tq tb
    have hrb:=sb.Hg (sl:=σ1.slots) (a':=a1) hr hlive1 hs1.tsize hd1 slot1
    have hrebL1:∀t,r≤t→(t<jD∨(some (w.heap.size+1):Option Nat)=none)→oI r μ1 σ1.mem t=none:=fun t h1 h2=>by
      unfold oI
      rcases h2 with h2|h2
      ·rw[if_neg (by omega),if_neg (by omega)]
      ·cases h2
    refine wpIn_mono (F:=ko (some (w.heap.size+1))) (hb (some (w.heap.size+1)) (.inr hpb) {Wb with drawn:=1} W0 (oI r μ1 σ1.mem) μ1 a1 Wb ⟨hrebL1,fun h=>by cases h⟩ hrb) ?_
    rintro e a2 Wc ⟨μ2,σ2,he,hs2⟩
    -- the round is over
    have fin:∀ (mm:ML),iH P r σ2 (St S mm)→∃μ3,(∀b,b<Wb.heap.size→¬iZ μ1 σ1.mem b→Wc.heap[b]? =Wb.heap[b]?)∧(∀b,b<Wb.heap.size→Wr W0 μ3 (aX mm) b→Wr W0 μ1 σ1.mem b)∧
        Wc.heap[w.heap.size+1]? =some (.loop {rec .ready none with state:=.busy})∧Wc.heap[w.heap.size]? =some (.deferred (some []))∧cz P N w0 W0 L μ3 (St S mm) a Wc∧Wb.heap.size≤Wc.heap.size:=by
      intro mm hsits
      obtain⟨μ3,hs3⟩:=hsits N _ W0 (oI r μ1 σ1.mem) μ2 a2 Wc (fun t h1 h2=>hrebL1 t h1 (.inl h2)) hs2
      have U2:=sb.Av hLr hr hlive1 hs3
      have hDc:Wc.heap[w.heap.size]? =some (.deferred (some [])):=by rw[U2.keep _ (ltOf hDb) (notMine sb hDb rfl)];exact hDb
      refine⟨μ3,U2.keep,U2.grow.wr,by rw[U2.keep _ (ltOf hlb) (notMine sb hlb rfl)];exact hlb,hDc,?_,U2.grow.size⟩
      exact U2.GF _ a hsk.tsize (mkb.keep fun E _ h2=>by rw[U2.keep E (ltOf h2) (notMine sb h2 rfl)];exact h2) (fun i=>((out1 i).tq tb).Lq U2.grow (hS i))
    have over:∀ (jump:Option Code) (mm:ML),iH P r σ2 (St S mm)→∃μ3 Wd,(Instr.endRound (w.heap.size+1) jump).run P Wc=.ok (.bool jump.isNone) Wd∧cz P N w0 W0 L μ3 (St S mm) a Wd∧
        Wd.heap[w.heap.size+1]? =some (.loop (rec (if jump.isNone then .ready else .done) jump))∧Wd.heap[w.heap.size]? =some (.deferred (some []))∧
        (jump=none→HX (Wr W0 μk (aX (M k))) W (Wr W0 μ3 (aX mm)) Wd):=by
      intro jump mm hsits
      obtain⟨μ3,keep2,wr2,hlc,hDc,s3,hsz3⟩:=fin mm hsits
      have hend:=run_endRound (P:=P) jump hlc
      have td:eE (w.heap.size+1) Wc (Wc.putObj (w.heap.size+1) (.loop { {rec .ready none with state:=.busy} with state:=if jump.isNone then .ready else .done,pending:=jump})):=eE.put hlc rfl
      obtain⟨Wd,hWd⟩:∃Wd,Wc.putObj (w.heap.size+1) (.loop { {rec .ready none with state:=.busy} with state:=if jump.isNone then .ready else .done,pending:=jump})=Wd:=⟨_,rfl⟩
      rw[hWd] at td
      have hld:Wd.heap[w.heap.size+1]? =some (.loop (rec (if jump.isNone then .ready else .done) jump)):=by
        rw[←hWd,World.putObj_heap_same (ltOf hlc),hrec]
      refine⟨μ3,Wd,by rw[←hWd];exact hend,s3.tq td (by omega) (s3.defers.keep fun E h1 h2=>?_),hld,by rw[td.blk _ (by omega)];exact hDc,fun hj=>?_⟩
      ·rw[td.blk E (fun e=>by rw[e,hlc] at h2;cases h2)];exact h2
      · have hsz1:W.heap.size≤Wa.heap.size:=hs1.hsize
        have hsz2:Wb.heap.size=Wa.heap.size:=tb.size
        refine⟨by rw[td.size];omega,fun b hb hn=>?_,fun b hb hw=>?_⟩
        · by_cases hbl:b=w.heap.size+1
          · subst hbl
            rw[hld,hl,hj];rfl
          · have h1:¬iZ μk (aX (M k)) b:=fun h=>hn (.inr h)
            have h2:¬iZ μ1 σ1.mem b:=fun h=>hn (U1.grow.wr b hb (.inr h))
            rw[td.blk b hbl,keep2 b (by omega) h2,tb.blk b hbl,U1.keep b hb h1]
        ·exact U1.grow.wr b hb (wr2 b (by omega) hw)
    cases e with
    | normal=>
      obtain⟨μ3,Wd,h1,h2,h3,h4,h5⟩:=over none (M (k+1)) he
      exact⟨_,Wd,h1,.inl ⟨rfl,_,⟨μ3,h2,rfl,h3,h4,hk⟩,h5 rfl⟩⟩
    | ret=>
      obtain⟨mm,hm,hq⟩:=he
      obtain⟨μ3,Wd,h1,h2,h3,h4,h5⟩:=over (some .ret) mm hm
      exact⟨_,Wd,h1,.inr ⟨rfl,.ret,.ret,mm,μ3,h2,h3,h4,.inl ⟨rfl,rfl⟩,hq⟩⟩
    | exit id=>
      obtain⟨mm,hm,hq⟩:=he
      obtain⟨μ3,Wd,h1,h2,h3,h4,h5⟩:=over (some (.exit id)) mm hm
      exact⟨_,Wd,h1,.inr ⟨rfl,.exit id,.exit id,mm,μ3,h2,h3,h4,.inr ⟨id,rfl,rfl⟩,hq⟩⟩
    |goto t=>exact he.elim
    |panic c=>exact he.elim
    |outgrown=>exact he.elim
  have hres:(resolve a.eval (rangeCall f (w.heap.size+1)) 0).run P W1=.ok {target:=.fn (.func g) vals.toArray,args:= #[.func (.yield (w.heap.size+1)) #[] #[]]} W1:=by
    simp only[resolve,hval]
    simp[go_sem]
  refine⟨w.heap.size+1,[{target:=.collected w.heap.size,args:= #[]}],W1,{target:=.fn (.func g) vals.toArray,args:= #[.func (.yield (w.heap.size+1)) #[] #[]]},W1,g,
    #[.func (.yield (w.heap.size + 1)) #[] #[]] ++ vals.toArray, W1, ?_, hres, fun _ _ => trivial, ?_, fun h => (by cases h), ?_⟩
  ·rw[←hW1,hrec];exact run_enterLoop_outer _ _ _ _ _
  ·simp[invoke,go_sem,hg _ _]
  have eargs:(#[.func (.yield (w.heap.size+1)) #[] #[]]++vals.toArray:Array Value)=(.func (.yield (w.heap.size+1)) #[] #[]::vals).toArray:=by simp
  rw[eargs]
  refine oN (key.mono ?_)
  have hmark:∀ {W W':World} {μ':Mu} {σ':aA},cz P N w0 W0 L μ' σ' a W→eE (w.heap.size+1) W W'→W.heap[w.heap.size]? =some (.deferred (some []))→(∃o,W.heap[w.heap.size+1]? =some (.loop o))→
      cz P N w0 W0 L μ' σ' {a with defers:=[{target:=.collected w.heap.size,args:= #[]}]++a.defers} W':=by
    rintro W W' μ' σ' h t hD ⟨o,hl⟩
    refine h.tq t (by omega) ⟨fun h0=>absurd hdr h0,?_⟩
    obtain⟨_,Ds,d1,d2,d3⟩:=hs.defers
    obtain⟨_,Es,e1,e2,e3⟩:=h.defers
    have hE:Es=Ds:=by
      have:Es.map su=Ds.map su:=by rw[←e1,←d1]
      exact(List.map_inj_right (fun x y hxy=>by simpa[su] using hxy)).1 this
    refine⟨w.heap.size::Ds,by rw[d1];rfl,List.nodup_cons.2 ⟨fun hm=>?_,d2⟩,fun D hD'=>?_⟩
    ·have:=(Array.getElem?_eq_some_iff.1 (d3 _ hm).2).1;omega
    · rcases dP.1 hD' with rfl|hm
      ·exact⟨hDge,by rw[t.blk _ (by omega)];exact hD⟩
      · have h3:=e3 D (by rw[hE];exact hm)
        exact⟨h3.1,by rw[t.blk D (fun e=>by rw[e,hl] at h3;cases h3.2)];exact h3.2⟩
  rintro e W2 ⟨⟨v,rfl⟩,⟨Wn',μk,h1,_,h3,h4,_⟩|⟨c,e',mm,μk,h1,h2,h3,h4,h5⟩⟩
  · have hend:=run_endLoop (P:=P) h3 (by rw[hrec];simp)
    have e0:(rec .ready none).pending=none:=by rw[hrec]
    rw[e0] at hend
    refine⟨none,_,hend,μk,_,hdone,hmark h1 (eE.put h3 rfl) h4 ⟨_,h3⟩⟩
  · have hend:=run_endLoop (P:=P) h2 (by rw[hrec];simp)
    have e0:(rec .done (some c)).pending=some c:=by rw[hrec]
    rw[e0] at hend
    refine⟨some c,_,hend,?_⟩
    have hsim:=fun o'=>hmark h1 (eE.put h2 (o':=o') rfl) h3 ⟨_,h2⟩
    rcases h4 with⟨rfl,rfl⟩|⟨id,rfl,rfl⟩
    ·exact wpIn_ret ⟨μk,_,h5,hsim _⟩
    ·exact wpIn_exit ⟨μk,_,h5,hsim _⟩
@[reducible] def wU (m : ML) : Nat → Bool
  |0=>true
  | r +1=>match eG m r with
    | .live _ _ ro=>match ro with
      |true=>false
      |false=>wU m r
    |_=>false
theorem ur {m:ML}:∀ {r:Nat},wU m r=true→∀t,t<r→∃wd rows,aX m t=.live wd rows false
  |0,_,t,h=>by omega
  | r + 1, h,t,ht=>by
    simp only[wU] at h
    split at h
    · rename_i wd rows ro hm
      split at h
      ·cases h
      · rcases Nat.lt_or_ge t r with h1|h1
        ·exact ur h t h1
        · have:t=r:=by omega
          subst this
          exact⟨wd,rows,dB hm⟩
    ·cases h
@[reducible] def JW : List Tmp → List AV → SL → SL
  |p::ps,x::xs,sl=>(p,x)::JW ps xs sl
  |_,_,sl=>sl
theorem Dx:∀ (ps:List Tmp) (xs:List AV) (sl:SL),JW ps xs sl=zR ps xs sl
  |[],[],_=>rfl
  |[],_::_,_=>rfl
  |_::_,[],_=>rfl
  |p::ps,x::xs,sl=>by simp only[JW,zR,Dx ps xs sl]
def DN (nL:Nat)(sl:SL)(m:ML)(S:SL)(m':ML):Prop:=Fit nL sl m S m'
theorem DN.mk {nL:Nat}{sl:SL}{m:ML}{S:SL}{m':ML}(h:Fit nL sl m S m'):DN nL sl m S m':=h
def Et (nL:Nat)(sl:SL)(m:ML)(S:SL){A:ML→Prop}:Prop:=∃m',Fit nL sl m S m'∧A m'
theorem Et.mk {nL:Nat}{sl:SL}{m:ML}{S:SL}{A:ML→Prop}(m':ML)(h:Fit nL sl m S m')(ha:A m'):Et nL sl m S (A:=A):=⟨m',h,ha⟩
@[reducible] def Ow (r : Nat) (S : SL) (m' : ML) (Q : Exit → SL → ML → Prop) (e : Exit) (sl : SL) (m : ML) : Prop :=
  match e with
  |.normal=>DN r sl m S m'
  |.ret=>Et r sl m S (A:=fun m'=>Q .ret S m')
  |.exit id=>Et r sl m S (A:=fun m'=>Q (.exit id) S m')
  |_=>False
def DE (r:Nat)(sl:SL)(m:ML){A:SL→ML→Prop}:Prop:=wU m r=true∧A sl m
theorem DE.mk {r:Nat}{sl:SL}{m:ML}{A:SL→ML→Prop}(h:wU m r=true)(ha:A sl m):DE r sl m (A:=A):=⟨h,ha⟩
@[reducible] def zJ (N : Nat) : List Nat → Bool
  |[]=>true
  | p::ps=>match Nat.ble (Nat.add p 1) N with
    |true=>zJ N ps
    |false=>false
theorem xY {N:Nat}:∀ {l:List Nat},zJ N l=true→∀p∈l,p<N
  |[],_,p,h=>by cases h
  | q ::l,h,p,hp=>by
    simp only[zJ] at h
    split at h
    · rename_i hb
      rcases dP.1 hp with rfl|hm
      ·exact cC hb
      ·exact xY h p hm
    ·cases h
def KF (r:Nat):SL→Bool
  |[]=>true
  |(_,x)::l=>nI r x&&KF r l
theorem Di {r:Nat}:∀ {S:SL},KF r S=true→∀i,nI r (cB S i)=true
  |[],_,i=>rfl
  | (d,x)::l,h,i=>by
    simp only[KF,bO] at h
    simp only[cB]
    cases i==d with
    |true=>exact h.1
    |false=>exact Di h.2 i
theorem bW.range {P:Program}{N nL:Nat}{sl:SL}{m:ML}{f:Operand}{ps:Array Tmp}{assign body:Code}{Q:Exit→SL→ML→Prop}{g:FuncId}{caps:List AV}{n:Nat}{enc:Nat→List AV}(Γ:ct)(hΓ:Γ.Good P)
    (r:Nat) (S:SL) (M:Nat→ML) (hit:MH P g caps n enc) (hg:ak P g) (h0:Fit nL sl m S (M 0)) (hf:fH S f=.clo (.func g) [] caps)
    (hr:(Nat.ble nL r=true∧Nat.ble r jD=true)∧KF r S=true) (hlive:∀k,k≤n→wU (M k) r=true) (henc:∀k,k<n→fg (enc k)=fg ps.toList)
    (hps:(pA ps.toList=true∧zJ N ps.toList=true)∧dO assign=true∧dO body=true)
    (round:∀k,k<n→vL P N r Γ assign (JW ps.toList (enc k) S) (M k) (fun e sl m=>match e with
      |.normal=>DE r sl m (A:=fun sl m=>vL P N r Γ body sl m (Ow r S (M (k+1)) Q))
      |_=>False))
    (hdone:Q .normal S (M n)):bW P N nL sl m (c:=.rangeFunc f ps assign body) (Q:=Q):=by
  refine fj.range r S M hit hg h0.wB ?_ (cC hr.1.1) (cC hr.1.2) (fun k hk t ht=>ur (hlive k hk) t ht) (Di hr.2) (fun k hk=>?_) (ld hps.1.1) (xY hps.1.2) hps.2.1 hps.2.2 (fun k hk=>?_) ⟨S,M n,rfl,hdone⟩
  ·rw[ev_eq];exact hf
  · have:=henc k hk
    rw[dj,dj] at this
    simpa using this
  · rw [←Dx]
    refine(nP hΓ _ _ _ _ (round k hk)).mono ?_
    rintro e σ ⟨sl',m',rfl,h⟩
    cases e with
    | normal=>
      refine⟨rfl,fun t ht=>ur h.1 t ht,(nP hΓ _ _ _ _ h.2).mono ?_⟩
      rintro e σ ⟨sl2,m2,rfl,h2⟩
      cases e with
      |normal=>exact Fit.wB h2
      |ret=>obtain⟨m3,h3,h4⟩:=h2;exact⟨m3,h3.wB,S,m3,rfl,h4⟩
      |exit id=>obtain⟨m3,h3,h4⟩:=h2;exact⟨m3,h3.wB,S,m3,rfl,h4⟩
      |goto t=>exact h2.elim
      |panic c=>exact h2.elim
      |outgrown=>exact h2.elim
    |ret=>exact h.elim
    |exit id=>exact h.elim
    |goto t=>exact h.elim
    |panic c=>exact h.elim
    |outgrown=>exact h.elim
theorem hK {acc:Tk}{sl:SL}{m:ML}{A:Tk→SL→ML→Prop}(h:A acc sl m):bQ acc sl m (A:=A):=h
theorem sK {sl:SL}{m:ML}{A:SL→ML→Prop}(h:A sl m):bP sl m (A:=A):=h
theorem nK {p:Prop}{acc:Tk}{sl:SL}{m:ML}{A:Tk→SL→ML→Prop}(h1:A acc sl m)(h:p:=by(try simp only[az]);omega):bH p acc sl m (A:=A):=⟨h,h1⟩
theorem dK {P:Program}{l:List Oper}{acc:Tk}{sl:SL}{m:ML}{A:SL→ML→Prop}(h4:A sl m)(h1:P.follows .mixedOrders=true:=by kernel_rfl)(h2:Region.lexB .any l.toArray=true:=by kernel_rfl)(h3:(Bb l.toArray acc||iM l.toArray acc)=true:=by kernel_rfl):aI P acc sl m (l:=l) (A:=A):=⟨h1,h2,h3,h4⟩
theorem wK {p q:Prop}(h:q)(e:q→p:=by intro hQ;with_reducible ((conv=>whnf);(conv=>congr<;>reduce);repeat((first|refine hK ?_|refine sK ?_);(conv=>whnf);(conv=>congr<;>reduce)));exact hQ):p:=e h
theorem wD {p q:Prop}(h:q)(e:q→p:=by intro hQ;delta List.toArray;with_reducible ((conv=>whnf);(conv=>congr<;>reduce);repeat((first|refine hK ?_|refine sK ?_);(conv=>whnf);(conv=>congr<;>reduce)));exact hQ):p:=e h
theorem gK {p q:Prop}(h:q)(e:q→p:=by
    intro hQ
    first
      |((with_reducible show bq _ _ _ _);first|refine bq.ff ?_|refine bq.tt ?_|refine bq.no (by clear hQ;first|rfl|assumption|exact nf (by assumption)|exact nt (by assumption)|((try simp only[az]);first|(simp;done)|(simp;omega))) ?_|refine bq.yes (by clear hQ;first|rfl|assumption|exact nf (by assumption)|exact nt (by assumption)|((try simp only[az]);first|(simp;done)|(simp;omega))) ?_)
      |((with_reducible show bH _ _ _ _);refine bH.mk (by clear hQ;(try simp only[az]);omega) ?_)
      |((with_reducible show aI _ _ _ _);refine dK ?_)
    with_reducible ((conv=>whnf);(conv=>congr<;>reduce);repeat((first|refine hK ?_|refine sK ?_);(conv=>whnf);(conv=>congr<;>reduce)))
    exact hQ):p:=e h
theorem gF {p q:Prop}(h:q)(e:q→p:=by
    intro hQ
    first
      |((with_reducible show bq _ _ _ _);first|refine bq.ff ?_|refine bq.tt ?_|refine bq.no (by clear hQ;first|rfl|assumption|exact nf (by assumption)|exact nt (by assumption)|((try simp only[az]);first|(simp[fct];done)|(simp[fct];omega))) ?_|refine bq.yes (by clear hQ;first|rfl|assumption|exact nf (by assumption)|exact nt (by assumption)|((try simp only[az]);first|(simp[fct];done)|(simp[fct];omega))) ?_)
      |((with_reducible show bH _ _ _ _);refine bH.mk (by clear hQ;(try simp only[az]);omega) ?_)
      |((with_reducible show aI _ _ _ _);refine dK ?_)
    with_reducible ((conv=>whnf);(conv=>congr<;>reduce);repeat((first|refine hK ?_|refine sK ?_);(conv=>whnf);(conv=>congr<;>reduce)))
    exact hQ):p:=e h
theorem iK {p q:Prop}(h:q)(e:q→p:=by
    intro hQ
    first
      |refine bq.yes (by clear hQ;assumption) ?_
      |refine bq.no (by clear hQ;assumption) ?_
      |with_reducible refine bq.yes Bool.not_false ?_
      |with_reducible refine bq.no Bool.not_true ?_
      |with_reducible refine bq.yes (nf (by clear hQ;assumption)) ?_
      |with_reducible refine bq.no (nt (by clear hQ;assumption)) ?_
      |with_reducible refine bq.tt ?_
      |with_reducible refine bq.ff ?_
    with_reducible ((conv=>whnf);(conv=>congr<;>reduce);repeat((first|refine hK ?_|refine sK ?_);(conv=>whnf);(conv=>congr<;>reduce)))
    exact hQ):p:=e h
theorem eK {x y c d c' d':Prop}(h1:c')(h2:d')(hx:x:=by rfl)(hy:y:=by rfl)(e1:c'→c:=by first|(intro hQ;with_reducible (conv=>whnf);exact hQ)|(refine fun(hQ:True)=>?_;with_reducible (conv=>whnf);done))(e2:d'→d:=by first|(intro hQ;with_reducible (conv=>whnf);exact hQ)|(refine fun(hQ:True)=>?_;with_reducible (conv=>whnf);done)):(x∧y)∧c∧d:=⟨⟨hx,hy⟩,e1 h1,e2 h2⟩
theorem aK {c d c' d':Prop}(h1:c')(h2:d')(e1:c'→c:=by first|(intro hQ;with_reducible (conv=>whnf);exact hQ)|(refine fun(hQ:True)=>?_;with_reducible (conv=>whnf);done))(e2:d'→d:=by first|(intro hQ;with_reducible (conv=>whnf);exact hQ)|(refine fun(hQ:True)=>?_;with_reducible (conv=>whnf);done)):c∧d:=⟨e1 h1,e2 h2⟩
theorem fK {x y c c':Prop}(h1:c')(hx:x:=by rfl)(hy:y:=by rfl)(e1:c'→c:=by first|(intro hQ;with_reducible (conv=>whnf);exact hQ)|(refine fun(hQ:True)=>?_;with_reducible (conv=>whnf);done)):(x∧y)∧c:=⟨⟨hx,hy⟩,e1 h1⟩
theorem pK {p q:Prop}(h:q)(e:q→p:=by
    intro hQ
    first
      |((with_reducible show bq _ _ _ _);first|refine bq.ff ?_|refine bq.tt ?_|refine bq.no (by clear hQ;first|rfl|assumption|exact nf (by assumption)|exact nt (by assumption)|exact dG (by(try simp only[az]);omega)|exact dy (by(try simp only[az]);omega)|(simp only[az,Bool.not_eq_true',Bool.not_eq_false',bE,c9];omega)) ?_|refine bq.yes (by clear hQ;first|rfl|assumption|exact nf (by assumption)|exact nt (by assumption)|exact dG (by(try simp only[az]);omega)|exact dy (by(try simp only[az]);omega)|(simp only[az,Bool.not_eq_true',Bool.not_eq_false',bE,c9];omega)) ?_)
      |((with_reducible show bH _ _ _ _);refine bH.mk (by clear hQ;(try simp only[az]);omega) ?_)
      |((with_reducible show aI _ _ _ _);refine dK ?_)
    with_reducible ((conv=>whnf);(conv=>congr<;>reduce);repeat((first|refine hK ?_|refine sK ?_);(conv=>whnf);(conv=>congr<;>reduce)))
    exact hQ):p:=e h
theorem pF {p q:Prop}(h:q)(e:q→p:=by
    intro hQ
    first
      |((with_reducible show bq _ _ _ _);first|refine bq.ff ?_|refine bq.tt ?_|refine bq.no (by clear hQ;first|rfl|assumption|exact nf (by assumption)|exact nt (by assumption)|exact dG (by(try simp only[az]);omega)|exact dy (by(try simp only[az]);omega)|(simp only[az,Bool.not_eq_true',Bool.not_eq_false',bE,c9];omega)|((try simp only[az]);first|(simp[fct];done)|(simp[fct];omega))) ?_|refine bq.yes (by clear hQ;first|rfl|assumption|exact nf (by assumption)|exact nt (by assumption)|exact dG (by(try simp only[az]);omega)|exact dy (by(try simp only[az]);omega)|(simp only[az,Bool.not_eq_true',Bool.not_eq_false',bE,c9];omega)|((try simp only[az]);first|(simp[fct];done)|(simp[fct];omega))) ?_)
      |((with_reducible show bH _ _ _ _);refine bH.mk (by clear hQ;(try simp only[az]);omega) ?_)
      |((with_reducible show aI _ _ _ _);refine dK ?_)
    with_reducible ((conv=>whnf);(conv=>congr<;>reduce);repeat((first|refine hK ?_|refine sK ?_);(conv=>whnf);(conv=>congr<;>reduce)))
    exact hQ):p:=e h
end Go.Am
