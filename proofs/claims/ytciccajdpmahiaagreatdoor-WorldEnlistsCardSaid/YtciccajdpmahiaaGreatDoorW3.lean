/- Walks of functions by unfolding over abstract states; runs of functions by an evaluator that is proved. By an AI agent. -/
import Derived.Test.YtciccajdpmahiaaGreatDoorW2
import Derived.Laws.StructEq
import Derived.IntWalk
import Derived.Test.YtciccajdpmahiaaGreatDoorW1
import Derived.RangeFuncSeq
set_option linter.unusedSimpArgs false
set_option linter.unusedVariables false
namespace Go.Am
open Go
theorem beq_eq {i d:Nat}(h:Nat.beq i d=true):i=d:=Nat.eq_of_beq_eq_true h
theorem beq_false {i d:Nat}(h:i≠d):Nat.beq i d=false:=by
  cases h':Nat.beq i d with
  |false=>rfl
  |true=>exact absurd (beq_eq h') h
theorem fu {a b:Nat}(h:Nat.ble a b=true):a≤b:=Nat.le_of_ble_eq_true h
theorem IN {a b:Nat}(h:a≤b):Nat.ble a b=true:=Nat.ble_eq_true_of_le h
theorem Hu {a b:Nat}(h:¬a≤b):Nat.ble a b=false:=by
  cases h':Nat.ble a b with
  |false=>rfl
  |true=>exact absurd (fu h') h
@[reducible] def vr : Nat → Nat → Bool
  | 0,k=>match k with
    |0=>true
    |_+1=>false
  | n+1,k=>match k with
    |0=>false
    |k+1=>vr n k
@[reducible] def Ny : Nat → Nat → Bool
  |0,_=>true
  |n+1,k+1=>Ny n k
  |_+1,0=>false
@[reducible] def Nk : Nat → Bool
  |0=>true
  |_+1=>false
@[reducible] def Ey : Value → Bool
  | .slice ad n c=>match ad with
    | none=>match Nk n with
      |true=>Nk c
      |false=>false
    |some _=>false
  |_=>false
@[reducible] def Nn : AV → Bool
  |.lit v=>Ey v
  |_=>false
theorem pJ {v:Value}(h:Ey v=true):v=.slice none 0 0:=by
  cases v with
  | slice ad n c=>
    cases ad with
    | none=>
      cases n with
      | zero=>cases c with
        |zero=>rfl
        |succ c=>cases h
      |succ n=>cases h
    |some a=>cases h
  |_=>cases h
theorem Fy {x:AV}(h:Nn x=true):x=.lit (.slice none 0 0):=by
  cases x with
  |lit v=>rw[pJ h]
  |_=>cases h
theorem eT:∀ (a b:Nat),vr a b=Nat.beq a b
  |0,0=>rfl
  |n+1,k+1=>by rw[vr,eT n k];rfl
  |0,k+1=>rfl
  |n+1,0=>rfl
theorem A4:∀ (a b:Nat),Ny a b=Nat.ble a b
  |0,b=>by simp[Ny]
  |n+1,k+1=>by rw[Ny,A4 n k];rfl
  |n+1,0=>rfl
abbrev SL:=List (Nat×AV)
abbrev ML:=List (Nat×MS)
@[reducible] def yf : SL → Nat → AV
  |[],_=>.any
  | (k,x)::r,i=>match Nat.beq i k with
    |true=>x
    |false=>yf r i
@[reducible] def ej : ML → Nat → MS
  |[],_=>.free
  | (k,x)::r,i=>match Nat.beq i k with
    |true=>x
    |false=>ej r i
@[reducible] def sn : cM → Nat → Option TI
  |[],_=>none
  | (k,x)::r,i=>match Nat.beq i k with
    |true=>some x
    |false=>sn r i
theorem jh:∀ (l:SL) (i:Nat),yf l i=bR l i
  |[],_=>rfl
  | p ::r,i=>by
    obtain⟨d,x⟩:=p
    simp only[yf,bR,jh r i]
    by_cases h:i=d
    ·subst h;simp
    · have h1:(i==d)=false:=by simpa using h
      have h2:Nat.beq i d=false:=beq_false (by simpa using h1)
      rw[h1,h2];rfl
theorem lu:∀ (l:ML) (i:Nat),ej l i=aR l i
  |[],_=>rfl
  | p ::r,i=>by
    obtain⟨d,x⟩:=p
    simp only[ej,aR,lu r i]
    by_cases h:i=d
    ·subst h;simp
    · have h1:(i==d)=false:=by simpa using h
      have h2:Nat.beq i d=false:=beq_false (by simpa using h1)
      rw[h1,h2];rfl
theorem eV:∀ (l:cM) (i:Nat),sn l i=cT l i
  |[],_=>rfl
  | p ::r,i=>by
    obtain⟨d,x⟩:=p
    simp only[sn,cT,eV r i]
    by_cases h:d=i
    ·subst h;simp
    · have h1:(i==d)=false:=by simpa using Ne.symm h
      have h2:Nat.beq i d=false:=beq_false (by simpa using h1)
      rw[h1,h2];rfl
@[reducible] def sw (d : Nat) (x : AV) : SL → SL
  |[]=>[(d,x)]
  | (k,y)::r=>match Nat.beq d k with
    |true=>(d,x)::r
    |false=>(k,y)::sw d x r
@[reducible] def kH (d : Nat) (x : MS) : ML → ML
  |[]=>[(d,x)]
  | (k,y)::r=>match Nat.beq d k with
    |true=>(d,x)::r
    |false=>(k,y)::kH d x r
@[reducible] def yx : ML → ML → ML
  |[],m=>m
  |(k,x)::r,m=>kH k x (yx r m)
@[reducible] def lU : Option Nat → AV → SL → SL
  |none,_,l=>l
  |some d,x,l=>sw d x l
theorem pI (d:Nat)(x:AV):∀ (l:SL) (i:Nat),bR (sw d x l) i=bR ((d,x)::l) i
  |[],i=>rfl
  | p :: r,i=>by
    obtain⟨e,y⟩:=p
    simp only[sw]
    by_cases h:d=e
    · subst h
      simp only[Nat.beq_refl,bR]
      by_cases hi:i=d
      ·subst hi;simp
      · have:(i==d)=false:=by simpa using hi
        simp[this]
    · rw [beq_false h]
      simp only[bR,pI d x r i]
      by_cases hi:i=d
      · subst hi;have:(i==e)=false:=by simpa using h
        simp[this]
      · have:(i==d)=false:=by simpa using hi
        simp[this]
theorem xX (d:Nat)(x:MS):∀ (l:ML) (i:Nat),aR (kH d x l) i=aR ((d,x)::l) i
  |[],i=>rfl
  | p :: r,i=>by
    obtain⟨e,y⟩:=p
    simp only[kH]
    by_cases h:d=e
    · subst h
      simp only[Nat.beq_refl,aR]
      by_cases hi:i=d
      ·subst hi;simp
      · have:(i==d)=false:=by simpa using hi
        simp[this]
    · rw [beq_false h]
      simp only[aR,xX d x r i]
      by_cases hi:i=d
      · subst hi;have:(i==e)=false:=by simpa using h
        simp[this]
      · have:(i==d)=false:=by simpa using hi
        simp[this]
theorem ug:∀ (u m:ML) (i:Nat),aR (yx u m) i=aR (u++m) i
  |[],m,i=>rfl
  | p::r,m,i=>by
    obtain⟨e,y⟩:=p
    simp only[yx,xX,List.cons_append,aR,ug r m i]
theorem Ed (d:Option Nat)(x:AV)(l:SL)(i:Nat):bR (lU d x l) i=bR (tf d x l) i:=by
  cases d with
  |none=>rfl
  |some d=>exact pI d x l i
theorem vI (d:Option Nat)(x:AV)(l:SL)(u m:ML):St (tf d x l) (u++m)=St (lU d x l) (yx u m):=by
  unfold St
  congr 1
  ·funext i;exact(Ed d x l i).symm
  ·funext i;exact(ug u m i).symm
@[reducible] def fe (l : SL) : Operand → AV
  |.tmp t=>yf l t
  |.const v=>.lit v
  |.global g=>.lit (.pointer (some ⟨g,0,none⟩))
  |.func f=>.lit (.func (.func f) #[] #[])
theorem dU (l:SL)(y:Operand):fe l y=jR l y:=by cases y<;>simp[fe,jR,jh]
section
universe u v
variable {α : Type u} {β : Type v}
@[reducible] def lG : List α → Nat → Option α
  |[],_=>none
  |x::_,0=>some x
  |_::r,k+1=>lG r k
@[reducible] def fq : List α → Nat
  |[]=>0
  |_::r=>Nat.succ (fq r)
@[reducible] def fE (f : α → β) : List α → List β
  |[]=>[]
  |x::r=>f x::fE f r
@[reducible] def jC : List α → List α → List α
  |[],b=>b
  |x::r,b=>x::jC r b
@[reducible] def mg : Nat → List α → List α
  |0,_=>[]
  |_+1,[]=>[]
  |k+1,x::r=>x::mg k r
@[reducible] def yJ : Nat → List α → List α
  |0,l=>l
  |_+1,[]=>[]
  |k+1,_::r=>yJ k r
@[reducible] def KU : List α → Nat → α → List α
  |[],_,_=>[]
  |_::r,0,y=>y::r
  |x::r,k+1,y=>x::KU r k y
@[reducible] def ni (p : α → Bool) : List α → Bool
  |[]=>true
  | x::r=>match p x with
    |true=>ni p r
    |false=>false
@[reducible] def wg : List β → List α → List α
  |[],l=>l
  |_::_,[]=>[]
  |_::r,_::l=>wg r l
theorem iT:∀ (l:List α) (k:Nat),lG l k=l[k]?
  |[],_=>rfl
  |_::_,0=>rfl
  |_::r,k+1=>by simp only[lG,iT r k,List.getElem?_cons_succ]
theorem cP:∀ (l:List α),fq l=l.length
  |[]=>rfl
  |_::r=>by show fq r+1=_;rw[cP r];rfl
theorem eS (f:α→β):∀ (l:List α),fE f l=l.map f
  |[]=>rfl
  |x::r=>by simp only[fE,eS f r,List.map_cons]
theorem iM:∀ (a b:List α),jC a b=a++b
  |[],_=>rfl
  |x::r,b=>by simp only[jC,iM r b,List.cons_append]
theorem sC:∀ (k:Nat) (l:List α),mg k l=l.take k
  |0,_=>rfl
  |_+1,[]=>rfl
  |k+1,x::r=>by simp only[mg,sC k r,List.take_succ_cons]
theorem r5:∀ (k:Nat) (l:List α),yJ k l=l.drop k
  |0,_=>rfl
  |_+1,[]=>rfl
  |k+1,x::r=>by simp only[yJ,r5 k r,List.drop_succ_cons]
theorem An:∀ (a:List β) (l:List α),wg a l=l.drop a.length
  |[],_=>rfl
  |_::_,[]=>by simp[wg]
  |_::r,_::l=>by simp only[wg,An r l,List.length_cons,List.drop_succ_cons]
theorem E0:∀ (l:List α) (k:Nat) (y:α),KU l k y=l.set k y
  |[],_,_=>rfl
  |_::_,0,_=>rfl
  |x::r,k+1,y=>by simp only[KU,E0 r k y,List.set_cons_succ]
theorem Fs (p:α→Bool):∀ (l:List α),ni p l=l.all p
  |[]=>rfl
  |x::r=>by simp only[ni,List.all_cons,Fs p r];cases p x<;>rfl
end
@[reducible] def dN : AV → List AV
  |.agg cs=>cs
  |.lit (.agg xs)=>fE .lit xs.toList
  |x=>[x]
theorem gO (x:AV):dN x=cells x:=by
  cases x with
  |lit v=>cases v<;>simp[dN,cells,eS]
  |_=>rfl
@[reducible] def HZ : AV → Bool
  |.agg _=>true
  |.lit (.agg _)=>true
  |_=>false
theorem He (x:AV):HZ x=lV x:=by
  cases x with
  |lit v=>cases v<;>rfl
  |_=>rfl
@[reducible] def vK : AV → Bool
  |.any=>false
  |_=>true
theorem pN (x:AV):vK x=x.nR:=by cases x<;>rfl
@[reducible] def Nx : AV → Bool
  |.any=>false
  |.agg _=>false
  |.tup _=>false
  |.lit (.agg _)=>false
  |.lit (.tuple _)=>false
  |_=>true
theorem KI (x:AV):Nx x=x.one:=by
  cases x with
  |lit v=>cases v<;>rfl
  |_=>rfl
@[reducible] def xn : IntKind → Nat
  |.i8=>0|.i16=>1|.i32=>2|.i64=>3|.u8=>4|.u16=>5|.u32=>6|.u64=>7
theorem HX {k k':IntKind}(h:Nat.beq (xn k) (xn k')=true):k=k':=by
  cases k<;>cases k'<;>first|rfl|(simp[xn] at h)
@[reducible] def Fk (n : Nat) (r : AV) (k : Nat) : Option AV :=
  match Nat.beq k 0,vr (fq (dN r)) n,HZ r with
  |true,true,true=>some r
  | _,_,_=>match Ny (Nat.add k n) (fq (dN r)) with
    |true=>some (.agg (mg n (yJ k (dN r))))
    |false=>none
@[reducible] def uU (ti : Option TI) (r : AV) (k : Nat) : Option AV :=
  match ti with
  |some (.sc _)=>lG (dN r) k
  |some .bl=>lG (dN r) k
  |some (.sl ..)=>lG (dN r) k
  |some .str=>lG (dN r) k
  |some (.st n _ _ _)=>Fk n r k
  |some (.ar n _ _ _ _)=>Fk n r k
  |none=>none
theorem KD (a b:Nat):Nat.ble a b=decide (a≤b):=by
  by_cases h:a≤b
  ·rw[IN h,decide_eq_true h]
  ·rw[Hu h,decide_eq_false h]
theorem Lj (a b:Nat):Nat.beq a b=decide (a=b):=by
  by_cases h:a=b
  ·subst h;simp
  ·rw[beq_false h,decide_eq_false h]
theorem IW (n:Nat)(r:AV)(k:Nat):Fk n r k=if k=0∧(cells r).length=n∧lV r=true then some r else if k+n≤ (cells r).length then some (.agg (((cells r).drop k).take n)) else none:=by
  unfold Fk
  simp only[sC,r5,cP,gO,He,eT,A4,Lj,KD]
  show (match decide (k=0),decide ((cells r).length=n),lV r with
    |true,true,true=>some r
    | _,_,_=>match decide (k+n≤ (cells r).length) with
      |true=>some (AV.agg (((cells r).drop k).take n))
      |false=>none)=_
  by_cases h4:k+n≤ (cells r).length
  · rw [decide_eq_true h4,if_pos h4]
    by_cases h1:k=0
    · by_cases h2:(cells r).length=n
      · cases h3:lV r with
        |true=>rw[decide_eq_true h1,decide_eq_true h2,if_pos ⟨h1,h2,rfl⟩]
        |false=>rw[decide_eq_true h1,decide_eq_true h2,if_neg (fun h=>by cases h.2.2)]
      ·rw[decide_eq_true h1,decide_eq_false h2,if_neg (fun h=>h2 h.2.1)]
    ·rw[decide_eq_false h1,if_neg (fun h=>h1 h.1)]
  · rw [decide_eq_false h4,if_neg h4]
    by_cases h1:k=0
    · by_cases h2:(cells r).length=n
      · cases h3:lV r with
        |true=>rw[decide_eq_true h1,decide_eq_true h2,if_pos ⟨h1,h2,rfl⟩]
        |false=>rw[decide_eq_true h1,decide_eq_true h2,if_neg (fun h=>by cases h.2.2)]
      ·rw[decide_eq_true h1,decide_eq_false h2,if_neg (fun h=>h2 h.2.1)]
    ·rw[decide_eq_false h1,if_neg (fun h=>h1 h.1)]
theorem rY (ti:Option TI)(r:AV)(k:Nat):uU ti r k=uR ti r k:=by
  cases ti with
  |none=>rfl
  |some ti=>cases ti<;>simp only[uU,uR,iT,gO,IW]
@[reducible] def IB : Option TI → Option Nat
  |some (.sc _)=>some 1
  |some .bl=>some 1
  |some (.sl ..)=>some 1
  |some .str=>some 1
  |some (.st n ..)=>some n
  |some (.ar n ..)=>some n
  |none=>none
theorem Ip (ti:Option TI):IB ti=Cy ti:=by
  cases ti with
  |none=>rfl
  |some ti=>cases ti<;>rfl
@[reducible] def Ic : Option TI → Option AV
  |some (.sc z)=>match z with|.agg _=>none|z=>some (.lit z)
  |some .bl=>some (.lit (.bool false))
  |some (.sl ..)=>some (.lit (.slice none 0 0))
  |some .str=>some (.lit (.string ByteArray.empty))
  |some (.st _ _ z _)=>some (.agg (fE .lit z.toList))
  |some (.ar _ _ _ _ z)=>some (.agg (fE .lit z.toList))
  |none=>none
theorem Iq (ti:Option TI):Ic ti=qv ti:=by
  cases ti with
  |none=>rfl
  |some ti=>cases ti<;>first|rfl|(simp only[Ic,qv,eS])|(rename_i z;cases z<;>rfl)
@[reducible] def tQ (ti : Option TI) (r : AV) (k : Nat) (x : AV) : Option AV :=
  match IB ti with
  | some n=>match vr (fq (dN x)) n,ni Nx (dN x),vK x with
    | true,true,true=>match vr (fq (dN r)) n,Nat.beq k 0 with
      |true,true=>some x
      | _,_=>match Ny (Nat.add k n) (fq (dN r)) with
        |true=>some (.agg (jC (mg k (dN r)) (jC (dN x) (wg (dN x) (yJ k (dN r))))))
        |false=>none
    |_,_,_=>none
  |none=>none
theorem yN {ti:Option TI}{r:AV}{k:Nat}{x r':AV}(h:tQ ti r k x=some r'):xp ti r k x=some r':=by
  unfold tQ at h
  unfold xp
  rw[←Ip]
  cases hs:IB ti with
  |none=>rw[hs] at h;cases h
  | some n =>
    rw[hs] at h
    simp only[sC,r5,An,iM,cP,gO,pN,Fs,eT,A4,List.drop_drop] at h ⊢
    have ho:((cells x).all Nx)=lF (cells x):=by unfold lF;congr 1;funext y;exact KI y
    rw[ho] at h
    split at h
    · rename_i h1 h2 h3
      rw[if_pos ⟨beq_eq h1,h2,h3⟩]
      split at h
      · rename_i h4 h5
        cases h
        rw[if_pos ⟨beq_eq h4,beq_eq h5⟩]
      · rename_i h4
        split at h
        · rename_i h5
          cases h
          have h5':k+n≤ (cells r).length:=fu h5
          rw[if_neg (fun hh=>h4 (by simp[hh.1]) (by simp[hh.2])),if_pos h5']
          unfold ga
          rw[List.append_assoc]
        ·cases h
    ·cases h
@[reducible] def FP (place : Nat → Option (Nat × Nat)) (cs : List AV) : List (Nat × AV) → Option (List AV)
  |[]=>some cs
  | (i,x)::rest=>
    match place i with
    |none=>none
    | some (off,size)=>match vr (fq (dN x)) size,Ny (Nat.add off size) (fq cs),vK x with
      |true,true,true=>FP place (jC (mg off cs) (jC (dN x) (yJ (Nat.add off size) cs))) rest
      |_,_,_=>none
theorem CL {place:Nat→Option (Nat×Nat)}:∀ {ps:List (Nat×AV)} {cs cs':List AV},FP place cs ps=some cs'→nS place cs ps=some cs'
  |[],cs,cs',h=>h
  | (i, x)::rest,cs,cs',h=>by
    simp only[FP] at h
    simp only[nS]
    cases hp:place i with
    |none=>rw[hp] at h;cases h
    | some os=>
      obtain⟨off,size⟩:=os
      rw[hp] at h
      simp only at h ⊢
      split at h
      · rename_i h1 h2 h3
        rw[eT,cP,gO] at h1
        rw[A4,cP] at h2
        rw[pN] at h3
        have e1:=beq_eq h1
        have e2:=fu h2
        rw[if_pos ⟨e1,by rw[e1];exact e2,h3⟩]
        have:=CL h
        simp only[sC,r5,iM,gO] at this
        unfold ga
        rw[List.append_assoc,e1];exact this
      ·cases h
abbrev Rest:=List Nat→AV→ML→Tk→SL→ML→Prop
def aW (P:Program)(N:Nat){o:Oper}(acc:Tk)(sl:SL)(m:ML){R:Rest}:Prop:=∃rd x ups,aI P N o (St sl m) rd x ups∧R rd x ups acc sl m
def eY (p:Prop)(acc:Tk)(sl:SL)(m:ML){A:Tk→SL→ML→Prop}:Prop:=p∧A acc sl m
def ay (rows:List AV)(i:Int)(acc:Tk)(sl:SL)(m:ML){A:AV→Tk→SL→ML→Prop}:Prop:=∃ (k:Nat) (r:AV),i=k∧rows[k]? =some r∧A r acc sl m
def nZ (i:Int)(n:Nat)(acc:Tk)(sl:SL)(m:ML){A:Nat→Tk→SL→ML→Prop}:Prop:=∃k:Nat,i=k∧k<n∧A k acc sl m
def cB (rows:List AV)(i:Nat)(acc:Tk)(sl:SL)(m:ML){A:AV→Tk→SL→ML→Prop}:Prop:=∃r:AV,rows[i]? =some r∧A r acc sl m
def J4 (l h:Int)(len:Nat)(acc:Tk)(sl:SL)(m:ML){A:Nat→Nat→Tk→SL→ML→Prop}:Prop:=∃a n:Nat,l=a∧h=(a:Int)+n∧a+n≤len∧A a n acc sl m
def k9 (l h:Int)(rows:List AV)(acc:Tk)(sl:SL)(m:ML){A:List AV→Tk→SL→ML→Prop}:Prop:=∃ (a n:Nat) (rows':List AV),l=a∧h=(a:Int)+n∧a+n≤rows.length∧rows'=(rows.drop a).take n∧A rows' acc sl m
def dI (rb:List AV)(off len:Nat)(rs:List AV)(off' len':Nat)(bytes:Nat)(acc:Tk)(sl:SL)(m:ML){A:List AV→Tk→SL→ML→Prop}:Prop:=
  ∃ rows0 news,off+len≤rb.length∧rows0=(rb.drop off).take len∧off'+len'≤rs.length∧news=(rs.drop off').take len'∧lF (flat news)=true∧
    (rows0.length+news.length)*bytes≤140737488355328∧rows0.length+news.length≤9223372036854775807∧A (rows0++news) acc sl m
def aj (P:Program)(N:Nat){o:Oper}(f:FuncId)(args:List AV)(acc:Tk)(sl:SL)(m:ML){R:Rest}:Prop:=ic (St sl m) o f args→aW P N acc sl m (o:=o) (R:=R)
def jc (P:Program)(N:Nat){o:Oper}(t:TypeId)(c:Bool)(ym kv:AV)(acc:Tk)(sl:SL)(m:ML){R:Rest}:Prop:=
  (∃y x,o.op=.lookup t y x c∧(St sl m).eval y=ym∧(St sl m).eval x=kv)→aW P N acc sl m (o:=o) (R:=R)
def s7 (P:Program)(N:Nat){o:Oper}(t:TypeId)(ym kv x:AV)(acc:Tk)(sl:SL)(m:ML){R:Rest}:Prop:=
  (∃y z v,o.op=.mapUpdate t y z v∧(St sl m).eval y=ym∧(St sl m).eval z=kv∧(St sl m).eval v=x)→aW P N acc sl m (o:=o) (R:=R)
def gr (P:Program)(N:Nat){o:Oper}(t:TypeId)(ym:AV)(acc:Tk)(sl:SL)(m:ML){R:Rest}:Prop:=
  (∃y,o.op=.call {callee:=.builtin .len,args:= #[y],argTypes:= #[t]}∧(St sl m).eval y=ym)→aW P N acc sl m (o:=o) (R:=R)
def yQ (s:ByteArray)(i:Int)(acc:Tk)(sl:SL)(m:ML){A:Int→Tk→SL→ML→Prop}:Prop:=∃ (k:Nat) (c:UInt8),i=k∧s.data.toList[k]? =some c∧A c.toNat acc sl m
def Kh (s:ByteArray)(l h:Int)(acc:Tk)(sl:SL)(m:ML){A:ByteArray→Tk→SL→ML→Prop}:Prop:=∃a b:Nat,l=a∧h=b∧a≤b∧b≤s.size∧A (s.extract a b) acc sl m
def dA (P:Program)(src dst:TypeId)(v:Value)(acc:Tk)(sl:SL)(m:ML){A:Value→Tk→SL→ML→Prop}:Prop:=∃r,(∀w,(convert src dst v).run P w=.ok r w)∧A r acc sl m
def Dz (P:Program)(src dst:TypeId)(rows:List AV)(off len:Nat)(acc:Tk)(sl:SL)(m:ML){A:Value→Tk→SL→ML→Prop}:Prop:=
  ∃ (bs:List UInt8) (e:TypeId),P.underlying src=some (.slice e)∧P.underlying e=some (.int .u8)∧P.underlying dst=some .string∧len=bs.length∧bs≠ []∧
    (∀ (i:Nat) (b:UInt8),bs[i]? =some b→(flat rows)[off+i]? =some (.lit (.int .u8 b.toNat)))∧A (.string ⟨bs.toArray⟩) acc sl m
def tB (P:Program)(op:BinOp)(t:TypeId)(us vs:List Value)(acc:Tk)(sl:SL)(m:ML){A:Bool→Tk→SL→ML→Prop}:Prop:=
  ∃b,(∀ (y z:Operand) (w:World),((do eqGuard op t y z (.agg us.toArray) (.agg vs.toArray);binOp op t (.agg us.toArray) (.agg vs.toArray):Sem Value)).run P w=.ok (.bool b) w)∧A b acc sl m
@[reducible] def uM : List AV → Option (List Value)
  |[]=>some []
  | .lit v::r=>match uM r with
    |some l=>some (v::l)
    |none=>none
  |_::_=>none
def bq (b:Bool)(acc:Tk)(sl:SL)(m:ML){A B:Tk→SL→ML→Prop}:Prop:=(b=true→A acc sl m)∧(b=false→B acc sl m)
@[reducible] def zT (t : Nat) : Bool := Nat.beq (Nat.mod t 10) 0
@[reducible] def vh (P : Program) (N : Nat) (o : Oper) (acc : Tk) (sl : SL) (m : ML) (R : Rest) : Option (List Nat × AV × ML) → Prop
  |some (rd,x,ups)=>R rd x ups acc sl m
  |none=>aW P N acc sl m (o:=o) (R:=R)
@[reducible] def MV (op : BinOp) (a b : Value) : Option Value :=
  match op,a,b with
  |.add,.int k a,.int k' b=>match Nat.beq (xn k) (xn k') with|true=>some (.int k (k.wrap (a+b)))|false=>none
  |.sub,.int k a,.int k' b=>match Nat.beq (xn k) (xn k') with|true=>some (.int k (k.wrap (a-b)))|false=>none
  |.lss,.int k a,.int k' b=>match Nat.beq (xn k) (xn k') with|true=>some (.bool (decide (a<b)))|false=>none
  |.leq,.int k a,.int k' b=>match Nat.beq (xn k) (xn k') with|true=>some (.bool (decide (a≤b)))|false=>none
  |.gtr,.int k a,.int k' b=>match Nat.beq (xn k) (xn k') with|true=>some (.bool (decide (b<a)))|false=>none
  |.geq,.int k a,.int k' b=>match Nat.beq (xn k) (xn k') with|true=>some (.bool (decide (b≤a)))|false=>none
  |.eql,.int k a,.int k' b=>match Nat.beq (xn k) (xn k') with|true=>some (.bool (decide (a=b)))|false=>none
  |.neq,.int k a,.int k' b=>match Nat.beq (xn k) (xn k') with|true=>some (.bool (!decide (a=b)))|false=>none
  |.eql,.string a,.string b=>some (.bool (decide (a=b)))
  |.neq,.string a,.string b=>some (.bool (!decide (a=b)))
  |_,_,_=>none
theorem Lh (a b:ByteArray):(a.toList==b.toList)=decide (a=b):=by
  rw[ByteArray.toList_eq,ByteArray.toList_eq]
  by_cases h:a=b
  ·subst h;simp
  · rw [decide_eq_false h]
    have:a.data.toList≠b.data.toList:=fun e=>h (by
      obtain⟨⟨x⟩⟩:=a
      obtain⟨⟨y⟩⟩:=b
      simp only at e
      rw[e])
    simpa using this
theorem Mf (a b:Int):(a==b)=decide (a=b):=by
  by_cases h:a=b
  ·subst h;simp
  ·rw[decide_eq_false h];simpa using h
theorem Fe {op:BinOp}{a b r:Value}(h:MV op a b=some r):Av op a b=some r:=by
  unfold MV at h
  split at h
  all_goals first
    | (split at h
       ·rename_i hk;have hk':=HX hk;subst hk';cases h;simp[Av,Mf]
       ·cases h)
    |(cases h;simp[Av,Lh])
    |cases h
@[reducible] def FM (op : BinOp) (a b : Value) : Option Value :=
  match op,a,b with
  |.eql,.bool a,.bool b=>some (.bool (a==b))
  |.neq,.bool a,.bool b=>some (.bool (!(a==b)))
  |_,_,_=>none
theorem Iy {op:BinOp}{a b r:Value}(h:FM op a b=some r):JI op a b=some r:=by
  unfold FM at h
  split at h<;>first|exact h|cases h
@[reducible] def N0 (Γ : cM) (sl : SL) (c : Call) : Option (List Nat × AV × ML) :=
  match c.callee,c.args.toList,c.argTypes.toList with
  | .builtin .len,[y],[t]=>(match sn Γ t with
    | some (.sl ..)=>match fe sl y with
      |.own _ _ n=>some ([],.lit (.int .i64 n),[])
      |.sl _ rows=>some ([],.lit (.int .i64 rows.length),[])
      |.lit (.slice _ n _)=>some ([],.lit (.int .i64 n),[])
      |_=>none
    | some .str=>match fe sl y with
      |.lit (.string s)=>some ([],.lit (.int .i64 s.size),[])
      |_=>none
    |_=>none)
  |_,_,_=>none
theorem LY (Γ:cM)(sl:SL)(c:Call):N0 Γ sl c=K7 Γ sl c:=by
  unfold N0 K7
  simp only[eV,dU]
  rfl
@[reducible] def AS (op : BinOp) (ti : Option TI) (n : Nat) : Option (List Nat × AV × ML) :=
  match ti,op with
  |some (.sl ..),.eql=>some ([],.guess (n=0) True,[])
  |some (.sl ..),.neq=>some ([],.guess True (n=0),[])
  |_,_=>none
theorem Hg (op:BinOp)(ti:Option TI)(n:Nat):AS op ti n=tV op ti n:=by
  unfold AS tV
  rfl
@[reducible] def MZ (b : Bool) (x y : AV) : AV := match b with | true => x | false => y
theorem Km (b:Bool)(x y:AV):MZ b x y=if b then x else y:=by cases b<;>rfl
@[reducible] def ya {α β : Type} (f : α → β) : Option α → Option β
  |some x=>some (f x)
  |none=>none
theorem nD {α β:Type}(f:α→β)(x:Option α):ya f x=x.map f:=by cases x<;>rfl
@[reducible] def Ng (Γ : cM) (op : BinOp) (t : TypeId) (x y : AV) : Option (List Nat × AV × ML) :=
  match x with
  | .own _ _ n=>match Nn y with
    |true=>AS op (sn Γ t) n
    |false=>none
  | .sl _ rows=>match Nn y with
    |true=>AS op (sn Γ t) rows.length
    |false=>none
  | .lit a=>match y with
    | .lit b=>match sn Γ t with
      |some .bl=>ya (fun r=>([],.lit r,[])) (FM op a b)
      |_=>ya (fun r=>([],.lit r,[])) (MV op a b)
    |_=>none
  |_=>none
@[reducible] def da (Γ : cM) (sl : SL) (m : ML) (dst : Option Nat) (op : Op) : Option (List Nat × AV × ML) :=
  match op with
  |.move y=>some ([],fe sl y,[])
  |.assign y=>some ([],fe sl y,[])
  | .pick c y z=>match fe sl c with
    |.lit (.bool b)=>some ([],MZ b (fe sl y) (fe sl z),[])
    |_=>none
  | .extract y i=>match fe sl y with
    |.tup vs=>ya (fun x=>([],x,[])) (lG vs i)
    |_=>none
  | .field t y f=>match fe sl y,sn Γ t with
    | .agg cs,some (.st _ fs _ _)=>match lG fs f with
      |some (off,ft)=>ya (fun x=>([],x,[])) (uU (sn Γ ft) (.agg cs) off)
      |none=>none
    |_,_=>none
  | .load t y=>match fe sl y with
    | .ptr tk i k=>match ej m tk with
      | .live _ rows _=>match lG rows i with
        |some r=>ya (fun x=>([tk],x,[])) (uU (sn Γ t) r k)
        |none=>none
      |_=>none
    |.fptr r k=>ya (fun x=>([],x,[])) (uU (sn Γ t) r k)
    |_=>none
  | .fieldAddr t y f=>match sn Γ t with
    | some (.st _ fs _ _)=>match lG fs f with
      | some (off,_)=>match fe sl y with
        |.ptr tk i k=>some ([],.ptr tk i (Nat.add k off),[])
        |.fptr r k=>some ([],.fptr r (Nat.add k off),[])
        |_=>none
      |none=>none
    |_=>none
  | .nilCheck y=>match fe sl y with
    |.ptr tk i k=>some ([],.ptr tk i k,[])
    |.fptr r k=>some ([],.fptr r k,[])
    |_=>none
  | .store t y z=>match dst with
    | none =>match fe sl y with
      | .ptr tk i k=>match ej m tk with
        | .live wd rows false=>match lG rows i with
          | some r=>match tQ (sn Γ t) r k (fe sl z) with
            |some r'=>some ([tk],.any,[(tk,.live wd (KU rows i r') false)])
            |none=>none
          |none=>none
        |_=>none
      |_=>none
    |some _=>none
  | .box _ y=>match dst with
    | some d=>match ej m (Nat.mul 10 d) with
      | .free=>match vK (fe sl y) with
        |true=>some ([Nat.mul 10 d],.ptr (Nat.mul 10 d) 0 0,[(Nat.mul 10 d,.live (fq (dN (fe sl y))) [fe sl y] false)])
        |false=>none
      |_=>none
    |none=>none
  | .alloc t=>match dst with
    | some d=>match ej m (Nat.mul 10 d) with
      | .free=>match Ic (sn Γ t) with
        |some x=>some ([Nat.mul 10 d],.ptr (Nat.mul 10 d) 0 0,[(Nat.mul 10 d,.live (fq (dN x)) [x] false)])
        |none=>none
      |_=>none
    |none=>none
  |.makeFunc fn first cap=>some ([],.clo fn (fE (fe sl) first.toList) (fE (fe sl) cap.toList),[])
  |.binOp op t y z _=>Ng Γ op t (fe sl y) (fe sl z)
  | .unOp .not _ y=>match fe sl y with
    |.lit (.bool b)=>some ([],.lit (.bool (!b)),[])
    |_=>none
  | .build t parts=>match sn Γ t with
    |some (.st _ fs z szs)=>ya (fun cs=>([],.agg cs,[])) (FP (fun i=>match lG fs i,lG szs i with|some (off,_),some sz=>some (off,sz)|_,_=>none) (fE .lit z.toList) (fE (fun(p:Nat×Operand)=>match p with|(i,y)=>(i,fe sl y)) parts.toList))
    |_=>none
  |.call c=>N0 Γ sl c
  |_=>none
theorem Gx {Γ:cM}{sl:SL}{m:ML}{dst:Option Nat}{op:Op}{q:List Nat×AV×ML}(h:da Γ sl m dst op=some q):eE Γ sl m dst op=some q:=by
  have hcells:∀x,fq (dN x)=(cells x).length:=fun x=>by rw[cP,gO]
  cases op
  case move y=>simp only[da,eE,dU] at h ⊢;exact h
  case assign y=>simp only[da,eE,dU] at h ⊢;exact h
  case pick c y z=>simp only[da,eE,dU,Km] at h ⊢;exact h
  case extract y i=>simp only[da,eE,dU,iT,nD] at h ⊢;exact h
  case field t y f=>simp only[da,eE,dU,iT,nD,eV,rY] at h ⊢;exact h
  case load t y=>simp only[da,eE,dU,iT,nD,eV,lu,rY] at h ⊢;exact h
  case fieldAddr t y f=>simp only[da,eE,dU,iT,eV] at h ⊢;exact h
  case nilCheck y=>simp only[da,eE,dU] at h ⊢;exact h
  case store t y z=>
    simp only[da,eE,dU,iT,eV,lu,E0] at h ⊢
    cases dst with
    |some d=>cases h
    | none =>
      simp only at h ⊢
      generalize jR sl y=vy at h ⊢
      cases vy
      case ptr tk i k=>
        simp only at h ⊢
        generalize aR m tk=ms at h ⊢
        cases ms
        case live wd rows ro=>
          cases ro with
          |true=>simp only at h;cases h
          | false=>
            simp only at h ⊢
            generalize rows[i]? =rw0 at h ⊢
            cases rw0 with
            |none=>simp only at h;cases h
            | some r=>
              simp only at h ⊢
              cases hs:tQ (cT Γ t) r k (jR sl z) with
              |none=>rw[hs] at h;simp only at h;cases h
              |some r'=>rw[yN hs];rw[hs] at h;exact h
        all_goals (simp only at h;cases h)
      all_goals (simp only at h;cases h)
  case box t y=>
    simp only[da,eE,dU,lu,pN,hcells] at h ⊢
    cases dst with
    |none=>cases h
    | some d=>
      simp only at h ⊢
      have e10:Nat.mul 10 d=10*d:=rfl
      rw[e10] at h
      generalize aR m (10*d)=ms at h ⊢
      cases ms
      case free=>
        simp only at h ⊢
        cases hs:(jR sl y).nR with
        |true=>rw[hs] at h;rw[if_pos rfl];exact h
        |false=>rw[hs] at h;simp only at h;cases h
      all_goals (simp only at h;cases h)
  case alloc t=>
    simp only[da,eE,eV,lu,Iq,hcells] at h ⊢
    exact h
  case makeFunc fn a b=>
    have he:fe sl=jR sl:=funext (dU sl)
    simpa only[da,eE,he,eS] using h
  case binOp op t y z yt=>
    simp only[da,Ng,eE,dU,eV,Hg,nD] at h ⊢
    generalize jR sl y=a at h ⊢
    generalize jR sl z=b at h ⊢
    have lit:∀ (x1 x2:Value),(match cT Γ t with
        |some .bl=>(FM op x1 x2).map (fun r=>(([]:List Nat),AV.lit r,([]:ML)))
        |_=>(MV op x1 x2).map (fun r=>(([]:List Nat),AV.lit r,([]:ML))))=some q→
      (match cT Γ t with
        |some .bl=>(JI op x1 x2).map (fun r=>(([]:List Nat),AV.lit r,([]:ML)))
        |_=>(Av op x1 x2).map (fun r=>(([]:List Nat),AV.lit r,([]:ML))))=some q:=by
      intro x1 x2 hh
      have g1:∀ {z1 z2:Option Value},(∀r,z1=some r→z2=some r)→z1.map (fun r=>(([]:List Nat),AV.lit r,([]:ML)))=some q→z2.map (fun r=>(([]:List Nat),AV.lit r,([]:ML)))=some q:=by
        intro z1 z2 hz h1
        rw[Option.map_eq_some_iff] at h1 ⊢
        obtain⟨r,h2,h3⟩:=h1
        exact⟨r,hz r h2,h3⟩
      generalize cT Γ t=ti at hh ⊢
      cases ti with
      |none=>exact g1 (fun r hr=>Fe hr) hh
      |some ti=>cases ti<;>first|exact g1 (fun r hr=>Fe hr) hh|exact g1 (fun r hr=>Iy hr) hh
    cases a
    case own t1 o1 n1=>
      simp only at h
      split at h
      ·rename_i hn;rw[Fy hn];exact h
      ·cases h
    case sl w1 r1=>
      simp only at h
      split at h
      ·rename_i hn;rw[Fy hn];exact h
      ·cases h
    case lit x1=>
      cases b
      case lit x2=>exact lit x1 x2 h
      all_goals (simp only at h;cases h)
    all_goals (simp only at h;cases h)
  case unOp op t y=>cases op<;>(simp only[da,eE,dU] at h ⊢;exact h)
  case build t parts=>
    simp only[da,eE,dU,eV,iT,eS,nD] at h ⊢
    generalize cT Γ t=ti at h ⊢
    cases ti with
    |none=>cases h
    | some ti=>
      cases ti
      case st n fs z szs=>
        simp only at h ⊢
        rw[Option.map_eq_some_iff] at h
        obtain⟨cs,h1,h2⟩:=h
        have h3:=CL h1
        rw[Option.map_eq_some_iff]
        exact⟨cs,h3,h2⟩
      all_goals (simp only at h;cases h)
  case call c=>simp only[da,eE,LY] at h ⊢;exact h
  all_goals simp only[da] at h;cases h
@[reducible] def N8 : Nat → Nat → Nat
  |0,k=>k
  |n+1,k=>Nat.add (n+1) k
theorem Mx (a b:Nat):N8 a b=a+b:=by cases a<;>simp[N8]
@[reducible] def Cm : Value → Bool
  |.agg _=>false
  |_=>true
theorem xU {v:Value}(h:Cm v=true):cells (.lit v)=[.lit v]:=by cases v<;>first|rfl|cases h
theorem zf:∀ {l:List Value},ni Cm l=true→flat (l.map .lit)=l.map .lit
  |[],_=>rfl
  | v ::r,h=>by
    simp only[ni] at h
    split at h
    · rename_i hv
      show cells (.lit v)++flat (r.map .lit)=_
      rw[xU hv,zf h];rfl
    ·cases h
theorem zQ:∀ {l:List Value},ni Cm l=true→bw 1 (l.map .lit)
  |[],_=>bw.nil 1
  | v ::r,h=>by
    simp only[ni] at h
    split at h
    · rename_i hv
      exact .cons (by rw[xU hv];rfl) (zQ h)
    ·cases h
theorem aI.Hw {P:Program}{N:Nat}{o:Oper}{σ:az}{t:TypeId}{tk:Nat}{z:Array Value}(ho:o.op=.alloc t)(hz:jT P t (.agg z))(hs:ni Cm z.toList=true)(hf:σ.mem tk=.free)(hd:∀d,o.dst=some d→d<N):
    aI P N o σ [tk] (.ptr tk 0 0) [(tk,.live 1 (z.toList.map .lit) false)]:=
  .new hf (zQ hs) (fun σ2 he2 w0 W0 L μ a w h=>by
    refine⟨z,t,.pointer (some ⟨w.heap.size,0,none⟩),w.drawn,?_,?_,fun q c hq=>?_,.inl ⟨rfl,rfl⟩⟩
    ·simp[execOp,ho,Instr.alloc,hz w,newVar,newRow,Value.cells]
    ·simp
    · rw [zf hs,List.getElem?_map] at hq
      cases hv:z.toList[q]? with
      |none=>rw[hv] at hq;cases hq
      | some v=>
        rw[hv] at hq
        cases hq
        exact⟨v,by rw[←Array.getElem?_toList];exact hv,.lit⟩) hd
theorem aI.DI {P:Program}{N:Nat}{o:Oper}{σ:az}{y z:Operand}{t e:TypeId}{tk i0 k0 wd n:Nat}{kd:IntKind}{i:Int}(ho:o.op=.indexAddr t y z)(he:σ.eval y=.ptr tk i0 k0)(hz:σ.eval z=.lit (.int kd i))
    (ht:Eu P t n e) (hsz:eZ P e wd) (h0:0≤i) (h1:i<n) (hwd:∃rows ro,σ.mem tk=.live wd rows ro) (hd:∀d,o.dst=some d→d<N):aI P N o σ [tk] (.ptr tk (i0+i.toNat) k0) []:=
  .val (fun σ2 he2 hrd w0 W0 L μ a w hs=>by
    have k1:=hs.eval y
    have k2:=hs.eval z
    rw[he2 y (by simp[ho,Op.operands]),he] at k1
    rw[he2 z (by simp[ho,Op.operands]),hz] at k2
    obtain⟨rows,ro,hm⟩:=hwd
    have hm2:σ2.mem tk=.live wd rows ro:=by rw[hrd tk (by simp)];exact hm
    obtain⟨B,hB,hobj⟩:=hs.objs tk wd rows ro hm2
    generalize hv:a.eval y=v at k1
    cases k1 with
    | @ptr _ _ _ B' a1 ap=>
      rw[hB] at a1;cases a1
      refine⟨.pointer (some ⟨B.b,B.o+ ((i0+i.toNat)*B.wd+k0),none⟩),?_,.ptr hB ap⟩
      simp[execOp,ho,hv,k2.val,Instr.indexAt,asIntOf,run_underlying ht,hsz w,h0,h1,Addr.add_lit,Instr.sureAddr,hobj.width,Nat.add_mul,Nat.add_assoc,Nat.add_comm,Nat.add_left_comm]) hd
section
variable (P : Program) (N : Nat) (Γ : cM) (o : Oper) (acc : Tk) (sl : SL) (m : ML) (R : Rest)
@[reducible] def Of (t : TypeId) (y z : AV) : Prop :=
  match z with
  | .lit (.int _ i)=>match sn Γ t with
    | some (.sl _ wd _)=>match y with
      | .own tk off len=>match ej m tk with
        | .live wd' _ _=>match vr wd' wd with
          |true=>nZ i len acc sl m (A:=fun k=>R [tk] (.ptr tk (off+k) 0) [])
          |false=>aW P N acc sl m (o:=o) (R:=R)
        |_=>aW P N acc sl m (o:=o) (R:=R)
      | .sl wd' rows=>match vr wd' wd with
        |true=>ay rows i acc sl m (A:=fun r=>R [] (.fptr r 0) [])
        |false=>aW P N acc sl m (o:=o) (R:=R)
      |_=>aW P N acc sl m (o:=o) (R:=R)
    | some (.ar _ len _ wd _)=>match y with
      | .ptr tk i0 k0=>match zT tk with
        |true=>nZ i len acc sl m (A:=fun k=>R [] (.ptr tk i0 (Nat.add k0 (Nat.mul k wd))) [])
        | false=>match ej m tk with
          | .live wd' _ _=>match vr wd' wd with
            |true=>nZ i len acc sl m (A:=fun k=>R [tk] (.ptr tk (N8 i0 k) k0) [])
            |false=>aW P N acc sl m (o:=o) (R:=R)
          |_=>aW P N acc sl m (o:=o) (R:=R)
      |_=>aW P N acc sl m (o:=o) (R:=R)
    |_=>aW P N acc sl m (o:=o) (R:=R)
  |_=>aW P N acc sl m (o:=o) (R:=R)
@[reducible] def Ia (t : TypeId) (y : AV) : Prop :=
  match y with
  | .ptr tk i k=>match zT tk with
    |true=>vh P N o acc sl m R (da Γ sl m o.dst o.op)
    | false=>match ej m tk with
      |.live _ rows _=>cB rows i acc sl m (A:=fun r acc sl m=>vh P N o acc sl m R (ya (fun x=>([tk],x,[])) (uU (sn Γ t) r k)))
      |_=>aW P N acc sl m (o:=o) (R:=R)
  |_=>vh P N o acc sl m R (da Γ sl m o.dst o.op)
@[reducible] def Dr (t : TypeId) (y z : AV) : Prop :=
  match y with
  | .ptr tk i k=>match zT tk with
    |true=>vh P N o acc sl m R (da Γ sl m o.dst o.op)
    | false=>match o.dst with
      | none=>match ej m tk with
        |.live wd rows false=>cB rows i acc sl m (A:=fun r acc sl m=>vh P N o acc sl m R (ya (fun r'=>([tk],.any,[(tk,.live wd (rows.set i r') false)])) (tQ (sn Γ t) r k z)))
        |_=>aW P N acc sl m (o:=o) (R:=R)
      |some _=>aW P N acc sl m (o:=o) (R:=R)
  |_=>aW P N acc sl m (o:=o) (R:=R)
@[reducible] def mS (d : Int) : Option Operand → Option Int
  |none=>some d
  | some z=>match fe sl z with
    |.lit (.int _ n)=>some n
    |_=>none
@[reducible] def KY (t : TypeId) (y : AV) (lo hi : Option Operand) : Option Operand → Prop
  | none =>match sn Γ t with
    | some (.sl _ wd _)=>match y with
      | .own tk off len=>match mS sl 0 lo,mS sl len hi,ej m tk with
        | some l,some h,.live wd' _ _=>match vr wd' wd with
          |true=>J4 l h len acc sl m (A:=fun a n=>R [tk] (.own tk (off+a) n) [])
          |false=>aW P N acc sl m (o:=o) (R:=R)
        |_,_,_=>aW P N acc sl m (o:=o) (R:=R)
      | .sl wd' rows=>match mS sl 0 lo,mS sl rows.length hi with
        | some l,some h=>match vr wd' wd with
          |true=>k9 l h rows acc sl m (A:=fun rows'=>R [] (.sl wd rows') [])
          |false=>aW P N acc sl m (o:=o) (R:=R)
        |_,_=>aW P N acc sl m (o:=o) (R:=R)
      |_=>aW P N acc sl m (o:=o) (R:=R)
    | some .str=>match y with
      | .lit (.string s)=>match mS sl 0 lo,mS sl s.size hi with
        |some l,some h=>Kh s l h acc sl m (A:=fun s=>R [] (.lit (.string s)) [])
        |_,_=>aW P N acc sl m (o:=o) (R:=R)
      |_=>aW P N acc sl m (o:=o) (R:=R)
    |_=>aW P N acc sl m (o:=o) (R:=R)
  | some mx=>match lo,hi with
    | none,some hi=>match sn Γ t,fe sl hi,fe sl mx with
      | some (.sl _ _ _),.lit (.int _ a),.lit (.int _ b)=>match y with
        |.own _ _ _=>eY (a=0∧b=0) acc sl m (A:=R [] .emp [])
        |.sl _ _=>eY (a=0∧b=0) acc sl m (A:=R [] .emp [])
        |.emp=>eY (a=0∧b=0) acc sl m (A:=R [] .emp [])
        |_=>aW P N acc sl m (o:=o) (R:=R)
      |_,_,_=>aW P N acc sl m (o:=o) (R:=R)
    |_,_=>aW P N acc sl m (o:=o) (R:=R)
@[reducible] def sX (wd : Nat) : Nat → List (Nat × AV) → Bool
  |_,[]=>true
  | k,(i,x)::r=>match Nat.beq i k,vr (fq (dN x)) wd,vK x with
    |true,true,true=>sX wd (Nat.add k 1) r
    |_,_,_=>false
@[reducible] def nF (d : Nat) : Nat := Nat.add (Nat.mul 10 d) 1
@[reducible] def NX (t : TypeId) (len : Nat) (parts : List (Nat × Operand)) : Prop :=
  match o.dst,sn Γ t with
  | some d,some (.sl _ wd _)=>match ej m (nF d) with
    | .free=>match sX wd 0 (fE (fun(p:Nat×Operand)=>match p with|(i,y)=>(i,fe sl y)) parts),vr (fq parts) len,Nat.ble (Nat.mul len wd) 16777216 with
      |true,true,true=>R [nF d] (.own (nF d) 0 len) [(nF d,.live wd (fE (fun(p:Nat×Operand)=>match p with|(_,y)=>fe sl y) parts) false)] acc sl m
      |_,_,_=>aW P N acc sl m (o:=o) (R:=R)
    |_=>aW P N acc sl m (o:=o) (R:=R)
  |_,_=>aW P N acc sl m (o:=o) (R:=R)
@[reducible] def O6 (wd : Nat) : AV → Option (List AV × Nat × Nat × List Nat)
  | .own t off len=>match ej m t with
    | .live wd' rows _=>match vr wd' wd with
      |true=>some (rows,off,len,[t])
      |false=>none
    |_=>none
  | .sl wd' rows=>match vr wd' wd with
    |true=>some (rows,0,rows.length,[])
    |false=>none
  |.emp=>some ([],0,0,[])
  | .lit v=>match Ey v with
    |true=>some ([],0,0,[])
    |false=>none
  |_=>none
@[reducible] def M4 (wd : Nat) : AV → Option (List AV × Nat × Nat × List Nat)
  | .own t off len=>match ej m t with
    | .live wd' rows false=>match vr wd' wd with
      |true=>some (rows,off,len,[t])
      |false=>none
    |_=>none
  |.emp=>some ([],0,0,[])
  | .lit v=>match Ey v with
    |true=>some ([],0,0,[])
    |false=>none
  |_=>none
@[reducible] def N1 (args : List Operand) (types : List TypeId) : Prop :=
  match args,types with
  | [y, z], [t,t2]=>match o.dst,sn Γ t,sn Γ t2 with
    | some d,some (.sl _ wd bytes),some (.sl _ _ _)=>match ej m (nF d) with
      | .free=>match M4 m wd (fe sl y),O6 m wd (fe sl z) with
        |some (rb,off,len,k),some (rs,off',len',rd)=>dI rb off len rs off' len' bytes acc sl m
            (A:=fun rows=>R (nF d::jC k rd) (.own (nF d) 0 rows.length) ((nF d,.live wd rows false)::fE (fun t=>(t,MS.dead)) k))
        |_,_=>aW P N acc sl m (o:=o) (R:=R)
      |_=>aW P N acc sl m (o:=o) (R:=R)
    |_,_,_=>aW P N acc sl m (o:=o) (R:=R)
  |_,_=>aW P N acc sl m (o:=o) (R:=R)
@[reducible] def Nz (args : List Operand) (types : List TypeId) : Prop :=
  match args,types with
  | [y],[t]=>match fe sl y with
    |.mapr k=>gr P N t (.mapr k) acc sl m (o:=o) (R:=R)
    |.fmap k=>gr P N t (.fmap k) acc sl m (o:=o) (R:=R)
    |_=>vh P N o acc sl m R (da Γ sl m o.dst o.op)
  |_,_=>vh P N o acc sl m R (da Γ sl m o.dst o.op)
@[reducible] def Nr : Option Operand → Prop
  | none=>match o.dst with
    | some d=>match ej m (nF d) with
      |.free=>R [nF d] (.mapr (nF d)) [(nF d,.live 2 [] false)] acc sl m
      |_=>aW P N acc sl m (o:=o) (R:=R)
    |none=>aW P N acc sl m (o:=o) (R:=R)
  |some _=>aW P N acc sl m (o:=o) (R:=R)
@[reducible] def Jr (c : Call) : Prop :=
  match c.callee with
  |.builtin .len=>Nz P N Γ o acc sl m R c.args.toList c.argTypes.toList
  |.builtin .append=>N1 P N Γ o acc sl m R c.args.toList c.argTypes.toList
  | .value f=>match f with
    |.func g=>aj P N g (fE (fe sl) c.args.toList) acc sl m (o:=o) (R:=R)
    | f=>match fe sl f with
      |.clo (.func g) first cap=>aj P N g (jC first (jC (fE (fe sl) c.args.toList) cap)) acc sl m (o:=o) (R:=R)
      |_=>aW P N acc sl m (o:=o) (R:=R)
  |_=>aW P N acc sl m (o:=o) (R:=R)
@[reducible] def Nv (op : BinOp) (t : TypeId) (x y : AV) : Prop :=
  match op,x,y with
  |.add,.lit (.int .i64 a),.lit (.int .i64 b)=>eY (-9223372036854775808≤a+b∧a+b≤9223372036854775807) acc sl m (A:=R [] (.lit (.int .i64 (a+b))) [])
  |.sub,.lit (.int .i64 a),.lit (.int .i64 b)=>eY (-9223372036854775808≤a-b∧a-b≤9223372036854775807) acc sl m (A:=R [] (.lit (.int .i64 (a-b))) [])
  |.add,.lit (.string a),.lit (.string b)=>eY (a.size+b.size≤9223372036854775807) acc sl m (A:=R [] (.lit (.string (a++b))) [])
  | .eql,.agg cs,.agg ds=>match uM cs,uM ds with
    |some us,some vs=>tB P .eql t us vs acc sl m (A:=fun b=>R [] (.lit (.bool b)) [])
    |_,_=>aW P N acc sl m (o:=o) (R:=R)
  | .neq,.agg cs,.agg ds=>match uM cs,uM ds with
    |some us,some vs=>tB P .neq t us vs acc sl m (A:=fun b=>R [] (.lit (.bool b)) [])
    |_,_=>aW P N acc sl m (o:=o) (R:=R)
  |_,_,_=>vh P N o acc sl m R (da Γ sl m o.dst o.op)
@[reducible] def HT (t : TypeId) (y z : AV) : Prop :=
  match sn Γ t,y,z with
  |some .str,.lit (.string s),.lit (.int _ i)=>yQ s i acc sl m (A:=fun c=>R [] (.lit (.int .u8 c)) [])
  |_,_,_=>aW P N acc sl m (o:=o) (R:=R)
@[reducible] def J6 (src dst : TypeId) (y : AV) : Prop :=
  match y with
  |.lit v=>dA P src dst v acc sl m (A:=fun r=>R [] (.lit r) [])
  | .own tk off len=>match ej m tk with
    | .live wd rows _=>match vr wd 1 with
      |true=>Dz P src dst rows off len acc sl m (A:=fun r=>R [tk] (.lit r) [])
      |false=>aW P N acc sl m (o:=o) (R:=R)
    |_=>aW P N acc sl m (o:=o) (R:=R)
  |_=>aW P N acc sl m (o:=o) (R:=R)
@[reducible] def EE (t : TypeId) : Prop :=
  match o.dst,sn Γ t with
  | some d,some (.ar _ _ e _ z)=>match sn Γ e with
    |some (.sl _ _ _)=>vh P N o acc sl m R (da Γ sl m o.dst o.op)
    | _=>match ni Cm z.toList,ej m (nF d) with
      |true,.free=>R [nF d] (.ptr (nF d) 0 0) [(nF d,.live 1 (fE .lit z.toList) false)] acc sl m
      |_,_=>aW P N acc sl m (o:=o) (R:=R)
  |_,_=>vh P N o acc sl m R (da Γ sl m o.dst o.op)
@[reducible] def wpOp : Prop :=
  match o.op with
  |.alloc t=>EE P N Γ o acc sl m R t
  |.indexAddr t y z=>Of P N Γ o acc sl m R t (fe sl y) (fe sl z)
  |.load t y=>Ia P N Γ o acc sl m R t (fe sl y)
  |.store t y z=>Dr P N Γ o acc sl m R t (fe sl y) (fe sl z)
  |.slice t y lo hi mx=>KY P N Γ o acc sl m R t (fe sl y) lo hi mx
  |.buildSlice t len parts=>NX P N Γ o acc sl m R t len parts.toList
  |.call c=>Jr P N Γ o acc sl m R c
  |.binOp op t y z _=>Nv P N Γ o acc sl m R op t (fe sl y) (fe sl z)
  |.index t y z=>HT P N Γ o acc sl m R t (fe sl y) (fe sl z)
  |.convert src dst y=>J6 P N o acc sl m R src dst (fe sl y)
  |.makeMap _ hint=>Nr P N o acc sl m R hint
  |.lookup t y x c=>jc P N t c (fe sl y) (fe sl x) acc sl m (o:=o) (R:=R)
  |.mapUpdate t y x v=>s7 P N t (fe sl y) (fe sl x) (fe sl v) acc sl m (o:=o) (R:=R)
  |_=>vh P N o acc sl m R (da Γ sl m o.dst o.op)
end
section
variable {P : Program} {N : Nat} {Γ : cM} {o : Oper} {acc : Tk} {sl : SL} {m : ML} {R : Rest}
def qO (P:Program)(N:Nat)(o:Oper)(acc:Tk)(sl:SL)(m:ML)(R:Rest):Prop:=∃rd x ups,aI P N o (St sl m) rd x ups∧R rd x ups acc sl m
theorem j1 (hΓ:Γ.Good P)(hd:gu N o.dst=true)(h:vh P N o acc sl m R (da Γ sl m o.dst o.op)):qO P N o acc sl m R:=by
  cases hp:da Γ sl m o.dst o.op with
  |none=>rw[hp] at h;exact h
  | some q=>
    obtain⟨rd,x,ups⟩:=q
    rw[hp] at h
    exact⟨rd,x,ups,GR hΓ (Gx hp) (bk hd),h⟩
theorem oJ:∀ {cs:List AV} {us:List Value},uM cs=some us→mJ cs=some us
  |[],us,h=>h
  | c :: r,us,h=>by
    cases c with
    | lit v=>
      simp only[uM] at h
      split at h
      · rename_i l hl
        cases h
        simp[mJ,oJ hl]
      ·cases h
    |_=>simp[uM] at h
theorem ev_eq (y:Operand):(St sl m).eval y=fe sl y:=by rw[gP,dU]
theorem mem_eq (t:Nat):(St sl m).mem t=ej m t:=(lu m t).symm
theorem LG (hΓ:Γ.Good P)(hd:gu N o.dst=true){t:TypeId}{y z:Operand}(ho:o.op=.indexAddr t y z)(h:Of P N Γ o acc sl m R t (fe sl y) (fe sl z)):qO P N o acc sl m R:=by
  unfold Of at h
  split at h
  · rename_i hz
    split at h
    · rename_i ht
      rw[eV] at ht
      have ok:=hΓ.look ht
      obtain⟨i,z',te⟩:=ok.2.2.2.2
      split at h
      · rename_i hy
        split at h
        · rename_i hm
          split at h
          · rename_i hw
            obtain⟨k,rfl,hk,h⟩:=h
            have hw':=beq_eq (by rw[←eT];exact hw)
            subst hw'
            refine⟨_,_,_,?_,h⟩
            have:=aI.GQ (P:=P) (N:=N) (σ:=St sl m) ho (by rw[ev_eq];exact hy) (by rw[ev_eq];exact hz) te.ty ok.2.2.2.1 (Int.natCast_nonneg k) (by omega) ⟨_,_,by rw[mem_eq];exact hm⟩ (bk hd)
            simpa using this
          ·exact h
        ·exact h
      · rename_i hy
        split at h
        · rename_i hw
          obtain⟨k,r,rfl,hk,h⟩:=h
          have hw':=beq_eq (by rw[←eT];exact hw)
          subst hw'
          exact⟨_,_,_,aI.Jl (P:=P) (N:=N) (σ:=St sl m) ho (by rw[ev_eq];exact hy) (by rw[ev_eq];exact hz) te.ty ok.2.2.2.1 (Int.natCast_nonneg k) (by simpa using hk) (bk hd),h⟩
        ·exact h
      ·exact h
    · rename_i ht
      rw[eV] at ht
      have ok:=hΓ.look ht
      split at h
      · rename_i hy
        split at h
        · obtain⟨k,rfl,hk,h⟩:=h
          refine⟨_,_,_,?_,h⟩
          have:=aI.F7 (P:=P) (N:=N) (σ:=St sl m) ho (by rw[ev_eq];exact hy) (by rw[ev_eq];exact hz) ok.2.2.2.1 ok.2.2.2.2 (Int.natCast_nonneg k) (by omega) (bk hd)
          simpa using this
        · split at h
          · rename_i hm
            split at h
            · rename_i hw
              obtain⟨k,rfl,hk,h⟩:=h
              have hw':=beq_eq (by rw[←eT];exact hw)
              subst hw'
              refine⟨_,_,_,?_,h⟩
              have:=aI.DI (P:=P) (N:=N) (σ:=St sl m) ho (by rw[ev_eq];exact hy) (by rw[ev_eq];exact hz) ok.2.2.2.1 ok.2.2.2.2 (Int.natCast_nonneg k) (by omega) ⟨_,_,by rw[mem_eq];exact hm⟩ (bk hd)
              simpa[Mx] using this
            ·exact h
          ·exact h
      ·exact h
    ·exact h
  ·exact h
theorem Ke (hΓ:Γ.Good P)(hd:gu N o.dst=true){t:TypeId}{y:Operand}(ho:o.op=.load t y)(h:Ia P N Γ o acc sl m R t (fe sl y)):qO P N o acc sl m R:=by
  unfold Ia at h
  split at h
  · rename_i tk i k hy
    split at h
    ·exact j1 hΓ hd h
    · split at h
      · rename_i hm
        obtain⟨r,hr,h⟩:=h
        rw[nD] at h
        cases hl:uU (sn Γ t) r k with
        |none=>rw[hl] at h;exact h
        | some x=>
          rw[hl] at h
          exact⟨_,_,_,aI.Cu (P:=P) (N:=N) (σ:=St sl m) ho (by rw[ev_eq];exact hy) (by rw[mem_eq];exact hm) hr (oB hΓ (by rw[←eV,←rY];exact hl)) (bk hd),h⟩
      ·exact h
  ·exact j1 hΓ hd h
theorem GK (hΓ:Γ.Good P)(hd:gu N o.dst=true){t:TypeId}{y z:Operand}(ho:o.op=.store t y z)(h:Dr P N Γ o acc sl m R t (fe sl y) (fe sl z)):qO P N o acc sl m R:=by
  unfold Dr at h
  split at h
  · rename_i tk i k hy
    split at h
    ·exact j1 hΓ hd h
    · split at h
      · rename_i hdst
        split at h
        · rename_i hm
          obtain⟨r,hr,h⟩:=h
          rw[nD] at h
          cases hl:tQ (sn Γ t) r k (fe sl z) with
          |none=>rw[hl] at h;exact h
          | some r'=>
            rw[hl] at h
            have hs:=ze (P:=P) (Γ:=Γ) (t:=t) hΓ (by rw[←eV];exact yN hl)
            exact⟨_,_,_,aI.store (P:=P) (N:=N) (σ:=St sl m) ho (by rw[ev_eq];exact hy) (by rw[ev_eq]) (by rw[mem_eq];exact hm) hr hs.1 hs.2.1 hs.2.2 hdst,h⟩
        ·exact h
      ·exact h
  ·exact h
theorem kx {d l:Int}{lo:Option Operand}(h:mS sl d lo=some l)(h0:0≤l):lo=none∧l.toNat=d.toNat∨∃z k,lo=some z∧(St sl m).eval z=.lit (.int k (l.toNat:Nat)):=by
  cases lo with
  |none=>simp only[mS,Option.some.injEq] at h;subst h;exact .inl ⟨rfl,rfl⟩
  | some z=>
    simp only[mS] at h
    split at h
    · rename_i k n he
      cases h
      exact .inr ⟨z,k,rfl,by rw[ev_eq,he,Int.toNat_of_nonneg h0]⟩
    ·cases h
theorem LF (hΓ:Γ.Good P)(hd:gu N o.dst=true){t:TypeId}{y:Operand}{lo hi mx:Option Operand}(ho:o.op=.slice t y lo hi mx)(h:KY P N Γ o acc sl m R t (fe sl y) lo hi mx):qO P N o acc sl m R:=by
  cases mx with
  | none =>
    simp only[KY] at h
    split at h
    · rename_i ht
      rw[eV] at ht
      have ok:=hΓ.look ht
      obtain⟨i,z',te⟩:=ok.2.2.2.2
      split at h
      · rename_i hy
        split at h
        · rename_i hl hh hm
          split at h
          · rename_i hw
            obtain⟨a,n,rfl,rfl,hn,h⟩:=h
            have hw':=beq_eq (by rw[←eT];exact hw)
            subst hw'
            refine⟨_,_,_,?_,h⟩
            have:=aI.G4 (P:=P) (N:=N) (σ:=St sl m) (l:=a) (h:=a+n) ho (by rw[ev_eq];exact hy) (by have:=kx (m:=m) hl (Int.natCast_nonneg _);simpa using this)
              (by rw[show((a:Int)+ (n:Int))=((a+n:Nat):Int) from by omega] at hh;have:=kx (m:=m) hh (Int.natCast_nonneg _);simp only[Int.toNat_natCast] at this;exact this) (by omega) (by omega) te.ty ok.2.2.2.1 ⟨_,_,by rw[mem_eq];exact hm⟩ (bk hd)
            simpa using this
          ·exact h
        ·exact h
      · rename_i hy
        split at h
        · rename_i hl hh
          split at h
          · rename_i hw
            obtain⟨a,n,rows',rfl,rfl,hn,rfl,h⟩:=h
            have hw':=beq_eq (by rw[←eT];exact hw)
            subst hw'
            refine⟨_,_,_,?_,h⟩
            have:=aI.IS (P:=P) (N:=N) (σ:=St sl m) (l:=a) (h:=a+n) ho (by rw[ev_eq];exact hy) (by have:=kx (m:=m) hl (Int.natCast_nonneg _);simpa using this)
              (by rw[show((a:Int)+ (n:Int))=((a+n:Nat):Int) from by omega] at hh;have:=kx (m:=m) hh (Int.natCast_nonneg _);simp only[Int.toNat_natCast] at this;exact this) (by omega) (by omega) te.ty ok.2.2.2.1 (bk hd)
            simpa using this
          ·exact h
        ·exact h
      ·exact h
    · rename_i ht
      rw[eV] at ht
      have ok:=hΓ.look ht
      split at h
      · rename_i hy
        split at h
        · rename_i hl hh
          obtain⟨a,b,rfl,rfl,h1,h2,h⟩:=h
          exact⟨_,_,_,aI.Ol (P:=P) (N:=N) (σ:=St sl m) (a:=a) (b:=b) ho (by rw[ev_eq];exact hy) ok.2.2.2 (by have:=kx (m:=m) hl (Int.natCast_nonneg _);simpa using this) (by have:=kx (m:=m) hh (Int.natCast_nonneg _);simpa using this) h1 h2 (bk hd),h⟩
        ·exact h
      ·exact h
    ·exact h
  | some mx=>
    simp only[KY] at h
    split at h
    · split at h
      · rename_i ht h1 h2
        rw[eV] at ht
        have ok:=hΓ.look ht
        obtain⟨i,z',te⟩:=ok.2.2.2.2
        split at h
        · rename_i hy
          obtain⟨⟨rfl,rfl⟩,h⟩:=h
          exact⟨_,_,_,aI.slice3 (P:=P) (N:=N) (σ:=St sl m) ho (by rw[ev_eq];exact hy) (.inl ⟨_,_,_,rfl⟩) (by rw[ev_eq];exact h1) (by rw[ev_eq];exact h2) te.ty ⟨_,ok.2.2.2.1⟩ (bk hd),h⟩
        · rename_i hy
          obtain⟨⟨rfl,rfl⟩,h⟩:=h
          exact⟨_,_,_,aI.slice3 (P:=P) (N:=N) (σ:=St sl m) ho (by rw[ev_eq];exact hy) (.inr (.inl ⟨_,_,rfl⟩)) (by rw[ev_eq];exact h1) (by rw[ev_eq];exact h2) te.ty ⟨_,ok.2.2.2.1⟩ (bk hd),h⟩
        · rename_i hy
          obtain⟨⟨rfl,rfl⟩,h⟩:=h
          exact⟨_,_,_,aI.slice3 (P:=P) (N:=N) (σ:=St sl m) ho (by rw[ev_eq];exact hy) (.inr (.inr (.inl rfl))) (by rw[ev_eq];exact h1) (by rw[ev_eq];exact h2) te.ty ⟨_,ok.2.2.2.1⟩ (bk hd),h⟩
        ·exact h
      ·exact h
    ·exact h
theorem uY {wd:Nat}:∀ {k:Nat} {ps:List (Nat×AV)},sX wd k ps=true→jY wd k ps=true
  |k,[],_=>rfl
  | k, (i,x)::r,h=>by
    simp only[sX] at h
    split at h
    · rename_i h1 h2 h3
      rw[eT,cP,gO] at h2
      rw[pN] at h3
      have h4:jY wd (k+1) r=true:=uY h
      simp only[jY,Bool.and_eq_true,beq_iff_eq]
      exact⟨⟨⟨beq_eq h1,beq_eq h2⟩,h3⟩,h4⟩
    ·cases h
theorem Mn (hΓ:Γ.Good P)(hd:gu N o.dst=true){t:TypeId}{len:Nat}{parts:Array (Nat×Operand)}(ho:o.op=.buildSlice t len parts)(h:NX P N Γ o acc sl m R t len parts.toList):qO P N o acc sl m R:=by
  unfold NX at h
  split at h
  · rename_i d e wd bytes hdst ht
    rw[eV] at ht
    have ok:=hΓ.look ht
    obtain⟨i,z',te⟩:=ok.2.2.2.2
    split at h
    · rename_i hm
      split at h
      · rename_i g1 g2 g3
        have g1':=uY g1
        rw[eS] at g1'
        rw[eT,cP] at g2
        have g2':=beq_eq g2
        have g3':len*wd≤16777216:=fu g3
        have hev:(fun p:Nat×Operand=>(p.1,fe sl p.2))=fun p=>(p.1,(St sl m).eval p.2):=by funext p;rw[ev_eq]
        rw[hev] at g1'
        have hfi:=so _ 0 [] g1' (by simp)
        have hmap:fE (fun(p:Nat×Operand)=>match p with|(_,y)=>fe sl y) parts.toList=(parts.toList.map fun p=>(p.1,(St sl m).eval p.2)).map (·.2):=by
          rw[eS,List.map_map];apply List.map_congr_left;intro p _;simp[ev_eq]
        have:=aI.buildSlice (P:=P) (N:=N) (σ:=St sl m) (tk:=nF d) ho te g3' (rows:=(parts.toList.map fun p=>(p.1,(St sl m).eval p.2)).map (·.2)) (by simp[←g2']) (su _ 0 g1')
          (by simp only[List.nil_append,List.length_map] at hfi;rw[←g2'];exact hfi) (by rw[mem_eq];exact hm) (bk hd)
        rw[hmap] at h
        refine⟨_,_,_,?_,h⟩
        simp only[List.length_map,g2'] at this
        exact this
      ·exact h
    ·exact h
  ·exact h
theorem MU (hΓ:Γ.Good P)(hd:gu N o.dst=true){args:Array Operand}{types:Array TypeId}(ho:o.op=.call {callee:=.builtin .append,args:=args,argTypes:=types})(h:N1 P N Γ o acc sl m R args.toList types.toList):qO P N o acc sl m R:=by
  unfold N1 at h
  split at h
  · rename_i y z t t2 ea et
    obtain rfl:args= #[y,z]:=Array.ext' ea
    obtain rfl:types= #[t,t2]:=Array.ext' et
    split at h
    · rename_i d e wd bytes e2 wd2 bytes2 hdst ht ht2
      rw[eV] at ht ht2
      have ok:=hΓ.look ht
      obtain⟨i,z',te⟩:=ok.2.2.2.2
      have ok2:=hΓ.look ht2
      obtain⟨i2,z2,te2⟩:=ok2.2.2.2.2
      split at h
      · rename_i hm
        split at h
        · rename_i rb off len k rs off' len' rd hb hx
          obtain⟨rows0,news,c1,rfl,c2,rfl,c3,c4,c5,h⟩:=h
          have hb':vp (St sl m) wd ((St sl m).eval y) ((rb.drop off).take len) k:=by
            rw[ev_eq]
            unfold M4 at hb
            split at hb
            · rename_i hy
              split at hb
              · rename_i hmm
                split at hb
                ·rename_i hw;have hw':=beq_eq (by rw[←eT];exact hw);subst hw';cases hb;rw[hy];exact .own (by rw[mem_eq];exact hmm) c1
                ·cases hb
              ·cases hb
            ·rename_i hy;cases hb;rw[hy];simpa using vp.emp
            · rename_i hy
              split at hb
              ·rename_i hn;cases hb;rw[hy,pJ hn];simpa using vp.nil
              ·cases hb
            ·cases hb
          have hx':Src (St sl m) wd ((St sl m).eval z) ((rs.drop off').take len') rd:=by
            rw[ev_eq]
            unfold O6 at hx
            split at hx
            · rename_i hy
              split at hx
              · rename_i hmm
                split at hx
                ·rename_i hw;have hw':=beq_eq (by rw[←eT];exact hw);subst hw';cases hx;rw[hy];exact .own (by rw[mem_eq];exact hmm) c2
                ·cases hx
              ·cases hx
            · rename_i hy
              split at hx
              ·rename_i hw;have hw':=beq_eq (by rw[←eT];exact hw);subst hw';cases hx;rw[hy];simpa using Src.sl
              ·cases hx
            ·rename_i hy;cases hx;rw[hy];simpa using Src.emp
            · rename_i hy
              split at hx
              ·rename_i hn;cases hx;rw[hy,pJ hn];simpa using Src.nil
              ·cases hx
            ·cases hx
          refine⟨_,_,_,?_,h⟩
          have:=aI.append (P:=P) (N:=N) (σ:=St sl m) (tn:=nF d) ho te te2.ty hb' hx' c3 c4 (by unfold maxLen;omega) (by rw[mem_eq];exact hm) (bk hd)
          rw[iM,eS]
          exact this
        ·exact h
      ·exact h
    ·exact h
  ·exact h
theorem args_eq (args:Array Operand):args.toList.map (St sl m).eval=fE (fe sl) args.toList:=by
  rw[eS];apply List.map_congr_left;intro y _;exact ev_eq y
theorem Mz (hΓ:Γ.Good P)(hd:gu N o.dst=true){args:Array Operand}{types:Array TypeId}(ho:o.op=.call {callee:=.builtin .len,args:=args,argTypes:=types})(h:Nz P N Γ o acc sl m R args.toList types.toList):qO P N o acc sl m R:=by
  unfold Nz at h
  split at h
  · rename_i y t ea et
    obtain rfl:args= #[y]:=Array.ext' ea
    obtain rfl:types= #[t]:=Array.ext' et
    split at h
    ·rename_i hy;exact h ⟨y,ho,by rw[ev_eq];exact hy⟩
    ·rename_i hy;exact h ⟨y,ho,by rw[ev_eq];exact hy⟩
    ·exact j1 hΓ hd h
  ·exact j1 hΓ hd h
theorem MJ (hd:gu N o.dst=true){t:TypeId}{hint:Option Operand}(ho:o.op=.makeMap t hint)(h:Nr P N o acc sl m R hint):qO P N o acc sl m R:=by
  cases hint with
  |some _=>exact h
  | none =>
    simp only[Nr] at h
    split at h
    · rename_i d hdst
      split at h
      · rename_i hm
        exact⟨_,_,_,aI.makeMap (P:=P) (N:=N) (σ:=St sl m) (tk:=nF d) ho (by rw[mem_eq];exact hm) (bk hd),h⟩
      ·exact h
    ·exact h
theorem HV (hΓ:Γ.Good P)(hd:gu N o.dst=true){c:Call}(ho:o.op=.call c)(h:Jr P N Γ o acc sl m R c):qO P N o acc sl m R:=by
  obtain⟨callee,args,types⟩:=c
  unfold Jr at h
  simp only at h
  split at h
  ·exact Mz hΓ hd ho h
  ·exact MU hΓ hd ho h
  · split at h
    · refine h ?_
      have:=ic.func (σ:=St sl m) ho (by rfl)
      rw[show fE (fe sl) args.toList=args.toList.map (St sl m).eval from(args_eq args).symm]
      exact this
    · split at h
      · rename_i hy
        refine h ?_
        have:=ic.clo (σ:=St sl m) ho (by rw[ev_eq];exact hy)
        rw[iM,iM,show fE (fe sl) args.toList=args.toList.map (St sl m).eval from(args_eq args).symm,←List.append_assoc]
        exact this
      ·exact h
  ·exact h
theorem Ma (hΓ:Γ.Good P)(hd:gu N o.dst=true){op:BinOp}{t yt:TypeId}{y z:Operand}(ho:o.op=.binOp op t y z yt)(h:Nv P N Γ o acc sl m R op t (fe sl y) (fe sl z)):qO P N o acc sl m R:=by
  unfold Nv at h
  split at h
  · rename_i a b hx hy
    obtain⟨hn,h⟩:=h
    refine⟨_,_,_,aI.binOp (P:=P) (N:=N) (σ:=St sl m) ho (by rw[ev_eq];exact hx) (by rw[ev_eq];exact hy) (vN (by simp only[Av,if_true];rw[IntWalk.i64_in _ hn]) _ _ _) (bk hd),h⟩
  · rename_i a b hx hy
    obtain⟨hn,h⟩:=h
    refine⟨_,_,_,aI.binOp (P:=P) (N:=N) (σ:=St sl m) ho (by rw[ev_eq];exact hx) (by rw[ev_eq];exact hy) (vN (by simp only[Av,if_true];rw[IntWalk.i64_in _ hn]) _ _ _) (bk hd),h⟩
  · rename_i a b hx hy
    obtain⟨hn,h⟩:=h
    refine⟨_,_,_,aI.binOp (P:=P) (N:=N) (σ:=St sl m) ho (by rw[ev_eq];exact hx) (by rw[ev_eq];exact hy) (fun w=>by simp[eqGuard,binOp,run_string_add_sum w a b hn]) (bk hd),h⟩
  · rename_i cs ds hx hy
    split at h
    · rename_i us vs h1 h2
      obtain⟨b,hr,h⟩:=h
      exact kL.JE (R:=fun rd x ups=>R rd x ups acc sl m) ho (by rw[←dU];exact hx) (oJ h1) (by rw[←dU];exact hy) (oJ h2) (fun w=>hr y z w) hd h
    ·exact h
  · rename_i cs ds hx hy
    split at h
    · rename_i us vs h1 h2
      obtain⟨b,hr,h⟩:=h
      exact kL.JE (R:=fun rd x ups=>R rd x ups acc sl m) ho (by rw[←dU];exact hx) (oJ h1) (by rw[←dU];exact hy) (oJ h2) (fun w=>hr y z w) hd h
    ·exact h
  ·exact j1 hΓ hd h
theorem I7 (hΓ:Γ.Good P)(hd:gu N o.dst=true){t:TypeId}{y z:Operand}(ho:o.op=.index t y z)(h:HT P N Γ o acc sl m R t (fe sl y) (fe sl z)):qO P N o acc sl m R:=by
  unfold HT at h
  split at h
  · rename_i ht hy hz
    rw[eV] at ht
    have ok:=hΓ.look ht
    obtain⟨k,c,rfl,hc,h⟩:=h
    exact⟨_,_,_,aI.N7 (P:=P) (N:=N) (σ:=St sl m) ho (by rw[ev_eq];exact hy) (by rw[ev_eq];exact hz) ok.2.2.2 hc (bk hd),h⟩
  ·exact h
theorem J3 (hd:gu N o.dst=true){src dst:TypeId}{y:Operand}(ho:o.op=.convert src dst y)(h:J6 P N o acc sl m R src dst (fe sl y)):qO P N o acc sl m R:=by
  unfold J6 at h
  split at h
  · rename_i hy
    obtain⟨r,hr,h⟩:=h
    exact⟨_,_,_,aI.KF (P:=P) (N:=N) (σ:=St sl m) ho (by rw[ev_eq];exact hy) hr (bk hd),h⟩
  · rename_i hy
    split at h
    · rename_i hm
      split at h
      · rename_i hw
        have hw':=beq_eq (by rw[←eT];exact hw)
        subst hw'
        obtain⟨bs,e,h1,h2,h3,h4,h5,h6,h⟩:=h
        exact⟨_,_,_,aI.Kb (P:=P) (N:=N) (σ:=St sl m) ho (by rw[ev_eq];exact hy) h1 h2 h3 (by rw[mem_eq];exact hm) h4 h5 h6 (bk hd),h⟩
      ·exact h
    ·exact h
  ·exact h
theorem G7 (hΓ:Γ.Good P)(hd:gu N o.dst=true){t:TypeId}(ho:o.op=.alloc t)(h:EE P N Γ o acc sl m R t):qO P N o acc sl m R:=by
  unfold EE at h
  split at h
  · rename_i hdst ht
    rw[eV] at ht
    have ok:=hΓ.look ht
    split at h
    ·exact j1 hΓ hd h
    split at h
    · rename_i hs hm
      exact⟨_,_,_,aI.Hw (P:=P) (N:=N) (σ:=St sl m) ho ok.2.2.1 hs (by rw[mem_eq];exact hm) (bk hd),by rw[eS] at h;exact h⟩
    ·exact h
  ·exact j1 hΓ hd h
theorem Md (hΓ:Γ.Good P)(hd:gu N o.dst=true)(h:wpOp P N Γ o acc sl m R):qO P N o acc sl m R:=by
  unfold wpOp at h
  split at h
  ·rename_i ho;exact G7 hΓ hd ho h
  ·rename_i ho;exact LG hΓ hd ho h
  ·rename_i ho;exact Ke hΓ hd ho h
  ·rename_i ho;exact GK hΓ hd ho h
  ·rename_i ho;exact LF hΓ hd ho h
  ·rename_i ho;exact Mn hΓ hd ho h
  ·rename_i ho;exact HV hΓ hd ho h
  ·rename_i ho;exact Ma hΓ hd ho h
  ·rename_i ho;exact I7 hΓ hd ho h
  ·rename_i ho;exact J3 hd ho h
  ·rename_i ho;exact MJ hd ho h
  ·rename_i ho;exact h ⟨_,_,ho,ev_eq _,ev_eq _⟩
  ·rename_i ho;exact h ⟨_,_,_,ho,ev_eq _,ev_eq _,ev_eq _⟩
  ·exact j1 hΓ hd h
end
def jL (ops:Array Oper):Nat→Nat→Nat→Bool
  |0,_,_=>false
  | n+1,j,i=>match ops[j]? with
    |none=>false
    |some o=>o.after.any fun e=>Region.binds .any e&&(e.on==i||jL ops n e.on i)
def tZ (ops:Array Oper)(listed:Array Bool):Prop:=∀ (m:Nat) (o:Oper),ops[m]? =some o→listed.getD m true=true→∀e∈o.after,Region.binds .any e=true→listed.getD e.on true=true
section
variable {P : Program} {N : Nat} {ops : Array Oper} {w0 : World} {W0 : Nat → Prop} {L μ : Mu} {σ : az} {a : Act} {w : World}
theorem rX {listed:Array Bool}(hc:tZ ops listed):∀ (n j i:Nat) (o:Oper),ops[j]? =some o→(∀e∈o.after,Region.binds .any e=true→listed.getD e.on true=true)→jL ops n j i=true→listed.getD i true=true
  |0,_,_,_,_,_,h=>by cases h
  | n + 1,j,i,o,hj,ha,h=>by
    simp only[jL,hj] at h
    rw[Array.any_eq_true] at h
    obtain⟨k,hk,h⟩:=h
    simp only[Bool.and_eq_true,Bool.or_eq_true,beq_iff_eq] at h
    obtain⟨hb,h⟩:=h
    have hl:=ha _ (Array.getElem_mem hk) hb
    rcases h with h|h
    ·rw[←h];exact hl
    · cases hm:ops[(o.after[k]).on]? with
      | none=>cases n with
        |zero=>cases h
        |succ n=>simp[jL,hm] at h
      |some o'=>exact rX hc n _ i o' hm (hc _ o' hm hl) h
theorem tZ.set {listed:Array Bool}(hc:tZ ops listed){j:Nat}{o:Oper}(hj:ops[j]? =some o)(ha:∀e∈o.after,Region.binds .any e=true→listed.getD e.on true=true):tZ ops (listed.setIfInBounds j true):=by
  have up:∀i,listed.getD i true=true→(listed.setIfInBounds j true).getD i true=true:=fun i h=>by
    by_cases hij:j=i
    · subst hij
      by_cases hlt:j<listed.size
      ·simp[hlt]
      ·rw[Array.getD_eq_getD_getElem?,Array.getElem?_eq_none (by simpa using hlt)];rfl
    ·rw[getD_set_ne true hij];exact h
  intro m o' hm hl e he hb
  by_cases hjm:j=m
  · subst hjm
    rw[hj] at hm;cases hm
    exact up _ (ha e he hb)
  · rw[getD_set_ne true hjm] at hl
    exact up _ (hc m o' hm hl e he hb)
theorem C2 {es:List lE}{K:az→Prop}{i:Nat}{x:lE}(hf:∀ (j:Nat) (e:lE),es[j]? =some e→ops[j]? =some e.o)(hi:es[i]? =some x):
    ∀ (fuel:Nat) (listed:Array Bool) (σ:az),tZ ops listed→
      (∀ (j:Nat) (y:lE),es[j]? =some y→j≠i→listed.getD j true=false→(∀e∈y.o.after,Region.binds .any e=true→e.on≠i)→(∀n,jL ops n j i=false)→x.o.apart ops y.o=true∧kX x.toks y.toks=true)→
      i∈Region.ready .any ops listed→Holds ops x σ→
      ID ops es K fuel (listed.setIfInBounds i true) (σ.app x)→ID ops es K (fuel+1) listed σ:=by
  intro fuel
  induction fuel with
  | zero=>
    intro listed σ _ _ hr hy H
    refine⟨fun h=>(by rw[h] at hr;cases hr),fun j hj=>?_⟩
    by_cases hji:j=i
    ·subst hji;exact⟨x,hi,hy,H⟩
    · have:=ready_mono hj hji
      rw[H.1] at this
      cases this
  | succ fuel ih=>
    intro listed σ hcl hfree hr hy H
    refine⟨fun h=>(by rw[h] at hr;cases hr),fun j hj=>?_⟩
    by_cases hji:j=i
    ·subst hji;exact⟨x,hi,hy,H⟩
    · obtain⟨y,hy1,hy2,hy3⟩:=H.2 j (ready_mono hj hji)
      obtain⟨hjun,oj,hoj,hall⟩:=mem_ready.1 hj
      have hoj':=hf j y hy1
      rw[hoj] at hoj'
      cases hoj'
      have hiun:¬listed.getD i true=true:=fun h1=>by
        have h0:=(mem_ready.1 hr).1
        rcases Nat.lt_or_ge i listed.size with h'|h'
        ·simp[h'] at h0 h1;rw[h0] at h1;cases h1
        ·simp[Array.getElem?_eq_none h'] at h0
      have hnot:∀e∈y.o.after,Region.binds .any e=true→e.on≠i:=fun e he hb heq=>hiun (by
        have h1:=hall e he hb
        rw[heq] at h1
        rcases Nat.lt_or_ge i listed.size with h'|h'
        ·simp[h'] at h1 ⊢;exact h1
        ·simp[Array.getElem?_eq_none h'])
      have hall':∀e∈y.o.after,Region.binds .any e=true→listed.getD e.on true=true:=fun e he hb=>by
        have h1:=hall e he hb
        rcases Nat.lt_or_ge e.on listed.size with h'|h'
        ·simp[h'] at h1 ⊢;exact h1
        ·simp[Array.getElem?_eq_none h']
      have hnr:∀n,jL ops n j i=false:=fun n=>by
        cases hB:jL ops n j i with
        |false=>rfl
        |true=>exact absurd (rX hcl n j i y.o hoj hall' hB) hiun
      obtain⟨hap,htok⟩:=hfree j y hy1 hji hjun hnot hnr
      obtain⟨s1,s2,s3⟩:=Oper.apart_spec hap
      obtain⟨t1,t2,t3⟩:=qq htok
      have hyσ:Holds ops y σ:=(Holds.app (x:=x) s1 t1).1 hy2
      refine⟨y,hy1,hyσ,?_⟩
      refine ih (listed.setIfInBounds j true) (σ.app y) (hcl.set hoj hall') (fun k z hk hki hun hno hnr=>?_) (ready_mono hr (Ne.symm hji)) ((Holds.app (x:=y) (y:=x) s3 t3).2 hy) ?_
      · refine hfree k z hk hki ?_ hno hnr
        by_cases hjk:j=k
        ·subst hjk;exact hjun
        ·rw[getD_set_ne true hjk] at hun;exact hun
      · rw[←J8 s2 htok,Array.setIfInBounds_comm _ _ hji]
        exact hy3
def jQ (ops:Array Oper)(ts:List (List Nat×List Nat)):Bool:=
  (List.range ts.length).all fun j=>(List.range j).all fun i=>
    kX (ts.getD i ([],[])) (ts.getD j ([],[]))||(jL ops 4 j i||jL ops 9 j i)
theorem BC {es:List lE}(h:jQ ops (es.map lE.toks)=true){i j:Nat}{x y:lE}(hij:i<j)(hx:es[i]? =some x)(hy:es[j]? =some y)
    (hno:∀n,jL ops n j i=false):kX x.toks y.toks=true:=by
  unfold jQ at h
  have hj:j<es.length:=(List.getElem?_eq_some_iff.1 hy).1
  have:=List.all_eq_true.1 h j (by simpa using hj)
  have:=List.all_eq_true.1 this i (by simpa using hij)
  simp only[List.getD_eq_getElem?_getD,List.getElem?_map,hx,hy,Option.map_some,Option.getD_some,Bool.or_eq_true] at this
  rcases this with h'|h'|h'
  ·exact h'
  ·rw[hno] at h';cases h'
  ·rw[hno] at h';cases h'
theorem zG {es:List lE}{K:az→Prop}{l:List Oper}(hl:ops.toList=l)(hlen:es.length=l.length)(hf:∀ (i:Nat) (e:lE),es[i]? =some e→ops[i]? =some e.o)
    (hchain:∀ (k:Nat) (e e':lE),es[k]? =some e→es[k+1]? =some e'→e'.σ=e.σ.app e) (hlast:∀e,es.getLast? =some e→K (e.σ.app e))
    (htok:jQ ops (es.map lE.toks)=true):
    ∀ (n k:Nat) (listed:Array Bool) (σ:az),tZ ops listed→n+k=es.length→(∀e,es[k]? =some e→e.σ=σ)→(n=0→K σ)→(∀j,j<k→listed.getD j true=true)→listed.size=ops.size→Region.lexFrom .any ops n k listed=true→
      ID ops es K n listed σ
  |0,k,listed,σ,hcl,hn,hσ,hK,hlst,hsz,hB=>⟨by simpa[Region.lexFrom] using hB,hK rfl⟩
  | n + 1, k,listed,σ,hcl,hn,hσ,hK,hlst,hsz,hB=>by
    simp only[Region.lexFrom,Bool.and_eq_true] at hB
    obtain⟨⟨hr,hfr⟩,hB'⟩:=hB
    have hk:k<es.length:=by omega
    obtain⟨e,he⟩:∃e,es[k]? =some e:=⟨es[k],by simp[hk]⟩
    have hσe:=hσ e he
    have h0:=hf k e he
    have hall':∀d∈e.o.after,Region.binds .any d=true→listed.getD d.on true=true:=fun d hd hb=>by
      obtain⟨_,o1,ho1,hall⟩:=mem_ready.1 (show k∈Region.ready .any ops listed by simpa using hr)
      rw[h0] at ho1;cases ho1
      have h1:=hall d hd hb
      rcases Nat.lt_or_ge d.on listed.size with h'|h'
      ·simp[h'] at h1 ⊢;exact h1
      ·simp[Array.getElem?_eq_none h']
    refine C2 hf he n listed σ hcl (fun j y hy hjk hun hno hnr=>⟨Region.free_spec h0 hfr j y.o (hf j y hy) hjk hun hno,?_⟩) (by simpa using hr) (by rw[←hσe];exact Holds.self) ?_
    · have hkj:k<j:=by
        rcases Nat.lt_trichotomy j k with h|h|h
        ·rw[hlst j h] at hun;cases hun
        ·exact absurd h hjk
        ·exact h
      exact BC htok hkj he hy hnr
    · refine zG hl hlen hf hchain hlast htok n (k+1) _ _ (hcl.set h0 hall') (by omega) (fun e' he'=>by rw[hchain k e e' he he',hσe]) (fun hn0=>?_) (fun j hj=>?_) (by simp[hsz]) hB'
      · rw[←hσe]
        refine hlast e ?_
        rw[List.getLast?_eq_getElem?,show es.length-1=k from by omega];exact he
      · by_cases hjk:k=j
        · subst hjk
          have:k<listed.size:=by
            have:=(Array.getElem?_eq_some_iff.1 h0).1
            omega
          simp[this]
        ·rw[getD_set_ne true hjk];exact hlst j (by omega)
theorem jI.Dm {rd:Option Nat}{Q:Exit→Act→World→Prop}{l:List Oper}{id:Nat}{K:az→Prop}(hp:rd=none∨l.all oM=true)(hm:P.follows .mixedOrders=true)(hB:Region.lexB .any l.toArray=true)
    (h:jI P N l.toArray l σ (fun es σ'=>jQ l.toArray (es.map lE.toks)=true∧K σ')) (hs:bW P N w0 W0 L μ σ a w)
    (hK:∀σ',K σ'→∀μ' a' w',bW P N w0 W0 L μ' σ' a' w'→Q .normal a' w'):(Code.region id l.toArray true).wpIn (iZ rd) 0 P Q a w:=by
  simp only[Region.lexB,Bool.and_eq_true] at hB
  obtain⟨es,σ',⟨htok,hk⟩,h2,h3,_,h5,h6,h7,h8⟩:=jI.trace h
  refine wpIn_region_any hm ?_
  have hf:∀ (i:Nat) (e:lE),es[i]? =some e→l.toArray[i]? =some e.o:=fun i e he=>by simpa using(h3 i e he).1
  refine s9 (es:=es) (K:=K) (hp.imp (fun h=>h) fun h i o ho=>List.all_eq_true.1 h o (List.mem_of_getElem? (by simpa using ho))) (fun i e he=>⟨hf i e he,(h3 i e he).2⟩) hK _ _ σ μ a _ ?_ (hs.drawn _)
  have hsize:l.toArray.size=es.length:=by simp[h2]
  rw[hsize]
  refine zG (l:=l) (by simp) h2 hf h5 (fun e he=>by rw[←h7 e he];exact hk) htok es.length 0 _ σ (fun m o hm hl=>?_) (by omega) (fun e he=>h6 e he) (fun h0=>?_) (fun j hj=>by omega) (by simp[h2]) (by rw[←hsize];exact hB.2)
  · have hlt:=(Array.getElem?_eq_some_iff.1 hm).1
    simp at hl
    have:m<es.length:=by rw[h2];simpa using hlt
    simp[this] at hl
  ·rw[←h8 (List.eq_nil_of_length_eq_zero h0)];exact hk
theorem gz.Dm {nL:Nat}{Q:Exit→az→Prop}{id:Nat}{l:List Oper}(hm:P.follows .mixedOrders=true)(hB:Region.lexB .any l.toArray=true)
    (h:jI P N l.toArray l σ (fun es σ'=>jQ l.toArray (es.map lE.toks)=true∧Q .normal σ')):gz P N nL (.region id l.toArray true) Q σ:=by
  intro rd hp w0 W0 L μ a w hL hs
  exact jI.Dm (hp.imp (fun h=>h) fun h=>by simpa[cG] using h) hm hB h hs fun σ' hq μ' a' w' hs'=>⟨μ',σ',hq,hs'⟩
end
theorem HI {ops:Array Oper}{ts:List (List Nat×List Nat)}(h:(BF ops ts||jQ ops ts)=true):jQ ops ts=true:=by
  rcases Bool.or_eq_true _ _▸h with h|h
  · unfold BF at h
    unfold jQ
    rw[List.all_eq_true] at h ⊢
    intro j hj
    have h1:=h j hj
    rw[List.all_eq_true] at h1 ⊢
    intro i hi
    have h2:=h1 i hi
    rw[Bool.or_eq_true] at h2
    rcases h2 with h2|h2
    · have h3:jL ops 4 j i=true:=by
        cases ho:ops[j]? with
        |none=>rw[ho] at h2;cases h2
        | some o=>
          rw[ho] at h2
          simp only[jL,ho]
          rw[Array.any_eq_true] at h2 ⊢
          obtain⟨k,hk,h4⟩:=h2
          refine⟨k,hk,?_⟩
          rw[Bool.and_eq_true] at h4 ⊢
          exact⟨h4.1,by rw[h4.2];rfl⟩
      rw[h3];simp
    ·rw[h2];rfl
  ·exact h
@[reducible] def nO (N : Nat) : Option Nat → Bool
  |none=>true
  |some d=>Nat.ble (Nat.add d 1) N
theorem Fh {N:Nat}{d:Option Nat}(h:nO N d=true):gu N d=true:=by
  cases d with
  |none=>rfl
  |some d=>simp only[nO] at h;simp only[gu,decide_eq_true_eq];exact fu h
@[reducible] def s6 (l : List Nat) (k : Nat) : Bool :=
  match l with
  |[]=>false
  | x::r=>match Nat.beq x k with
    |true=>true
    |false=>s6 r k
@[reducible] def Sg : Bool → Bool → Bool
  |true,true=>true
  |false,false=>true
  |_,_=>false
theorem Fp {a b:Bool}:Sg a b=(a==b):=by cases a<;>cases b<;>rfl
@[reducible] def sM (dr : Bool) (acc : Tk) (rd : List Nat) (ups : ML) : Tk :=
  match dr with
  |true=>jC acc [(rd,fE Prod.fst ups)]
  |false=>acc
def E9 (acc:Tk)(sl:SL)(m:ML){A:Tk→SL→ML→Prop}:Prop:=A acc sl m
@[reducible] def nQ (rest : List Oper) (acc : Tk) (sl : SL) (m : ML) (F : Tk → SL → ML → Prop) : Prop :=
  match Nat.beq (Nat.mod (fq rest) 4) 3 with
  |true=>E9 acc sl m (A:=F)
  |false=>F acc sl m
theorem Aa {rest:List Oper}{acc:Tk}{sl:SL}{m:ML}{F:Tk→SL→ML→Prop}(h:nQ rest acc sl m F):F acc sl m:=by
  unfold nQ at h
  split at h<;>exact h
section
variable (P : Program) (N : Nat) (Γ : cM) (ds : List (Option Nat)) (dr : Bool)
@[reducible] def wpOps : List Oper → List Nat → Tk → SL → ML → (Tk → SL → ML → Prop) → Prop
  |[],_,acc,sl,m,K=>K acc sl m
  | o :: rest, gs, acc,sl,m,K=>match nO N o.dst with
    |false=>False
    | true => match o.guard with
      |none=>wpOp P N Γ o acc sl m (fun rd x ups acc sl m=>nQ rest (sM dr acc rd ups) (lU o.dst x sl) (yx ups m) (fun acc sl m=>wpOps rest gs acc sl m K))
      | some (j, b)=>match lG ds j with
        | some (some d)=>match Nat.ble (Nat.add d 1) N with
          |false=>False
          | true =>match yf sl d with
            | .lit (.bool c)=>match s6 gs j with
              | true=>match Sg c b with
                |true=>wpOp P N Γ o acc sl m (fun rd x ups acc sl m=>nQ rest (sM dr acc rd ups) (lU o.dst x sl) (yx ups m) (fun acc sl m=>wpOps rest gs acc sl m K))
                |false=>nQ rest (sM dr acc [] []) (lU o.dst (.lit (.tuple #[])) sl) m (fun acc sl m=>wpOps rest gs acc sl m K)
              | false=>bq c acc sl m
                (A :=fun acc sl m=>match b with
                  |true=>wpOp P N Γ o acc (sw d (.lit (.bool true)) sl) m (fun rd x ups acc sl m=>nQ rest (sM dr acc rd ups) (lU o.dst x sl) (yx ups m) (fun acc sl m=>wpOps rest (j::gs) acc sl m K))
                  |false=>nQ rest (sM dr acc [] []) (lU o.dst (.lit (.tuple #[])) (sw d (.lit (.bool true)) sl)) m (fun acc sl m=>wpOps rest (j::gs) acc sl m K))
                (B :=fun acc sl m=>match b with
                  |false=>wpOp P N Γ o acc (sw d (.lit (.bool false)) sl) m (fun rd x ups acc sl m=>nQ rest (sM dr acc rd ups) (lU o.dst x sl) (yx ups m) (fun acc sl m=>wpOps rest (j::gs) acc sl m K))
                  |true=>nQ rest (sM dr acc [] []) (lU o.dst (.lit (.tuple #[])) (sw d (.lit (.bool false)) sl)) m (fun acc sl m=>wpOps rest (j::gs) acc sl m K))
            |.lit (.tuple _)=>nQ rest (sM dr acc [] []) (lU o.dst (.lit (.tuple #[])) sl) m (fun acc sl m=>wpOps rest gs acc sl m K)
            |_=>False
        |_=>False
end
def bI (P:Program){l:List Oper}(acc:Tk)(sl:SL)(m:ML){A:SL→ML→Prop}:Prop:=
  P.follows .mixedOrders=true∧Region.lexB .any l.toArray=true∧(BF l.toArray acc||jQ l.toArray acc)=true∧A sl m
def FX (sl:SL)(m:ML){A:SL→ML→Prop}:Prop:=A sl m
def ji (p q:Prop)(sl:SL)(m:ML){A B:SL→ML→Prop}:Prop:=(p→A sl m)∧(q→B sl m)
def Qa (Q:Exit→SL→ML→Prop):Exit→az→Prop:=fun e σ=> ∃sl m,σ=St sl m∧Q e sl m
def aU (P:Program)(N nL:Nat)(sl:SL)(m:ML){c:Code}{Q:Exit→SL→ML→Prop}:Prop:=gz P N nL c (Qa Q) (St sl m)
section
variable (P : Program) (N nL : Nat) (Γ : cM)
@[reducible] def Bw : Code → SL → ML → (Exit → SL → ML → Prop) → Prop
  |.skip,sl,m,Q=>Q .normal sl m
  | .region _ ops dr,sl,m,Q=>wpOps P N Γ (fE Oper.dst ops.toList) dr ops.toList [] [] sl m (fun acc sl m=>match dr with
    |false=>Q .normal sl m
    |true=>bI P (l:=ops.toList) acc sl m (A:=Q .normal))
  | .seq a b,sl,m,Q=>Bw a sl m (fun e sl m=>match e with
    |.normal=>FX sl m (A:=fun sl m=>Bw b sl m Q)
    |e=>Q e sl m)
  | .cond x a b,sl,m,Q=>match fe sl x with
    |.lit (.bool c)=>bq c [] sl m (A:=fun _ sl m=>Bw a sl m Q) (B:=fun _ sl m=>Bw b sl m Q)
    |.guess p q=>ji p q sl m (A:=fun sl m=>Bw a sl m Q) (B:=fun sl m=>Bw b sl m Q)
    |_=>False
  | .block id c,sl,m,Q=>Bw c sl m (fun e sl m=>match e with
    | .exit j=>match Nat.beq j id with
      |true=>Q .normal sl m
      |false=>Q (.exit j) sl m
    |e=>Q e sl m)
  |.exit i,sl,m,Q=>Q (.exit i) sl m
  |.ret,sl,m,Q=>Q .ret sl m
  |.label _,sl,m,Q=>Q .normal sl m
  |c,sl,m,Q=>aU P N nL sl m (c:=c) (Q:=Q)
end
section
variable {P : Program} {N nL : Nat} {Γ : cM} {ds : List (Option Nat)} {dr : Bool} {ops : Array Oper}
theorem CZ {sl:SL}{m:ML}{d:Nat}{x:AV}(h:yf sl d=x):St (sw d x sl) m=St sl m:=by
  unfold St
  congr 1
  funext i
  rw[pI]
  simp only[bR]
  by_cases hi:i=d
  ·subst hi;simp[←h,jh]
  · have:(i==d)=false:=by simpa using hi
    rw[this];rfl
def KA (dr:Bool)(acc:Tk)(K:Tk→SL→ML→Prop):List lE→az→Prop:=fun es σ'=> ∃sl m,σ'=St sl m∧K (if dr then acc++es.map lE.toks else acc) sl m
theorem vW (hΓ:Γ.Good P)(hds:∀j:Nat,(ops[j]?).bind (·.dst)=(ds[j]?).bind id):∀ (l:List Oper) (gs:List Nat) (acc:Tk) (sl:SL) (m:ML) (K:Tk→SL→ML→Prop),wpOps P N Γ ds dr l gs acc sl m K→
    jI P N ops l (St sl m) (KA dr acc K)
  | [],gs,acc,sl,m,K,h=>by
    simp only[jI,KA,List.map_nil,List.append_nil,ite_self]
    exact⟨sl,m,rfl,h⟩
  | o :: rest, gs,acc,sl,m,K,h=>by
    unfold wpOps at h
    split at h
    ·exact h.elim
    rename_i hd0
    have hd:=Fh hd0
    have toks:∀ (rd:List Nat) (x:AV) (ups:ML) (w:Bool) (sl1:SL) (es:List lE),(if dr then sM dr acc rd ups++es.map lE.toks else sM dr acc rd ups)=(if dr then acc++ (lE.mk o w (St sl1 m) rd x ups::es).map lE.toks else acc):=by
      intro rd x ups w sl1 es
      cases dr with
      |true=>simp[sM,iM,eS,lE.toks]
      |false=>simp[sM]
    have go:∀ (sl:SL) (gs:List Nat),jN N ops o (St sl m) true→wpOp P N Γ o acc sl m (fun rd x ups acc sl m=>nQ rest (sM dr acc rd ups) (lU o.dst x sl) (yx ups m) (fun acc sl m=>wpOps P N Γ ds dr rest gs acc sl m K))→
        jI P N ops (o::rest) (St sl m) (KA dr acc K):=by
      intro sl gs hw h
      obtain⟨rd,x,ups,h1,h2⟩:=Md hΓ hd h
      refine⟨⟨o,true,St sl m,rd,x,ups⟩,rfl,rfl,⟨hw,bk hd,fun _=>h1,fun h=>by cases h⟩,?_⟩
      have:=vW hΓ hds rest _ _ _ _ _ (Aa h2)
      rw[show az.app (St sl m) ⟨o,true,St sl m,rd,x,ups⟩=St (lU o.dst x sl) (yx ups m) from(xM sl m ups o.dst x).trans (vI _ _ _ _ _)]
      unfold KA at this ⊢
      simp only[toks rd x ups true sl] at this
      exact this
    have skip:∀ (sl:SL) (gs:List Nat),jN N ops o (St sl m) false→nQ rest (sM dr acc [] []) (lU o.dst (.lit (.tuple #[])) sl) m (fun acc sl m=>wpOps P N Γ ds dr rest gs acc sl m K)→jI P N ops (o::rest) (St sl m) (KA dr acc K):=by
      intro sl gs hw h
      refine⟨⟨o,false,St sl m,[],.lit undef,[]⟩,rfl,rfl,⟨hw,bk hd,(fun h=>by cases h),fun _=>⟨rfl,rfl⟩⟩,?_⟩
      have:=vW hΓ hds rest _ _ _ _ _ (Aa h)
      rw[show az.app (St sl m) ⟨o,false,St sl m,[],.lit undef,[]⟩=St (lU o.dst (.lit (.tuple #[])) sl) m from(xM sl m [] o.dst _).trans (vI _ _ _ _ _)]
      unfold KA at this ⊢
      simp only[toks [] (.lit (.tuple #[])) [] false sl] at this
      exact this
    split at h
    · rename_i hg
      exact go sl gs (by simp[jN,hg]) h
    · rename_i j b hg
      split at h
      · rename_i d hj
        rw[iT] at hj
        split at h
        ·exact h.elim
        · rename_i hN
          have hdN:d<N:=fu hN
          split at h
          · rename_i c hc
            have hw:∀c',c=c'→∀sl',yf sl' d=.lit (.bool c')→jN N ops o (St sl' m) (c'==b):=by
              intro c' _ sl' hl
              simp only[jN,hg]
              exact⟨d,.bool c',by rw[hds,hj];rfl,hdN,by show bR sl' d=_;rw[←jh];exact hl,rfl⟩
            have hput:∀x,yf (sw d x sl) d=x:=fun x=>by rw[jh,pI];simp[bR]
            split at h
            · split at h
              · rename_i he
                rw[Fp] at he
                exact go sl gs (by have:=hw c rfl sl hc;rwa [he] at this) h
              · rename_i he
                rw[Fp] at he
                exact skip sl gs (by have:=hw c rfl sl hc;rwa [he] at this) h
            · cases c with
              | true=>
                have h:=h.1 rfl
                rw[←CZ (m:=m) hc]
                cases b with
                |true=>exact go _ _ (hw true rfl _ (hput _)) h
                |false=>exact skip _ _ (hw true rfl _ (hput _)) h
              | false=>
                have h:=h.2 rfl
                rw[←CZ (m:=m) hc]
                cases b with
                |true=>exact skip _ _ (hw false rfl _ (hput _)) h
                |false=>exact go _ _ (hw false rfl _ (hput _)) h
          · rename_i vs hc
            refine skip sl gs ?_ h
            simp only[jN,hg]
            exact⟨d,.tuple vs,by rw[hds,hj];rfl,hdN,by show bR sl d=_;rw[←jh];exact hc,rfl⟩
          ·exact h.elim
      ·exact h.elim
theorem jI.post {l:List Oper}:∀ {σ:az} {K K':List lE→az→Prop},(∀es σ',K es σ'→K' es σ')→jI P N ops l σ K→jI P N ops l σ K':=by
  induction l with
  |nil=>intro σ K K' hk h;exact hk _ _ h
  | cons o rest ih=>
    intro σ K K' hk h
    obtain⟨e,h1,h2,h3,h4⟩:=h
    exact⟨e,h1,h2,h3,ih (fun es σ' h=>hk _ _ h) h4⟩
theorem qK (hΓ:Γ.Good P):∀ (c:Code) (sl:SL) (m:ML) (Q:Exit→SL→ML→Prop),Bw P N nL Γ c sl m Q→gz P N nL c (Qa Q) (St sl m):=by
  have reg:∀ (id:Nat) (ops:Array Oper) (dr:Bool) (sl:SL) (m:ML) (Q:Exit→SL→ML→Prop),Bw P N nL Γ (.region id ops dr) sl m Q→gz P N nL (.region id ops dr) (Qa Q) (St sl m):=by
    intro id ops dr sl m Q h
    unfold Bw at h
    have h1:=vW (ops:=ops) hΓ (fun j=>by simp[eS,List.getElem?_map,Option.bind_map]) ops.toList [] [] sl m _ h
    obtain⟨l⟩:=ops
    cases dr with
    | false=>
      refine gz.region (jI.post ?_ h1)
      rintro es σ' ⟨sl',m',rfl,hk⟩
      exact⟨sl',m',rfl,hk⟩
    | true=>
      have hh:jI P N l.toArray l (St sl m) (fun es σ'=>P.follows .mixedOrders=true∧Region.lexB .any l.toArray=true∧jQ l.toArray (es.map lE.toks)=true∧Qa Q .normal σ'):=by
        refine jI.post ?_ h1
        rintro es σ' ⟨sl',m',rfl,k1,k2,k3,k4⟩
        exact⟨k1,k2,HI (by simpa using k3),sl',m',rfl,k4⟩
      obtain⟨es,σ',⟨k1,k2,_,_⟩,_⟩:=hh.trace
      exact gz.Dm k1 k2 (jI.post (fun es σ' h=>⟨h.2.2.1,h.2.2.2⟩) hh)
  intro c
  induction c with
  |skip=>intro sl m Q h;exact gz.skip ⟨sl,m,rfl,h⟩
  |region id ops dr=>intro sl m Q h;exact reg id ops dr sl m Q h
  | seq a b iha ihb=>
    intro sl m Q h
    refine gz.seq ((iha sl m _ h).mono ?_)
    rintro e σ ⟨sl',m',rfl,h'⟩
    cases e with
    |normal=>exact ihb sl' m' Q h'
    |_=>exact⟨sl',m',rfl,h'⟩
  | cond x a b iha ihb=>
    intro sl m Q h
    unfold Bw at h
    split at h
    · rename_i c hc
      exact gz.cond (by rw[ev_eq];exact hc) (fun hb=>iha sl m Q (h.1 hb)) (fun hb=>ihb sl m Q (h.2 hb))
    · rename_i p q hc
      exact gz.Gk (by rw[ev_eq];exact hc) (fun hb=>iha sl m Q (h.1 hb)) (fun hb=>ihb sl m Q (h.2 hb))
    ·exact h.elim
  | block id c ih=>
    intro sl m Q h
    refine gz.block ((ih sl m _ h).mono ?_)
    rintro e σ ⟨sl',m',rfl,h'⟩
    cases e with
    | exit j=>
      simp only at h'
      simp only[xz]
      split at h'
      ·rename_i hj;rw[if_pos (beq_eq hj)];exact⟨sl',m',rfl,h'⟩
      · rename_i hj
        rw[if_neg (fun e=>by rw[e,Nat.beq_refl] at hj;cases hj)]
        exact⟨sl',m',rfl,h'⟩
    |_=>exact⟨sl',m',rfl,h'⟩
  |exit i=>intro sl m Q h;exact gz.exit ⟨sl,m,rfl,h⟩
  |ret=>intro sl m Q h;exact gz.ret ⟨sl,m,rfl,h⟩
  |label l=>intro sl m Q h;exact gz.label ⟨sl,m,rfl,h⟩
  |_=>intros;assumption
end
@[reducible] def ve : List (Nat × Nat) → Nat → Option Nat
  |[],_=>none
  | (k,x)::r,i=>match Nat.beq i k with
    |true=>some x
    |false=>ve r i
def iU (ck:List (Nat×Nat))(t:Nat):Nat:=(ve ck t).getD t
def kS (R:AV→AV→Prop)(a b:List AV):Prop:=a.length=b.length∧∀ (i:Nat) (x y:AV),a[i]? =some x→b[i]? =some y→R x y
def nq (m:ML)(fz:Nat→Bool)(R:AV→AV→Prop)(r:AV)(t off len:Nat):Prop:=
  ∃wd rows ro rows',ej m t=.live wd rows ro∧fz t=true∧r=.sl wd rows'∧off+len≤rows.length∧aN rows'=true∧kS R rows' ((rows.drop off).take len)
def Pu (m:ML)(fz:Nat→Bool)(R:AV→AV→Prop)(r:AV)(t i k:Nat):Prop:=
  ∃wd rows ro x y,ej m t=.live wd rows ro∧fz t=true∧r=.fptr x k∧rows[i]? =some y∧bj x=true∧R x y
def Ik (m:ML)(fz:Nat→Bool)(r:AV)(t:Nat):Prop:=
  ∃wd rows ro,ej m t=.live wd rows ro∧fz t=true∧r=.fmap rows∧∀x∈rows,∃key y,x=entry key y∧bj y=true
def DT (r:AV):Prop:=r=.lit (.slice none 0 0)∨r=.emp∨∃wd,r=.sl wd []
def NL (r:AV):Prop:=r=.emp∨∃wd,r=.sl wd []
@[reducible] def EC (f : AV → AV → Prop) : List AV → List AV → Prop
  |[],[]=>True
  |r::rs,x::xs=>f r x∧EC f rs xs
  |_,_=>False
@[reducible] def MF (ck : List (Nat × Nat)) (fz : Nat → Bool) (m : ML) : Nat → AV → AV → Prop
  |0,r,x=>r=x∧bj x=true
  | n + 1, r,x=>match x with
    | .own t off len=>match r with
      | .own t' off' len'=>match ve ck t' with
        | some u=>match Nat.beq u t with
          |true=>off'=off∧len'=len
          |false=>False
        |none=>False
      |r=>nq m fz (MF ck fz m n) r t off len
    | .ptr t i k=>match r with
      | .ptr t' i' k'=>match ve ck t' with
        | some u=>match Nat.beq u t with
          |true=>i'=i∧k'=k
          |false=>False
        |none=>False
      |r=>Pu m fz (MF ck fz m n) r t i k
    | .mapr t=>match r with
      | .mapr t'=>match ve ck t' with
        | some u=>match Nat.beq u t with
          |true=>True
          |false=>False
        |none=>False
      |r=>Ik m fz r t
    | .agg cs=>match r with
      |.agg rs=>EC (MF ck fz m n) rs cs
      |r=>r=x∧bj x=true
    | .tup cs=>match r with
      |.tup rs=>EC (MF ck fz m n) rs cs
      |r=>r=x∧bj x=true
    | .clo f a b=>match r with
      |.clo f' a' b'=>f'=f∧EC (MF ck fz m n) a' a∧EC (MF ck fz m n) b' b
      |r=>r=x∧bj x=true
    | .lit (.slice ad a c)=>match Ey (.slice ad a c) with
      |true=>DT r
      |false=>r=x∧bj x=true
    | .lit (.int k b)=>match r with
      | .lit (.int k' a)=>match Nat.beq (xn k') (xn k) with
        |true=>a=b
        |false=>False
      |r=>r=x
    | .lit (.bool b)=>match r with
      |.lit (.bool a)=>a=b
      |r=>r=x
    | .lit (.string b)=>match r with
      |.lit (.string a)=>a=b
      |r=>r=x
    | .sl wd rows=>match r with
      | .sl wd' rows'=>match vr wd' wd with
        |true=>rows'=rows
        |false=>False
      |r=>r=x
    |.emp=>NL r
    |x=>r=x∧bj x=true
section
variable {ck : List (Nat × Nat)} {fz : Nat → Bool} {m : ML} {D F : Nat → Prop}
theorem nM {R:AV→AV→Prop}{mm:Nat→MS}{ρ:Nat→Nat}:∀ {rs xs:List AV},(∀r x,R r x→Cv mm ρ D F r x)→EC R rs xs→iW mm ρ D F rs xs
  |[],[],_,_=>.nil
  |_::_,_::_,hR,h=>.cons (hR _ _ h.1) (nM hR h.2)
  |[],_::_,_,h=>h.elim
  |_::_,[],_,h=>h.elim
theorem EM {R:AV→AV→Prop}:∀ {rs xs:List AV},EC R rs xs→rs.length=xs.length
  |[],[],_=>rfl
  |_::_,_::_,h=>by simp[EM h.2]
  |[],_::_,h=>h.elim
  |_::_,[],h=>h.elim
theorem DT.one {r:AV}(h:DT r):cells r=[r]:=by
  rcases h with rfl|rfl|⟨wd,rfl⟩<;>rfl
theorem NL.one {r:AV}(h:NL r):cells r=[r]:=by
  rcases h with rfl|⟨wd,rfl⟩<;>rfl
theorem Aq:∀ {n:Nat} {r x:AV},MF ck fz m n r x→(cells r).length=(cells x).length
  |0,r,x,h=>by rw[h.1]
  | n +1,r,x,h=>by
    unfold MF at h
    split at h
    · split at h
      ·rfl
      ·obtain⟨wd,rows,ro,rows',_,_,rfl,_⟩:=h;rfl
    · split at h
      ·rfl
      ·obtain⟨wd,rows,ro,a,b,_,_,rfl,_⟩:=h;rfl
    · split at h
      ·rfl
      ·obtain⟨wd,rows,ro,_,_,rfl,_⟩:=h;rfl
    · split at h
      ·exact EM h
      ·rw[h.1]
    · split at h
      ·rfl
      ·rw[h.1]
    · split at h
      ·rfl
      ·rw[h.1]
    · split at h
      ·rw[h.one];rfl
      ·rw[h.1]
    · split at h
      ·rfl
      ·rw[h]
    · split at h
      ·rfl
      ·rw[h]
    · split at h
      ·rfl
      ·rw[h]
    · split at h
      ·rfl
      ·rw[h]
    ·rw[h.one];rfl
    ·rw[h.1]
theorem dh {t:Nat}{s:MS}(h:ej m t=s):aR m t=s:=by rw[←lu];exact h
theorem th (hw:∀t wd rows ro,ej m t=.live wd rows ro→fz t=true→bw wd rows)(hD:∀t u,ve ck t=some u→D t)(hF:∀t wd rows ro,ej m t=.live wd rows ro→fz t=true→F t):
    ∀ (n:Nat) (r x:AV),MF ck fz m n r x→Cv (aR m) (iU ck) D F r x
  |0,r,x,h=>by rw[h.1];exact .same h.2
  | n + 1, r,x,h=>by
    have ih:=th hw hD hF n
    unfold MF at h
    split at h
    · split at h
      · split at h
        · rename_i t off len _ t' off' len' _ u hu
          split at h
          · rename_i hb
            have hb':=beq_eq hb
            subst hb'
            obtain⟨rfl,rfl⟩:=h
            have:iU ck t'=u:=by simp[iU,hu]
            rw[←this]
            exact .own (hD _ _ hu)
          ·exact h.elim
        ·exact h.elim
      · obtain⟨wd,rows,ro,rows',h1,h2,rfl,h4,h5,h6⟩:=h
        have hwr:=hw _ _ _ _ h1 h2
        have hcl:iW (aR m) (iU ck) D F rows' ((rows.drop _).take _):=⟨h6.1,fun q c d a b=>ih _ _ (h6.2 q c d a b)⟩
        refine .IL (hF _ _ _ _ h1 h2) (dh h1) ?_ hwr h4 hcl h5
        intro i y hy
        have hi:=(List.getElem?_eq_some_iff.1 hy).1
        rw[h6.1] at hi
        have hz:=List.getElem?_eq_getElem hi
        rw[Aq (h6.2 i _ _ hy hz)]
        exact hwr.mem (List.mem_of_mem_drop (List.mem_of_mem_take (List.mem_of_getElem? hz)))
    · split at h
      · split at h
        · rename_i t i k _ t' i' k' _ u hu
          split at h
          · rename_i hb
            have hb':=beq_eq hb
            subst hb'
            obtain⟨rfl,rfl⟩:=h
            have:iU ck t'=u:=by simp[iU,hu]
            rw[←this]
            exact .ptr (hD _ _ hu)
          ·exact h.elim
        ·exact h.elim
      · obtain⟨wd,rows,ro,a,b,h1,h2,rfl,h4,h5,h6⟩:=h
        have hwr:=hw _ _ _ _ h1 h2
        have hlen:=Aq h6
        have hc:=(ih _ _ h6).cells hlen
        exact .frzp (hF _ _ _ _ h1 h2) (dh h1) h4 (by rw[hlen];exact hwr _ _ h4) (fun q c d h1 h2=>hc.2 q c d h1 h2) (fun c hc=>o6 h5 hc)
    · split at h
      · split at h
        · rename_i t _ t' _ u hu
          split at h
          · rename_i hb
            have hb':=beq_eq hb
            subst hb'
            have:iU ck t'=u:=by simp[iU,hu]
            rw[←this]
            exact .mapr (hD _ _ hu)
          ·exact h.elim
        ·exact h.elim
      · obtain⟨wd,rows,ro,h1,h2,rfl,h4⟩:=h
        refine .fmap (hF _ _ _ _ h1 h2) (dh h1) rfl (fun i r' hr=>?_) (fun i key key' x' x k1 k2=>?_) (fun r hr=>?_)
        · obtain⟨key,y,rfl,_⟩:=h4 r' (List.mem_of_getElem? hr)
          exact⟨key,y,y,rfl,hr⟩
        · rw[k1] at k2
          have k3:=Option.some.inj k2
          simp only[entry,AV.agg.injEq,List.cons.injEq,AV.tup.injEq,and_true] at k3
          obtain⟨key2,y2,k4,k5⟩:=h4 _ (List.mem_of_getElem? k1)
          simp only[entry,AV.agg.injEq,List.cons.injEq,AV.tup.injEq,and_true] at k4
          rw[←k3.2,k4.2];exact .same k5
        · obtain⟨key,y,rfl,h5⟩:=h4 r hr
          simp[entry,bj,aN,h5]
    · split at h
      ·exact .xC (nM ih h)
      ·rw[h.1];exact .same h.2
    · split at h
      ·exact .xP (nM ih h)
      ·rw[h.1];exact .same h.2
    · split at h
      · obtain⟨rfl,h1,h2⟩:=h
        exact .NY (nM ih h1) (nM ih h2)
      ·rw[h.1];exact .same h.2
    · split at h
      · rename_i hn
        have hn':=pJ hn
        cases hn'
        rcases h with rfl|rfl|⟨wd,rfl⟩
        ·exact .same rfl
        ·exact .nilE
        ·exact .nil
      ·rw[h.1];exact .same h.2
    · split at h
      · split at h
        · rename_i hk
          rw[h,HX hk];exact .same rfl
        ·exact h.elim
      ·rw[h];exact .same rfl
    · split at h
      ·rw[h];exact .same rfl
      ·rw[h];exact .same rfl
    · split at h
      ·rw[h];exact .same rfl
      ·rw[h];exact .same rfl
    · split at h
      · split at h
        · rename_i hb
          rw[eT] at hb;rw[h,beq_eq hb];exact .same rfl
        ·exact h.elim
      ·rw[h];exact .same rfl
    · rcases h with rfl|⟨wd,rfl⟩
      ·exact .same rfl
      ·exact .empS
    ·rw[h.1];exact .same h.2
theorem lR:∀ (n:Nat) (x:AV),bj x=true→MF ck fz m n x x
  |0,x,h=>⟨rfl,h⟩
  | n + 1,x,h=>by
    have list:∀cs:List AV,aN cs=true→EC (MF ck fz m n) cs cs:=by
      intro cs
      induction cs with
      |nil=>intro _;trivial
      | cons c cs ih=>
        intro hh
        simp only[aN,Bool.and_eq_true] at hh
        exact⟨lR n c hh.1,ih hh.2⟩
    cases x with
    |own=>simp[bj] at h
    |ptr=>simp[bj] at h
    |mapr=>simp[bj] at h
    |agg cs=>exact list cs (by simpa only[bj] using h)
    |tup cs=>exact list cs (by simpa only[bj] using h)
    | clo f a b=>
      simp only[bj,Bool.and_eq_true] at h
      exact⟨rfl,list a h.1,list b h.2⟩
    | sl wd rows=>
      show(match vr wd wd with|true=>rows=rows|false=>False)
      rw[eT,Nat.beq_refl]
    |emp=>exact .inl rfl
    | lit v=>
      cases v with
      | int k b=>
        show(match Nat.beq (xn k) (xn k) with|true=>b=b|false=>False)
        rw[Nat.beq_refl]
      |bool b=>rfl
      |string b=>rfl
      | slice ad a c=>
        show(match Ey (.slice ad a c) with|true=>DT _|false=>_=_∧_)
        split
        ·rename_i hn;exact .inl (by rw[pJ hn])
        ·exact⟨rfl,rfl⟩
      |_=>exact⟨rfl,rfl⟩
    |_=>exact⟨rfl,h⟩
theorem kS.refl {n:Nat}{rows:List AV}(h:aN rows=true):kS (MF ck fz m n) rows rows:=
  ⟨rfl,fun i x y hx hy=>by rw[hx] at hy;cases hy;exact lR n x (bL.1 h x (List.mem_of_getElem? hx))⟩
end
def K3 (R:AV→AV→Prop)(rows' rows:List AV):Prop:=kS R rows' rows∧aN rows'=true
@[reducible] def Qn : Bool → Bool → Bool
  |false,true=>false
  |_,_=>true
@[reducible] def GL (ck : List (Nat × Nat)) (fz : Nat → Bool) (m : ML) (t' : Nat) : MS → Prop
  | .live wd' rows' ro'=>match ve ck t' with
    | some u=>match ej m u with
      | .live wd rows ro=>match vr wd' wd,Qn ro' ro with
        | true,true=>match zT t' with
          |true=>EC (MF ck fz m 12) rows' rows
          |false=>K3 (MF ck fz m 12) rows' rows
        |_,_=>False
      |_=>False
    |none=>False
  | .dead=>match ve ck t' with
    | some u=>match ej m u with
      |.free=>False
      |_=>True
    |none=>False
  |.free=>False
@[reducible] def yd (ck : List (Nat × Nat)) (fz : Nat → Bool) (m : ML) : ML → Prop
  |[]=>True
  |(t,s)::r=>GL ck fz m t s∧yd ck fz m r
@[reducible] def Oc (ck : List (Nat × Nat)) (fz : Nat → Bool) (m : ML) (sl : SL) : SL → Prop
  |[]=>True
  |(d,x)::r=>MF ck fz m 12 x (yf sl d)∧Oc ck fz m sl r
section
variable (m' m : ML)
@[reducible] def DA (f : AV → AV → List (Nat × Nat)) : List AV → List AV → List (Nat × Nat)
  |x::xs,y::ys=>jC (f x y) (DA f xs ys)
  |_,_=>[]
@[reducible] def gY : Nat → AV → AV → List (Nat × Nat)
  |0,_,_=>[]
  | n + 1,x',x=>match x',x with
    |.own t' _ _,.own t _ _=>[(t',t)]
    | .ptr t' _ _,.ptr t _ _=>(t',t)::(match zT t' with
      | true=>match ej m' t',ej m t with
        |.live _ rows' _,.live _ rows _=>DA (gY n) rows' rows
        |_,_=>[]
      |false=>[])
    |.mapr t',.mapr t=>[(t',t)]
    |.agg cs',.agg cs=>DA (gY n) cs' cs
    |.tup cs',.tup cs=>DA (gY n) cs' cs
    |.clo _ a' b',.clo _ a b=>jC (DA (gY n) a' a) (DA (gY n) b' b)
    |_,_=>[]
@[reducible] def r6 (sl : SL) : SL → List (Nat × Nat)
  |[]=>[]
  |(d,x)::r=>jC (gY m' m 4 x (yf sl d)) (r6 sl r)
end
@[reducible] def fJ (ps : List (Nat × Nat)) : ML → List (Nat × Nat)
  |[]=>[]
  | (k,_)::r=>match ve ps k with
    |some u=>(k,u)::fJ ps r
    |none=>(k,k)::fJ ps r
@[reducible] def rq : List (Nat × Nat) → Bool
  |[]=>true
  | (k,u)::r=>match s6 (fE Prod.snd r) u,s6 (fE Prod.fst r) k with
    |false,false=>rq r
    |_,_=>false
@[reducible] def uE (m : ML) (ck : List (Nat × Nat)) : Nat → Bool
  |0=>true
  | k + 1=>match ej m k with
    |.free=>uE m ck k
    | _ =>match ve ck k with
      | some u=>match Nat.beq u k with
        |true=>uE m ck k
        |false=>false
      |none=>false
@[reducible] def qz (ck : List (Nat × Nat)) (t : Nat) : Bool := match s6 (fE Prod.snd ck) t with
  |true=>false
  |false=>true
@[reducible] def Fit (nL : Nat) (sl : SL) (m : ML) (sl' : SL) (m' : ML) : Prop :=
  (rq (fJ (r6 m' m sl sl') m')=true∧uE m (fJ (r6 m' m sl sl') m') nL=true)∧
    Oc (fJ (r6 m' m sl sl') m') (qz (fJ (r6 m' m sl sl') m')) m sl sl'∧yd (fJ (r6 m' m sl sl') m') (qz (fJ (r6 m' m sl sl') m')) m m'
theorem gC:∀ {l:List Nat} {k:Nat},s6 l k=true↔k∈l
  |[],k=>by simp[s6]
  | x :: r,k=>by
    simp only[s6,List.mem_cons]
    split
    ·rename_i h;simp[beq_eq h]
    · rename_i h
      rw[gC (l:=r)]
      constructor
      ·exact .inr
      · rintro(rfl|h')
        ·rw[Nat.beq_refl] at h;cases h
        ·exact h'
theorem lT:∀ {l:List (Nat×Nat)} {i u:Nat},ve l i=some u→(i,u)∈l
  |[],i,u,h=>by cases h
  | p::r,i,u,h=>by
    simp only[ve] at h
    split at h
    ·rename_i hb;cases h;rw[beq_eq hb];simp
    ·exact List.mem_cons_of_mem _ (lT h)
theorem vR:∀ {l:List (Nat×Nat)},rq l=true→∀ {i j u:Nat},(i,u)∈l→(j,u)∈l→i=j
  |[],_,i,j,u,h,_=>by simp at h
  | p :: r,hn,i,j,u,h1,h2=>by
    simp only[rq] at hn
    split at hn
    · rename_i g1 g2
      have no:∀k,(k,p.2)∉r:=fun k hk=>by
        have:s6 (fE Prod.snd r) p.2=true:=by rw[eS,gC];exact List.mem_map.2 ⟨_,hk,rfl⟩
        rw[this] at g1;cases g1
      rcases List.mem_cons.1 h1 with h1|h1
      · rcases List.mem_cons.1 h2 with h2|h2
        ·rw[←h1] at h2;cases h2;rfl
        ·rw[←h1] at no;exact absurd h2 (no j)
      · rcases List.mem_cons.1 h2 with h2|h2
        ·rw[←h2] at no;exact absurd h1 (no i)
        ·exact vR hn h1 h2
    ·cases hn
theorem lp {ps:List (Nat×Nat)}:∀ {m':ML} {i u:Nat},(i,u)∈fJ ps m'→i∈m'.map (·.1)
  |[],i,u,h=>by simp at h
  | (k,s)::r,i,u,h=>by
    simp only[fJ] at h
    split at h
    · rcases List.mem_cons.1 h with h|h
      ·cases h;simp
      ·simp[lp h]
    · rcases List.mem_cons.1 h with h|h
      ·cases h;simp
      ·simp[lp h]
theorem jf {ck:List (Nat×Nat)}{fz:Nat→Bool}{m:ML}:∀ {m':ML},yd ck fz m m'→∀t,aR m' t=.free∧t∉m'.map (·.1)∨(GL ck fz m t (aR m' t)∧t∈m'.map (·.1))
  |[],_,t=>.inl ⟨rfl,by simp⟩
  | (d,s)::r,h,t=>by
    simp only[aR]
    by_cases hi:t=d
    ·subst hi;simp;exact h.1
    · have h':(t==d)=false:=by simpa using hi
      rw[h']
      rcases jf h.2 t with⟨a,b⟩|⟨a,b⟩
      ·exact .inl ⟨a,by simp[hi];simpa using b⟩
      ·exact .inr ⟨a,by simp;exact .inr (by simpa using b)⟩
theorem yE {ck:List (Nat×Nat)}{fz:Nat→Bool}{m:ML}{sl:SL}:∀ {sl':SL},Oc ck fz m sl sl'→∀d,bR sl' d=.any∨MF ck fz m 12 (bR sl' d) (yf sl d)
  |[],_,d=>.inl rfl
  | (e,x)::r,h,d=>by
    simp only[bR]
    by_cases hi:d=e
    ·subst hi;simp;exact .inr h.1
    · have h':(d==e)=false:=by simpa using hi
      rw[h'];exact yE h.2 d
section
variable {P : Program} {ck : List (Nat × Nat)} {fz : Nat → Bool} {m m' : ML} {N nL : Nat} {w0 : World} {W0 : Nat → Prop} {L μ : Mu} {sl : SL} {a : Act} {w : World}
theorem Cw (hs:bW P N w0 W0 L μ (St sl m) a w):∀t wd rows ro,ej m t=.live wd rows ro→bw wd rows:=by
  intro t wd rows ro h
  obtain⟨B,_,h2⟩:=hs.objs t wd rows ro (dh h)
  exact h2.wide
theorem yd.AP (hs:bW P N w0 W0 L μ (St sl m) a w)(hn:rq ck=true)(hl:uE m ck nL=true)(hk:∀i u,(i,u)∈ck→i∈m'.map (·.1))(hfz:∀t,fz t=true→qz ck t=true)(h:yd ck fz m m')(sl':Nat→AV)
    (hsl:∀i,Cv (aR m) (iU ck) (fun t=>aR m' t≠ .free) (fun t=>(∃wd rows ro,ej m t=.live wd rows ro)∧fz t=true) (sl' i) (bR sl i)):
    ow nL (iU ck) (fun t=>(∃wd rows ro,ej m t=.live wd rows ro)∧fz t=true) ⟨sl',aR m'⟩ (St sl m):=by
  have hD:∀t u,ve ck t=some u→aR m' t≠ .free:=by
    intro t u ht e
    rcases jf h t with⟨_,b⟩|⟨b,_⟩
    ·exact b (hk _ _ (lT ht))
    ·rw[e] at b;exact b
  have hcv:∀n r x,MF ck fz m n r x→Cv (aR m) (iU ck) (fun t=>aR m' t≠ .free) (fun t=>(∃wd rows ro,ej m t=.live wd rows ro)∧fz t=true) r x:=
    th (fun t wd rows ro h _=>Cw hs t wd rows ro h) hD (fun t wd rows ro h1 h2=>⟨⟨wd,rows,ro,h1⟩,h2⟩)
  have tabd:∀t,aR m' t≠ .free→∃u,ve ck t=some u∧iU ck t=u:=by
    intro t ht
    rcases jf h t with⟨b,_⟩|⟨b,_⟩
    ·exact absurd b ht
    · revert b
      cases hs':aR m' t with
      |free=>exact fun b=>b.elim
      | dead=>
        intro b
        simp only[GL] at b
        split at b
        ·rename_i u hu;exact⟨u,hu,by simp[iU,hu]⟩
        ·exact b.elim
      | live wd rows ro=>
        intro b
        simp only[GL] at b
        split at b
        ·rename_i u hu;exact⟨u,hu,by simp[iU,hu]⟩
        ·exact b.elim
  refine⟨hsl,fun t=>?_,fun t t' h1 h2 h3=>?_,fun s hsF=>⟨?_,?_⟩,fun t ht hne=>?_⟩
  · show aR m' t =.free∨_
    rcases jf h t with⟨b,_⟩|⟨b,_⟩
    ·exact .inl b
    · right
      show(aR m' t=.dead∧aR m (iU ck t)≠ .free)∨_
      revert b
      cases hs':aR m' t with
      |free=>exact fun b=>b.elim
      | dead=>
        intro b
        simp only[GL] at b
        split at b
        · rename_i u hu
          have hr:iU ck t=u:=by simp[iU,hu]
          rw[hr]
          refine .inl ⟨rfl,fun e=>?_⟩
          rw[lu,e] at b;exact b
        ·exact b.elim
      | live wd' rows' ro'=>
        intro b
        simp only[GL] at b
        split at b
        · rename_i u hu
          have hr:iU ck t=u:=by simp[iU,hu]
          split at b
          · rename_i wd rows ro hm
            have hwr:=Cw hs _ _ _ _ hm
            split at b
            · rename_i g1 g2
              have g1':=beq_eq (by rw[←eT];exact g1)
              subst g1'
              have hcl:iW (aR m) (iU ck) (fun t=>aR m' t≠ .free) (fun t=>(∃wd rows ro,ej m t=.live wd rows ro)∧fz t=true) rows' rows∧bw wd' rows':=by
                split at b
                · refine⟨nM (fun r x hrx=>hcv 12 r x hrx) b,?_⟩
                  clear hs' hm
                  induction rows' generalizing rows with
                  |nil=>exact .nil _
                  | cons r rs ih=>
                    cases rows with
                    |nil=>exact b.elim
                    |cons y ys=>exact .cons (by rw[Aq b.1];exact hwr.tail.1) (ih _ hwr.tail.2 b.2)
                · refine⟨⟨b.1.1,fun q c d h1 h2=>hcv 12 _ _ (b.1.2 q c d h1 h2)⟩,fun i y hy=>?_⟩
                  have hi:=(List.getElem?_eq_some_iff.1 hy).1
                  rw[b.1.1] at hi
                  have hz:=List.getElem?_eq_getElem hi
                  rw[Aq (b.1.2 i _ _ hy hz)]
                  exact hwr.mem (List.mem_of_getElem? hz)
              refine .inr ⟨wd',rows',rows,ro',ro,hs',?_,?_,hcl.2,hcl.1⟩
              ·rw[hr];exact dh hm
              · intro hro
                subst hro
                cases ro with
                |false=>rfl
                |true=>cases g2
            ·exact b.elim
          ·exact b.elim
        ·exact b.elim
  · obtain⟨u,a1,a2⟩:=tabd t h1
    obtain⟨u',b1,b2⟩:=tabd t' h2
    have:u=u':=by rw[←a2,←b2,h3]
    subst this
    exact vR hn (lT a1) (lT b1)
  · obtain⟨⟨wd,rows,ro,h1⟩,_⟩:=hsF
    exact⟨wd,rows,ro,dh h1⟩
  · intro t wd rows ht e
    have hne:aR m' t≠ .free:=by intro e';have:aR m' t=.live wd rows false:=ht;rw[e'] at this;cases this
    obtain⟨u,a1,a2⟩:=tabd t hne
    have h5:=hfz s hsF.2
    have:s6 (fE Prod.snd ck) s=true:=by
      rw[eS,gC,List.mem_map]
      exact⟨(t,u),lT a1,by rw[←e,a2]⟩
    simp only[qz,this] at h5
    cases h5
  · have key : ∀k,uE m ck k=true→∀t,t<k→aR m t≠ .free→ve ck t=some t:=by
      intro k
      induction k with
      |zero=>intro _ t ht;omega
      | succ k ih=>
        intro hk t ht hne
        simp only[uE] at hk
        split at hk
        · rename_i hm
          rcases Nat.lt_succ_iff_lt_or_eq.1 ht with h'|rfl
          ·exact ih hk t h' hne
          ·exact absurd (dh hm) hne
        · split at hk
          · rename_i u hu
            split at hk
            · rename_i hb
              rcases Nat.lt_succ_iff_lt_or_eq.1 ht with h'|rfl
              ·exact ih hk t h' hne
              ·rw[hu,beq_eq hb]
            ·cases hk
          ·cases hk
    have h5:=key nL hl t ht hne
    exact⟨by simp[iU,h5],hD _ _ h5⟩
end
theorem Fit.xq {P:Program}{nL:Nat}{sl sl':SL}{m m':ML}(h:Fit nL sl m sl' m'):iI P nL (St sl m) (St sl' m'):=by
  intro N w0 W0 L μ a w hL hs
  obtain⟨⟨h1,h2⟩,h3,h4⟩:=h
  have hk:∀i u,(i,u)∈fJ (r6 m' m sl sl') m'→i∈m'.map (·.1):=fun i u h=>lp h
  have hD:∀t u,ve (fJ (r6 m' m sl sl') m') t=some u→aR m' t≠ .free:=by
    intro t u ht e
    rcases jf h4 t with⟨_,b⟩|⟨b,_⟩
    ·exact b (hk _ _ (lT ht))
    ·rw[e] at b;exact b
  have hw:=yd.AP hs h1 h2 hk (fun t h=>h) h4 (bR sl') (fun i=>by
    rcases yE h3 i with h|h
    ·rw[h];exact .any
    · rw[←jh sl]
      exact th (fun t wd rows ro h _=>Cw hs t wd rows ro h) hD (fun t wd rows ro h1 h2=>⟨⟨wd,rows,ro,h1⟩,h2⟩) 12 _ _ h)
  obtain⟨μ',hs',_⟩:=hw.Kx hL hs (.inl ⟨rfl,rfl⟩)
  exact⟨μ',hs'⟩
end Go.Am
section
namespace Go.Am
open Go
@[reducible] def J0 (Γ : cM) (sl : SL) (m : ML) : ResultVar → Option AV
  |.tmp t=>some (yf sl t)
  | .cell a t=>match yf sl a with
    | .ptr tk i k=>match ej m tk with
      | .live _ rows _=>match lG rows i with
        |some r=>uU (sn Γ t) r k
        |none=>none
      |_=>none
    |_=>none
@[reducible] def Hv (Γ : cM) (sl : SL) (m : ML) : List ResultVar → Option (List AV)
  |[]=>some []
  | rv::r=>match J0 Γ sl m rv,Hv Γ sl m r with
    |some x,some xs=>some (x::xs)
    |_,_=>none
@[reducible] def JV : List AV → AV
  |[x]=>x
  |xs=>.tup xs
@[reducible] def bP : Nat → List MS → ML
  |_,[]=>[]
  |k,x::r=>(k,x)::bP (Nat.add k 1) r
@[reducible] def Ch : Nat → List AV → SL
  |_,[]=>[]
  |k,x::r=>(k,x)::Ch (Nat.add k 1) r
theorem oS:∀ (l:List MS) (k:Nat),bP k l=sQ k l
  |[],_=>rfl
  |x::r,k=>by simp only[bP,sQ];rw[oS r]
theorem wI:∀ (l:List AV) (k:Nat),Ch k l=uX k l
  |[],_=>rfl
  |x::r,k=>by simp only[Ch,uX];rw[wI r]
theorem j8 (l:List MS):aR (sQ 0 l)=aO l:=by
  funext t;rw[xb];simp[aO]
@[reducible] def Oq (nL : Nat) (x : AV) (m : ML) (outs : List MS) (res : AV) : Prop :=
  (rq (fJ (gY (bP 0 outs) m 6 res x) (bP 0 outs))=true∧uE m (fJ (gY (bP 0 outs) m 6 res x) (bP 0 outs)) nL=true)∧
    MF (fJ (gY (bP 0 outs) m 6 res x) (bP 0 outs)) (qz (fJ (gY (bP 0 outs) m 6 res x) (bP 0 outs))) m 12 res x∧
    yd (fJ (gY (bP 0 outs) m 6 res x) (bP 0 outs)) (qz (fJ (gY (bP 0 outs) m 6 res x) (bP 0 outs))) m (bP 0 outs)
@[reducible] def ql : List ResultVar → AV → List AV
  |[_],x=>[x]
  | _,x=>match x with
    |.tup xs=>xs
    |_=>[]
@[reducible] def iC (outs : List MS) : List ResultVar → List AV → SL → ML → SL × ML
  |[],_,sl,m=>(sl,m)
  | rv :: rvs,rs,sl,m=>match rs with
    |[]=>(sl,m)
    | r :: rs=>match rv with
      | .tmp d=>match r with
        | .own t _ _=>match yf sl d with
          | .lit v=>match Ey v,ej m (Nat.add 1000003 t),lG outs t with
            |true,.free,some (.live wd _ _)=>iC outs rvs rs (sw d (.own (Nat.add 1000003 t) 0 0) sl) (kH (Nat.add 1000003 t) (.live wd [] false) m)
            |_,_,_=>iC outs rvs rs sl m
          | .emp=>match ej m (Nat.add 1000003 t),lG outs t with
            |.free,some (.live wd _ _)=>iC outs rvs rs (sw d (.own (Nat.add 1000003 t) 0 0) sl) (kH (Nat.add 1000003 t) (.live wd [] false) m)
            |_,_=>iC outs rvs rs sl m
          |_=>iC outs rvs rs sl m
        |_=>iC outs rvs rs sl m
      |_=>iC outs rvs rs sl m
@[reducible] def MD (Γ : cM) (nL : Nat) (rvs : List ResultVar) (outs : List MS) (res : AV) : SL × ML → Prop
  | (sl,m)=>match Hv Γ sl m rvs with
    |some xs=>Oq nL (JV xs) m outs res
    |none=>False
@[reducible] def QW (Γ : cM) (nL : Nat) (rvs : List ResultVar) (outs : List MS) (res : AV) (e : Exit) (sl : SL) (m : ML) : Prop :=
  match e with
  |.normal=>MD Γ nL rvs outs res (iC outs rvs (ql rvs res) sl m)
  |.ret=>MD Γ nL rvs outs res (iC outs rvs (ql rvs res) sl m)
  |_=>False
theorem bW.ghost {P:Program}{N:Nat}{w0:World}{W0:Nat→Prop}{L μ:Mu}{sl:SL}{m:ML}{a:Act}{w:World}(hs:bW P N w0 W0 L μ (St sl m) a w){d t:Nat}(wd:Nat)(hd:yf sl d=.lit (.slice none 0 0)∨yf sl d=.emp)(ht:ej m t=.free):
    bW P N w0 W0 L (bt μ t ⟨0,0,wd,true,false⟩) (St (sw d (.own t 0 0) sl) (kH t (.live wd [] false) m)) a w:=by
  have h1:=hs.pZ (t:=t) (wd:=wd) (dh ht)
  have hv:∃ad,a.tmps.getD d undef=.slice ad 0 0:=by
    have:=hs.slots d
    have e:(St sl m).slots d=yf sl d:=by rw[jh];rfl
    rw[e] at this
    generalize a.tmps.getD d undef=v at this
    rcases hd with hd|hd<;>(rw[hd] at this;cases this;exact⟨_,rfl⟩)
  obtain⟨ad,hv⟩:=hv
  have key:bW P N w0 W0 L (bt μ t ⟨0,0,wd,true,false⟩) ((St sl m).Et (some d) (.own t 0 0) [(t,.live wd [] false)]) a w:=by
    refine{h1 with slots:=fun i=>?_}
    simp only[az.Et,vg]
    by_cases hi:i=d
    · subst hi
      rw[if_pos rfl,hv]
      exact .ownNil (B:=⟨0,0,wd,true,false⟩) (by simp[bt])
    ·rw[if_neg hi];exact h1.slots i
  rw[xM,vI] at key
  exact key
theorem tK {P:Program}{outs:List MS}{N:Nat}{w0:World}{W0:Nat→Prop}{L:Mu}{a:Act}{w:World}:∀ (rvs:List ResultVar) (rs:List AV) (sl:SL) (m:ML) (μ:Mu),bW P N w0 W0 L μ (St sl m) a w→∃μ',bW P N w0 W0 L μ' (St (iC outs rvs rs sl m).1 (iC outs rvs rs sl m).2) a w
  |[],rs,sl,m,μ,hs=>⟨μ,by simpa only[iC] using hs⟩
  |rv::rvs,[],sl,m,μ,hs=>⟨μ,by simpa only[iC] using hs⟩
  | rv :: rvs,r::rs,sl,m,μ,hs=>by
    have ih:=tK (P:=P) (outs:=outs) (N:=N) (w0:=w0) (W0:=W0) (L:=L) (a:=a) (w:=w) rvs rs
    unfold iC
    dsimp only
    split
    · split
      · split
        · rename_i hd
          split
          · rename_i hn ht _
            exact ih _ _ _ (hs.ghost _ (.inl (by rw[hd,pJ hn])) ht)
          ·exact ih _ _ _ hs
        · rename_i hd
          split
          · rename_i ht _
            exact ih _ _ _ (hs.ghost _ (.inr hd) ht)
          ·exact ih _ _ _ hs
        ·exact ih _ _ _ hs
      ·exact ih _ _ _ hs
    ·exact ih _ _ _ hs
section
variable {P : Program} {Γ : cM} {sl : SL} {m : ML}
theorem Bc (hΓ:Γ.Good P):∀ {rvs:List ResultVar} {xs:List AV},Hv Γ sl m rvs=some xs→CS P (St sl m) rvs xs
  |[],xs,h=>by cases h;trivial
  | rv :: rvs, xs,h=>by
    simp only[Hv] at h
    split at h
    · rename_i x ys h1 h2
      cases h
      refine⟨?_,Bc hΓ h2⟩
      cases rv with
      | tmp t=>
        simp only[J0,Option.some.injEq] at h1
        show bR sl t=x
        rw[←jh];exact h1
      | cell a t=>
        simp only[J0] at h1
        split at h1
        · rename_i tk i k ha
          split at h1
          · rename_i wd rows ro hm
            split at h1
            · rename_i r hr
              rw[iT] at hr
              exact⟨tk,i,k,wd,rows,ro,r,by show bR sl a=_;rw[←jh];exact ha,dh hm,hr,oB hΓ (by rw[←eV,←rY];exact h1)⟩
            ·cases h1
          ·cases h1
        ·cases h1
    ·cases h
theorem C1 (xs:List AV):JV xs=AW xs:=by
  match xs with
  |[]=>rfl
  |[x]=>rfl
  |x::y::r=>rfl
theorem Oq.end {nL:Nat}{x:AV}{outs:List MS}{res:AV}(h:Oq nL x m outs res){N:Nat}{w0:World}{W0:Nat→Prop}{L μ:Mu}{a:Act}{w:World}{v:Value}(hL:∀t,nL≤t→t<jK→L t=none)
    (hs:bW P N w0 W0 L μ (St sl m) a w) (hv:cq (Wr W0 μ (aR m)) μ w x v):∃μ',bW P 0 w0 W0 L μ' (bare outs) mC w∧cq (Wr W0 μ' (aO outs)) μ' w res v:=by
  obtain⟨⟨h1,h2⟩,h3,h4⟩:=h
  generalize ht:fJ (gY (bP 0 outs) m 6 res x) (bP 0 outs)=ck at h1 h2 h3 h4
  have hk:∀i u,(i,u)∈ck→i∈ (bP 0 outs).map (·.1):=fun i u h=>by rw[←ht] at h;exact lp h
  have hD:∀t u,ve ck t=some u→aR (bP 0 outs) t≠ .free:=by
    intro t u ht e
    rcases jf h4 t with⟨_,b⟩|⟨b,_⟩
    ·exact b (hk _ _ (lT ht))
    ·rw[e] at b;exact b
  have hw:=yd.AP hs h1 h2 hk (fun t h=>h) h4 (fun _=>.any) (fun i=>.any)
  have hcv:=th (fun t wd rows ro h _=>Cw hs t wd rows ro h) hD (F:=fun t=>(∃wd rows ro,ej m t=.live wd rows ro)∧qz ck t=true) (fun t wd rows ro h1 h2=>⟨⟨wd,rows,ro,h1⟩,h2⟩) 12 _ _ h3
  obtain⟨μ',hs',hrep⟩:=hw.Kx hL hs (N':=0) (a':=mC) (.inr ⟨fun _=>rfl,rfl,rfl⟩)
  have e:aR (bP 0 outs)=aO outs:=by rw[oS,j8]
  rw[e] at hs' hrep hcv
  exact⟨μ',hs',hrep _ _ _ hcv hv⟩
theorem ah.af {f:FuncId}{fn:Func}{c:Code}{ins outs:List MS}{args:List AV}{res:AV}{N:Nat}{rvs:List ResultVar}(Γ:cM)(hΓ:Γ.Good P)(hf:P.funcs[f]? =some fn)(hb:fn.body=some c)(hN:fn.ntmps=N)(hr:fn.results.toList=rvs)
    (hlen:Nat.ble (fq args) N=true) (h:Bw P N (fq ins) Γ c (Ch 0 args) (bP 0 ins) (QW Γ (fq ins) rvs outs res)):ah P f ins args outs res:=by
  subst hN;subst hr
  have hlen:args.length≤fn.ntmps:=by rw[←cP];exact fu hlen
  intro w W0 L vs hL hs hr
  have h:=qK hΓ _ _ _ _ h
  rw[wI,oS,cP] at h
  have hst:(⟨fun i=>args.getD i .any,aO ins⟩:az)=St (uX 0 args) (sQ 0 ins):=by
    unfold St
    congr 1
    ·funext i;rw[rJ];simp
    ·exact(j8 ins).symm
  have hsim:bW P fn.ntmps w W0 L L ⟨fun i=>args.getD i .any,aO ins⟩ {tmps:=vs.toArray++Array.replicate (fn.ntmps-vs.toArray.size) undef,defers:=[]} w:=by
    refine⟨?_,.nil,hs.os,hs.tape,hs.output,hs.hsize,hs.shp,hs.keep,hs.w0lt,hs.lentμ,hs.free,fun i=>?_,hs.objs,hs.inj,hs.out,hs.tabs⟩
    ·simp[hr.1];omega
    · by_cases hi:i<args.length
      · have h1:args[i]? =some args[i]:=List.getElem?_eq_getElem hi
        have h2:vs[i]? =some (vs[i]'(by rw[hr.1];exact hi)):=List.getElem?_eq_getElem _
        have:=hr.2 i _ _ h1 h2
        have hv:(vs.toArray++Array.replicate (fn.ntmps-vs.toArray.size) undef).getD i undef=vs[i]'(by rw[hr.1];exact hi):=by
          rw[Array.getD_eq_getD_getElem?,Array.getElem?_append_left (by simp;rw[hr.1];exact hi)]
          simp[h2]
        simp only[hv,List.getD_eq_getElem?_getD,h1,Option.getD_some]
        exact this
      · simp only[List.getD_eq_getElem?_getD,List.getElem?_eq_none (Nat.le_of_not_lt hi),Option.getD_none]
        exact .any
  rw[hst] at hsim
  refine rP hf hb h (fun t ht=>hL t (by omega)) hsim (fun e σ' ⟨sl,m,_,hend⟩=>?_) ?_
  · cases e with
    |normal=>exact .inl rfl
    |ret=>exact .inr rfl
    |_=>exact hend.elim
  rintro e σ' μ' a' w' ⟨sl,m,rfl,hend⟩ hs' hd
  have key:MD Γ ins.length fn.results.toList outs res (iC outs fn.results.toList (ql fn.results.toList res) sl m)→∃v,(results fn a'.tmps).run P w'=.ok v w'∧∃v_1 μ',Ending.returned v=.returned v_1∧bW P 0 w W0 L μ' (bare outs) mC w'∧cq (Wr W0 μ' (aO outs)) μ' w' res v_1:=by
    intro hend
    obtain⟨μ2,hs2⟩:=tK (outs:=outs) fn.results.toList (ql fn.results.toList res) sl m μ' hs'
    generalize iC outs fn.results.toList (ql fn.results.toList res) sl m=q at hend hs2
    obtain⟨sl2,m2⟩:=q
    simp only[MD] at hend
    split at hend
    · rename_i xs hxs
      have hres:=(Bc hΓ hxs).get
      obtain⟨v,v1,v2⟩:=uD hs2 hres.1 hres.2
      rw[C1] at hend
      obtain⟨μ'',h1,h2⟩:=hend.end (fun t ht _=>hL t ht) hs2 v2
      exact⟨v,v1,v,μ'',rfl,h1,h2⟩
    ·exact hend.elim
  cases e with
  |normal=>exact key hend
  |ret=>exact key hend
  |_=>exact hend.elim
end
def aL {ι:Type}(sl:SL)(m:ML){nL:Nat}{S:ι→SL}{M:ι→ML}{I:ι→Prop}{μ:ι→Nat}{i:ι}:Prop:=∃j,I j∧μ j<μ i∧Fit nL sl m (S j) (M j)
theorem aL.mk {ι:Type}{sl:SL}{m:ML}{nL:Nat}{S:ι→SL}{M:ι→ML}{I:ι→Prop}{μ:ι→Nat}{i:ι}(j:ι)(h1:I j)(h2:μ j<μ i)(h3:Fit nL sl m (S j) (M j)):aL sl m (nL:=nL) (S:=S) (M:=M) (I:=I) (μ:=μ) (i:=i):=⟨j,h1,h2,h3⟩
@[reducible] def N2 {ι : Type} (nL : Nat) (S : ι → SL) (M : ι → ML) (I : ι → Prop) (μ : ι → Nat) (i : ι) (Q : Exit → SL → ML → Prop) (e : Exit) (sl : SL) (m : ML) : Prop :=
  match e with
  |.normal=>aL sl m (nL:=nL) (S:=S) (M:=M) (I:=I) (μ:=μ) (i:=i)
  |e=>Q e sl m
theorem aU.use {P:Program}{N nL:Nat}{sl:SL}{m:ML}{c:Code}{Q:Exit→SL→ML→Prop}{ι:Type}(Γ:cM)(hΓ:Γ.Good P)(S:ι→SL)(M:ι→ML)(I:ι→Prop)(μ:ι→Nat)(i0:ι)(hI:I i0)(h0:Fit nL sl m (S i0) (M i0))
    (round:∀i,I i→Bw P N nL Γ c (S i) (M i) (N2 nL S M I μ i Q)):aU P N nL sl m (c:=.loop c) (Q:=Q):=by
  refine gz.Pn (C:=fun i=>St (S i) (M i)) I μ i0 hI h0.xq ?_
  intro i hi
  refine(qK hΓ _ _ _ _ (round i hi)).mono ?_
  rintro e σ ⟨sl',m',rfl,h⟩
  cases e with
  | normal=>
    obtain⟨j,h1,h2,h3⟩:=h
    exact⟨j,h1,h2,h3.xq⟩
  |_=>exact⟨sl',m',rfl,h⟩
theorem aU.ghost {P:Program}{N nL:Nat}{sl:SL}{m:ML}{c:Code}{Q:Exit→SL→ML→Prop}(d t wd:Nat)(hd:yf sl d=.lit (.slice none 0 0))(ht:ej m t=.free)(hc:aU P N nL (sw d (.own t 0 0) sl) (kH t (.live wd [] false) m) (c:=c) (Q:=Q)):
    aU P N nL sl m (c:=c) (Q:=Q):=by
  refine gz.ghost (d:=d) (t:=t) wd (.inl (by show bR sl d=_;rw[←jh];exact hd)) (dh ht) ?_
  rw[xM,vI]
  exact hc
section
variable {P : Program} {N : Nat} {o : Oper} {f : FuncId} {args args' : List AV} {acc : Tk} {sl : SL} {m : ML} {R : Rest} {res : AV} {outs : List MS}
@[reducible] def Qy (T : List Nat) (t : Nat) : Bool := s6 T t
@[reducible] def wW (T : List Nat) (m : ML) (args' args : List AV) : Prop := EC (MF [] (Qy T) m 12) args' args
theorem wW.cv {T:List Nat}(hw:∀t wd rows ro,ej m t=.live wd rows ro→t∈T→bw wd rows)(h:wW T m args' args):iW (St sl m).mem id (fun _=>False) (· ∈T) args' args:=by
  have:=nM (D:=fun _=>False) (F:=(· ∈T)) (ρ:=iU []) (mm:=aR m) (fun r x=>th (fun t wd rows ro h1 h2=>hw t wd rows ro h1 (gC.1 h2)) (fun t u h=>by cases h) (fun t wd rows ro _ h2=>gC.1 h2) 12 r x) h
  exact this
theorem lA (hd:nO N o.dst=true):∀d,o.dst=some d→d<N:=bk (Fh hd)
theorem aI.vD {σ:az}{rd:List Nat}{x:AV}{ups:ML}(h:(∃ (w0:World) (W0:Nat→Prop) (L μ:Mu) (a:Act) (w:World) (σ2:az),(∀t∈rd,σ2.mem t=σ.mem t)∧bW P N w0 W0 L μ σ2 a w)→aI P N o σ rd x ups):aI P N o σ rd x ups:=by
  intro σ2 he hr w0 W0 L μ a w K Q hs hK
  exact h ⟨w0,W0,L,μ,a,w,σ2,hr,hs⟩ σ2 he hr w0 W0 L μ a w K Q hs hK
theorem FL {σ:az}{T:List Nat}(hσ:σ=St sl m)(h:∃ (w0:World) (W0:Nat→Prop) (L μ:Mu) (a:Act) (w:World) (σ2:az),(∀t∈T,σ2.mem t=σ.mem t)∧bW P N w0 W0 L μ σ2 a w):∀t wd rows ro,ej m t=.live wd rows ro→t∈T→bw wd rows:=by
  subst hσ
  obtain⟨w0,W0,L,μ,a,w,σ2,h1,h2⟩:=h
  intro t wd rows ro ht hT
  obtain⟨B,_,h3⟩:=h2.objs t wd rows ro (by rw[h1 t hT,mem_eq];exact ht)
  exact h3.wide
theorem aj.lit (T:List Nat)(hf:ah P f [] args' [] res)(hc:ae P f)(ha:wW T m args' args)(hd:nO N o.dst=true)(hp:qt res=true)(h:R T res [] acc sl m):aj P N f args acc sl m (o:=o) (R:=R):=by
  intro hto
  exact⟨T,res,[],aI.vD fun hs=>aI.Iu T hto hc (ha.cv (FL rfl hs)) hf hp (lA hd),h⟩
@[reducible] def zu (m : ML) : List Nat → Bool
  |[]=>true
  | t::r=>match ej m t with
    |.live _ _ _=>zu m r
    |_=>false
theorem rR {m:ML}:∀ {T:List Nat},zu m T=true→∀t∈T,∃wd rows ro,aR m t=.live wd rows ro
  |[],_,t,h=>by simp at h
  | u ::r,h,t,ht=>by
    simp only[zu] at h
    split at h
    · rename_i hm
      rcases List.mem_cons.1 ht with rfl|ht
      ·exact⟨_,_,_,dh hm⟩
      ·exact rR h t ht
    ·cases h
@[reducible] def Ov : MS → MS
  |.live wd rows _=>.live wd rows true
  |s=>s
theorem aj.val (T:List Nat)(hf:ah P f [] args' [] res)(hc:ae P f)(ha:wW T m args' args)(hT:zu m T=true)(hd:nO N o.dst=true)(hp:bj res=true)
    (h:R T res (fE (fun t=>(t,Ov (ej m t))) T) acc sl m):aj P N f args acc sl m (o:=o) (R:=R):=by
  intro hto
  have e:fE (fun t=>(t,Ov (ej m t))) T=T.map fun t=>(t,nc ((St sl m).mem t)):=by
    rw[eS];apply List.map_congr_left;intro t _;rw[mem_eq];rfl
  rw[e] at h
  refine⟨T,res,_,aI.vD fun hs=>?_,h⟩
  have:=aI.Il (P:=P) (N:=N) (o:=o) (σ:=St sl m) (news:=[]) (x:=res) (base:=0) T hto hc (ha.cv (FL rfl hs)) (fun t ht=>rR hT t ht) hf (by simp) rfl (by simp) (.same hp) (lA hd)
  simpa using this
@[reducible] def tT : Nat → Nat → AV → AV
  |0,_,x=>x
  | n+1,b,x=>match x with
    |.own t o l=>.own (Nat.add b t) o l
    |.ptr t i k=>.ptr (Nat.add b t) i k
    |.mapr t=>.mapr (Nat.add b t)
    |.agg cs=>.agg (fE (tT n b) cs)
    |.tup cs=>.tup (fE (tT n b) cs)
    |x=>x
@[reducible] def Kw : Nat → Nat → AV → Bool
  |0,_,x=>bj x
  | n+1,k,x=>match x with
    |.own t _ _=>Nat.ble (Nat.add t 1) k
    |.ptr t _ _=>Nat.ble (Nat.add t 1) k
    |.mapr t=>Nat.ble (Nat.add t 1) k
    |.agg cs=>ni (Kw n k) cs
    |.tup cs=>ni (Kw n k) cs
    |x=>bj x
theorem zZ {mm:Nat→MS}{F:Nat→Prop}{b k:Nat}:∀ (n:Nat) (x:AV),Kw n k x=true→Cv mm (· -b) (fun t=>b≤t∧t-b<k) F (tT n b x) x
  |0,x,h=>.same h
  | n + 1,x,h=>by
    have list:∀cs:List AV,ni (Kw n k) cs=true→iW mm (· -b) (fun t=>b≤t∧t-b<k) F (fE (tT n b) cs) cs:=by
      intro cs
      induction cs with
      |nil=>intro _;exact .nil
      | cons c cs ih=>
        intro h
        simp only[ni] at h
        split at h
        ·rename_i h1;exact .cons (zZ n c h1) (ih h)
        ·cases h
    cases x with
    | own t o l=>
      have ht:t+1≤k:=fu h
      show Cv _ _ _ _ (.own (b+t) o l) _
      have e:t=(b+t)-b:=by omega
      have:=Cv.own (m:=mm) (ρ:=(· -b)) (D:=fun t=>b≤t∧t-b<k) (F:=F) (t:=b+t) (o:=o) (l:=l) ⟨by omega,by omega⟩
      simp only[Nat.add_sub_cancel_left] at this
      exact this
    | ptr t i k'=>
      have ht:t+1≤k:=fu h
      show Cv _ _ _ _ (.ptr (b+t) i k') _
      have:=Cv.ptr (m:=mm) (ρ:=(· -b)) (D:=fun t=>b≤t∧t-b<k) (F:=F) (t:=b+t) (i:=i) (k:=k') ⟨by omega,by omega⟩
      simp only[Nat.add_sub_cancel_left] at this
      exact this
    | mapr t=>
      have ht:t+1≤k:=fu h
      show Cv _ _ _ _ (.mapr (b+t)) _
      have:=Cv.mapr (m:=mm) (ρ:=(· -b)) (D:=fun t=>b≤t∧t-b<k) (F:=F) (t:=b+t) ⟨by omega,by omega⟩
      simp only[Nat.add_sub_cancel_left] at this
      exact this
    |agg cs=>exact .xC (list cs h)
    |tup cs=>exact .xP (list cs h)
    |_=>exact .same h
@[reducible] def AN (b : Nat) : Nat → List MS → ML
  |_,[]=>[]
  |k,s::r=>(Nat.add b k,s)::AN b (Nat.add k 1) r
theorem Ag (b:Nat):∀ (l:List MS) (k:Nat),AN b k l=kz b k l
  |[],_=>rfl
  |s::r,k=>by simp only[AN,kz];rw[Ag b r];rfl
@[reducible] def FW (m : ML) (b : Nat) : List MS → Nat → Bool
  |[],_=>true
  | _::r,k=>match ej m (Nat.add b k) with
    |.free=>FW m b r (Nat.add k 1)
    |_=>false
theorem C8 {m:ML}{b:Nat}:∀ {l:List MS} {j:Nat},FW m b l j=true→∀k,k<l.length→aR m (b+ (j+k))=.free
  |[],j,_,k,hk=>by simp at hk
  | s :: r,j,h,k,hk=>by
    simp only[FW] at h
    split at h
    · rename_i hm
      cases k with
      |zero=>exact dh hm
      | succ k=>
        have:=C8 h k (by simpa using hk)
        rw[show b+ (j+ (k+1))=b+ (Nat.add j 1+k) from by show _=b+ (j+1+k);omega]
        exact this
    ·cases h
@[reducible] def A9 (b : Nat) : Nat → List MS → List Nat
  |_,[]=>[]
  |k,_::r=>Nat.add b k::A9 b (Nat.add k 1) r
theorem Ad (b:Nat):∀ (l:List MS) (k:Nat),A9 b k l=(List.range' k l.length).map (b+ ·)
  |[],_=>rfl
  |s::r,k=>by simp only[A9,List.length_cons,List.range'_succ,List.map_cons,Ad b r];rfl
theorem aj.new (b:Nat)(T:List Nat)(hf:ah P f [] args' outs res)(hc:ae P f)(ha:wW T m args' args)(hT:zu m T=true)(hd:nO N o.dst=true)(hp:Kw 12 (fq outs) res=true)(ho:fR outs)(hfree:FW m b outs 0=true)
    (h:R (jC T (A9 b 0 outs)) (tT 12 b res) (jC (AN b 0 outs) (fE (fun t=>(t,Ov (ej m t))) T)) acc sl m):aj P N f args acc sl m (o:=o) (R:=R):=by
  intro hto
  have e:fE (fun t=>(t,Ov (ej m t))) T=T.map fun t=>(t,nc ((St sl m).mem t)):=by
    rw[eS];apply List.map_congr_left;intro t _;rw[mem_eq];rfl
  rw[e,iM,iM,Ad,Ag,nE,←List.range_eq_range'] at h
  rw[cP] at hp
  refine⟨_,_,_,aI.vD fun hs=>?_,h⟩
  have hwd:∀t wd rows ro,ej m t=.live wd rows ro→t∈T→bw wd rows:=by
    obtain⟨w0,W0,L,μ,a,w,σ2,h1,h2⟩:=hs
    exact FL (sl:=sl) rfl ⟨w0,W0,L,μ,a,w,σ2,fun t ht=>h1 t (by simp[ht]),h2⟩
  refine aI.Il (P:=P) (N:=N) (o:=o) (σ:=St sl m) (news:=outs) (x:=tT 12 b res) (base:=b) T hto hc (ha.cv hwd) (fun t ht=>rR hT t ht) hf (fun k hk=>by have:=C8 hfree k hk;rw[Nat.zero_add] at this;exact this) rfl (fun k s hk=>?_) (zZ 12 res hp) (lA hd)
  obtain⟨wd,rows,rfl,h1,h2⟩:=ng ho hk
  exact⟨wd,rows,rows,rfl,hk,h1,.same h2⟩
end
end Go.Am
namespace Go.Am
open Go
theorem E9.mk {acc:Tk}{sl:SL}{m:ML}{A:Tk→SL→ML→Prop}(h:A acc sl m):E9 acc sl m (A:=A):=h
theorem FX.mk {sl:SL}{m:ML}{A:SL→ML→Prop}(h:A sl m):FX sl m (A:=A):=h
theorem bq.mk {b:Bool}{acc:Tk}{sl:SL}{m:ML}{A B:Tk→SL→ML→Prop}(h1:b=true→A acc sl m)(h2:b=false→B acc sl m):bq b acc sl m (A:=A) (B:=B):=⟨h1,h2⟩
theorem bq.tt {acc:Tk}{sl:SL}{m:ML}{A B:Tk→SL→ML→Prop}(h1:A acc sl m):bq true acc sl m (A:=A) (B:=B):=⟨fun _=>h1,fun h=>by cases h⟩
theorem bq.ff {acc:Tk}{sl:SL}{m:ML}{A B:Tk→SL→ML→Prop}(h1:B acc sl m):bq false acc sl m (A:=A) (B:=B):=⟨(fun h=>by cases h),fun _=>h1⟩
theorem bq.yes {b:Bool}{acc:Tk}{sl:SL}{m:ML}{A B:Tk→SL→ML→Prop}(h:b=true)(h1:A acc sl m):bq b acc sl m (A:=A) (B:=B):=⟨fun _=>h1,fun h'=>by rw[h] at h';cases h'⟩
theorem bq.no {b:Bool}{acc:Tk}{sl:SL}{m:ML}{A B:Tk→SL→ML→Prop}(h:b=false)(h1:B acc sl m):bq b acc sl m (A:=A) (B:=B):=⟨(fun h'=>by rw[h] at h';cases h'),fun _=>h1⟩
theorem ji.mk {p q:Prop}{sl:SL}{m:ML}{A B:SL→ML→Prop}(h1:p→A sl m)(h2:q→B sl m):ji p q sl m (A:=A) (B:=B):=⟨h1,h2⟩
theorem eY.mk {p:Prop}{acc:Tk}{sl:SL}{m:ML}{A:Tk→SL→ML→Prop}(h:p)(h1:A acc sl m):eY p acc sl m (A:=A):=⟨h,h1⟩
theorem ay.mk {rows:List AV}{i:Int}{acc:Tk}{sl:SL}{m:ML}{A:AV→Tk→SL→ML→Prop}(k:Nat)(r:AV)(hi:i=k)(hr:rows[k]? =some r)(h:A r acc sl m):ay rows i acc sl m (A:=A):=⟨k,r,hi,hr,h⟩
theorem ay.map {α:Type}{e:α→AV}{l:List α}{i:Int}{acc:Tk}{sl:SL}{m:ML}{A:AV→Tk→SL→ML→Prop}(k:Nat)(x:α)(hi:i=k)(hr:l[k]? =some x)(h:A (e x) acc sl m):ay (l.map e) i acc sl m (A:=A):=⟨k,e x,hi,by rw[List.getElem?_map,hr];rfl,h⟩
theorem nZ.mk {i:Int}{n:Nat}{acc:Tk}{sl:SL}{m:ML}{A:Nat→Tk→SL→ML→Prop}(k:Nat)(hi:i=k)(hk:k<n)(h:A k acc sl m):nZ i n acc sl m (A:=A):=⟨k,hi,hk,h⟩
theorem cB.mk {rows:List AV}{i:Nat}{acc:Tk}{sl:SL}{m:ML}{A:AV→Tk→SL→ML→Prop}(r:AV)(hr:rows[i]? =some r)(h:A r acc sl m):cB rows i acc sl m (A:=A):=⟨r,hr,h⟩
theorem cB.map {α:Type}{e:α→AV}{l:List α}{i:Nat}{acc:Tk}{sl:SL}{m:ML}{A:AV→Tk→SL→ML→Prop}(x:α)(hr:l[i]? =some x)(h:A (e x) acc sl m):cB (l.map e) i acc sl m (A:=A):=⟨e x,by rw[List.getElem?_map,hr];rfl,h⟩
theorem J4.mk {l h:Int}{len:Nat}{acc:Tk}{sl:SL}{m:ML}{A:Nat→Nat→Tk→SL→ML→Prop}(a n:Nat)(h1:l=a)(h2:h=(a:Int)+n)(h3:a+n≤len)(h4:A a n acc sl m):J4 l h len acc sl m (A:=A):=⟨a,n,h1,h2,h3,h4⟩
theorem k9.mk {l h:Int}{rows:List AV}{acc:Tk}{sl:SL}{m:ML}{A:List AV→Tk→SL→ML→Prop}(a n:Nat)(rows':List AV)(h1:l=a)(h2:h=(a:Int)+n)(h3:a+n≤rows.length)(h4:rows'=(rows.drop a).take n)(h5:A rows' acc sl m):k9 l h rows acc sl m (A:=A):=⟨a,n,rows',h1,h2,h3,h4,h5⟩
theorem dI.mk {rb rs:List AV}{off len off' len' bytes:Nat}{acc:Tk}{sl:SL}{m:ML}{A:List AV→Tk→SL→ML→Prop}(rows0 news:List AV)(h0:off=0∧len=rb.length∧rows0=rb)(h1:off'=0∧len'=rs.length∧news=rs)(h2:lF (flat news)=true)
    (h3:(rows0.length+news.length)*bytes≤140737488355328) (h4:rows0.length+news.length≤9223372036854775807) (h:A (rows0++news) acc sl m):dI rb off len rs off' len' bytes acc sl m (A:=A):=by
  obtain⟨rfl,rfl,rfl⟩:=h0
  obtain⟨rfl,rfl,rfl⟩:=h1
  exact⟨_,_,by omega,by simp,by omega,by simp,h2,h3,h4,h⟩
theorem bI.mk {P:Program}{l:List Oper}{acc:Tk}{sl:SL}{m:ML}{A:SL→ML→Prop}(h1:P.follows .mixedOrders=true)(h2:Region.lexB .any l.toArray=true)(h3:(BF l.toArray acc||jQ l.toArray acc)=true)(h4:A sl m):bI P acc sl m (l:=l) (A:=A):=⟨h1,h2,h3,h4⟩
theorem gj {α:Type}(e:α→AV)(h:∀a,lF (cells (e a))=true)(l:List α):lF (flat (l.map e))=true:=by
  induction l with
  |nil=>rfl
  | cons x xs ih=>
    simp only[List.map_cons,fj]
    unfold lF at ih h ⊢
    rw[List.all_append,h x,ih];rfl
theorem nq.cut {m:ML}{fz:Nat→Bool}{ck:List (Nat×Nat)}{n:Nat}{t off len wd:Nat}{rows rows':List AV}{ro:Bool}(h1:ej m t=.live wd rows ro)(h2:fz t=true)(h3:off+len≤rows.length)(h4:rows'=(rows.drop off).take len)(h5:aN rows'=true):nq m fz (MF ck fz m n) (.sl wd rows') t off len:=
  ⟨wd,rows,ro,rows',h1,h2,rfl,h3,h5,by rw[←h4];exact .refl h5⟩
end Go.Am
end
namespace Go.Am
open Go Go.MapKept
set_option linter.unusedSectionVars false
@[reducible] def yO (m : ML) (ym : AV) (rows : List AV) : Prop :=
  match ym with
  |.mapr t=> ∃wd ro,ej m t=.live wd rows ro
  |.fmap rs=>rs=rows
  |_=>False
@[reducible] def zY : AV → List Nat
  |.mapr t=>[t]
  |_=>[]
theorem yO.src {sl:SL}{m:ML}{ym:AV}{rows:List AV}(h:yO m ym rows):oO (St sl m) ym rows (zY ym):=by
  cases ym with
  |mapr t=>obtain⟨wd,ro,h⟩:=h;exact .own (by rw[mem_eq];exact h)
  |fmap rs=>have h':rs=rows:=h;subst h';exact .frz
  |_=>exact h.elim
@[reducible] def Bb (c : Bool) (x : AV) (ok : Bool) : AV := match c with
  |true=>.tup [x,.lit (.bool ok)]
  |false=>x
section
variable {P : Program} {N : Nat} {o : Oper} {t : TypeId} {c : Bool} {ym x r : AV} {key z : Value} {d : TypeDesc} {rows : List AV} {acc : Tk} {sl : SL} {m : ML} {R : Rest}
theorem jc.yes (hT:ja P t d z)(hrows:yO m ym rows)(hk:IsKey d key)(hks:n8 d rows)(hr:entry key r∈rows)(hd:nO N o.dst=true)(h:R (zY ym) (Bb c r true) [] acc sl m):jc P N t c ym (.lit key) acc sl m (o:=o) (R:=R):=by
  rintro⟨y,x,ho,hy,hx⟩
  obtain⟨i,hi⟩:=List.getElem?_of_mem hr
  refine⟨_,_,_,aI.lookup ho hy hrows.src hx hT hk hks hi (lA hd),?_⟩
  cases c<;>exact h
theorem jc.no (hT:ja P t d z)(hrows:yO m ym rows)(hk:IsKey d key)(hks:n8 d rows)(hr:∀r,entry key r∉rows)(hd:nO N o.dst=true){zv:AV}(hz:qG z=zv)(h:R (zY ym) (Bb c zv false) [] acc sl m):jc P N t c ym (.lit key) acc sl m (o:=o) (R:=R):=by
  rintro⟨y,x,ho,hy,hx⟩
  subst hz
  refine⟨_,_,_,aI.JS ho hy hrows.src hx hT hk hks hr (lA hd),?_⟩
  cases c<;>exact h
theorem s7.old {tk wd:Nat}(hT:ja P t d z)(hm:ej m tk=.live wd rows false)(hk:IsKey d key)(hks:n8 d rows)(i:Nat)(hr:rows[i]? =some (entry key r))(hd:nO N o.dst=true)(h:R [tk] .any [(tk,.live wd (rows.set i (entry key x)) false)] acc sl m):s7 P N t (.mapr tk) (.lit key) x acc sl m (o:=o) (R:=R):=by
  rintro⟨y,xx,v,ho,hy,hx,hv⟩
  exact⟨_,_,_,aI.mapUpdate ho hy (by rw[mem_eq];exact hm) hx hv hT hk hks hr (lA hd),h⟩
theorem s7.new {tk wd:Nat}(hT:ja P t d z)(hm:ej m tk=.live wd rows false)(hk:IsKey d key)(hks:n8 d rows)(hr:∀r,entry key r∉rows)(hroom:rows.length+1<maxLen)(hwd:wd=2)(hd:nO N o.dst=true)(h:R [tk] .any [(tk,.live wd (rows++ [entry key x]) false)] acc sl m):s7 P N t (.mapr tk) (.lit key) x acc sl m (o:=o) (R:=R):=by
  rintro⟨y,xx,v,ho,hy,hx,hv⟩
  exact⟨_,_,_,aI.A8 ho hy (by rw[mem_eq];exact hm) hx hv hT hk hks hr hroom hwd (lA hd),h⟩
theorem gr.mk (hT:ja P t d z)(hrows:yO m ym rows)(hd:nO N o.dst=true)(h:R (zY ym) (.lit (.int .i64 rows.length)) [] acc sl m):gr P N t ym acc sl m (o:=o) (R:=R):=by
  rintro⟨y,ho,hy⟩
  exact⟨_,_,_,aI.NI ho hy hrows.src hT (lA hd),h⟩
end
section
variable {α : Type} {K : Type} [DecidableEq K]
def cR (k:K):List (K×α)→Option α
  |[]=>none
  |p::r=>if p.1=k then some p.2 else cR k r
def eB (k:K)(x:α):List (K×α)→List (K×α)
  |[]=>[(k,x)]
  |p::r=>if p.1=k then(k,x)::r else p::eB k x r
theorem fo (k k':K)(x:α):∀l:List (K×α),cR k' (eB k x l)=if k=k' then some x else cR k' l
  |[]=>by simp[eB,cR]
  | p ::r=>by
    simp only[eB]
    by_cases h:p.1=k
    · rw[if_pos h]
      simp only[cR]
      by_cases hk:k=k'
      ·rw[if_pos hk,if_pos hk]
      ·rw[if_neg hk,if_neg hk,if_neg (by rw[h];exact hk)]
    · rw[if_neg h]
      simp only[cR,fo k k' x r]
      by_cases hk:k=k'
      ·subst hk;rw[if_neg h];simp
      ·simp[hk]
theorem yM {k:K}:∀ {l:List (K×α)},cR k l=none↔k∉l.map (·.1)
  |[]=>by simp[cR]
  | p ::r=>by
    simp only[cR,List.map_cons,List.mem_cons,not_or]
    by_cases h:p.1=k
    ·simp[h]
    · rw[if_neg h,yM (l:=r)]
      exact⟨fun hh=>⟨fun e=>h e.symm,hh⟩,fun hh=>hh.2⟩
theorem B3 {k:K}{x:α}:∀ {l:List (K×α)},cR k l=some x→(k,x)∈l
  |[],h=>by cases h
  | p::r,h=>by
    simp only[cR] at h
    split at h
    ·rename_i hp;cases h;subst hp;exact List.mem_cons_self
    ·exact List.mem_cons_of_mem _ (B3 h)
theorem oa {k:K}{x:α}:∀ (l:List (K×α)),(eB k x l).length=l.length+ (if k∈l.map (·.1) then 0 else 1)
  |[]=>by simp[eB]
  | p ::r=>by
    simp only[eB]
    by_cases h:p.1=k
    ·rw[if_pos h];subst h;simp
    · rw[if_neg h,List.length_cons,oa r]
      have:k≠p.1:=fun e=>h e.symm
      simp only[List.map_cons,List.mem_cons,this,false_or,List.length_cons];omega
theorem EU {k:K}{x:α}(f:K×α→AV):∀ {l:List (K×α)} {y:α},cR k l=some y→∃i,(l.map f)[i]? =some (f (k,y))∧(eB k x l).map f=(l.map f).set i (f (k,x))
  |[],y,h=>by cases h
  | p ::r,y,h=>by
    simp only[cR] at h
    split at h
    ·rename_i hp;cases h;subst hp;exact⟨0,rfl,by simp[eB]⟩
    · rename_i hp
      obtain⟨i,h1,h2⟩:=EU (x:=x) f h
      exact⟨i+1,by simpa using h1,by simp[eB,hp,h2]⟩
theorem sL {k:K}{x:α}:∀ {l:List (K×α)},cR k l=none→eB k x l=l++ [(k,x)]
  |[],_=>rfl
  | p::r,h=>by
    simp only[cR] at h
    split at h
    ·cases h
    ·rename_i hp;simp[eB,hp,sL h]
end
def dZ {K α:Type}(kv:K→Value)(e:α→AV)(l:List (K×α)):List AV:=l.map fun p=>entry (kv p.1) (e p.2)
section
variable {P : Program} {N : Nat} {o : Oper} {t : TypeId} {c : Bool} {ym : AV} {z : Value} {d : TypeDesc} {acc : Tk} {sl : SL} {m : ML} {R : Rest} {α : Type} {K : Type} [DecidableEq K] {kv : K → Value} {e : α → AV} {l : List (K × α)} {k : K}
theorem lB (hk:∀k,IsKey d (kv k)):n8 d (dZ kv e l):=n8.map (fun p:K×α=>kv p.1) (fun p=>e p.2) (fun p=>hk p.1) l
theorem wO (hinj:∀a b,kv a=kv b→a=b)(h:cR k l=none):∀r,entry (kv k) r∉dZ kv e l:=by
  intro r hr
  obtain⟨p,hp,he⟩:=List.mem_map.1 hr
  have:=hinj _ _ (yF he).1
  exact yM.1 h (List.mem_map.2 ⟨p,hp,this⟩)
theorem jc.ck (kv:K→Value)(e:α→AV)(l:List (K×α))(hT:ja P t d z)(hrows:yO m ym (dZ kv e l))(hk:∀k,IsKey d (kv k))(hinj:∀a b,kv a=kv b→a=b)(hd:nO N o.dst=true){zv:AV}(hz:qG z=zv)
    (h1:∀x,cR k l=some x→R (zY ym) (Bb c (e x) true) [] acc sl m) (h2:cR k l=none→R (zY ym) (Bb c zv false) [] acc sl m):jc P N t c ym (.lit (kv k)) acc sl m (o:=o) (R:=R):=by
  cases hg:cR k l with
  |some x=>exact .yes hT hrows (hk k) (lB hk) (List.mem_map.2 ⟨(k,x),B3 hg,rfl⟩) hd (h1 x hg)
  |none=>exact .no hT hrows (hk k) (lB hk) (wO hinj hg) hd hz (h2 hg)
theorem s7.ck {tk:Nat}(kv:K→Value)(e:α→AV)(l:List (K×α))(x:α)(hT:ja P t d z)(hm:ej m tk=.live 2 (dZ kv e l) false)(hk:∀k,IsKey d (kv k))(hinj:∀a b,kv a=kv b→a=b)(hroom:l.length+1<maxLen)(hd:nO N o.dst=true)
    (h:R [tk] .any [(tk,.live 2 (dZ kv e (eB k x l)) false)] acc sl m):s7 P N t (.mapr tk) (.lit (kv k)) (e x) acc sl m (o:=o) (R:=R):=by
  cases hg:cR k l with
  | some y=>
    obtain⟨i,h1,h2⟩:=EU (x:=x) (fun p:K×α=>entry (kv p.1) (e p.2)) hg
    refine .old hT hm (hk k) (lB hk) i h1 hd ?_
    have:(dZ kv e l).set i (entry (kv k) (e x))=dZ kv e (eB k x l):=h2.symm
    rw[this];exact h
  | none=>
    refine .new hT hm (hk k) (lB hk) (wO hinj hg) (by simpa[dZ] using hroom) rfl hd ?_
    have:dZ kv e l++ [entry (kv k) (e x)]=dZ kv e (eB k x l):=by rw[sL hg];simp[dZ]
    rw[this];exact h
end
theorem j3 (s:ByteArray):IsKey .string (.string s):=trivial
theorem ju (n:Int):IsKey (.int .i64) (.int .i64 n):=rfl
theorem j5 (a b:ByteArray)(h:Value.string a=.string b):a=b:=by cases h;rfl
theorem j4 (a b:Int)(h:Value.int .i64 a=.int .i64 b):a=b:=by cases h;rfl
end Go.Am
namespace Go.Am
open Go
theorem nf {b:Bool}(h:b=false):(!b)=true:=by rw[h];rfl
theorem nt {b:Bool}(h:b=true):(!b)=false:=by rw[h];rfl
theorem aF (n:Nat):(NatCast.natCast n:Int)=(Nat.cast n:Int):=rfl
section
variable {P : Program} {N : Nat} {o : Oper} {f : FuncId} {args args' : List AV} {acc : Tk} {sl : SL} {m : ML} {R : Rest} {res : AV} {ins outs news : List MS}
@[reducible] def tD : Nat → Nat → List Nat → List (Nat × Nat)
  |_,_,[]=>[]
  | n,k,t::r=>match n with
    |0=>[]
    |n+1=>(k,t)::tD n (Nat.add k 1) r
theorem E4:∀ {n k:Nat} {l:List Nat} {i u:Nat},ve (tD n k l) i=some u→k≤i∧i-k<n∧l[i-k]? =some u
  |n,k,[],i,u,h=>by rw[tD] at h;cases h
  |0,k,t::r,i,u,h=>by rw[tD] at h;cases h
  | n +1,k,t::r,i,u,h=>by
    simp only[tD,ve] at h
    split at h
    · rename_i hb
      have:=beq_eq hb
      subst this
      cases h
      simp
    · rename_i hb
      obtain⟨a,b,c⟩:=E4 h
      have a':k+1≤i:=a
      have b':i- (k+1)<n:=b
      refine⟨by omega,by omega,?_⟩
      rw[show i-k=(i- (k+1))+1 from by omega,List.getElem?_cons_succ]
      exact c
theorem Cv.P7 {mm:Nat→MS}{ρ ρ':Nat→Nat}{D D' F:Nat→Prop}(h:∀t,D t→D' t∧ρ t=ρ' t){x y:AV}(hc:Cv mm ρ D F x y):Cv mm ρ' D' F x y:=by
  induction hc with
  |any=>exact .any
  |same h=>exact .same h
  |own h1=>rw[(h _ h1).2];exact .own (h _ h1).1
  |ptr h1=>rw[(h _ h1).2];exact .ptr (h _ h1).1
  |mapr h1=>rw[(h _ h1).2];exact .mapr (h _ h1).1
  |fmap a b c d e f ih=>exact .fmap a b c d (fun i key key' x' x h1 h2=>ih i key key' x' x h1 h2) f
  |nil=>exact .nil
  |nilE=>exact .nilE
  |empS=>exact .empS
  |frz a b c d e _ g ih=>exact .frz a b c d e (fun q c d h1 h2=>ih q c d h1 h2) g
  |frzp a b c d _ g ih=>exact .frzp a b c d (fun q c d h1 h2=>ih q c d h1 h2) g
  |agg a _ ih=>exact .agg a (fun q c d h1 h2=>ih q c d h1 h2)
  |tup a _ ih=>exact .tup a (fun q c d h1 h2=>ih q c d h1 h2)
  |clo a b _ _ ih1 ih2=>exact .clo a b (fun q c d h1 h2=>ih1 q c d h1 h2) (fun q c d h1 h2=>ih2 q c d h1 h2)
@[reducible] def xY (names : List Nat) : Nat → AV → AV
  |0,x=>x
  | n +1,x=>match x with
    | .own t o l=>match lG names t with
      |some u=>.own u o l
      |none=>.any
    | .ptr t i k=>match lG names t with
      |some u=>.ptr u i k
      |none=>.any
    | .mapr t=>match lG names t with
      |some u=>.mapr u
      |none=>.any
    |.agg cs=>.agg (fE (xY names n) cs)
    |.tup cs=>.tup (fE (xY names n) cs)
    |x=>x
theorem Bn {mm:Nat→MS}{F:Nat→Prop}{names:List Nat}(hn:names.Nodup):∀ (n:Nat) (x:AV),Kw n (fq names) x=true→Cv mm (names.idxOf ·) (· ∈names) F (xY names n x) x
  |0,x,h=>.same h
  | n + 1,x,h=>by
    have list:∀cs:List AV,ni (Kw n (fq names)) cs=true→iW mm (names.idxOf ·) (· ∈names) F (fE (xY names n) cs) cs:=by
      intro cs
      induction cs with
      |nil=>intro _;exact .nil
      | cons c cs ih=>
        intro h
        simp only[ni] at h
        split at h
        ·rename_i h1;exact .cons (Bn hn n c h1) (ih h)
        ·cases h
    have tk:∀t,t+1≤fq names→∃u,lG names t=some u∧u∈names∧names.idxOf u=t:=by
      intro t ht
      rw[cP] at ht
      have hg:names[t]? =some (names[t]'ht):=List.getElem?_eq_getElem _
      exact⟨_,by rw[iT];exact hg,List.mem_of_getElem? hg,DZ hn hg⟩
    cases x with
    | own t o l=>
      obtain⟨u,h1,h2,h3⟩:=tk t (fu h)
      simp only[xY,h1]
      have:=Cv.own (m:=mm) (ρ:=(names.idxOf ·)) (D:=(· ∈names)) (F:=F) (t:=u) (o:=o) (l:=l) h2
      rwa [h3] at this
    | ptr t i k'=>
      obtain⟨u,h1,h2,h3⟩:=tk t (fu h)
      simp only[xY,h1]
      have:=Cv.ptr (m:=mm) (ρ:=(names.idxOf ·)) (D:=(· ∈names)) (F:=F) (t:=u) (i:=i) (k:=k') h2
      rwa [h3] at this
    | mapr t=>
      obtain⟨u,h1,h2,h3⟩:=tk t (fu h)
      simp only[xY,h1]
      have:=Cv.mapr (m:=mm) (ρ:=(names.idxOf ·)) (D:=(· ∈names)) (F:=F) (t:=u) h2
      rwa [h3] at this
    |agg cs=>exact .xC (list cs h)
    |tup cs=>exact .xP (list cs h)
    |_=>exact .same h
@[reducible] def wA : List AV → List AV → Bool
  |[],[]=>true
  | x::xs,y::ys=>match vr (fq (dN x)) (fq (dN y)) with
    |true=>wA xs ys
    |false=>false
  |_,_=>false
theorem rm {wd:Nat}:∀ {xs ys:List AV},wA xs ys=true→bw wd ys→bw wd xs
  |[],[],_,h=>h
  | x ::xs,y::ys,h,hw=>by
    simp only[wA] at h
    split at h
    · rename_i h1
      have h1':=beq_eq (by rw[←eT];exact h1)
      rw[cP,cP,gO,gO] at h1'
      have ih:=rm h hw.tail.2
      intro i r hr
      cases i with
      |zero=>simp at hr;subst hr;rw[h1'];exact hw.tail.1
      |succ i=>exact ih i r (by simpa using hr)
    ·cases h
  |[],_::_,h,_=>by simp[wA] at h
  |_::_,[],h,_=>by simp[wA] at h
@[reducible] def Pk (ck : List (Nat × Nat)) (T : List Nat) (m : ML) (rows0 rows : List AV) : Prop := (rows0 = rows ∧ aN rows = true) ∨ (EC (MF ck (Qy T) m 12) rows0 rows ∧ wA rows0 rows = true)
@[reducible] def DW (ck : List (Nat × Nat)) (T : List Nat) (m : ML) : List MS → List Nat → Prop
  |[],_=>True
  | s::r,t::q=>match s,ej m t with
    |.live wd rows0 false,.live wd' rows false=>(vr wd wd'=true∧Pk ck T m rows0 rows)∧DW ck T m r q
    |_,_=>False
  |_::_,[]=>False
@[reducible] def Ff (m : ML) : List Nat → Bool
  |[]=>true
  | t::r=>match ej m t with
    |.free=>Ff m r
    |_=>false
theorem CP {m:ML}:∀ {l:List Nat},Ff m l=true→∀t∈l,aR m t=.free
  |[],_,t,h=>by simp at h
  | u ::r,h,t,ht=>by
    simp only[Ff] at h
    split at h
    · rename_i hm
      rcases List.mem_cons.1 ht with rfl|ht
      ·exact dh hm
      ·exact CP h t ht
    ·cases h
@[reducible] def zI : Nat → List Nat → List Nat
  |_,[]=>[]
  | n,x::r=>match n with
    |0=>x::r
    |n+1=>zI n r
theorem CV:∀ (n:Nat) (l:List Nat),zI n l=l.drop n
  |n,[]=>by rw[zI];simp
  |0,x::r=>by rw[zI];rfl
  |n+1,x::r=>by simp only[zI,List.drop_succ_cons];exact CV n r
@[reducible] def qm (names : List Nat) : List MS → List MS → Prop
  |[],[]=>True
  | s::r,s'::r'=>match s,s' with
    |.dead,.dead=>qm names r r'
    |.live wd rows0 false,.live wd' rows false=>(vr wd' wd=true∧((rows=rows0∧aN rows0=true)∨(rows=fE (xY names 12) rows0∧ni (Kw 12 (fq names)) rows0=true∧wA rows rows0=true)))∧qm names r r'
    |_,_=>False
  |_,_=>False
@[reducible] def GN : List Nat → List MS → ML
  |t::r,s::q=>(t,s)::GN r q
  |_,_=>[]
theorem E2:∀ (l:List Nat) (q:List MS),GN l q=l.zip q
  |[],q=>by simp[GN]
  |t::r,[]=>by simp[GN]
  |t::r,s::q=>by simp only[GN,List.zip_cons_cons,E2 r q]
@[reducible] def tO : List Nat → Bool
  |[]=>true
  | t::r=>match s6 r t with
    |true=>false
    |false=>tO r
theorem qe:∀ {l:List Nat},tO l=true→l.Nodup
  |[],_=>.nil
  | t ::r,h=>by
    simp only[tO] at h
    split at h
    ·cases h
    · rename_i hm
      refine List.nodup_cons.2 ⟨fun hh=>?_,qe h⟩
      rw[gC.2 hh] at hm;cases hm
@[reducible] def Bl (names : List Nat) : List Nat → Bool
  |[]=>true
  | t::r=>match s6 names t with
    |true=>false
    |false=>Bl names r
theorem Ai {names:List Nat}:∀ {l:List Nat},Bl names l=true→∀t∈l,t∉names
  |[],_,t,h=>by simp at h
  | u ::r,h,t,ht=>by
    simp only[Bl] at h
    split at h
    ·cases h
    · rename_i hm
      rcases List.mem_cons.1 ht with rfl|ht
      ·intro hh;rw[gC.2 hh] at hm;cases hm
      ·exact Ai h t ht
theorem Bz {mm:Nat→MS}{F:Nat→Prop}{names:List Nat}(hn:names.Nodup):∀ (cs:List AV),ni (Kw 12 (fq names)) cs=true→iW mm (names.idxOf ·) (· ∈names) F (fE (xY names 12) cs) cs
  |[],_=>.nil
  | c::cs,h=>by
    simp only[ni] at h
    split at h
    ·rename_i h1;exact .cons (Bn hn 12 c h1) (Bz hn cs h)
    ·cases h
theorem xl {mm:Nat→MS}{names:List Nat}(hn:names.Nodup):∀ {outs news:List MS},qm names outs news→news.length=outs.length∧∀ (k:Nat) (s:MS),news[k]? =some s→
    (∃wd rows rows0,s=.live wd rows false∧outs[k]? =some (.live wd rows0 false)∧(bw wd rows0→bw wd rows)∧iW mm (names.idxOf ·) (· ∈names) (fun _=>False) rows rows0)∨(s=.dead∧outs[k]? =some .dead)
  |[],[],_=>⟨rfl,fun k s h=>by simp at h⟩
  |s::r,[],h=>by cases s<;>simp[qm] at h
  |[],_::_,h=>by simp[qm] at h
  | s :: r,s'::r',h=>by
    simp only[qm] at h
    split at h
    · obtain⟨a,b⟩:=xl hn h
      refine⟨by simp[a],fun k s h=>?_⟩
      cases k with
      |zero=>simp at h;subst h;exact .inr ⟨rfl,rfl⟩
      |succ k=>simpa using b k s (by simpa using h)
    · rename_i wd rows0 wd' rows
      obtain⟨⟨hw,hr⟩,h⟩:=h
      have hw':=beq_eq (by rw[←eT];exact hw)
      subst hw'
      obtain⟨a,b⟩:=xl hn h
      refine⟨by simp[a],fun k s h=>?_⟩
      cases k with
      | zero=>
        simp at h;subst h
        refine .inl ⟨_,rows,rows0,rfl,rfl,?_⟩
        rcases hr with⟨rfl,h1⟩|⟨h1,h2,h3⟩
        ·exact⟨id,.same h1⟩
        ·exact⟨rm h3,h1▸Bz hn rows0 h2⟩
      |succ k=>simpa using b k s (by simpa using h)
    ·exact h.elim
theorem E3 {ck:List (Nat×Nat)}{T:List Nat}{m:ML}{D:Nat→Prop}{ρ:Nat→Nat}(hw:∀t wd rows ro,ej m t=.live wd rows ro→t∈T→bw wd rows)(hD:∀t u,ve ck t=some u→D t∧iU ck t=ρ t):
    ∀ {ins:List MS} {names:List Nat},DW ck T m ins names→ins.length≤names.length∧∀ (k:Nat) (s:MS) (t:Nat),ins[k]? =some s→names[k]? =some t→
      ∃wd rows rows0,s=.live wd rows0 false∧aR m t=.live wd rows false∧(bw wd rows→bw wd rows0)∧iW (aR m) ρ D (· ∈T) rows0 rows
  |[],names,_=>⟨by simp,fun k s t h=>by simp at h⟩
  |s::r,[],h=>by simp[DW] at h
  | s :: r,t::q,h=>by
    simp only[DW] at h
    split at h
    · rename_i wd rows0 wd' rows hm
      obtain⟨⟨hw1,hr⟩,h⟩:=h
      have hw':=beq_eq (by rw[←eT];exact hw1)
      subst hw'
      obtain⟨a,b⟩:=E3 hw hD h
      refine⟨by simpa using a,fun k s t h1 h2=>?_⟩
      cases k with
      | zero=>
        simp at h1 h2;subst h1;subst h2
        refine⟨_,rows,rows0,rfl,dh hm,?_⟩
        rcases hr with⟨rfl,h1⟩|⟨h1,h3⟩
        ·exact⟨id,.same h1⟩
        · refine⟨rm h3,?_⟩
          have:=nM (D:=fun t=> ∃u,ve ck t=some u) (F:=(· ∈T)) (ρ:=iU ck) (mm:=aR m) (fun r x=>th (fun t wd rows ro h1 h2=>hw t wd rows ro h1 (gC.1 h2)) (fun t u h=>⟨u,h⟩) (fun t wd rows ro _ h2=>gC.1 h2) 12 r x) h1
          exact⟨this.1,fun q c d e1 e2=>(this.2 q c d e1 e2).P7 fun t ⟨u,hu⟩=>hD t u hu⟩
      |succ k=>exact b k s t (by simpa using h1) (by simpa using h2)
    ·exact h.elim
theorem aj.gd (names T:List Nat)(hf:ah P f ins args' outs res)(hc:ae P f)(ha:EC (MF (tD (fq ins) 0 names) (Qy T) m 12) args' args)
    (hi:DW (tD (fq ins) 0 names) T m ins names) (hT:zu m T=true) (hs:(tO names=true∧Bl names T=true)∧Ff m (zI (fq ins) names)=true) (hl:fq outs=fq names)
    (hn:qm names outs news) (hd:nO N o.dst=true) (hp:Kw 12 (fq names) res=true)
    (h:R (jC T names) (xY names 12 res) (jC (GN names news) (fE (fun t=>(t,Ov (ej m t))) T)) acc sl m) (hib:Nat.ble (fq ins) jK=true:=by rfl):aj P N f args acc sl m (o:=o) (R:=R):=by
  intro hto
  have e:fE (fun t=>(t,Ov (ej m t))) T=T.map fun t=>(t,nc ((St sl m).mem t)):=by
    rw[eS];apply List.map_congr_left;intro t _;rw[mem_eq];rfl
  rw[e,iM,iM,E2] at h
  rw[cP] at hi ha hib
  rw[cP,CV] at hs
  rw[cP,cP] at hl
  have hnd:=qe hs.1.1
  obtain⟨n1,n2⟩:=xl (mm:=aO outs) hnd hn
  refine⟨_,_,_,aI.vD fun hsim=>?_,h⟩
  have hwd:∀t wd rows ro,ej m t=.live wd rows ro→t∈T→bw wd rows:=by
    obtain⟨w0,W0,L,μ,a,w,σ2,h1,h2⟩:=hsim
    exact FL (sl:=sl) rfl ⟨w0,W0,L,μ,a,w,σ2,fun t ht=>h1 t (by simp[ht]),h2⟩
  have hD:∀t u,ve (tD ins.length 0 names) t=some u→t<ins.length∧iU (tD ins.length 0 names) t=names.getD t 0:=by
    intro t u hu
    obtain⟨_,b,c⟩:=E4 hu
    simp only[Nat.sub_zero] at b c
    exact⟨b,by simp[iU,hu,List.getD,c]⟩
  obtain⟨i1,i2⟩:=E3 hwd hD hi
  refine aI.gd (P:=P) (N:=N) (o:=o) (σ:=St sl m) names T hto hc ?_ (fun t ht=>rR hT t ht) (Ai hs.1.2) hnd (fu hib) i1 (by rw[n1,hl]) i2 (fun k t hk ht=>?_) hf n2 (Bn hnd 12 res hp) (lA hd)
  · have:=nM (D:=fun t=> ∃u,ve (tD ins.length 0 names) t=some u) (F:=(· ∈T)) (ρ:=iU (tD ins.length 0 names)) (mm:=aR m) (fun r x=>th (fun t wd rows ro h1 h2=>hwd t wd rows ro h1 (gC.1 h2)) (fun t u h=>⟨u,h⟩) (fun t wd rows ro _ h2=>gC.1 h2) 12 r x) ha
    exact⟨this.1,fun q c d e1 e2=>(this.2 q c d e1 e2).P7 fun t ⟨u,hu⟩=>hD t u hu⟩
  · refine CP hs.2 t (List.mem_of_getElem? (i:=k-ins.length) ?_)
    rw[List.getElem?_drop,show ins.length+ (k-ins.length)=k from by omega]
    exact ht
end
theorem yQ.mk {s:ByteArray}{i:Int}{acc:Tk}{sl:SL}{m:ML}{A:Int→Tk→SL→ML→Prop}(k:Nat)(c:UInt8)(h0:i=k)(h1:s.data.toList[k]? =some c)(h:A c.toNat acc sl m):yQ s i acc sl m (A:=A):=⟨k,c,h0,h1,h⟩
theorem Kh.mk {s:ByteArray}{l h:Int}{acc:Tk}{sl:SL}{m:ML}{A:ByteArray→Tk→SL→ML→Prop}(a b:Nat)(h0:l=a)(h1:h=b)(h2:a≤b)(h3:b≤s.size)(hh:A (s.extract a b) acc sl m):Kh s l h acc sl m (A:=A):=⟨a,b,h0,h1,h2,h3,hh⟩
theorem dA.mk {P:Program}{src dst:TypeId}{v:Value}{acc:Tk}{sl:SL}{m:ML}{A:Value→Tk→SL→ML→Prop}(r:Value)(hr:∀w,(convert src dst v).run P w=.ok r w)(h:A r acc sl m):dA P src dst v acc sl m (A:=A):=⟨r,hr,h⟩
theorem dA.int {P:Program}{src dst:TypeId}{k k':IntKind}{n:Int}{acc:Tk}{sl:SL}{m:ML}{A:Value→Tk→SL→ML→Prop}(hs:(P.underlying src).isSome=true)(hd:P.underlying dst=some (.int k'))(hn:k'.wrap n=n)(h:A (.int k' n) acc sl m):dA P src dst (.int k n) acc sl m (A:=A):=by
  refine⟨_,fun w=>?_,h⟩
  have hk:P.intKind dst=k':=by simp[Program.intKind,hd]
  have:=run_convert_int (P:=P) w src dst k n hs (by rw[hk];exact hd)
  rw[hk,hn] at this
  exact this
theorem Dz.mk {P:Program}{src dst:TypeId}{rows:List AV}{off len:Nat}{acc:Tk}{sl:SL}{m:ML}{A:Value→Tk→SL→ML→Prop}(bs:List UInt8){e:TypeId}(h1:P.underlying src=some (.slice e))(h2:P.underlying e=some (.int .u8))(h3:P.underlying dst=some .string)(h4:len=bs.length)(h5:bs≠ [])
    (h6:∀ (i:Nat) (b:UInt8),bs[i]? =some b→(flat rows)[off+i]? =some (.lit (.int .u8 b.toNat))) (h:A (.string ⟨bs.toArray⟩) acc sl m):Dz P src dst rows off len acc sl m (A:=A):=⟨bs,e,h1,h2,h3,h4,h5,h6,h⟩
theorem tB.mk {P:Program}{op:BinOp}{t:TypeId}{us vs:List Value}{acc:Tk}{sl:SL}{m:ML}{A:Bool→Tk→SL→ML→Prop}(b:Bool)(hr:∀ (y z:Operand) (w:World),((do eqGuard op t y z (.agg us.toArray) (.agg vs.toArray);binOp op t (.agg us.toArray) (.agg vs.toArray):Sem Value)).run P w=.ok (.bool b) w)(h:A b acc sl m):tB P op t us vs acc sl m (A:=A):=⟨b,hr,h⟩
end Go.Am
section
namespace Go.Am
open Go Go.RowKit Go.Lib
variable {P : Program}
theorem wrap_u8 {a:Int}(h:0≤a∧a<256):IntKind.i64.wrap a=a:=IntWalk.i64_in _ (by omega)
theorem aW.rem {N:Nat}{o:Oper}{acc:Tk}{sl:SL}{m:ML}{R:Rest}{ty:TypeId}{κ:IntKind}{x y:Operand}{a b:Int}(ha:0≤a)(hb:0<b)(ho:o.op=.binOp .rem ty x y ty)(h1:fe sl x=.lit (.int κ a))(h2:fe sl y=.lit (.int κ b))(hd:nO N o.dst=true)(h:R [] (.lit (.int κ (a%b))) [] acc sl m):aW P N acc sl m (o:=o) (R:=R):=by
  rw[dU] at h1 h2
  refine⟨[],.lit (.int κ (a%b)),[],?_,h⟩
  refine .val (fun σ2 he2 hrd w0 W0 L μ a' w hs=>⟨.int κ (a%b),?_,.lit⟩) (lA hd)
  have k1:=hs.eval x
  have k2:=hs.eval y
  rw[he2 x (by simp[ho,Op.operands]),gP,h1] at k1
  rw[he2 y (by simp[ho,Op.operands]),gP,h2] at k2
  have hx:=k1.val
  have hy:=k2.val
  have hb0:b≠0:=by omega
  simp only[execOp,ho,hx,hy]
  simp only[eqGuard,binOp,Op.intDiv]
  go_simp
  exact Int.tmod_eq_emod_of_nonneg ha
theorem aW.min {N:Nat}{o:Oper}{acc:Tk}{sl:SL}{m:ML}{R:Rest}{x y:Operand}{ts:Array TypeId}{κ:IntKind}{a b c:Int}(hc:(if b<a then b else a)=c)(ho:o.op=.call {callee:=.builtin .min,args:= #[x,y],argTypes:=ts})(h1:fe sl x=.lit (.int κ a))(h2:fe sl y=.lit (.int κ b))(hd:nO N o.dst=true)(h:R [] (.lit (.int κ c)) [] acc sl m):aW P N acc sl m (o:=o) (R:=R):=by
  rw[dU] at h1 h2
  refine⟨[],.lit (.int κ c),[],?_,h⟩
  refine .val (fun σ2 he2 hrd w0 W0 L μ a' w hs=>⟨.int κ c,?_,.lit⟩) (lA hd)
  have k1:=hs.eval x
  have k2:=hs.eval y
  rw[he2 x (by simp[ho,Op.operands,Call.operands]),gP,h1] at k1
  rw[he2 y (by simp[ho,Op.operands,Call.operands]),gP,h2] at k2
  have hx:=k1.val
  have hy:=k2.val
  subst hc
  simp[execOp,ho,hx,hy,resolve,invoke,builtin,Builtin.min_,Builtin.min2]
end Go.Am
namespace Go.Am
open Go Go.RowKit Go.Lib
section
variable {P : Program} {N : Nat} {w0 : World} {W0 : Nat → Prop} {L μ : Mu} {σ : az} {a : Act} {w : World}
theorem BO {m:Nat→MS}{tb wd:Nat}{rows rows':List AV}{ro:Bool}(hm:m tb=.live wd rows ro):Wr W0 μ (bf m [(tb,.live wd rows' ro)])=Wr W0 μ m:=by
  have h :iH μ (bf m [(tb,.live wd rows' ro)])=iH μ m:=by
    funext b
    apply propext
    constructor
    · rintro⟨t,B,wd1,rows1,h1,h2⟩
      by_cases ht:t=tb
      · subst ht
        simp[bf] at h1
        obtain⟨rfl,rfl,rfl⟩:=h1
        exact⟨t,B,_,_,hm,h2⟩
      · simp[bf,ht] at h1
        exact⟨t,B,_,_,h1,h2⟩
    · rintro⟨t,B,wd1,rows1,h1,h2⟩
      by_cases ht:t=tb
      · subst ht
        rw[hm] at h1
        cases h1
        exact⟨t,B,wd,rows',by simp[bf],h2⟩
      ·exact⟨t,B,_,_,by simp[bf,ht];exact h1,h2⟩
  unfold Wr
  rw[h]
theorem bW.Po (h:bW P N w0 W0 L μ σ a w){tb wd:Nat}{rows rows':List AV}{ro:Bool}(hm:σ.mem tb=.live wd rows ro)
    (hob:∀B,μ tb=some B→fM (Wr W0 μ σ.mem) μ w B wd rows ro→fM (Wr W0 μ σ.mem) μ w B wd rows' ro):bW P N w0 W0 L μ ⟨σ.slots,bf σ.mem [(tb,.live wd rows' ro)]⟩ a w where
  tsize:=h.tsize
  defers:=h.defers
  os:=h.os
  tape:=h.tape
  output:=h.output
  hsize:=h.hsize
  shp:=h.shp
  keep:=h.keep
  w0lt:=h.w0lt
  lentμ:=h.lentμ
  free t:=by
    by_cases ht:t=tb
    ·subst ht;have:=h.free t;rw[hm] at this;simpa[bf] using this
    ·simpa[bf,ht] using h.free t
  slots i:=by rw[show(⟨σ.slots,bf σ.mem [(tb,.live wd rows' ro)]⟩:az).mem=bf σ.mem [(tb,.live wd rows' ro)] from rfl,BO hm];exact h.slots i
  objs t wd1 rows1 ro1 h1:=by
    rw[show(⟨σ.slots,bf σ.mem [(tb,.live wd rows' ro)]⟩:az).mem=bf σ.mem [(tb,.live wd rows' ro)] from rfl] at h1 ⊢
    rw[BO hm]
    by_cases ht:t=tb
    · subst ht
      simp[bf] at h1
      obtain⟨rfl,rfl,rfl⟩:=h1
      obtain⟨B,h2,h3⟩:=h.objs t _ _ _ hm
      exact⟨B,h2,hob B h2 h3⟩
    · simp[bf,ht] at h1
      exact h.objs t _ _ _ h1
  inj t t' wd1 rows1 wd2 rows2 ro2 B B' hne h1 h2 h3 h4:=by
    have key:∀u wd1 rows1 ro1,bf σ.mem [(tb,.live wd rows' ro)] u=.live wd1 rows1 ro1→∃wd2 rows2,σ.mem u=.live wd2 rows2 ro1:=by
      intro u wd1 rows1 ro1 hu
      by_cases ht:u=tb
      ·subst ht;simp[bf] at hu;exact⟨_,_,by rw[hm,hu.2.2]⟩
      ·simp[bf,ht] at hu;exact⟨_,_,hu⟩
    obtain⟨_,_,k1⟩:=key t _ _ _ h1
    obtain⟨_,_,k2⟩:=key t' _ _ _ h2
    exact h.inj t t' _ _ _ _ _ B B' hne k1 k2 h3 h4
  out t wd1 rows1 ro1 B h1:=by
    have h1':bf σ.mem [(tb,.live wd rows' ro)] t=.live wd1 rows1 ro1:=h1
    by_cases ht:t=tb
    ·subst ht;simp[bf] at h1';exact h.out t _ _ _ B (by rw[hm,h1'.2.2])
    ·simp[bf,ht] at h1';exact h.out t _ _ _ B h1'
  tabs:=h.tabs
theorem bW.lg (h:bW P N w0 W0 L μ σ a w){d0 tb t wd wdt i i0 k0 j:Nat}{rows:List AV}{r r':AV}{ro:Bool}(hp:σ.slots d0=.ptr tb i0 k0)(hm:σ.mem tb=.live wd rows ro)(hr:rows[i]? =some r)(hj:(cells r)[j]? =some (.lit (.slice none 0 0)))
    (hc:cells r'=(cells r).set j (.own t 0 0)) (ht:σ.mem t=.free):
    bW P N w0 W0 L (bt μ t ⟨0,0,wdt,true,false⟩) ⟨σ.slots,bf (bf σ.mem [(t,.live wdt [] false)]) [(tb,.live wd (rows.set i r') ro)]⟩ a w:=by
  have h1:=h.pZ (t:=t) (wd:=wdt) ht
  have hne:tb≠t:=fun e=>by rw[e,ht] at hm;cases hm
  refine h1.Po (σ:=⟨σ.slots,bf σ.mem [(t,.live wdt [] false)]⟩) (rows:=rows) (by simp[bf,hne];exact hm) fun B hB O=>?_
  have hmp:B.mp=false:=by
    have:=h1.slots d0
    rw[show(⟨σ.slots,bf σ.mem [(t,.live wdt [] false)]⟩:az).slots d0=.ptr tb i0 k0 from hp] at this
    generalize a.tmps.getD d0 undef=v at this
    cases this with
    |ptr a1 ap=>rw[hB] at a1;cases a1;exact ap
  have hlen:(cells r').length=wd:=by rw[hc,List.length_set];exact O.wide i r hr
  exact {
    width:=O.width
    wide:=O.wide.set hlen
    blk:=fun hv hm'=>by rw[List.length_set];exact O.blk hv hm'
    virt:=fun hv=>by rw[O.real hr] at hv;cases hv
    cell :=fun _ q c hq=>by
      obtain⟨i',k,r2,rfl,h2,h3,_⟩:=qh (O.wide.set hlen) hq
      have hil:=(List.getElem?_eq_some_iff.1 hr).1
      by_cases hi:i'=i
      · subst hi
        rw[List.getElem?_set_self hil] at h2
        cases h2
        rw[hc] at h3
        by_cases hk:k=j
        · subst hk
          rw[List.getElem?_set_self (List.getElem?_eq_some_iff.1 hj).1] at h3
          cases h3
          obtain⟨v,e1,e2⟩:=O.cell hmp _ _ (dP O.wide hr hj)
          cases e2
          exact⟨_,e1,.ownNil (B:=⟨0,0,wdt,true,false⟩) (by simp[bt])⟩
        · rw[List.getElem?_set_ne (by omega)] at h3
          exact O.cell hmp _ _ (dP O.wide hr h3)
      · rw[List.getElem?_set_ne (by omega)] at h2
        exact O.cell hmp _ _ (dP O.wide h2 h3)
    vm:=O.vm
    map:=fun hm'=>by rw[hmp] at hm';cases hm'}
end
theorem tj {sl:SL}{m:ML}{t:Nat}{s:MS}:bf (St sl m).mem [(t,s)]=(St sl (kH t s m)).mem:=by
  have h1:bf (St sl m).mem [(t,s)]=aR ([(t,s)]++m):=by
    have:=congrArg az.mem (xM sl m [(t,s)] none .any)
    exact this
  rw[h1]
  funext i
  exact(ug [(t,s)] m i).symm
theorem aU.lg {P:Program}{N nL:Nat}{sl:SL}{m:ML}{c:Code}{Q:Exit→SL→ML→Prop}(d0 tb t wdt i j:Nat)(r r':AV){i0 k0 wd:Nat}{rows:List AV}{ro:Bool}(hp:yf sl d0=.ptr tb i0 k0)(hm:ej m tb=.live wd rows ro)(hr:rows[i]? =some r)(hj:(cells r)[j]? =some (.lit (.slice none 0 0)))
    (hcell:cells r'=(cells r).set j (.own t 0 0)) (ht:ej m t=.free) (hc:aU P N nL sl (kH tb (.live wd (rows.set i r') ro) (kH t (.live wdt [] false) m)) (c:=c) (Q:=Q)):aU P N nL sl m (c:=c) (Q:=Q):=by
  intro rd hrd w0 W0 L μ a w hL hs
  have h1:=hs.lg (d0:=d0) (tb:=tb) (t:=t) (wdt:=wdt) (i:=i) (j:=j) (r:=r) (r':=r') (by show bR sl d0=_;rw[←jh];exact hp) (dh hm) hr hj hcell (dh ht)
  rw[tj,tj] at h1
  exact hc rd hrd w0 W0 L _ a w hL h1
def By (P:Program){ι:Type}(sl:SL)(m:ML){nL:Nat}{S:ι→SL}{M:ι→ML}{I:ι→Prop}{μ:ι→Nat}{i:ι}:Prop:=∃j,I j∧μ j<μ i∧iI P nL (St sl m) (St (S j) (M j))
theorem By.mk {P:Program}{ι:Type}{sl:SL}{m:ML}{nL:Nat}{S:ι→SL}{M:ι→ML}{I:ι→Prop}{μ:ι→Nat}{i:ι}(j:ι)(h1:I j)(h2:μ j<μ i)(h3:Fit nL sl m (S j) (M j)):By P sl m (nL:=nL) (S:=S) (M:=M) (I:=I) (μ:=μ) (i:=i):=⟨j,h1,h2,h3.xq⟩
theorem iI.lg {P:Program}{nL:Nat}{sl:SL}{m:ML}(d0 tb t wdt i j:Nat)(r r':AV){i0 k0 wd:Nat}{rows:List AV}{ro:Bool}(hp:yf sl d0=.ptr tb i0 k0)(hm:ej m tb=.live wd rows ro)(hr:rows[i]? =some r)(hj:(cells r)[j]? =some (.lit (.slice none 0 0)))
    (hcell:cells r'=(cells r).set j (.own t 0 0)) (ht:ej m t=.free):iI P nL (St sl m) (St sl (kH tb (.live wd (rows.set i r') ro) (kH t (.live wdt [] false) m))):=by
  intro N w0 W0 L μ a w hL hs
  have h1:=hs.lg (d0:=d0) (tb:=tb) (t:=t) (wdt:=wdt) (i:=i) (j:=j) (r:=r) (r':=r') (by show bR sl d0=_;rw[←jh];exact hp) (dh hm) hr hj hcell (dh ht)
  rw[tj,tj] at h1
  exact⟨_,h1⟩
theorem By.lg {P:Program}{ι:Type}{sl:SL}{m:ML}{nL:Nat}{S:ι→SL}{M:ι→ML}{I:ι→Prop}{μ:ι→Nat}{x:ι}(d0 tb t wdt i j:Nat)(r r':AV){i0 k0 wd:Nat}{rows:List AV}{ro:Bool}(hp:yf sl d0=.ptr tb i0 k0)(hm:ej m tb=.live wd rows ro)(hr:rows[i]? =some r)(hj:(cells r)[j]? =some (.lit (.slice none 0 0)))
    (hcell:cells r'=(cells r).set j (.own t 0 0)) (ht:ej m t=.free) (hc:By P sl (kH tb (.live wd (rows.set i r') ro) (kH t (.live wdt [] false) m)) (nL:=nL) (S:=S) (M:=M) (I:=I) (μ:=μ) (i:=x)):By P sl m (nL:=nL) (S:=S) (M:=M) (I:=I) (μ:=μ) (i:=x):=by
  obtain⟨y,h1,h2,h3⟩:=hc
  exact⟨y,h1,h2,(iI.lg d0 tb t wdt i j r r' hp hm hr hj hcell ht).trans h3⟩
end Go.Am
end
namespace Go.Am
open Go Go.RowKit Go.Lib MapKept
section
variable {P : Program} {N : Nat} {o : Oper} {σ : az}
end
section
variable {P : Program} {N : Nat} {o : Oper} {acc : Tk} {sl : SL} {m : ML} {R : Rest}
end
end Go.Am
namespace Go.Am
open Go
@[reducible] def qw (m' m : ML) : ML → List (Nat × Nat)
  |[]=>[]
  | (k,_)::r=>match zT k with
    | true=>match ej m' k,ej m k with
      |.live _ rows' _,.live _ rows _=>jC (DA (gY m' m 6) rows' rows) (qw m' m r)
      |_,_=>qw m' m r
    |false=>qw m' m r
section
variable {P : Program} {Γ : cM} {sl : SL} {m : ML}
@[reducible] def Oe (nL : Nat) (x : AV) (m : ML) (outs : List MS) (res : AV) : Prop :=
  (rq (fJ (jC (gY (bP 0 outs) m 6 res x) (qw (bP 0 outs) m (mg nL (bP 0 outs)))) (bP 0 outs))=true∧uE m (fJ (jC (gY (bP 0 outs) m 6 res x) (qw (bP 0 outs) m (mg nL (bP 0 outs)))) (bP 0 outs)) nL=true)∧
    MF (fJ (jC (gY (bP 0 outs) m 6 res x) (qw (bP 0 outs) m (mg nL (bP 0 outs)))) (bP 0 outs)) (qz (fJ (jC (gY (bP 0 outs) m 6 res x) (qw (bP 0 outs) m (mg nL (bP 0 outs)))) (bP 0 outs))) m 12 res x∧
    yd (fJ (jC (gY (bP 0 outs) m 6 res x) (qw (bP 0 outs) m (mg nL (bP 0 outs)))) (bP 0 outs)) (qz (fJ (jC (gY (bP 0 outs) m 6 res x) (qw (bP 0 outs) m (mg nL (bP 0 outs)))) (bP 0 outs))) m (bP 0 outs)
@[reducible] def L4 (Γ : cM) (nL : Nat) (rvs : List ResultVar) (outs : List MS) (res : AV) : SL × ML → Prop
  | (sl,m)=>match Hv Γ sl m rvs with
    |some xs=>Oe nL (JV xs) m outs res
    |none=>False
@[reducible] def QA (Γ : cM) (nL : Nat) (rvs : List ResultVar) (outs : List MS) (res : AV) (e : Exit) (sl : SL) (m : ML) : Prop :=
  match e with
  |.normal=>L4 Γ nL rvs outs res (iC outs rvs (ql rvs res) sl m)
  |.ret=>L4 Γ nL rvs outs res (iC outs rvs (ql rvs res) sl m)
  |_=>False
theorem Oe.end {nL:Nat}{x:AV}{outs:List MS}{res:AV}(h:Oe nL x m outs res){N:Nat}{w0:World}{W0:Nat→Prop}{L μ:Mu}{a:Act}{w:World}{v:Value}(hL:∀t,nL≤t→t<jK→L t=none)
    (hs:bW P N w0 W0 L μ (St sl m) a w) (hv:cq (Wr W0 μ (aR m)) μ w x v):∃μ',bW P 0 w0 W0 L μ' (bare outs) mC w∧cq (Wr W0 μ' (aO outs)) μ' w res v:=by
  obtain⟨⟨h1,h2⟩,h3,h4⟩:=h
  generalize ht:fJ (jC (gY (bP 0 outs) m 6 res x) (qw (bP 0 outs) m (mg nL (bP 0 outs)))) (bP 0 outs)=ck at h1 h2 h3 h4
  have hk:∀i u,(i,u)∈ck→i∈ (bP 0 outs).map (·.1):=fun i u h=>by rw[←ht] at h;exact lp h
  have hD:∀t u,ve ck t=some u→aR (bP 0 outs) t≠ .free:=by
    intro t u ht e
    rcases jf h4 t with⟨_,b⟩|⟨b,_⟩
    ·exact b (hk _ _ (lT ht))
    ·rw[e] at b;exact b
  have hw:=yd.AP hs h1 h2 hk (fun t h=>h) h4 (fun _=>.any) (fun i=>.any)
  have hcv:=th (fun t wd rows ro h _=>Cw hs t wd rows ro h) hD (F:=fun t=>(∃wd rows ro,ej m t=.live wd rows ro)∧qz ck t=true) (fun t wd rows ro h1 h2=>⟨⟨wd,rows,ro,h1⟩,h2⟩) 12 _ _ h3
  obtain⟨μ',hs',hrep⟩:=hw.Kx hL hs (N':=0) (a':=mC) (.inr ⟨fun _=>rfl,rfl,rfl⟩)
  have e:aR (bP 0 outs)=aO outs:=by rw[oS,j8]
  rw[e] at hs' hrep hcv
  exact⟨μ',hs',hrep _ _ _ hcv hv⟩
theorem ah.NA {f:FuncId}{fn:Func}{c:Code}{ins outs:List MS}{args:List AV}{res:AV}{N:Nat}{rvs:List ResultVar}(Γ:cM)(hΓ:Γ.Good P)(hf:P.funcs[f]? =some fn)(hb:fn.body=some c)(hN:fn.ntmps=N)(hr:fn.results.toList=rvs)
    (hlen:Nat.ble (fq args) N=true) (h:Bw P N (fq ins) Γ c (Ch 0 args) (bP 0 ins) (QA Γ (fq ins) rvs outs res)):ah P f ins args outs res:=by
  subst hN;subst hr
  have hlen:args.length≤fn.ntmps:=by rw[←cP];exact fu hlen
  intro w W0 L vs hL hs hr
  have h:=qK hΓ _ _ _ _ h
  rw[wI,oS,cP] at h
  have hst:(⟨fun i=>args.getD i .any,aO ins⟩:az)=St (uX 0 args) (sQ 0 ins):=by
    unfold St
    congr 1
    ·funext i;rw[rJ];simp
    ·exact(j8 ins).symm
  have hsim:bW P fn.ntmps w W0 L L ⟨fun i=>args.getD i .any,aO ins⟩ {tmps:=vs.toArray++Array.replicate (fn.ntmps-vs.toArray.size) undef,defers:=[]} w:=by
    refine⟨?_,.nil,hs.os,hs.tape,hs.output,hs.hsize,hs.shp,hs.keep,hs.w0lt,hs.lentμ,hs.free,fun i=>?_,hs.objs,hs.inj,hs.out,hs.tabs⟩
    ·simp[hr.1];omega
    · by_cases hi:i<args.length
      · have h1:args[i]? =some args[i]:=List.getElem?_eq_getElem hi
        have h2:vs[i]? =some (vs[i]'(by rw[hr.1];exact hi)):=List.getElem?_eq_getElem _
        have:=hr.2 i _ _ h1 h2
        have hv:(vs.toArray++Array.replicate (fn.ntmps-vs.toArray.size) undef).getD i undef=vs[i]'(by rw[hr.1];exact hi):=by
          rw[Array.getD_eq_getD_getElem?,Array.getElem?_append_left (by simp;rw[hr.1];exact hi)]
          simp[h2]
        simp only[hv,List.getD_eq_getElem?_getD,h1,Option.getD_some]
        exact this
      · simp only[List.getD_eq_getElem?_getD,List.getElem?_eq_none (Nat.le_of_not_lt hi),Option.getD_none]
        exact .any
  rw[hst] at hsim
  refine rP hf hb h (fun t ht=>hL t (by omega)) hsim (fun e σ' ⟨sl,m,_,hend⟩=>?_) ?_
  · cases e with
    |normal=>exact .inl rfl
    |ret=>exact .inr rfl
    |_=>exact hend.elim
  rintro e σ' μ' a' w' ⟨sl,m,rfl,hend⟩ hs' hd
  have key:L4 Γ ins.length fn.results.toList outs res (iC outs fn.results.toList (ql fn.results.toList res) sl m)→∃v,(results fn a'.tmps).run P w'=.ok v w'∧∃v_1 μ',Ending.returned v=.returned v_1∧bW P 0 w W0 L μ' (bare outs) mC w'∧cq (Wr W0 μ' (aO outs)) μ' w' res v_1:=by
    intro hend
    obtain⟨μ2,hs2⟩:=tK (outs:=outs) fn.results.toList (ql fn.results.toList res) sl m μ' hs'
    generalize iC outs fn.results.toList (ql fn.results.toList res) sl m=q at hend hs2
    obtain⟨sl2,m2⟩:=q
    simp only[L4] at hend
    split at hend
    · rename_i xs hxs
      have hres:=(Bc hΓ hxs).get
      obtain⟨v,v1,v2⟩:=uD hs2 hres.1 hres.2
      rw[C1] at hend
      obtain⟨μ'',h1,h2⟩:=hend.end (fun t ht _=>hL t ht) hs2 v2
      exact⟨v,v1,v,μ'',rfl,h1,h2⟩
    ·exact hend.elim
  cases e with
  |normal=>exact key hend
  |ret=>exact key hend
  |_=>exact hend.elim
end
section
variable {P : Program} {N : Nat} {w0 : World} {W0 : Nat → Prop} {L μ : Mu} {σ : az} {a : Act} {w : World}
end
mutual
/-- Its references are to objects with names below r. -/
def nX (r:Nat):AV→Bool
  |.any=>true
  |.emp=>true
  |.guess _ _=>true
  |.lit _=>true
  |.sl _ _=>true
  |.own t _ _=>Nat.ble (t+1) r
  |.ptr t _ _=>Nat.ble (t+1) r
  |.fptr _ _=>true
  |.mapr t=>Nat.ble (t+1) r
  |.fmap _=>true
  |.agg cs=>lW r cs
  |.tup cs=>lW r cs
  |.clo _ a b=>lW r a&&lW r b
def lW (r:Nat):List AV→Bool
  |[]=>true
  |x::xs=>nX r x&&lW r xs
end
mutual
theorem lK (r:Nat):∀x:AV,bj x=true→nX r x=true
  |.any,_=>rfl
  |.emp,_=>rfl
  |.guess _ _,_=>rfl
  |.lit _,_=>rfl
  |.sl _ _,_=>rfl
  |.own _ _ _,h=>by simp[bj] at h
  |.ptr _ _ _,h=>by simp[bj] at h
  |.fptr _ _,_=>rfl
  |.mapr _,h=>by simp[bj] at h
  |.fmap _,_=>rfl
  |.agg cs,h=>by simp only[bj] at h;simp only[nX];exact iL r cs h
  |.tup cs,h=>by simp only[bj] at h;simp only[nX];exact iL r cs h
  | .clo f a b,h=>by
    simp only[bj,Bool.and_eq_true] at h
    simp only[nX,Bool.and_eq_true]
    exact⟨iL r a h.1,iL r b h.2⟩
theorem iL (r:Nat):∀xs:List AV,aN xs=true→lW r xs=true
  |[],_=>rfl
  | x::xs,h=>by
    simp only[aN,Bool.and_eq_true] at h
    simp only[lW,Bool.and_eq_true]
    exact⟨lK r x h.1,iL r xs h.2⟩
end
theorem kO {r:Nat}:∀ {xs:List AV},lW r xs=true→∀ {j:Nat} {c:AV},xs[j]? =some c→nX r c=true
  |[],_,j,c,h=>by simp at h
  | x::xs,hx,0,c,h=>by
    simp only[lW,Bool.and_eq_true] at hx
    simp at h;subst h;exact hx.1
  | x::xs,hx,j+1,c,h=>by
    simp only[lW,Bool.and_eq_true] at hx
    exact kO hx.2 (by simpa using h)
structure Fz (r:Nat) (W:Nat→Prop) (μ:Mu) (w:World) (W':Nat→Prop) (μ':Mu) (w':World):Prop where
  size:w.heap.size≤w'.heap.size
  blk:∀b,¬W b→b<w.heap.size→w'.heap[b]? =w.heap[b]?
  shape:∀b e n,w.shape? b=some (e,n)→w'.shape? b=some (e,n)
  wr:∀b,b<w.heap.size→W' b→W b
  mu:∀t B,t<r→μ t=some B→μ' t=some B
theorem Fz.cell {r:Nat}{W W':Nat→Prop}{μ μ':Mu}{w w':World}(h:Fz r W μ w W' μ' w'){b q:Nat}(hb:¬W b)(hl:b<w.heap.size):w'.cell? ⟨b,q,none⟩=w.cell? ⟨b,q,none⟩:=
  World.cell?_of_block (h.blk b hb hl)
theorem cq.ER {r:Nat}{W W':Nat→Prop}{μ μ':Mu}{w w':World}(g:Fz r W μ w W' μ' w'){x:AV}{v:Value}(h:cq W μ w x v):nX r x=true→cq W' μ' w' x v:=by
  induction h with
  |any=>intro _;exact .any
  |lit=>intro _;exact .lit
  |guess h1 h2=>intro _;exact .guess h1 h2
  |emp=>intro _;exact .emp
  |slNil=>intro _;exact .slNil
  | sl hW hb hn hc hwd hcell _ hnr ih=>
    intro _
    exact .sl (fun h=>hW (g.wr _ hb h)) (Nat.lt_of_lt_of_le hb g.size) hn hc hwd (fun q c hq=>by rw[g.cell hW hb];exact hcell q c hq) (fun q c hq=>ih q c hq (lK r c (hnr c (List.mem_of_getElem? hq)))) hnr
  |own hm hv hp hl hs ho=>intro hx;exact .own (g.mu _ _ (Nat.le_of_ble_eq_true hx) hm) hv hp hl (g.shape _ _ _ hs) ho
  |ownNil hm=>intro hx;exact .ownNil (g.mu _ _ (Nat.le_of_ble_eq_true hx) hm)
  |ptr hm hp=>intro hx;exact .ptr (g.mu _ _ (Nat.le_of_ble_eq_true hx) hm) hp
  |mapr hm hp=>intro hx;exact .mapr (g.mu _ _ (Nat.le_of_ble_eq_true hx) hm) hp
  | fmap hW hb h1 h2 h3 h4 h5 _ hn ih=>
    intro _
    refine .fmap (fun h=>hW (g.wr _ hb h)) (Nat.lt_of_lt_of_le hb g.size) (by rw[g.blk _ hW hb];exact h1) h2 h3 h4 h5 (fun i key x hi=>ih i key x hi ?_) hn
    have:=hn _ (List.mem_of_getElem? hi)
    simp only[entry,Go.Am.bj,Go.Am.aN,Bool.and_true,Bool.true_and] at this
    exact lK r x this
  | fptr hW hb hcell _ hnr ih=>
    intro _
    exact .fptr (fun h=>hW (g.wr _ hb h)) (Nat.lt_of_lt_of_le hb g.size) (fun q c hq=>by rw[g.cell hW hb];exact hcell q c hq) (fun q c hq=>ih q c hq (lK r c (hnr c (List.mem_of_getElem? hq)))) hnr
  |agg hl _ ih=>intro hx;exact .agg hl (fun j c v h1 h2=>ih j c v h1 h2 (kO hx h1))
  |tup hl _ ih=>intro hx;exact .tup hl (fun j c v h1 h2=>ih j c v h1 h2 (kO hx h1))
  | clo h1 h2 _ _ ih1 ih2=>
    intro hx
    simp only[nX,Bool.and_eq_true] at hx
    exact .clo h1 h2 (fun j c v a b=>ih1 j c v a b (kO hx.1 a)) (fun j c v a b=>ih2 j c v a b (kO hx.2 a))
noncomputable def kK (r:Nat) (μ:Mu) (m:Nat→MS):Mu:=fun t=>
  if t<r then μ t else if jK≤t then(match m (t-jK) with
    |.live _ _ false=>μ (t-jK)
    |_=>none) else none
section
variable {P : Program} {N : Nat} {w0 : World} {W0 : Nat → Prop} {L μ : Mu} {σ : az} {a : Act} {w : World} {r : Nat}
theorem G9 (hr:r≤jK){b:Nat}(h:iH μ σ.mem b):yg (kK r μ σ.mem) b:=by
  obtain⟨t,B,wd,rows,h1,h2,h3,h4⟩:=h
  refine⟨jK+t,B,?_,h3,h4⟩
  unfold kK
  rw[if_neg (by omega),if_pos (by omega),show jK+t-jK=t by omega,h1]
  exact h2
theorem pG (hlive:∀t,t<r→∃wd rows,σ.mem t=.live wd rows false){b:Nat}(h:yg (kK r μ σ.mem) b):iH μ σ.mem b:=by
  obtain⟨t,B,h1,h2,h3⟩:=h
  unfold kK at h1
  split at h1
  · rename_i ht
    obtain⟨wd,rows,hm⟩:=hlive t ht
    exact⟨t,B,wd,rows,hm,h1,h2,h3⟩
  · split at h1
    · split at h1
      · rename_i wd rows hm
        exact⟨_,B,wd,rows,hm,h1,h2,h3⟩
      ·cases h1
    ·cases h1
theorem bW.Bv (h:bW P N w0 W0 L μ σ a w)(hr:r≤jK)(hlive:∀t,t<r→∃wd rows,σ.mem t=.live wd rows false){sl:Nat→AV}{a':Act}(ha:a'.tmps.size=N)(hd:a'.defers=[])
    (hsl:∀i,cq (Wr W0 μ σ.mem) μ w (sl i) (a'.tmps.getD i undef)):bW P N {w with drawn:=1} W0 (kK r μ σ.mem) μ ⟨sl,σ.mem⟩ a' w where
  tabs :=by
    have:=h.pL (L':=kK r μ σ.mem) (fun b hb=>by
      obtain⟨t,B,wd,rows,h1,h2,rfl,h4⟩:=pG (σ:=σ) hlive hb
      exact(h.out t wd rows false B h1 h2 h4).2 rfl)
    exact this
  tsize:=ha
  defers:=by rw[hd];exact .nil
  os:=rfl
  tape:=rfl
  output:=rfl
  hsize:=Nat.le_refl _
  shp _ _ _ hb:=hb
  keep _ _ _:=rfl
  w0lt b hb:=Nat.lt_of_lt_of_le (h.w0lt b hb) h.hsize
  lentμ t B hb hB:=by
    unfold kK at hB
    split at hB
    ·exact hB
    ·rw[if_neg (by omega)] at hB;cases hB
  free:=h.free
  slots:=hsl
  objs:=h.objs
  inj:=h.inj
  out t wd rows ro B h1 h2 h3:=⟨(h.out t wd rows ro B h1 h2 h3).1,fun hro=>.inr (G9 hr ⟨t,B,wd,rows,by rw[←hro];exact h1,h2,rfl,h3⟩)⟩
structure PD (P:Program) (N:Nat) (r:Nat) (w0:World) (W0:Nat→Prop) (L μ:Mu) (σ:az) (w:World) (μ':Mu) (σ':az) (w':World):Prop where
  keep:∀b,b<w.heap.size→¬iH μ σ.mem b→w'.heap[b]? =w.heap[b]?
  grow:Fz r (Wr W0 μ σ.mem) μ w (Wr W0 μ' σ'.mem) μ' w'
  Kx:∀ (sl:Nat→AV) (a':Act),a'.tmps.size=N→Marks w0 a'.defers w'→(∀i,cq (Wr W0 μ' σ'.mem) μ' w' (sl i) (a'.tmps.getD i undef))→bW P N w0 W0 L μ' ⟨sl,σ'.mem⟩ a' w'
theorem bW.sr (h:bW P N w0 W0 L μ σ a w)(hL:∀t,r≤t→L t=none)(hr:r≤jK)(hlive:∀t,t<r→∃wd rows,σ.mem t=.live wd rows false){N':Nat}{μ':Mu}{σ':az}{a':Act}{w':World}
    (k:bW P N' {w with drawn:=1} W0 (kK r μ σ.mem) μ' σ' a' w'):PD P N r w0 W0 L μ σ w μ' σ' w':=by
  have mineLent:∀b,iH μ σ.mem b→w0.heap.size≤b∨yg L b:=by
    rintro b ⟨t,B,wd,rows,h1,h2,rfl,h4⟩
    exact(h.out t wd rows false B h1 h2 h4).2 rfl
  have keep:∀b,b<w.heap.size→¬iH μ σ.mem b→w'.heap[b]? =w.heap[b]? :=fun b hb hm=>k.keep b hb fun hl=>hm (pG hlive hl)
  have wr:∀b,b<w.heap.size→Wr W0 μ' σ'.mem b→Wr W0 μ σ.mem b:=by
    rintro b hb (hw|⟨t,B,wd,rows,h1,h2,rfl,h4⟩)
    ·exact .inl hw
    · rcases(k.out t wd rows false B h1 h2 h4).2 rfl with hh|hh
      · have:w.heap.size≤B.b:=hh
        omega
      ·exact .inr (pG hlive hh)
  have mu:∀t B,t<r→μ t=some B→μ' t=some B:=fun t B ht hB=>k.lentμ t B (by omega) (by unfold kK;rw[if_pos ht];exact hB)
  refine⟨keep,⟨k.hsize,fun b hb hl=>keep b hl fun hm=>hb (.inr hm),k.shp,wr,mu⟩,fun sl a2 hN hd hsl=>?_⟩
  exact {
    tabs:=h.tabs
    tsize:=hN
    defers:=hd
    os:=k.os.trans h.os
    tape:=k.tape.trans h.tape
    output:=k.output.trans h.output
    hsize:=Nat.le_trans h.hsize k.hsize
    shp:=fun b e n hb=>k.shp b e n (h.shp b e n hb)
    keep :=fun b hb hl=>by
      rw[keep b (Nat.lt_of_lt_of_le hb h.hsize) ?_]
      ·exact h.keep b hb hl
      · intro hm
        rcases mineLent b hm with hh|hh
        ·omega
        ·exact hl hh
    w0lt:=h.w0lt
    lentμ:=fun t B hb hB=>mu t B (by
      rcases Nat.lt_or_ge t r with ht|ht
      ·exact ht
      ·rw[hL t ht] at hB;cases hB) (h.lentμ t B hb hB)
    free:=k.free
    slots:=hsl
    objs:=k.objs
    inj:=k.inj
    out:=fun t wd rows ro B h1 h2 h3=>⟨(k.out t wd rows ro B h1 h2 h3).1,fun hro=>by
      rcases(k.out t wd rows ro B h1 h2 h3).2 hro with hh|hh
      ·exact .inl (Nat.le_trans h.hsize hh)
      ·exact mineLent _ (pG hlive hh)⟩}
end
def DR (Wn:Nat→Prop)(w:World)(Wn':Nat→Prop)(w':World):Prop:=
  w.heap.size≤w'.heap.size∧(∀b,b<w.heap.size→¬Wn b→w'.heap[b]? =w.heap[b]?)∧∀b,b<w.heap.size→Wn' b→Wn b
def Dd (P:Program)(g:FuncId)(caps:List AV)(n:Nat)(enc:Nat→List AV):Prop:=
  ∀ (vals:List Value) (l:Nat) (J:Nat→(Nat→Prop)→World→Prop) (Jx:World→Prop),
    (∀k Wn W,J k Wn W→(∃μ,bT Wn μ W caps vals)∧k7 P W fun _=>none)→(∀k Wn W W',J k Wn W→jF W W'→J k Wn W')→(∀W W',Jx W→jF W W'→Jx W')→(∀k Wn W,J k Wn W→∀b,Wn b→b<W.heap.size)→
    (∀ k Wn W vs,k<n→J k Wn W→(∀Wn' μ,bT Wn' μ W caps vals→bT Wn' μ W (enc k) vs)→
      YieldAt Fence.wide 0 P l vs.toArray W fun e W'=>(e=.returned (.bool true)∧∃Wn',J (k+1) Wn' W'∧DR Wn W Wn' W')∨(e=.returned (.bool false)∧Jx W'))→
    ∀Wn w,J 0 Wn w→Calls P g ((.func (.yield l) #[] #[])::vals).toArray w fun e w'=>(∃v,e=.returned v)∧((∃Wn',J n Wn' w')∨Jx w')
def Cx (P:Program)(r:Nat)(S:SL)(m':ML)(Q:Exit→az→Prop)(e:Exit)(σ:az):Prop:=
  match e with
  |.normal=>iI P r σ (St S m')
  |.ret=> ∃m,iI P r σ (St S m)∧Q .ret (St S m)
  |.exit id=> ∃m,iI P r σ (St S m)∧Q (.exit id) (St S m)
  |_=>False
def wL:List Tmp→List AV→SL→SL
  |p::ps,x::xs,sl=>(p,x)::wL ps xs sl
  |_,_,sl=>sl
theorem tG:∀ (ps:List Tmp) (xs:List AV) (sl:SL) (i:Nat),ps.length=xs.length→ps.Nodup→bR (wL ps xs sl) i=match ps.idxOf? i with
    |some j=>xs.getD j .any
    |none=>bR sl i
  |[],[],sl,i,_,_=>rfl
  | p ::ps,x::xs,sl,i,hl,hd=>by
    simp only[wL,bR,List.idxOf?_cons]
    by_cases h:i=p
    ·subst h;simp
    · have h1:(i==p)=false:=by simpa using h
      have h2:(p==i)=false:=by simpa using Ne.symm h
      rw[h1,h2]
      have ih:=tG ps xs sl i (by simpa using hl) (List.nodup_cons.1 hd).2
      simp only[Bool.false_eq_true,if_false]
      rw[ih]
      cases ps.idxOf? i<;>simp
  |p::ps,[],sl,i,hl,_=>by simp at hl
  |[],x::xs,sl,i,hl,_=>by simp at hl
theorem tY:∀ (ps:List Tmp) (vs:List Value) (t:Array Value),ps.length=vs.length→ps.Nodup→(∀p∈ps,p<t.size)→
    (∀ i,((ps.zip vs).foldl (fun t (x:Tmp×Value)=>t.setIfInBounds x.1 x.2) t).getD i undef=match ps.idxOf? i with
      |some j=>vs.getD j undef
      |none=>t.getD i undef)∧((ps.zip vs).foldl (fun t (x:Tmp×Value)=>t.setIfInBounds x.1 x.2) t).size=t.size
  |[],[],t,_,_,_=>⟨fun i=>rfl,rfl⟩
  | p :: ps,v::vs,t,hl,hd,hp=>by
    obtain⟨h1,h2⟩:=tY ps vs (t.setIfInBounds p v) (by simpa using hl) (List.nodup_cons.1 hd).2 (fun q hq=>by simpa using hp q (by simp[hq]))
    simp only[List.zip_cons_cons,List.foldl_cons]
    refine⟨fun i=>?_,by rw[h2];simp⟩
    rw[h1 i]
    simp only[List.idxOf?_cons]
    by_cases h:p=i
    · subst h
      have hn:ps.idxOf? p=none:=by
        rw[List.idxOf?_eq_none_iff];exact(List.nodup_cons.1 hd).1
      rw[hn]
      have hlt:=hp p (by simp)
      simp[hlt]
    · have h2:(p==i)=false:=by simpa using h
      rw[h2]
      simp only[Bool.false_eq_true,if_false]
      cases ps.idxOf? i with
      |none=>simp[Array.getElem?_setIfInBounds_ne h]
      |some j=>simp
  |p::ps,[],t,hl,_,_=>by simp at hl
  |[],v::vs,t,hl,_,_=>by simp at hl
theorem sy {W:Nat→Prop}{μ:Mu}{w:World}{g:FuncId}{caps:List AV}{A B:Array Value}(h:cq W μ w (.clo (.func g) [] caps) (.func (.func g) A B)):A= #[]∧bT W μ w caps B.toList:=by
  generalize hv:Value.func (.func g) A B=v at h
  cases h with
  | @clo _ _ _ va vb h1 h2 h3 h4=>
    cases hv
    have e:va=[]:=List.eq_nil_of_length_eq_zero (by simpa using h1)
    exact⟨by rw[e],by show bT W μ w caps vb;exact⟨h2,h4⟩⟩
theorem uW {W:Nat→Prop}{μ:Mu}{w:World}{g:FuncId}{caps:List AV}{v:Value}(h:cq W μ w (.clo (.func g) [] caps) v):∃vals:List Value,v=.func (.func g) #[] vals.toArray:=by
  cases h with
  | @clo _ _ _ va vb h1 h2 h3 h4=>
    have e:va=[]:=List.eq_nil_of_length_eq_zero (by simpa using h1)
    exact⟨vb,by rw[e]⟩
theorem bW.OV {P:Program}{N:Nat}{w0:World}{W0:Nat→Prop}{L μ:Mu}{σ:az}{a:Act}{w:World}(h:bW P N w0 W0 L μ σ a w){b:Nat}(hb:Wr W0 μ σ.mem b):b<w.heap.size:=by
  rcases hb with hb|⟨t,B,wd,rows,m1,m2,rfl,hv⟩
  ·exact Nat.lt_of_lt_of_le (h.w0lt b hb) h.hsize
  · obtain⟨B',hB',hobj⟩:=h.objs t wd rows false m1
    rw[m2] at hB';cases hB'
    cases hmp:B.mp with
    |false=>obtain⟨C,e,fz,h3,_⟩:=hobj.blk hv hmp;exact(Array.getElem?_eq_some_iff.1 h3).1
    |true=>obtain⟨es,clock,h3,_⟩:=hobj.map hmp;exact(Array.getElem?_eq_some_iff.1 h3).1
set_option maxHeartbeats 2000000 in
/-- **A loop over a function.** S: what the frame's slots hold, in each round; M k: the objects when k rounds are over; those with names below r keep their names. -/
theorem gz.range {P:Program}{N nL:Nat}{σ:az}{Q:Exit→az→Prop}{f:Operand}{ps:Array Tmp}{assign body:Code}{g:FuncId}{caps:List AV}{n:Nat}{enc:Nat→List AV}
    (r:Nat) (S:SL) (M:Nat→ML) (hit:Dd P g caps n enc) (hg:ae P g) (h0:iI P nL σ (St S (M 0))) (hf:(St S (M 0)).eval f=.clo (.func g) [] caps)
    (hnL:nL≤r) (hr:r≤jK) (hlive:∀k,k≤n→∀t,t<r→∃wd rows,aR (M k) t=.live wd rows false) (hS:∀i,nX r (bR S i)=true)
    (henc:∀k,k<n→(enc k).length=ps.size) (hnd:ps.toList.Nodup) (hlt:∀p∈ps.toList,p<N) (hpa:cG assign=true) (hpb:cG body=true)
    (hround:∀k,k<n→gz P N r assign (fun e σ'=>e=.normal∧(∀t,t<r→∃wd rows,σ'.mem t=.live wd rows false)∧gz P N r body (Cx P r S (M (k+1)) Q) σ') (St (wL ps.toList (enc k) S) (M k)))
    (hdone:Q .normal (St S (M n))):gz P N nL (.rangeFunc f ps assign body) Q σ:=by
  intro rd hp w0 W0 L μ a w hL hs
  have hrd:rd=none:=hp.resolve_right (by simp[cG])
  subst hrd
  obtain⟨μ0,hs0⟩:=h0 N w0 W0 L μ a w (fun t h1 h2=>hL.1 t h1 (.inl h2)) hs
  have hLr:∀t,r≤t→L t=none:=fun t h=>hL.1 t (Nat.le_trans hnL h) (.inr rfl)
  have hdr:=hL.2 rfl
  have hfk:∀m,(St S m).eval f=.clo (.func g) [] caps:=fun m=>hf
  obtain⟨vals,hval⟩:=uW (by have:=hs0.eval f;rw[hfk] at this;exact this)
  refine wpIn_rangeFunc (F:=iZ none) ?_
  intro fn _
  obtain⟨rec,hrec⟩:∃rec:LoopState→Option Code→Loop,rec=fun st pe=>{state:=st,pending:=pe,fn,tmps:=a.tmps,params:=ps,assign,body,defers:=w.heap.size}:=⟨_,rfl⟩
  obtain⟨W1,hW1⟩:∃W1,(w.alloc (.deferred (some []))).alloc (.loop (rec .ready none))=W1:=⟨_,rfl⟩
  have hmore:jF w W1:=by rw[←hW1];exact(jF.alloc _).trans (jF.alloc _)
  have hl1:W1.heap[w.heap.size+1]? =some (.loop (rec .ready none)):=by
    rw[←hW1];have:=World.alloc_heap_new (w.alloc (.deferred (some []))) (.loop (rec .ready none));rwa [World.size_alloc] at this
  have hD1:W1.heap[w.heap.size]? =some (.deferred (some [])):=by
    rw[←hW1,(jF.alloc (w:=w.alloc (.deferred (some []))) (.loop (rec .ready none))).blk _ (by simp)]
    exact World.alloc_heap_new w _
  have hDge:w0.heap.size≤w.heap.size:=hs0.hsize
  let J:Nat→(Nat→Prop)→World→Prop:=fun k Wn W=> ∃μk,bW P N w0 W0 L μk (St S (M k)) a W∧Wn=Wr W0 μk (aR (M k))∧W.heap[w.heap.size+1]? =some (.loop (rec .ready none))∧W.heap[w.heap.size]? =some (.deferred (some []))∧k≤n
  let Jx:World→Prop:=fun W=> ∃c e m μk,bW P N w0 W0 L μk (St S m) a W∧W.heap[w.heap.size+1]? =some (.loop (rec .done (some c)))∧W.heap[w.heap.size]? =some (.deferred (some []))∧(c=.ret∧e=.ret∨∃id,c=.exit id∧e=.exit id)∧Q e (St S m)
  have hcaps:∀k Wn W,J k Wn W→(∃μ,bT Wn μ W caps vals)∧k7 P W fun _=>none:=by
    rintro k Wn W ⟨μk,h1,rfl,_⟩
    have h2:=h1.eval f
    rw[hfk,hval] at h2
    have h3:bT (Wr W0 μk (St S (M k)).mem) μk W caps vals:=by simpa using(sy h2).2
    exact⟨⟨μk,h3⟩,h1.pL fun b h=>by obtain⟨_,_,h,_⟩:=h;cases h⟩
  have hbk:∀ {W W':World} {b:Nat} {o:Obj},jF W W'→W.heap[b]? =some o→W'.heap[b]? =some o:=fun m h=>by rw[m.blk _ (Array.getElem?_eq_some_iff.1 h).1];exact h
  have key:=hit vals (w.heap.size+1) J Jx hcaps
    (by rintro k Wn W W' ⟨μk,h1,h2,h3,h4,h5⟩ m;exact⟨μk,h1.more m,h2,hbk m h3,hbk m h4,h5⟩)
    (by rintro W W' ⟨c,e,m',μk,h1,h2,h3,h4⟩ m;exact⟨c,e,m',μk,h1.more m,hbk m h2,hbk m h3,h4⟩)
    (by rintro k Wn W ⟨μk,h1,rfl,_⟩ b hb;exact h1.OV hb)
    ?round _ W1 ⟨μ0,hs0.more hmore,rfl,hl1,hD1,Nat.zero_le _⟩
  case round =>
    rintro k Wn W vs hk ⟨μk,hsk,rfl,hl,hD,hkn⟩ hvs
    have hrep:bT (Wr W0 μk (aR (M k))) μk W (enc k) vs:=by
      refine hvs _ _ ?_
      have h2:=hsk.eval f
      rw[hfk,hval] at h2
      have h3:bT (Wr W0 μk (St S (M k)).mem) μk W caps vals:=by simpa using(sy h2).2
      exact h3
    have hvl:vs.length=ps.toList.length:=by rw[hrep.1,henc k hk];simp
    obtain⟨hget,hsz⟩:=tY ps.toList vs a.tmps hvl.symm hnd (fun p hp=>by rw[hsk.tsize];exact hlt p hp)
    have hfold:(ps.zip vs.toArray).foldl (fun tmps (t,a)=>tmps.setIfInBounds t a) a.tmps=(ps.toList.zip vs).foldl (fun t (x:Tmp×Value)=>t.setIfInBounds x.1 x.2) a.tmps:=by
      rw[←Array.foldl_toList];simp
    have hlk:∀t,t<r→∃wd rows,(St S (M k)).mem t=.live wd rows false:=hlive k hkn
    have hreb:=hsk.Bv (sl:=(St (wL ps.toList (enc k) S) (M k)).slots) (a':={tmps:=(ps.toList.zip vs).foldl (fun t (x:Tmp×Value)=>t.setIfInBounds x.1 x.2) a.tmps,defers:=[]}) hr hlk
      (by rw [hsz];exact hsk.tsize) rfl (fun i=>by
        show cq _ _ _ (bR (wL ps.toList (enc k) S) i) _
        rw[tG _ _ _ _ (by rw[←hvl,hrep.1]) hnd,hget i]
        cases hj:ps.toList.idxOf? i with
        |none=>exact hsk.slots i
        | some j=>
          simp only
          rcases Nat.lt_or_ge j (enc k).length with h|h
          · rw[List.getD_eq_getElem?_getD,List.getElem?_eq_getElem h,List.getD_eq_getElem?_getD,List.getElem?_eq_getElem (by rw[hrep.1];exact h)]
            exact hrep.2 j _ _ (List.getElem?_eq_getElem h) (List.getElem?_eq_getElem _)
          ·rw[List.getD_eq_getElem?_getD,List.getElem?_eq_none h];exact .any)
    have hargs:vs.toArray.size=(rec .ready none).params.size:=by rw[hrec];simpa using hvl
    have hy:=run_yield (P:=P) (args:=vs.toArray) hl hargs
    rw[hrec] at hy
    simp only at hy
    rw[hfold] at hy
    refine⟨fn,_,assign,body,hy,roundIn_of_wpIn trivial ?_⟩
    have hrebL:∀t,r≤t→(t<jK∨(some (w.heap.size+1):Option Nat)=none)→kK r μk (aR (M k)) t=none:=fun t h1 h2=>by
      unfold kK
      rcases h2 with h2|h2
      ·rw[if_neg (by omega),if_neg (by omega)]
      ·cases h2
    have ha:=hround k hk (some (w.heap.size+1)) (.inr hpa) {W with drawn:=1} W0 (kK r μk (aR (M k))) μk _ W ⟨hrebL,fun h=>by cases h⟩ hreb
    refine wpIn_mono (F:=iZ (some (w.heap.size+1))) ha ?_
    rintro e a1 Wa ⟨μ1,σ1,⟨rfl,hlive1,hb⟩,hs1⟩
    have U1:=hsk.sr hLr hr hlk hs1
    have hd1:a1.defers=[]:=hs1.defers.1 (Nat.succ_ne_zero 0)
    have notMine:∀ {b:Nat} {o:Obj} {μ':Mu} {σ':az} {a':Act} {W':World},bW P N w0 W0 L μ' σ' a' W'→W'.heap[b]? =some o→zM o=true→¬iH μ' σ'.mem b:=by
      rintro b o μ' σ' a' W' hs' ho hbo ⟨t,B,wd,rows,m1,m2,rfl,hv⟩
      obtain⟨B',hB',hobj⟩:=hs'.objs t wd rows false m1
      rw[m2] at hB';cases hB'
      cases hmp:B.mp with
      |false=>obtain⟨C,e,fz,h3,_⟩:=hobj.blk hv hmp;rw[ho] at h3;cases h3;cases hbo
      |true=>obtain⟨es,clock,h3,_⟩:=hobj.map hmp;rw[ho] at h3;cases h3;cases hbo
    have ltOf:∀ {b:Nat} {o:Obj} {W':World},W'.heap[b]? =some o→b<W'.heap.size:=fun h=>(Array.getElem?_eq_some_iff.1 h).1
    have hla:Wa.heap[w.heap.size+1]? =some (.loop (rec .ready none)):=by rw[U1.keep _ (ltOf hl) (notMine hsk hl rfl)];exact hl
    have hDa:Wa.heap[w.heap.size]? =some (.deferred (some [])):=by rw[U1.keep _ (ltOf hD) (notMine hsk hD rfl)];exact hD
    -- what the frame itself holds
    have out1:∀i,cq (Wr W0 μ1 σ1.mem) μ1 Wa (bR S i) (a.tmps.getD i undef):=fun i=>(hsk.slots i).ER U1.grow (hS i)
    have mk1:Marks w0 a.defers Wa:=hsk.defers.keep fun E _ h2=>by rw[U1.keep E (ltOf h2) (notMine hsk h2 rfl)];exact h2
    have sa:bW P N w0 W0 L μ1 ⟨bR S,σ1.mem⟩ a Wa:=U1.Kx _ a hsk.tsize mk1 out1
    -- the round is on
    have tb:dg (w.heap.size+1) Wa (Wa.putObj (w.heap.size+1) (.loop {rec .ready none with state:=.busy})):=dg.put hla rfl
    obtain⟨Wb,hWb⟩:∃Wb,Wa.putObj (w.heap.size+1) (.loop {rec .ready none with state:=.busy})=Wb:=⟨_,rfl⟩
    rw[hWb] at tb
    have hlb:Wb.heap[w.heap.size+1]? =some (.loop {rec .ready none with state:=.busy}):=by rw[←hWb];exact World.putObj_heap_same (ltOf hla)
    have hDb:Wb.heap[w.heap.size]? =some (.deferred (some [])):=by rw[tb.blk _ (by omega)];exact hDa
    refine⟨Wb,by rw[←hWb];exact run_beginRound hla (by rw[hrec]),?_⟩
    have mkb:Marks w0 a.defers Wb:=mk1.keep fun E h1 h2=>by
      rw[tb.blk E (fun e=>by rw[e,hla] at h2;cases h2)];exact h2
    have sb:bW P N w0 W0 L μ1 ⟨bR S,σ1.mem⟩ a Wb:=sa.og tb (by omega) mkb
    have slot1:∀i,cq (Wr W0 μ1 σ1.mem) μ1 Wb (σ1.slots i) (a1.tmps.getD i undef):=fun i=>(hs1.slots i).og tb
    have hrb:=sb.Bv (sl:=σ1.slots) (a':=a1) hr hlive1 hs1.tsize hd1 slot1
    have hrebL1:∀t,r≤t→(t<jK∨(some (w.heap.size+1):Option Nat)=none)→kK r μ1 σ1.mem t=none:=fun t h1 h2=>by
      unfold kK
      rcases h2 with h2|h2
      ·rw[if_neg (by omega),if_neg (by omega)]
      ·cases h2
    refine wpIn_mono (F:=iZ (some (w.heap.size+1))) (hb (some (w.heap.size+1)) (.inr hpb) {Wb with drawn:=1} W0 (kK r μ1 σ1.mem) μ1 a1 Wb ⟨hrebL1,fun h=>by cases h⟩ hrb) ?_
    rintro e a2 Wc ⟨μ2,σ2,he,hs2⟩
    -- the round is over
    have fin:∀ (mm:ML),iI P r σ2 (St S mm)→∃μ3,(∀b,b<Wb.heap.size→¬iH μ1 σ1.mem b→Wc.heap[b]? =Wb.heap[b]?)∧(∀b,b<Wb.heap.size→Wr W0 μ3 (aR mm) b→Wr W0 μ1 σ1.mem b)∧
        Wc.heap[w.heap.size+1]? =some (.loop {rec .ready none with state:=.busy})∧Wc.heap[w.heap.size]? =some (.deferred (some []))∧bW P N w0 W0 L μ3 (St S mm) a Wc∧Wb.heap.size≤Wc.heap.size:=by
      intro mm hsits
      obtain⟨μ3,hs3⟩:=hsits N _ W0 (kK r μ1 σ1.mem) μ2 a2 Wc (fun t h1 h2=>hrebL1 t h1 (.inl h2)) hs2
      have U2:=sb.sr hLr hr hlive1 hs3
      have hDc:Wc.heap[w.heap.size]? =some (.deferred (some [])):=by rw[U2.keep _ (ltOf hDb) (notMine sb hDb rfl)];exact hDb
      refine⟨μ3,U2.keep,U2.grow.wr,by rw[U2.keep _ (ltOf hlb) (notMine sb hlb rfl)];exact hlb,hDc,?_,U2.grow.size⟩
      exact U2.Kx _ a hsk.tsize (mkb.keep fun E _ h2=>by rw[U2.keep E (ltOf h2) (notMine sb h2 rfl)];exact h2) (fun i=>((out1 i).og tb).ER U2.grow (hS i))
    have over:∀ (jump:Option Code) (mm:ML),iI P r σ2 (St S mm)→∃μ3 Wd,(Instr.endRound (w.heap.size+1) jump).run P Wc=.ok (.bool jump.isNone) Wd∧bW P N w0 W0 L μ3 (St S mm) a Wd∧
        Wd.heap[w.heap.size+1]? =some (.loop (rec (if jump.isNone then .ready else .done) jump))∧Wd.heap[w.heap.size]? =some (.deferred (some []))∧
        (jump=none→DR (Wr W0 μk (aR (M k))) W (Wr W0 μ3 (aR mm)) Wd):=by
      intro jump mm hsits
      obtain⟨μ3,keep2,wr2,hlc,hDc,s3,hsz3⟩:=fin mm hsits
      have hend:=run_endRound (P:=P) jump hlc
      have td:dg (w.heap.size+1) Wc (Wc.putObj (w.heap.size+1) (.loop { {rec .ready none with state:=.busy} with state:=if jump.isNone then .ready else .done,pending:=jump})):=dg.put hlc rfl
      obtain⟨Wd,hWd⟩:∃Wd,Wc.putObj (w.heap.size+1) (.loop { {rec .ready none with state:=.busy} with state:=if jump.isNone then .ready else .done,pending:=jump})=Wd:=⟨_,rfl⟩
      rw[hWd] at td
      have hld:Wd.heap[w.heap.size+1]? =some (.loop (rec (if jump.isNone then .ready else .done) jump)):=by
        rw[←hWd,World.putObj_heap_same (ltOf hlc),hrec]
      refine⟨μ3,Wd,by rw[←hWd];exact hend,s3.og td (by omega) (s3.defers.keep fun E h1 h2=>?_),hld,by rw[td.blk _ (by omega)];exact hDc,fun hj=>?_⟩
      ·rw[td.blk E (fun e=>by rw[e,hlc] at h2;cases h2)];exact h2
      · have hsz1:W.heap.size≤Wa.heap.size:=hs1.hsize
        have hsz2:Wb.heap.size=Wa.heap.size:=tb.size
        refine⟨by rw[td.size];omega,fun b hb hn=>?_,fun b hb hw=>?_⟩
        · by_cases hbl:b=w.heap.size+1
          · subst hbl
            rw[hld,hl,hj];rfl
          · have h1:¬iH μk (aR (M k)) b:=fun h=>hn (.inr h)
            have h2:¬iH μ1 σ1.mem b:=fun h=>hn (U1.grow.wr b hb (.inr h))
            rw[td.blk b hbl,keep2 b (by omega) h2,tb.blk b hbl,U1.keep b hb h1]
        ·exact U1.grow.wr b hb (wr2 b (by omega) hw)
    cases e with
    | normal=>
      obtain⟨μ3,Wd,h1,h2,h3,h4,h5⟩:=over none (M (k+1)) he
      exact⟨_,Wd,h1,.inl ⟨rfl,_,⟨μ3,h2,rfl,h3,h4,hk⟩,h5 rfl⟩⟩
    | ret=>
      obtain⟨mm,hm,hq⟩:=he
      obtain⟨μ3,Wd,h1,h2,h3,h4,h5⟩:=over (some .ret) mm hm
      exact⟨_,Wd,h1,.inr ⟨rfl,.ret,.ret,mm,μ3,h2,h3,h4,.inl ⟨rfl,rfl⟩,hq⟩⟩
    | exit id=>
      obtain⟨mm,hm,hq⟩:=he
      obtain⟨μ3,Wd,h1,h2,h3,h4,h5⟩:=over (some (.exit id)) mm hm
      exact⟨_,Wd,h1,.inr ⟨rfl,.exit id,.exit id,mm,μ3,h2,h3,h4,.inr ⟨id,rfl,rfl⟩,hq⟩⟩
    |goto t=>exact he.elim
    |panic c=>exact he.elim
    |outgrown=>exact he.elim
  have hres:(resolve a.eval (rangeCall f (w.heap.size+1)) 0).run P W1=.ok {target:=.fn (.func g) vals.toArray,args:= #[.func (.yield (w.heap.size+1)) #[] #[]]} W1:=by
    simp only[resolve,hval]
    simp[go_sem]
  refine⟨w.heap.size+1,[{target:=.collected w.heap.size,args:= #[]}],W1,{target:=.fn (.func g) vals.toArray,args:= #[.func (.yield (w.heap.size+1)) #[] #[]]},W1,g,
    #[.func (.yield (w.heap.size + 1)) #[] #[]] ++ vals.toArray, W1, ?_, hres, fun _ _ => trivial, ?_, fun h => (by cases h), ?_⟩
  ·rw[←hW1,hrec];exact run_enterLoop_outer _ _ _ _ _
  ·simp[invoke,go_sem,hg _ _]
  have eargs:(#[.func (.yield (w.heap.size+1)) #[] #[]]++vals.toArray:Array Value)=(.func (.yield (w.heap.size+1)) #[] #[]::vals).toArray:=by simp
  rw[eargs]
  refine l8 (key.mono ?_)
  have hmark:∀ {W W':World} {μ':Mu} {σ':az},bW P N w0 W0 L μ' σ' a W→dg (w.heap.size+1) W W'→W.heap[w.heap.size]? =some (.deferred (some []))→(∃o,W.heap[w.heap.size+1]? =some (.loop o))→
      bW P N w0 W0 L μ' σ' {a with defers:=[{target:=.collected w.heap.size,args:= #[]}]++a.defers} W':=by
    rintro W W' μ' σ' h t hD ⟨o,hl⟩
    refine h.og t (by omega) ⟨fun h0=>absurd hdr h0,?_⟩
    obtain⟨_,Ds,d1,d2,d3⟩:=hs.defers
    obtain⟨_,Es,e1,e2,e3⟩:=h.defers
    have hE:Es=Ds:=by
      have:Es.map mK=Ds.map mK:=by rw[←e1,←d1]
      exact(List.map_inj_right (fun x y hxy=>by simpa[mK] using hxy)).1 this
    refine⟨w.heap.size::Ds,by rw[d1];rfl,List.nodup_cons.2 ⟨fun hm=>?_,d2⟩,fun D hD'=>?_⟩
    ·have:=(Array.getElem?_eq_some_iff.1 (d3 _ hm).2).1;omega
    · rcases List.mem_cons.1 hD' with rfl|hm
      ·exact⟨hDge,by rw[t.blk _ (by omega)];exact hD⟩
      · have h3:=e3 D (by rw[hE];exact hm)
        exact⟨h3.1,by rw[t.blk D (fun e=>by rw[e,hl] at h3;cases h3.2)];exact h3.2⟩
  rintro e W2 ⟨⟨v,rfl⟩,⟨Wn',μk,h1,_,h3,h4,_⟩|⟨c,e',mm,μk,h1,h2,h3,h4,h5⟩⟩
  · have hend:=run_endLoop (P:=P) h3 (by rw[hrec];simp)
    have e0:(rec .ready none).pending=none:=by rw[hrec]
    rw[e0] at hend
    refine⟨none,_,hend,μk,_,hdone,hmark h1 (dg.put h3 rfl) h4 ⟨_,h3⟩⟩
  · have hend:=run_endLoop (P:=P) h2 (by rw[hrec];simp)
    have e0:(rec .done (some c)).pending=some c:=by rw[hrec]
    rw[e0] at hend
    refine⟨some c,_,hend,?_⟩
    have hsim:=fun o'=>hmark h1 (dg.put h2 (o':=o') rfl) h3 ⟨_,h2⟩
    rcases h4 with⟨rfl,rfl⟩|⟨id,rfl,rfl⟩
    ·exact wpIn_ret ⟨μk,_,h5,hsim _⟩
    ·exact wpIn_exit ⟨μk,_,h5,hsim _⟩
@[reducible] def wj (m : ML) : Nat → Bool
  |0=>true
  | r +1=>match ej m r with
    | .live _ _ ro=>match ro with
      |true=>false
      |false=>wj m r
    |_=>false
theorem oy {m:ML}:∀ {r:Nat},wj m r=true→∀t,t<r→∃wd rows,aR m t=.live wd rows false
  |0,_,t,h=>by omega
  | r + 1, h,t,ht=>by
    simp only[wj] at h
    split at h
    · rename_i wd rows ro hm
      split at h
      ·cases h
      · rcases Nat.lt_or_ge t r with h1|h1
        ·exact oy h t h1
        · have:t=r:=by omega
          subst this
          exact⟨wd,rows,dh hm⟩
    ·cases h
@[reducible] def Ji : List Tmp → List AV → SL → SL
  |p::ps,x::xs,sl=>(p,x)::Ji ps xs sl
  |_,_,sl=>sl
theorem Ap:∀ (ps:List Tmp) (xs:List AV) (sl:SL),Ji ps xs sl=wL ps xs sl
  |[],[],_=>rfl
  |[],_::_,_=>rfl
  |_::_,[],_=>rfl
  |p::ps,x::xs,sl=>by simp only[Ji,wL,Ap ps xs sl]
def BD (nL:Nat)(sl:SL)(m:ML)(S:SL)(m':ML):Prop:=Fit nL sl m S m'
theorem BD.mk {nL:Nat}{sl:SL}{m:ML}{S:SL}{m':ML}(h:Fit nL sl m S m'):BD nL sl m S m':=h
def xJ (nL:Nat)(sl:SL)(m:ML)(S:SL){A:ML→Prop}:Prop:=∃m',Fit nL sl m S m'∧A m'
theorem xJ.mk {nL:Nat}{sl:SL}{m:ML}{S:SL}{A:ML→Prop}(m':ML)(h:Fit nL sl m S m')(ha:A m'):xJ nL sl m S (A:=A):=⟨m',h,ha⟩
@[reducible] def ON (r : Nat) (S : SL) (m' : ML) (Q : Exit → SL → ML → Prop) (e : Exit) (sl : SL) (m : ML) : Prop :=
  match e with
  |.normal=>BD r sl m S m'
  |.ret=>xJ r sl m S (A:=fun m'=>Q .ret S m')
  |.exit id=>xJ r sl m S (A:=fun m'=>Q (.exit id) S m')
  |_=>False
def wS (r:Nat)(sl:SL)(m:ML){A:SL→ML→Prop}:Prop:=wj m r=true∧A sl m
theorem wS.mk {r:Nat}{sl:SL}{m:ML}{A:SL→ML→Prop}(h:wj m r=true)(ha:A sl m):wS r sl m (A:=A):=⟨h,ha⟩
@[reducible] def wZ (N : Nat) : List Nat → Bool
  |[]=>true
  | p::ps=>match Nat.ble (Nat.add p 1) N with
    |true=>wZ N ps
    |false=>false
theorem uf {N:Nat}:∀ {l:List Nat},wZ N l=true→∀p∈l,p<N
  |[],_,p,h=>by cases h
  | q ::l,h,p,hp=>by
    simp only[wZ] at h
    split at h
    · rename_i hb
      rcases List.mem_cons.1 hp with rfl|hm
      ·exact fu hb
      ·exact uf h p hm
    ·cases h
def Jn (r:Nat):SL→Bool
  |[]=>true
  |(_,x)::l=>nX r x&&Jn r l
theorem AK {r:Nat}:∀ {S:SL},Jn r S=true→∀i,nX r (bR S i)=true
  |[],_,i=>rfl
  | (d,x)::l,h,i=>by
    simp only[Jn,Bool.and_eq_true] at h
    simp only[bR]
    cases i==d with
    |true=>exact h.1
    |false=>exact AK h.2 i
theorem aU.range {P:Program}{N nL:Nat}{sl:SL}{m:ML}{f:Operand}{ps:Array Tmp}{assign body:Code}{Q:Exit→SL→ML→Prop}{g:FuncId}{caps:List AV}{n:Nat}{enc:Nat→List AV}(Γ:cM)(hΓ:Γ.Good P)
    (r:Nat) (S:SL) (M:Nat→ML) (hit:Dd P g caps n enc) (hg:ae P g) (h0:Fit nL sl m S (M 0)) (hf:fe S f=.clo (.func g) [] caps)
    (hr:(Nat.ble nL r=true∧Nat.ble r jK=true)∧Jn r S=true) (hlive:∀k,k≤n→wj (M k) r=true) (henc:∀k,k<n→fq (enc k)=fq ps.toList)
    (hps:(tO ps.toList=true∧wZ N ps.toList=true)∧cG assign=true∧cG body=true)
    (round:∀k,k<n→Bw P N r Γ assign (Ji ps.toList (enc k) S) (M k) (fun e sl m=>match e with
      |.normal=>wS r sl m (A:=fun sl m=>Bw P N r Γ body sl m (ON r S (M (k+1)) Q))
      |_=>False))
    (hdone:Q .normal S (M n)):aU P N nL sl m (c:=.rangeFunc f ps assign body) (Q:=Q):=by
  refine gz.range r S M hit hg h0.xq ?_ (fu hr.1.1) (fu hr.1.2) (fun k hk t ht=>oy (hlive k hk) t ht) (AK hr.2) (fun k hk=>?_) (qe hps.1.1) (uf hps.1.2) hps.2.1 hps.2.2 (fun k hk=>?_) ⟨S,M n,rfl,hdone⟩
  ·rw[ev_eq];exact hf
  · have:=henc k hk
    rw[cP,cP] at this
    simpa using this
  · rw [←Ap]
    refine(qK hΓ _ _ _ _ (round k hk)).mono ?_
    rintro e σ ⟨sl',m',rfl,h⟩
    cases e with
    | normal=>
      refine⟨rfl,fun t ht=>oy h.1 t ht,(qK hΓ _ _ _ _ h.2).mono ?_⟩
      rintro e σ ⟨sl2,m2,rfl,h2⟩
      cases e with
      |normal=>exact Fit.xq h2
      |ret=>obtain⟨m3,h3,h4⟩:=h2;exact⟨m3,h3.xq,S,m3,rfl,h4⟩
      |exit id=>obtain⟨m3,h3,h4⟩:=h2;exact⟨m3,h3.xq,S,m3,rfl,h4⟩
      |goto t=>exact h2.elim
      |panic c=>exact h2.elim
      |outgrown=>exact h2.elim
    |ret=>exact h.elim
    |exit id=>exact h.elim
    |goto t=>exact h.elim
    |panic c=>exact h.elim
    |outgrown=>exact h.elim
theorem hK {acc:Tk}{sl:SL}{m:ML}{A:Tk→SL→ML→Prop}(h:A acc sl m):E9 acc sl m (A:=A):=h
theorem sK {sl:SL}{m:ML}{A:SL→ML→Prop}(h:A sl m):FX sl m (A:=A):=h
theorem nK {p:Prop}{acc:Tk}{sl:SL}{m:ML}{A:Tk→SL→ML→Prop}(h1:A acc sl m)(h:p:=by(try simp only[aF]);omega):eY p acc sl m (A:=A):=⟨h,h1⟩
theorem dK {P:Program}{l:List Oper}{acc:Tk}{sl:SL}{m:ML}{A:SL→ML→Prop}(h4:A sl m)(h1:P.follows .mixedOrders=true:=by kernel_rfl)(h2:Region.lexB .any l.toArray=true:=by kernel_rfl)(h3:(BF l.toArray acc||jQ l.toArray acc)=true:=by kernel_rfl):bI P acc sl m (l:=l) (A:=A):=⟨h1,h2,h3,h4⟩
theorem wK {p q:Prop}(h:q)(e:q→p:=by intro hQ;with_reducible ((conv=>whnf);(conv=>congr<;>reduce);repeat((first|refine hK ?_|refine sK ?_);(conv=>whnf);(conv=>congr<;>reduce)));exact hQ):p:=e h
theorem wD {p q:Prop}(h:q)(e:q→p:=by intro hQ;delta List.toArray;with_reducible ((conv=>whnf);(conv=>congr<;>reduce);repeat((first|refine hK ?_|refine sK ?_);(conv=>whnf);(conv=>congr<;>reduce)));exact hQ):p:=e h
theorem gK {p q:Prop}(h:q)(e:q→p:=by
    intro hQ
    first
      |((with_reducible show bq _ _ _ _);first|refine bq.ff ?_|refine bq.tt ?_|refine bq.no (by clear hQ;first|rfl|assumption|exact nf (by assumption)|exact nt (by assumption)|((try simp only[aF]);first|(simp;done)|(simp;omega))) ?_|refine bq.yes (by clear hQ;first|rfl|assumption|exact nf (by assumption)|exact nt (by assumption)|((try simp only[aF]);first|(simp;done)|(simp;omega))) ?_)
      |((with_reducible show eY _ _ _ _);refine eY.mk (by clear hQ;(try simp only[aF]);omega) ?_)
      |((with_reducible show bI _ _ _ _);refine dK ?_)
    with_reducible ((conv=>whnf);(conv=>congr<;>reduce);repeat((first|refine hK ?_|refine sK ?_);(conv=>whnf);(conv=>congr<;>reduce)))
    exact hQ):p:=e h
theorem gF {p q:Prop}(h:q)(e:q→p:=by
    intro hQ
    first
      |((with_reducible show bq _ _ _ _);first|refine bq.ff ?_|refine bq.tt ?_|refine bq.no (by clear hQ;first|rfl|assumption|exact nf (by assumption)|exact nt (by assumption)|((try simp only[aF]);first|(simp[fct];done)|(simp[fct];omega))) ?_|refine bq.yes (by clear hQ;first|rfl|assumption|exact nf (by assumption)|exact nt (by assumption)|((try simp only[aF]);first|(simp[fct];done)|(simp[fct];omega))) ?_)
      |((with_reducible show eY _ _ _ _);refine eY.mk (by clear hQ;(try simp only[aF]);omega) ?_)
      |((with_reducible show bI _ _ _ _);refine dK ?_)
    with_reducible ((conv=>whnf);(conv=>congr<;>reduce);repeat((first|refine hK ?_|refine sK ?_);(conv=>whnf);(conv=>congr<;>reduce)))
    exact hQ):p:=e h
theorem iK {p q:Prop}(h:q)(e:q→p:=by
    intro hQ
    first
      |refine bq.yes (by clear hQ;assumption) ?_
      |refine bq.no (by clear hQ;assumption) ?_
      |with_reducible refine bq.yes Bool.not_false ?_
      |with_reducible refine bq.no Bool.not_true ?_
      |with_reducible refine bq.yes (nf (by clear hQ;assumption)) ?_
      |with_reducible refine bq.no (nt (by clear hQ;assumption)) ?_
      |with_reducible refine bq.tt ?_
      |with_reducible refine bq.ff ?_
    with_reducible ((conv=>whnf);(conv=>congr<;>reduce);repeat((first|refine hK ?_|refine sK ?_);(conv=>whnf);(conv=>congr<;>reduce)))
    exact hQ):p:=e h
theorem eK {x y c d c' d':Prop}(h1:c')(h2:d')(hx:x:=by rfl)(hy:y:=by rfl)(e1:c'→c:=by first|(intro hQ;with_reducible (conv=>whnf);exact hQ)|(refine fun(hQ:True)=>?_;with_reducible (conv=>whnf);done))(e2:d'→d:=by first|(intro hQ;with_reducible (conv=>whnf);exact hQ)|(refine fun(hQ:True)=>?_;with_reducible (conv=>whnf);done)):(x∧y)∧c∧d:=⟨⟨hx,hy⟩,e1 h1,e2 h2⟩
theorem aK {c d c' d':Prop}(h1:c')(h2:d')(e1:c'→c:=by first|(intro hQ;with_reducible (conv=>whnf);exact hQ)|(refine fun(hQ:True)=>?_;with_reducible (conv=>whnf);done))(e2:d'→d:=by first|(intro hQ;with_reducible (conv=>whnf);exact hQ)|(refine fun(hQ:True)=>?_;with_reducible (conv=>whnf);done)):c∧d:=⟨e1 h1,e2 h2⟩
theorem fK {x y c c':Prop}(h1:c')(hx:x:=by rfl)(hy:y:=by rfl)(e1:c'→c:=by first|(intro hQ;with_reducible (conv=>whnf);exact hQ)|(refine fun(hQ:True)=>?_;with_reducible (conv=>whnf);done)):(x∧y)∧c:=⟨⟨hx,hy⟩,e1 h1⟩
theorem pK {p q:Prop}(h:q)(e:q→p:=by
    intro hQ
    first
      |((with_reducible show bq _ _ _ _);first|refine bq.ff ?_|refine bq.tt ?_|refine bq.no (by clear hQ;first|rfl|assumption|exact nf (by assumption)|exact nt (by assumption)|exact decide_eq_true (by(try simp only[aF]);omega)|exact decide_eq_false (by(try simp only[aF]);omega)|(simp only[aF,Bool.not_eq_true',Bool.not_eq_false',decide_eq_true_eq,decide_eq_false_iff_not];omega)) ?_|refine bq.yes (by clear hQ;first|rfl|assumption|exact nf (by assumption)|exact nt (by assumption)|exact decide_eq_true (by(try simp only[aF]);omega)|exact decide_eq_false (by(try simp only[aF]);omega)|(simp only[aF,Bool.not_eq_true',Bool.not_eq_false',decide_eq_true_eq,decide_eq_false_iff_not];omega)) ?_)
      |((with_reducible show eY _ _ _ _);refine eY.mk (by clear hQ;(try simp only[aF]);omega) ?_)
      |((with_reducible show bI _ _ _ _);refine dK ?_)
    with_reducible ((conv=>whnf);(conv=>congr<;>reduce);repeat((first|refine hK ?_|refine sK ?_);(conv=>whnf);(conv=>congr<;>reduce)))
    exact hQ):p:=e h
theorem pF {p q:Prop}(h:q)(e:q→p:=by
    intro hQ
    first
      |((with_reducible show bq _ _ _ _);first|refine bq.ff ?_|refine bq.tt ?_|refine bq.no (by clear hQ;first|rfl|assumption|exact nf (by assumption)|exact nt (by assumption)|exact decide_eq_true (by(try simp only[aF]);omega)|exact decide_eq_false (by(try simp only[aF]);omega)|(simp only[aF,Bool.not_eq_true',Bool.not_eq_false',decide_eq_true_eq,decide_eq_false_iff_not];omega)|((try simp only[aF]);first|(simp[fct];done)|(simp[fct];omega))) ?_|refine bq.yes (by clear hQ;first|rfl|assumption|exact nf (by assumption)|exact nt (by assumption)|exact decide_eq_true (by(try simp only[aF]);omega)|exact decide_eq_false (by(try simp only[aF]);omega)|(simp only[aF,Bool.not_eq_true',Bool.not_eq_false',decide_eq_true_eq,decide_eq_false_iff_not];omega)|((try simp only[aF]);first|(simp[fct];done)|(simp[fct];omega))) ?_)
      |((with_reducible show eY _ _ _ _);refine eY.mk (by clear hQ;(try simp only[aF]);omega) ?_)
      |((with_reducible show bI _ _ _ _);refine dK ?_)
    with_reducible ((conv=>whnf);(conv=>congr<;>reduce);repeat((first|refine hK ?_|refine sK ?_);(conv=>whnf);(conv=>congr<;>reduce)))
    exact hQ):p:=e h
theorem fN {P:Program}:cM.Good P []:=fun _ h=>by simp at h
theorem fC {P:Program}{t:Nat}{x:TI}{r:cM}(h:cM.Good P r)(h1:TI.ok P t x):cM.Good P ((t,x)::r):=List.forall_mem_cons.2 ⟨h1,h⟩
theorem fS {P:Program}{t:Nat}{z:Value}{r:cM}(h:cM.Good P r)(h1:j0 P t:=by exact fun _=>by kernel_rfl)(h2:eZ P t 1:=by exact fun _=>by kernel_rfl)(h3:jT P t z:=by exact fun _=>by kernel_rfl):cM.Good P ((t,.sc z)::r):=fC h ⟨h1,h2,h3⟩
theorem fB {P:Program}{t:Nat}{r:cM}(h:cM.Good P r)(h1:j0 P t:=by exact fun _=>by kernel_rfl)(h2:eZ P t 1:=by exact fun _=>by kernel_rfl)(h3:jT P t (.bool false):=by exact fun _=>by kernel_rfl)(h4:P.underlying t=some .bool:=by kernel_rfl):cM.Good P ((t,.bl)::r):=fC h ⟨h1,h2,h3,h4⟩
theorem fG {P:Program}{t:Nat}{r:cM}(h:cM.Good P r)(h1:j0 P t:=by exact fun _=>by kernel_rfl)(h2:eZ P t 1:=by exact fun _=>by kernel_rfl)(h3:jT P t (.string ByteArray.empty):=by exact fun _=>by kernel_rfl)(h4:P.underlying t=some .string:=by kernel_rfl):cM.Good P ((t,.str)::r):=fC h ⟨h1,h2,h3,h4⟩
theorem fL {P:Program}{t e wd b:Nat}{r:cM}(h:cM.Good P r)(h1:j0 P t:=by exact fun _=>by kernel_rfl)(h2:eZ P t 1:=by exact fun _=>by kernel_rfl)(h3:jT P t (.slice none 0 0):=by exact fun _=>by kernel_rfl)(h4:eZ P e wd:=by exact fun _=>by kernel_rfl)
    (h5:wY P t e wd b ((P.info? e).getD default) (((P.info? e).getD default).zero.getD default):=by exact⟨by kernel_rfl,by kernel_rfl,by kernel_rfl,by kernel_rfl,by kernel_rfl,by kernel_rfl⟩):cM.Good P ((t,.sl e wd b)::r):=fC h ⟨h1,h2,h3,h4,_,_,h5⟩
def FF (P:Program)(t:Nat):Nat→List (Nat×TypeId)→Prop
  |_,[]=>True
  |k,(off,ft)::r=>(rQ P t k off∧vz P t k off ft)∧FF P t (k+1) r
theorem Ij {P:Program}{t:Nat}:∀ (fs:List (Nat×TypeId)) (k:Nat),FF P t k fs→∀ (f off:Nat) (ft:TypeId),fs[f]? =some (off,ft)→rQ P t (k+f) off∧vz P t (k+f) off ft
  |[],_,_,f,off,ft,h=>by simp at h
  | (o,u)::r,k,hF,0,off,ft,h=>by
    simp at h;obtain⟨rfl,rfl⟩:=h;exact hF.1
  | (o,u)::r,k,hF,f+1,off,ft,h=>by
    have:=Ij r (k+1) hF.2 f off ft (by simpa using h)
    rwa [show k+1+f=k+ (f+1) by omega] at this
theorem Hs (fs:List (Nat×TypeId))(szs:List Nat)(i:Nat):(match fs[i]?,szs[i]? with|some (off,_),some sz=>some (off,sz)|_,_=>none)=((fs.map Prod.fst).zip szs).toArray[i]? :=by
  simp only[List.getElem?_toArray]
  induction fs generalizing szs i with
  |nil=>simp
  | cons a l ih=>
    cases szs with
    |nil=>obtain⟨a1,a2⟩:=a;cases i<;>simp<;>split<;>simp_all
    | cons b m=>cases i with
      |zero=>simp
      |succ i=>simpa using ih m i
theorem fT {P:Program}{t n:Nat}{fs:List (Nat×TypeId)}{z:Array Value}{szs:List Nat}{fields:Array Field}{r:cM}(hu:P.underlying t=some (.struct fields))(h:cM.Good P r)(h1:F8 P t:=by exact fun _=>by kernel_rfl)(h2:eZ P t n:=by exact fun _=>by kernel_rfl)(h3:jT P t (.agg z):=by exact fun _=>by kernel_rfl)
    (h4:FF P t 0 fs:=by repeat' (first|exact trivial|(refine And.intro ⟨fun _ _=>?_,fun _ _=>?_⟩ ?_)|kernel_rfl))
    (h5:∀w,(fields.toList.mapM (m:=Sem) fun f=>do pure (f.offset,←sizeOf f.type)).run P w=.ok ((fs.map Prod.fst).zip szs) w:=by exact fun _=>by kernel_rfl):cM.Good P ((t,.st n fs z szs)::r):=
  fC h ⟨h1,h2,h3,fun f off ft hf=>by have:=Ij fs 0 h4 f off ft hf;rwa [Nat.zero_add] at this,wE.mk (places:=((fs.map Prod.fst).zip szs).toArray) hu h3 h5 (Hs fs szs)⟩
theorem qA {b c:Bool}(h:b=c:=by first|rfl|assumption|exact nf (by assumption)|exact nt (by assumption)):b=c:=h
section
variable {P : Program} {N : Nat} {o : Oper} {args args' : List AV} {acc : Tk} {sl : SL} {m : ML} {R : Rest} {res : AV}
theorem kQ (f:Nat)(h:aj P N f args acc sl m (o:=o) (R:=R)):aj P N f args acc sl m (o:=o) (R:=R):=h
theorem cL {f:FuncId}(hf:ah P f [] args' [] res)(hc:ae P f)(h:R [] res [] acc sl m)(ha:wW [] m args' args:=by(repeat' (first|exact trivial|exact rfl|refine⟨?_,?_⟩));first|done|fail)(hd:nO N o.dst=true:=by exact rfl)(hp:qt res=true:=by exact rfl):
    aj P N f args acc sl m (o:=o) (R:=R):=aj.lit [] hf hc ha hd hp h
theorem cV {f:FuncId}(hf:ah P f [] args' [] res)(hc:ae P f)(h:R [] res [] acc sl m)(ha:wW [] m args' args:=by(repeat' (first|exact trivial|exact rfl|refine⟨?_,?_⟩));first|done|fail)(hd:nO N o.dst=true:=by exact rfl)(hp:bj res=true:=by exact rfl):
    aj P N f args acc sl m (o:=o) (R:=R):=aj.val [] hf hc ha rfl hd hp h
end
theorem aE {p c d:Prop}(h1:c)(h2:d)(e:c→d→p:=by
    intro hA hB
    first
      |(with_reducible show(_=true∧_=true)∧_∧_);refine⟨⟨rfl,rfl⟩,?_,?_⟩
      |(with_reducible show _∧_);refine⟨?_,?_⟩
    ·first|(with_reducible (conv=>whnf);exact hA)|(have hT:True:=hA;with_reducible (conv=>whnf);done)
    ·first|(with_reducible (conv=>whnf);exact hB)|(have hT:True:=hB;with_reducible (conv=>whnf);done)):p:=e h1 h2
theorem kS.of {R:AV→AV→Prop}:∀ {a b:List AV},EC R a b→kS R a b
  |[],[],_=>⟨rfl,fun i x y h=>by simp at h⟩
  | x::xs,y::ys,h=>by
    obtain⟨h1,h2⟩:=kS.of h.2
    refine⟨by simp[h1],fun i u v hu hv=>?_⟩
    cases i with
    |zero=>cases hu;cases hv;exact h.1
    |succ i=>exact h2 i u v hu hv
  |[],_::_,h=>h.elim
  |_::_,[],h=>h.elim
def JL (wd:Nat)(rows:List AV):Bool:=rows.all fun r=>(cells r).length==wd
def FQ (m:ML):Bool:=m.all fun p=>match p.2 with
  |.live wd rows _=>JL wd rows
  |_=>true
theorem Jg {m:ML}(h:FQ m=true):∀t wd rows ro,ej m t=.live wd rows ro→bw wd rows:=by
  induction m with
  |nil=>intro t wd rows ro h;cases h
  | cons p r ih=>
    intro t wd rows ro hl
    obtain⟨a,b⟩:=p
    unfold FQ at h
    rw[List.all_cons,Bool.and_eq_true] at h
    rw[lu] at hl
    simp only[aR] at hl
    cases hta:t==a with
    | true=>
      rw[hta] at hl
      change b=_ at hl
      subst hl
      exact bw.eD fun x hx=>by simpa using(List.all_eq_true.1 h.1) x hx
    | false=>
      rw[hta] at hl
      exact ih h.2 t wd rows ro (by rw[lu];exact hl)
theorem ah.frozen {P:Program}{f:FuncId}{args:List AV}{outs:List MS}{res res':AV}(m:ML)(hm:aR m=aO outs)(hw:FQ m=true)(h:ah P f [] args outs res)(hcv:MF [] (fun _=>true) m 12 res' res):ah P f [] args [] res':=by
  intro w W0 L vs hL hs hargs
  refine(h w W0 L vs hL hs hargs).mono ?_
  rintro e w' ⟨v,μ',rfl,hs',hv⟩
  have hLn:∀t,L t=none:=fun t=>hL t (Nat.zero_le _)
  have hW:∀b,Wr W0 (fun _=>none) (aO []) b→W0 b:=by
    rintro b (h|⟨t,B,wd,rows,_,h,_⟩)
    ·exact h
    ·cases h
  refine⟨v,fun _=>none,rfl,?_,?_⟩
  ·refine⟨hs'.tsize,hs'.defers,hs'.os,hs'.tape,hs'.output,hs'.hsize,hs'.shp,hs'.keep,hs'.w0lt,fun t B _ h=>(by rw[hLn] at h;cases h),fun t=>by simp[bare,aO],fun _=>.any,fun t wd rows ro h=>?_,fun t t' wd rows wd' rows' ro' B B' _ h=>?_,fun t wd rows ro B h=>?_,hs'.tabs⟩<;>simp[bare,aO] at h
  · have hc:Cv (aR m) (iU []) (fun _=>False) (fun t=> ∃wd rows ro,aR m t=.live wd rows ro) res' res:=
      th (fun t wd rows ro h _=>Jg hw t wd rows ro h) (fun t u h=>by cases h) (fun t wd rows ro h _=>⟨wd,rows,ro,by rw[←lu];exact h⟩) 12 res' res hcv
    rw[hm] at hc
    refine Cv.rep (W:=Wr W0 μ' (aO outs)) (μ:=μ') (fun t wd rows ro h=>hs'.objs t wd rows ro h) (fun b _ hb=>.inl (hW b hb)) (fun t h=>h.elim) ?_ hc hv
    rintro s B ⟨wd,rows,ro,hl⟩ hB hv hb
    exact(hs'.out s wd rows ro B hl hB hv).1 (hW _ hb)

end Go.Am
