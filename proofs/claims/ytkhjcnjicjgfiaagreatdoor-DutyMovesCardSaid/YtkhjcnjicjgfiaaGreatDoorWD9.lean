/- Walks of functions by unfolding over abstract states; runs of functions by an evaluator that is proved. By an AI agent. -/
import Derived.Test.YtkhjcnjicjgfiaaGreatDoorWD8
import Derived.Test.YtkhjcnjicjgfiaaGreatDoorWD5
set_option linter.unusedSimpArgs false
set_option linter.unusedVariables false
namespace Go.Am
open Go
@[reducible] def mJ : List (Nat × Nat) → Nat → Option Nat
  |[],_=>none
  | (k,x)::r,i=>match Nat.beq i k with
    |true=>some x
    |false=>mJ r i
def gH (tab:List (Nat×Nat))(t:Nat):Nat:=(mJ tab t).getD t
def cH (R:AV→AV→Prop)(a b:List AV):Prop:=a.length=b.length∧∀ (i:Nat) (x y:AV),a[i]? =some x→b[i]? =some y→R x y
def sN (m:ML)(fz:Nat→Bool)(R:AV→AV→Prop)(r:AV)(t off len:Nat):Prop:=
  ∃wd rows ro rows',dc m t=.live wd rows ro∧fz t=true∧r=.sl wd rows'∧off+len≤rows.length∧aV rows'=true∧cH R rows' ((rows.drop off).take len)
def Mx (m:ML)(fz:Nat→Bool)(R:AV→AV→Prop)(r:AV)(t i k:Nat):Prop:=
  ∃wd rows ro x y,dc m t=.live wd rows ro∧fz t=true∧r=.fptr x k∧rows[i]? =some y∧bj x=true∧R x y
def Fm (m:ML)(fz:Nat→Bool)(r:AV)(t:Nat):Prop:=
  ∃wd rows ro,dc m t=.live wd rows ro∧fz t=true∧r=.fmap rows∧∀x∈rows,∃key y,x=entry key y∧bj y=true
def wX (r:AV):Prop:=r=.lit (.slice none 0 0)∨r=.emp∨∃wd,r=.sl wd []
def KT (r:AV):Prop:=r=.emp∨∃wd,r=.sl wd []
@[reducible] def u5 (f : AV → AV → Prop) : List AV → List AV → Prop
  |[],[]=>True
  |r::rs,x::xs=>f r x∧u5 f rs xs
  |_,_=>False
@[reducible] def MF (tab : List (Nat × Nat)) (fz : Nat → Bool) (m : ML) : Nat → AV → AV → Prop
  |0,r,x=>r=x∧bj x=true
  | n + 1, r,x=>match x with
    | .own t off len=>match r with
      | .own t' off' len'=>match mJ tab t' with
        | some u=>match Nat.beq u t with
          |true=>off'=off∧len'=len
          |false=>False
        |none=>False
      |r=>sN m fz (MF tab fz m n) r t off len
    | .ptr t i k=>match r with
      | .ptr t' i' k'=>match mJ tab t' with
        | some u=>match Nat.beq u t with
          |true=>i'=i∧k'=k
          |false=>False
        |none=>False
      |r=>Mx m fz (MF tab fz m n) r t i k
    | .mapr t=>match r with
      | .mapr t'=>match mJ tab t' with
        | some u=>match Nat.beq u t with
          |true=>True
          |false=>False
        |none=>False
      |r=>Fm m fz r t
    | .agg cs=>match r with
      |.agg rs=>u5 (MF tab fz m n) rs cs
      |r=>r=x∧bj x=true
    | .tup cs=>match r with
      |.tup rs=>u5 (MF tab fz m n) rs cs
      |r=>r=x∧bj x=true
    | .clo f a b=>match r with
      |.clo f' a' b'=>f'=f∧u5 (MF tab fz m n) a' a∧u5 (MF tab fz m n) b' b
      |r=>r=x∧bj x=true
    | .lit (.slice ad a c)=>match nY (.slice ad a c) with
      |true=>wX r
      |false=>r=x∧bj x=true
    | .lit (.int k b)=>match r with
      | .lit (.int k' a)=>match Nat.beq (qX k') (qX k) with
        |true=>a=b
        |false=>False
      |r=>r=x
    | .lit (.bool b)=>match r with
      |.lit (.bool a)=>a=b
      |r=>r=x
    | .lit (.string b)=>match r with
      |.lit (.string a)=>a=b
      |r=>r=x
    | .sl wd rows=>match r with
      | .sl wd' rows'=>match rT wd' wd with
        |true=>rows'=rows
        |false=>False
      |r=>r=x
    |.emp=>KT r
    |x=>r=x∧bj x=true
section
variable {tab : List (Nat × Nat)} {fz : Nat → Bool} {m : ML} {D F : Nat → Prop}
theorem jE {R:AV→AV→Prop}{mm:Nat→MS}{ρ:Nat→Nat}:∀ {rs xs:List AV},(∀r x,R r x→Cv mm ρ D F r x)→u5 R rs xs→gJ mm ρ D F rs xs
  |[],[],_,_=>.nil
  |_::_,_::_,hR,h=>.cons (hR _ _ h.1) (jE hR h.2)
  |[],_::_,_,h=>h.elim
  |_::_,[],_,h=>h.elim
theorem CJ {R:AV→AV→Prop}:∀ {rs xs:List AV},u5 R rs xs→rs.length=xs.length
  |[],[],_=>rfl
  |_::_,_::_,h=>by simp[CJ h.2]
  |[],_::_,h=>h.elim
  |_::_,[],h=>h.elim
theorem wX.one {r:AV}(h:wX r):cells r=[r]:=by
  rcases h with rfl|rfl|⟨wd,rfl⟩<;>rfl
theorem KT.one {r:AV}(h:KT r):cells r=[r]:=by
  rcases h with rfl|⟨wd,rfl⟩<;>rfl
theorem w5:∀ {n:Nat} {r x:AV},MF tab fz m n r x→(cells r).length=(cells x).length
  |0,r,x,h=>by rw[h.1]
  | n +1,r,x,h=>by
    unfold MF at h
    split at h
    · split at h
      ·rfl
      ·obtain⟨wd,rows,ro,rows',_,_,rfl,_⟩:=h;rfl
    · split at h
      ·rfl
      ·obtain⟨wd,rows,ro,a,b,_,_,rfl,_⟩:=h;rfl
    · split at h
      ·rfl
      ·obtain⟨wd,rows,ro,_,_,rfl,_⟩:=h;rfl
    · split at h
      ·exact CJ h
      ·rw[h.1]
    · split at h
      ·rfl
      ·rw[h.1]
    · split at h
      ·rfl
      ·rw[h.1]
    · split at h
      ·rw[h.one];rfl
      ·rw[h.1]
    · split at h
      ·rfl
      ·rw[h]
    · split at h
      ·rfl
      ·rw[h]
    · split at h
      ·rfl
      ·rw[h]
    · split at h
      ·rfl
      ·rw[h]
    ·rw[h.one];rfl
    ·rw[h.1]
theorem cI {t:Nat}{s:MS}(h:dc m t=s):aN m t=s:=by rw[←gM];exact h
theorem kL (hw:∀t wd rows ro,dc m t=.live wd rows ro→fz t=true→bB wd rows)(hD:∀t u,mJ tab t=some u→D t)(hF:∀t wd rows ro,dc m t=.live wd rows ro→fz t=true→F t):
    ∀ (n:Nat) (r x:AV),MF tab fz m n r x→Cv (aN m) (gH tab) D F r x
  |0,r,x,h=>by rw[h.1];exact .same h.2
  | n + 1, r,x,h=>by
    have ih:=kL hw hD hF n
    unfold MF at h
    split at h
    · split at h
      · split at h
        · rename_i t off len _ t' off' len' _ u hu
          split at h
          · rename_i hb
            have hb':=beq_eq hb
            subst hb'
            obtain⟨rfl,rfl⟩:=h
            have:gH tab t'=u:=by simp[gH,hu]
            rw[←this]
            exact .own (hD _ _ hu)
          ·exact h.elim
        ·exact h.elim
      · obtain⟨wd,rows,ro,rows',h1,h2,rfl,h4,h5,h6⟩:=h
        have hwr:=hw _ _ _ _ h1 h2
        have hcl:gJ (aN m) (gH tab) D F rows' ((rows.drop _).take _):=⟨h6.1,fun q c d a b=>ih _ _ (h6.2 q c d a b)⟩
        refine .FT (hF _ _ _ _ h1 h2) (cI h1) ?_ hwr h4 hcl h5
        intro i y hy
        have hi:=(br hy).1
        rw[h6.1] at hi
        have hz:=bh hi
        rw[w5 (h6.2 i _ _ hy hz)]
        exact hwr.mem (List.mem_of_mem_drop (List.mem_of_mem_take (bN hz)))
    · split at h
      · split at h
        · rename_i t i k _ t' i' k' _ u hu
          split at h
          · rename_i hb
            have hb':=beq_eq hb
            subst hb'
            obtain⟨rfl,rfl⟩:=h
            have:gH tab t'=u:=by simp[gH,hu]
            rw[←this]
            exact .ptr (hD _ _ hu)
          ·exact h.elim
        ·exact h.elim
      · obtain⟨wd,rows,ro,a,b,h1,h2,rfl,h4,h5,h6⟩:=h
        have hwr:=hw _ _ _ _ h1 h2
        have hlen:=w5 h6
        have hc:=(ih _ _ h6).cells hlen
        exact .frzp (hF _ _ _ _ h1 h2) (cI h1) h4 (by rw[hlen];exact hwr _ _ h4) (fun q c d h1 h2=>hc.2 q c d h1 h2) (fun c hc=>nk h5 hc)
    · split at h
      · split at h
        · rename_i t _ t' _ u hu
          split at h
          · rename_i hb
            have hb':=beq_eq hb
            subst hb'
            have:gH tab t'=u:=by simp[gH,hu]
            rw[←this]
            exact .mapr (hD _ _ hu)
          ·exact h.elim
        ·exact h.elim
      · obtain⟨wd,rows,ro,h1,h2,rfl,h4⟩:=h
        refine .fmap (hF _ _ _ _ h1 h2) (cI h1) rfl (fun i r' hr=>?_) (fun i key key' x' x k1 k2=>?_) (fun r hr=>?_)
        · obtain⟨key,y,rfl,_⟩:=h4 r' (bN hr)
          exact⟨key,y,y,rfl,hr⟩
        · rw[k1] at k2
          have k3:=Option.some.inj k2
          simp only[entry,AV.agg.injEq,List.cons.injEq,AV.tup.injEq,and_true] at k3
          obtain⟨key2,y2,k4,k5⟩:=h4 _ (bN k1)
          simp only[entry,AV.agg.injEq,List.cons.injEq,AV.tup.injEq,and_true] at k4
          rw[←k3.2,k4.2];exact .same k5
        · obtain⟨key,y,rfl,h5⟩:=h4 r hr
          simp[entry,bj,aV,h5]
    · split at h
      ·exact .tT (jE ih h)
      ·rw[h.1];exact .same h.2
    · split at h
      ·exact .ue (jE ih h)
      ·rw[h.1];exact .same h.2
    · split at h
      · obtain⟨rfl,h1,h2⟩:=h
        exact .KS (jE ih h1) (jE ih h2)
      ·rw[h.1];exact .same h.2
    · split at h
      · rename_i hn
        have hn':=eS hn
        cases hn'
        rcases h with rfl|rfl|⟨wd,rfl⟩
        ·exact .same rfl
        ·exact .nilE
        ·exact .nil
      ·rw[h.1];exact .same h.2
    · split at h
      · split at h
        · rename_i hk
          rw[h,yf hk];exact .same rfl
        ·exact h.elim
      ·rw[h];exact .same rfl
    · split at h
      ·rw[h];exact .same rfl
      ·rw[h];exact .same rfl
    · split at h
      ·rw[h];exact .same rfl
      ·rw[h];exact .same rfl
    · split at h
      · split at h
        · rename_i hb
          rw[dW] at hb;rw[h,beq_eq hb];exact .same rfl
        ·exact h.elim
      ·rw[h];exact .same rfl
    · rcases h with rfl|⟨wd,rfl⟩
      ·exact .same rfl
      ·exact .empS
    ·rw[h.1];exact .same h.2
theorem je:∀ (n:Nat) (x:AV),bj x=true→MF tab fz m n x x
  |0,x,h=>⟨rfl,h⟩
  | n + 1,x,h=>by
    have list:∀cs:List AV,aV cs=true→u5 (MF tab fz m n) cs cs:=by
      intro cs
      induction cs with
      |nil=>intro _;trivial
      | cons c cs ih=>
        intro hh
        simp only[aV,bJ] at hh
        exact⟨je n c hh.1,ih hh.2⟩
    cases x with
    |own=>simp[bj] at h
    |ptr=>simp[bj] at h
    |mapr=>simp[bj] at h
    |agg cs=>exact list cs (by simpa only[bj] using h)
    |tup cs=>exact list cs (by simpa only[bj] using h)
    | clo f a b=>
      simp only[bj,bJ] at h
      exact⟨rfl,list a h.1,list b h.2⟩
    | sl wd rows=>
      show(match rT wd wd with|true=>rows=rows|false=>False)
      rw[dW,Nat.beq_refl]
    |emp=>exact .inl rfl
    | lit v=>
      cases v with
      | int k b=>
        show(match Nat.beq (qX k) (qX k) with|true=>b=b|false=>False)
        rw[Nat.beq_refl]
      |bool b=>rfl
      |string b=>rfl
      | slice ad a c=>
        show(match nY (.slice ad a c) with|true=>wX _|false=>_=_∧_)
        split
        ·rename_i hn;exact .inl (by rw[eS hn])
        ·exact⟨rfl,rfl⟩
      |_=>exact⟨rfl,rfl⟩
    |_=>exact⟨rfl,h⟩
theorem cH.refl {n:Nat}{rows:List AV}(h:aV rows=true):cH (MF tab fz m n) rows rows:=
  ⟨rfl,fun i x y hx hy=>by rw[hx] at hy;cases hy;exact je n x (cr.1 h x (bN hx))⟩
end
def o3 (R:AV→AV→Prop)(rows' rows:List AV):Prop:=cH R rows' rows∧aV rows'=true
@[reducible] def Li (t : Nat) : Bool := Nat.beq (Nat.mod t 10) 4
@[reducible] def OC : Bool → Bool → Bool
  |false,true=>false
  |_,_=>true
@[reducible] def Ea (tab : List (Nat × Nat)) (fz : Nat → Bool) (m : ML) (t' : Nat) : MS → Prop
  | .live wd' rows' ro'=>match mJ tab t' with
    | some u =>match dc m u with
      | .live wd rows ro=>match rT wd' wd,OC ro' ro with
        | true,true=>match vE t' with
          |true=>u5 (MF tab fz m 12) rows' rows
          | false=>match Li t' with
            |true=>cH (MF tab fz m 12) rows' rows
            |false=>o3 (MF tab fz m 12) rows' rows
        |_,_=>False
      |_=>False
    |none=>False
  | .dead=>match mJ tab t' with
    | some u=>match dc m u with
      |.free=>False
      |_=>True
    |none=>False
  |.free=>False
@[reducible] def pO (tab : List (Nat × Nat)) (fz : Nat → Bool) (m : ML) : ML → Prop
  |[]=>True
  |(t,s)::r=>Ea tab fz m t s∧pO tab fz m r
@[reducible] def H7 (tab : List (Nat × Nat)) (fz : Nat → Bool) (m : ML) (sl : SL) : SL → Prop
  |[]=>True
  |(d,x)::r=>MF tab fz m 12 x (sZ sl d)∧H7 tab fz m sl r
section
variable (m' m : ML)
@[reducible] def A4 (f : AV → AV → List (Nat × Nat)) : List AV → List AV → List (Nat × Nat)
  |x::xs,y::ys=>dH (f x y) (A4 f xs ys)
  |_,_=>[]
@[reducible] def ee : Nat → AV → AV → List (Nat × Nat)
  |0,_,_=>[]
  | n + 1,x',x=>match x',x with
    |.own t' _ _,.own t _ _=>[(t',t)]
    | .ptr t' _ _,.ptr t _ _=>(t',t)::(match vE t' with
      | true=>match dc m' t',dc m t with
        |.live _ rows' _,.live _ rows _=>A4 (ee n) rows' rows
        |_,_=>[]
      |false=>[])
    |.mapr t',.mapr t=>[(t',t)]
    |.agg cs',.agg cs=>A4 (ee n) cs' cs
    |.tup cs',.tup cs=>A4 (ee n) cs' cs
    |.clo _ a' b',.clo _ a b=>dH (A4 (ee n) a' a) (A4 (ee n) b' b)
    |_,_=>[]
@[reducible] def iz (sl : SL) : SL → List (Nat × Nat)
  |[]=>[]
  |(d,x)::r=>dH (ee m' m 4 x (sZ sl d)) (iz sl r)
end
@[reducible] def cE (ps : List (Nat × Nat)) : ML → List (Nat × Nat)
  |[]=>[]
  | (k,_)::r=>match mJ ps k with
    |some u=>(k,u)::cE ps r
    |none=>(k,k)::cE ps r
@[reducible] def lp : List (Nat × Nat) → Bool
  |[]=>true
  | (k,u)::r=>match oy (dO Prod.snd r) u,oy (dO Prod.fst r) k with
    |false,false=>lp r
    |_,_=>false
@[reducible] def gS (m' : ML) : List (Nat × Nat) → List (Nat × Nat)
  |[]=>[]
  | (k,u)::r=>match dc m' k with
    |.live _ _ _=>(k,u)::gS m' r
    |_=>gS m' r
@[reducible] def oa (m : ML) (tab : List (Nat × Nat)) : Nat → Bool
  |0=>true
  | k + 1=>match dc m k with
    |.free=>oa m tab k
    | _ =>match mJ tab k with
      | some u=>match Nat.beq u k with
        |true=>oa m tab k
        |false=>false
      |none=>false
@[reducible] def jM (tab : List (Nat × Nat)) (t : Nat) : Bool := match oy (dO Prod.snd tab) t with
  |true=>false
  |false=>true
@[reducible] def Fit (nL : Nat) (sl : SL) (m : ML) (sl' : SL) (m' : ML) : Prop :=
  (lp (gS m' (cE (iz m' m sl sl') m'))=true∧oa m (cE (iz m' m sl sl') m') nL=true)∧
    H7 (cE (iz m' m sl sl') m') (jM (cE (iz m' m sl sl') m')) m sl sl'∧pO (cE (iz m' m sl sl') m') (jM (cE (iz m' m sl sl') m')) m m'
theorem dJ:∀ {l:List Nat} {k:Nat},oy l k=true↔k∈l
  |[],k=>by simp[oy]
  | x :: r,k=>by
    simp only[oy,dZ]
    split
    ·rename_i h;simp[beq_eq h]
    · rename_i h
      rw[dJ (l:=r)]
      constructor
      ·exact .inr
      · rintro(rfl|h')
        ·rw[Nat.beq_refl] at h;cases h
        ·exact h'
theorem iw:∀ {l:List (Nat×Nat)} {i u:Nat},mJ l i=some u→(i,u)∈l
  |[],i,u,h=>by cases h
  | p::r,i,u,h=>by
    simp only[mJ] at h
    split at h
    ·rename_i hb;cases h;rw[beq_eq hb];simp
    ·exact gy _ (iw h)
theorem uz:∀ {l:List (Nat×Nat)},lp l=true→∀ {i j u:Nat},(i,u)∈l→(j,u)∈l→i=j
  |[],_,i,j,u,h,_=>by simp at h
  | p :: r,hn,i,j,u,h1,h2=>by
    simp only[lp] at hn
    split at hn
    · rename_i g1 g2
      have no:∀k,(k,p.2)∉r:=fun k hk=>by
        have:oy (dO Prod.snd r) p.2=true:=by rw[dX,dJ];exact List.mem_map.2 ⟨_,hk,rfl⟩
        rw[this] at g1;cases g1
      rcases dZ.1 h1 with h1|h1
      · rcases dZ.1 h2 with h2|h2
        ·rw[←h1] at h2;cases h2;rfl
        ·rw[←h1] at no;exact absurd h2 (no j)
      · rcases dZ.1 h2 with h2|h2
        ·rw[←h2] at no;exact absurd h1 (no i)
        ·exact uz hn h1 h2
    ·cases hn
theorem mM {m':ML}:∀ {l:List (Nat×Nat)} {i u:Nat} {wd:Nat} {rows:List AV} {ro:Bool},(i,u)∈l→aN m' i=.live wd rows ro→(i,u)∈gS m' l
  | p ::r,i,u,wd,rows,ro,h,hl=>by
    rcases dZ.1 h with h|h
    · subst h
      have e:dc m' i=.live wd rows ro:=by rw[gM];exact hl
      simp only[gS,e]
      exact jC
    · have ih:=mM h hl
      simp only[gS]
      split
      ·exact gy _ ih
      ·exact ih
theorem gx {ps:List (Nat×Nat)}:∀ {m':ML} {i u:Nat},(i,u)∈cE ps m'→i∈m'.map (·.1)
  |[],i,u,h=>by simp at h
  | (k,s)::r,i,u,h=>by
    simp only[cE] at h
    split at h
    · rcases dZ.1 h with h|h
      ·cases h;simp
      ·simp[gx h]
    · rcases dZ.1 h with h|h
      ·cases h;simp
      ·simp[gx h]
theorem fI {tab:List (Nat×Nat)}{fz:Nat→Bool}{m:ML}:∀ {m':ML},pO tab fz m m'→∀t,aN m' t=.free∧t∉m'.map (·.1)∨(Ea tab fz m t (aN m' t)∧t∈m'.map (·.1))
  |[],_,t=>.inl ⟨rfl,by simp⟩
  | (d,s)::r,h,t=>by
    simp only[aN]
    by_cases hi:t=d
    ·subst hi;simp;exact h.1
    · have h':(t==d)=false:=by simpa using hi
      rw[h']
      rcases fI h.2 t with⟨a,b⟩|⟨a,b⟩
      ·exact .inl ⟨a,by simp[hi];simpa using b⟩
      ·exact .inr ⟨a,by simp;exact .inr (by simpa using b)⟩
theorem qn {tab:List (Nat×Nat)}{fz:Nat→Bool}{m:ML}{sl:SL}:∀ {sl':SL},H7 tab fz m sl sl'→∀d,bX sl' d=.any∨MF tab fz m 12 (bX sl' d) (sZ sl d)
  |[],_,d=>.inl rfl
  | (e,x)::r,h,d=>by
    simp only[bX]
    by_cases hi:d=e
    ·subst hi;simp;exact .inr h.1
    · have h':(d==e)=false:=by simpa using hi
      rw[h'];exact qn h.2 d
section
variable {P : Program} {tab : List (Nat × Nat)} {fz : Nat → Bool} {m m' : ML} {N nL : Nat} {w0 : World} {W0 : Nat → Prop} {L μ : Mu} {sl : SL} {a : Act} {w : World}
theorem uE (hs:bV P N w0 W0 L μ (St sl m) a w):∀t wd rows ro,dc m t=.live wd rows ro→bB wd rows:=by
  intro t wd rows ro h
  obtain⟨B,_,h2⟩:=hs.objs t wd rows ro (cI h)
  exact h2.wide
theorem pO.qk (hs:bV P N w0 W0 L μ (St sl m) a w)(hn:lp (gS m' tab)=true)(hl:oa m tab nL=true)(hk:∀i u,(i,u)∈tab→i∈m'.map (·.1))(hfz:∀t,fz t=true→jM tab t=true)(h:pO tab fz m m')(sl':Nat→AV)
    (hsl:∀i,Cv (aN m) (gH tab) (fun t=>aN m' t≠ .free) (fun t=>(∃wd rows ro,dc m t=.live wd rows ro)∧fz t=true) (sl' i) (bX sl i)):
    lB nL (gH tab) (fun t=>(∃wd rows ro,dc m t=.live wd rows ro)∧fz t=true) ⟨sl',aN m'⟩ (St sl m):=by
  have hD:∀t u,mJ tab t=some u→aN m' t≠ .free:=by
    intro t u ht e
    rcases fI h t with⟨_,b⟩|⟨b,_⟩
    ·exact b (hk _ _ (iw ht))
    ·rw[e] at b;exact b
  have hcv:∀n r x,MF tab fz m n r x→Cv (aN m) (gH tab) (fun t=>aN m' t≠ .free) (fun t=>(∃wd rows ro,dc m t=.live wd rows ro)∧fz t=true) r x:=
    kL (fun t wd rows ro h _=>uE hs t wd rows ro h) hD (fun t wd rows ro h1 h2=>⟨⟨wd,rows,ro,h1⟩,h2⟩)
  have tabd:∀t,aN m' t≠ .free→∃u,mJ tab t=some u∧gH tab t=u:=by
    intro t ht
    rcases fI h t with⟨b,_⟩|⟨b,_⟩
    ·exact absurd b ht
    · revert b
      cases hs':aN m' t with
      |free=>exact fun b=>b.elim
      | dead=>
        intro b
        simp only[Ea] at b
        split at b
        ·rename_i u hu;exact⟨u,hu,by simp[gH,hu]⟩
        ·exact b.elim
      | live wd rows ro=>
        intro b
        simp only[Ea] at b
        split at b
        ·rename_i u hu;exact⟨u,hu,by simp[gH,hu]⟩
        ·exact b.elim
  refine⟨hsl,fun t=>?_,fun t t' wd rows wd' rows' ro' h1 h2 h3=>?_,fun s hsF=>⟨?_,?_⟩,fun t ht hne=>?_⟩
  · show aN m' t =.free∨_
    rcases fI h t with⟨b,_⟩|⟨b,_⟩
    ·exact .inl b
    · right
      show(aN m' t=.dead∧aN m (gH tab t)≠ .free)∨_
      revert b
      cases hs':aN m' t with
      |free=>exact fun b=>b.elim
      | dead=>
        intro b
        simp only[Ea] at b
        split at b
        · rename_i u hu
          have hr:gH tab t=u:=by simp[gH,hu]
          rw[hr]
          refine .inl ⟨rfl,fun e=>?_⟩
          rw[gM,e] at b;exact b
        ·exact b.elim
      | live wd' rows' ro'=>
        intro b
        simp only[Ea] at b
        split at b
        · rename_i u hu
          have hr:gH tab t=u:=by simp[gH,hu]
          split at b
          · rename_i wd rows ro hm
            have hwr:=uE hs _ _ _ _ hm
            split at b
            · rename_i g1 g2
              have g1':=beq_eq (by rw[←dW];exact g1)
              subst g1'
              have hcl:gJ (aN m) (gH tab) (fun t=>aN m' t≠ .free) (fun t=>(∃wd rows ro,dc m t=.live wd rows ro)∧fz t=true) rows' rows∧bB wd' rows':=by
                split at b
                · refine⟨jE (fun r x hrx=>hcv 12 r x hrx) b,?_⟩
                  clear hs' hm
                  induction rows' generalizing rows with
                  |nil=>exact .nil _
                  | cons r rs ih=>
                    cases rows with
                    |nil=>exact b.elim
                    |cons y ys=>exact .cons (by rw[w5 b.1];exact hwr.tail.1) (ih _ hwr.tail.2 b.2)
                · have b:cH (MF tab fz m 12) rows' rows:=by
                    split at b
                    ·exact b
                    ·exact b.1
                  refine⟨⟨b.1,fun q c d h1 h2=>hcv 12 _ _ (b.2 q c d h1 h2)⟩,fun i y hy=>?_⟩
                  have hi:=(br hy).1
                  rw[b.1] at hi
                  have hz:=bh hi
                  rw[w5 (b.2 i _ _ hy hz)]
                  exact hwr.mem (bN hz)
              refine .inr ⟨wd',rows',rows,ro',ro,hs',?_,?_,hcl.2,hcl.1⟩
              ·rw[hr];exact cI hm
              · intro hro
                subst hro
                cases ro with
                |false=>rfl
                |true=>cases g2
            ·exact b.elim
          ·exact b.elim
        ·exact b.elim
  · obtain⟨u,a1,a2⟩:=tabd t (fun e=>by have g:aN m' t=.live wd rows false:=h1;rw[e] at g;cases g)
    obtain⟨u',b1,b2⟩:=tabd t' (fun e=>by have g:aN m' t'=.live wd' rows' ro':=h2;rw[e] at g;cases g)
    have:u=u':=by rw[←a2,←b2,h3]
    subst this
    exact uz hn (mM (iw a1) h1) (mM (iw b1) h2)
  · obtain⟨⟨wd,rows,ro,h1⟩,_⟩:=hsF
    exact⟨wd,rows,ro,cI h1⟩
  · intro t wd rows ht e
    have hne:aN m' t≠ .free:=by intro e';have:aN m' t=.live wd rows false:=ht;rw[e'] at this;cases this
    obtain⟨u,a1,a2⟩:=tabd t hne
    have h5:=hfz s hsF.2
    have:oy (dO Prod.snd tab) s=true:=by
      rw[dX,dJ,List.mem_map]
      exact⟨(t,u),iw a1,by rw[←e,a2]⟩
    simp only[jM,this] at h5
    cases h5
  · have key : ∀k,oa m tab k=true→∀t,t<k→aN m t≠ .free→mJ tab t=some t:=by
      intro k
      induction k with
      |zero=>intro _ t ht;omega
      | succ k ih=>
        intro hk t ht hne
        simp only[oa] at hk
        split at hk
        · rename_i hm
          rcases Nat.lt_succ_iff_lt_or_eq.1 ht with h'|rfl
          ·exact ih hk t h' hne
          ·exact absurd (cI hm) hne
        · split at hk
          · rename_i u hu
            split at hk
            · rename_i hb
              rcases Nat.lt_succ_iff_lt_or_eq.1 ht with h'|rfl
              ·exact ih hk t h' hne
              ·rw[hu,beq_eq hb]
            ·cases hk
          ·cases hk
    have h5:=key nL hl t ht hne
    exact⟨by simp[gH,h5],hD _ _ h5⟩
end
theorem Fit.sE {P:Program}{nL:Nat}{sl sl':SL}{m m':ML}(h:Fit nL sl m sl' m'):gY P nL (St sl m) (St sl' m'):=by
  intro N w0 W0 L μ a w hL hs
  obtain⟨⟨h1,h2⟩,h3,h4⟩:=h
  have hk:∀i u,(i,u)∈cE (iz m' m sl sl') m'→i∈m'.map (·.1):=fun i u h=>gx h
  have hD:∀t u,mJ (cE (iz m' m sl sl') m') t=some u→aN m' t≠ .free:=by
    intro t u ht e
    rcases fI h4 t with⟨_,b⟩|⟨b,_⟩
    ·exact b (hk _ _ (iw ht))
    ·rw[e] at b;exact b
  have hw:=pO.qk hs h1 h2 hk (fun t h=>h) h4 (bX sl') (fun i=>by
    rcases qn h3 i with h|h
    ·rw[h];exact .any
    · rw[←gQ sl]
      exact kL (fun t wd rows ro h _=>uE hs t wd rows ro h) hD (fun t wd rows ro h1 h2=>⟨⟨wd,rows,ro,h1⟩,h2⟩) 12 _ _ h)
  obtain⟨μ',hs',_⟩:=hw.E1 hL hs (.inl ⟨rfl,rfl⟩)
  exact⟨μ',hs'⟩
end Go.Am
section
namespace Go.Am
open Go
@[reducible] def FR (Γ : bL) (sl : SL) (m : ML) : ResultVar → Option AV
  |.tmp t=>some (sZ sl t)
  | .cell a t=>match sZ sl a with
    | .ptr tk i k=>match dc m tk with
      | .live _ rows _=>match gh rows i with
        |some r=>pV (kH Γ t) r k
        |none=>none
      |_=>none
    |_=>none
@[reducible] def AN (Γ : bL) (sl : SL) (m : ML) : List ResultVar → Option (List AV)
  |[]=>some []
  | rv::r=>match FR Γ sl m rv,AN Γ sl m r with
    |some x,some xs=>some (x::xs)
    |_,_=>none
@[reducible] def CD : List AV → AV
  |[x]=>x
  |xs=>.tup xs
@[reducible] def aW : Nat → List MS → ML
  |_,[]=>[]
  |k,x::r=>(k,x)::aW (Nat.add k 1) r
@[reducible] def sI : Nat → List AV → SL
  |_,[]=>[]
  |k,x::r=>(k,x)::sI (Nat.add k 1) r
theorem iE:∀ (l:List MS) (k:Nat),aW k l=nB k l
  |[],_=>rfl
  |x::r,k=>by simp only[aW,nB];rw[iE r]
theorem nn:∀ (l:List AV) (k:Nat),sI k l=og k l
  |[],_=>rfl
  |x::r,k=>by simp only[sI,og];rw[nn r]
theorem cW (l:List MS):aN (nB 0 l)=aD l:=by
  funext t;rw[uf];simp[aD]
@[reducible] def Mj (nL : Nat) (x : AV) (m : ML) (outs : List MS) (res : AV) : Prop :=
  (lp (gS (aW 0 outs) (cE (ee (aW 0 outs) m 6 res x) (aW 0 outs)))=true∧oa m (cE (ee (aW 0 outs) m 6 res x) (aW 0 outs)) nL=true)∧
    MF (cE (ee (aW 0 outs) m 6 res x) (aW 0 outs)) (jM (cE (ee (aW 0 outs) m 6 res x) (aW 0 outs))) m 12 res x∧
    pO (cE (ee (aW 0 outs) m 6 res x) (aW 0 outs)) (jM (cE (ee (aW 0 outs) m 6 res x) (aW 0 outs))) m (aW 0 outs)
@[reducible] def jg : List ResultVar → AV → List AV
  |[_],x=>[x]
  | _,x=>match x with
    |.tup xs=>xs
    |_=>[]
@[reducible] def eJ (outs : List MS) : List ResultVar → List AV → SL → ML → SL × ML
  |[],_,sl,m=>(sl,m)
  | rv :: rvs,rs,sl,m=>match rs with
    |[]=>(sl,m)
    | r :: rs=>match rv with
      | .tmp d=>match r with
        | .own t _ _=>match sZ sl d with
          | .lit v=>match nY v,dc m (Nat.add 1000003 t),gh outs t with
            |true,.free,some (.live wd _ _)=>eJ outs rvs rs (pA d (.own (Nat.add 1000003 t) 0 0) sl) (jw (Nat.add 1000003 t) (.live wd [] false) m)
            |_,_,_=>eJ outs rvs rs sl m
          | .emp=>match dc m (Nat.add 1000003 t),gh outs t with
            |.free,some (.live wd _ _)=>eJ outs rvs rs (pA d (.own (Nat.add 1000003 t) 0 0) sl) (jw (Nat.add 1000003 t) (.live wd [] false) m)
            |_,_=>eJ outs rvs rs sl m
          |_=>eJ outs rvs rs sl m
        |_=>eJ outs rvs rs sl m
      |_=>eJ outs rvs rs sl m
@[reducible] def Ew (Γ : bL) (nL : Nat) (rvs : List ResultVar) (outs : List MS) (res : AV) : SL × ML → Prop
  | (sl,m)=>match AN Γ sl m rvs with
    |some xs=>Mj nL (CD xs) m outs res
    |none=>False
@[reducible] def M5 (Γ : bL) (nL : Nat) (rvs : List ResultVar) (outs : List MS) (res : AV) (e : Exit) (sl : SL) (m : ML) : Prop :=
  match e with
  |.normal=>Ew Γ nL rvs outs res (eJ outs rvs (jg rvs res) sl m)
  |.ret=>Ew Γ nL rvs outs res (eJ outs rvs (jg rvs res) sl m)
  |_=>False
theorem bV.ghost {P:Program}{N:Nat}{w0:World}{W0:Nat→Prop}{L μ:Mu}{sl:SL}{m:ML}{a:Act}{w:World}(hs:bV P N w0 W0 L μ (St sl m) a w){d t:Nat}(wd:Nat)(hd:sZ sl d=.lit (.slice none 0 0)∨sZ sl d=.emp)(ht:dc m t=.free):
    bV P N w0 W0 L (bq μ t ⟨0,0,wd,true,false⟩) (St (pA d (.own t 0 0) sl) (jw t (.live wd [] false) m)) a w:=by
  have h1:=hs.nO (t:=t) (wd:=wd) (cI ht)
  have hv:∃ad,a.tmps.getD d undef=.slice ad 0 0:=by
    have:=hs.slots d
    have e:(St sl m).slots d=sZ sl d:=by rw[gQ];rfl
    rw[e] at this
    generalize a.tmps.getD d undef=v at this
    rcases hd with hd|hd<;>(rw[hd] at this;cases this;exact⟨_,rfl⟩)
  obtain⟨ad,hv⟩:=hv
  have key:bV P N w0 W0 L (bq μ t ⟨0,0,wd,true,false⟩) ((St sl m).xg (some d) (.own t 0 0) [(t,.live wd [] false)]) a w:=by
    refine{h1 with slots:=fun i=>?_}
    simp only[au.xg,oH]
    by_cases hi:i=d
    · subst hi
      rw[if_pos rfl,hv]
      exact .ownNil (B:=⟨0,0,wd,true,false⟩) (by simp[bq])
    ·rw[if_neg hi];exact h1.slots i
  rw[sJ,sj] at key
  exact key
theorem kP {P:Program}{outs:List MS}{N:Nat}{w0:World}{W0:Nat→Prop}{L:Mu}{a:Act}{w:World}:∀ (rvs:List ResultVar) (rs:List AV) (sl:SL) (m:ML) (μ:Mu),bV P N w0 W0 L μ (St sl m) a w→∃μ',bV P N w0 W0 L μ' (St (eJ outs rvs rs sl m).1 (eJ outs rvs rs sl m).2) a w
  |[],rs,sl,m,μ,hs=>⟨μ,by simpa only[eJ] using hs⟩
  |rv::rvs,[],sl,m,μ,hs=>⟨μ,by simpa only[eJ] using hs⟩
  | rv :: rvs,r::rs,sl,m,μ,hs=>by
    have ih:=kP (P:=P) (outs:=outs) (N:=N) (w0:=w0) (W0:=W0) (L:=L) (a:=a) (w:=w) rvs rs
    unfold eJ
    dsimp only
    split
    · split
      · split
        · rename_i hd
          split
          · rename_i hn ht _
            exact ih _ _ _ (hs.ghost _ (.inl (by rw[hd,eS hn])) ht)
          ·exact ih _ _ _ hs
        · rename_i hd
          split
          · rename_i ht _
            exact ih _ _ _ (hs.ghost _ (.inr hd) ht)
          ·exact ih _ _ _ hs
        ·exact ih _ _ _ hs
      ·exact ih _ _ _ hs
    ·exact ih _ _ _ hs
section
variable {P : Program} {Γ : bL} {sl : SL} {m : ML}
theorem qd (hΓ:Γ.Good P):∀ {rvs:List ResultVar} {xs:List AV},AN Γ sl m rvs=some xs→xL P (St sl m) rvs xs
  |[],xs,h=>by cases h;trivial
  | rv :: rvs, xs,h=>by
    simp only[AN] at h
    split at h
    · rename_i x ys h1 h2
      cases h
      refine⟨?_,qd hΓ h2⟩
      cases rv with
      | tmp t=>
        simp only[FR,Option.some.injEq] at h1
        show bX sl t=x
        rw[←gQ];exact h1
      | cell a t=>
        simp only[FR] at h1
        split at h1
        · rename_i tk i k ha
          split at h1
          · rename_i wd rows ro hm
            split at h1
            · rename_i r hr
              rw[eN] at hr
              exact⟨tk,i,k,wd,rows,ro,r,by show bX sl a=_;rw[←gQ];exact ha,cI hm,hr,kR hΓ (by rw[←ck,←mB];exact h1)⟩
            ·cases h1
          ·cases h1
        ·cases h1
    ·cases h
theorem pq (xs:List AV):CD xs=rJ xs:=by
  match xs with
  |[]=>rfl
  |[x]=>rfl
  |x::y::r=>rfl
theorem Mj.end {nL:Nat}{x:AV}{outs:List MS}{res:AV}(h:Mj nL x m outs res){N:Nat}{w0:World}{W0:Nat→Prop}{L μ:Mu}{a:Act}{w:World}{v:Value}(hL:∀t,nL≤t→t<jf→L t=none)
    (hs:bV P N w0 W0 L μ (St sl m) a w) (hv:cm (Wr W0 μ (aN m)) μ w x v):∃μ',bV P 0 w0 W0 L μ' (bare outs) gl w∧cm (Wr W0 μ' (aD outs)) μ' w res v:=by
  obtain⟨⟨h1,h2⟩,h3,h4⟩:=h
  generalize ht:cE (ee (aW 0 outs) m 6 res x) (aW 0 outs)=tab at h1 h2 h3 h4
  have hk:∀i u,(i,u)∈tab→i∈ (aW 0 outs).map (·.1):=fun i u h=>by rw[←ht] at h;exact gx h
  have hD:∀t u,mJ tab t=some u→aN (aW 0 outs) t≠ .free:=by
    intro t u ht e
    rcases fI h4 t with⟨_,b⟩|⟨b,_⟩
    ·exact b (hk _ _ (iw ht))
    ·rw[e] at b;exact b
  have hw:=pO.qk hs h1 h2 hk (fun t h=>h) h4 (fun _=>.any) (fun i=>.any)
  have hcv:=kL (fun t wd rows ro h _=>uE hs t wd rows ro h) hD (F:=fun t=>(∃wd rows ro,dc m t=.live wd rows ro)∧jM tab t=true) (fun t wd rows ro h1 h2=>⟨⟨wd,rows,ro,h1⟩,h2⟩) 12 _ _ h3
  obtain⟨μ',hs',hrep⟩:=hw.E1 hL hs (N':=0) (a':=gl) (.inr ⟨fun _=>rfl,rfl,rfl⟩)
  have e:aN (aW 0 outs)=aD outs:=by rw[iE,cW]
  rw[e] at hs' hrep hcv
  exact⟨μ',hs',hrep _ _ _ hcv hv⟩
theorem an.aF {f:FuncId}{fn:Func}{c:Code}{ins outs:List MS}{args:List AV}{res:AV}{N:Nat}{rvs:List ResultVar}(Γ:bL)(hΓ:Γ.Good P)(hf:P.funcs[f]? =some fn)(hb:fn.body=some c)(hN:fn.ntmps=N)(hr:fn.results.toList=rvs)
    (hlen:Nat.ble (dD args) N=true) (h:rO P N (dD ins) Γ c (sI 0 args) (aW 0 ins) (M5 Γ (dD ins) rvs outs res)):an P f ins args outs res:=by
  subst hN;subst hr
  have hlen:args.length≤fn.ntmps:=by rw[←cq];exact bT hlen
  intro w W0 L vs hL hs hr
  have h:=lI hΓ _ _ _ _ h
  rw[nn,iE,cq] at h
  have hst:(⟨fun i=>args.getD i .any,aD ins⟩:au)=St (og 0 args) (nB 0 ins):=by
    unfold St
    congr 1
    ·funext i;rw[jD];simp
    ·exact(cW ins).symm
  have hsim:bV P fn.ntmps w W0 L L ⟨fun i=>args.getD i .any,aD ins⟩ {tmps:=vs.toArray++Array.replicate (fn.ntmps-vs.toArray.size) undef,defers:=[]} w:=by
    refine⟨?_,.nil,hs.os,hs.tape,hs.output,hs.hsize,hs.shp,hs.keep,hs.w0lt,hs.lentμ,hs.free,fun i=>?_,hs.objs,hs.inj,hs.out,hs.tabs⟩
    ·simp[hr.1];omega
    · by_cases hi:i<args.length
      · have h1:args[i]? =some args[i]:=bh hi
        have h2:vs[i]? =some (vs[i]'(by rw[hr.1];exact hi)):=bh _
        have:=hr.2 i _ _ h1 h2
        have hv:(vs.toArray++Array.replicate (fn.ntmps-vs.toArray.size) undef).getD i undef=vs[i]'(by rw[hr.1];exact hi):=by
          rw[Array.getD_eq_getD_getElem?,Array.getElem?_append_left (by simp;rw[hr.1];exact hi)]
          simp[h2]
        simp only[hv,List.getD_eq_getElem?_getD,h1,Option.getD_some]
        exact this
      · simp only[List.getD_eq_getElem?_getD,mg (Nat.le_of_not_lt hi),Option.getD_none]
        exact .any
  rw[hst] at hsim
  refine gR hf hb h (fun t ht=>hL t (by omega)) hsim (fun e σ' ⟨sl,m,_,hend⟩=>?_) ?_
  · cases e with
    |normal=>exact .inl rfl
    |ret=>exact .inr rfl
    |_=>exact hend.elim
  rintro e σ' μ' a' w' ⟨sl,m,rfl,hend⟩ hs' hd
  have key:Ew Γ ins.length fn.results.toList outs res (eJ outs fn.results.toList (jg fn.results.toList res) sl m)→∃v,(results fn a'.tmps).run P w'=.ok v w'∧∃v_1 μ',Ending.returned v=.returned v_1∧bV P 0 w W0 L μ' (bare outs) gl w'∧cm (Wr W0 μ' (aD outs)) μ' w' res v_1:=by
    intro hend
    obtain⟨μ2,hs2⟩:=kP (outs:=outs) fn.results.toList (jg fn.results.toList res) sl m μ' hs'
    generalize eJ outs fn.results.toList (jg fn.results.toList res) sl m=q at hend hs2
    obtain⟨sl2,m2⟩:=q
    simp only[Ew] at hend
    split at hend
    · rename_i xs hxs
      have hres:=(qd hΓ hxs).get
      obtain⟨v,v1,v2⟩:=iF hs2 hres.1 hres.2
      rw[pq] at hend
      obtain⟨μ'',h1,h2⟩:=hend.end (fun t ht _=>hL t ht) hs2 v2
      exact⟨v,v1,v,μ'',rfl,h1,h2⟩
    ·exact hend.elim
  cases e with
  |normal=>exact key hend
  |ret=>exact key hend
  |_=>exact hend.elim
end
def aT {ι:Type}(sl:SL)(m:ML){nL:Nat}{S:ι→SL}{M:ι→ML}{I:ι→Prop}{μ:ι→Nat}{i:ι}:Prop:=∃j,I j∧μ j<μ i∧Fit nL sl m (S j) (M j)
theorem aT.mk {ι:Type}{sl:SL}{m:ML}{nL:Nat}{S:ι→SL}{M:ι→ML}{I:ι→Prop}{μ:ι→Nat}{i:ι}(j:ι)(h1:I j)(h2:μ j<μ i)(h3:Fit nL sl m (S j) (M j)):aT sl m (nL:=nL) (S:=S) (M:=M) (I:=I) (μ:=μ) (i:=i):=⟨j,h1,h2,h3⟩
@[reducible] def Mh {ι : Type} (nL : Nat) (S : ι → SL) (M : ι → ML) (I : ι → Prop) (μ : ι → Nat) (i : ι) (Q : Exit → SL → ML → Prop) (e : Exit) (sl : SL) (m : ML) : Prop :=
  match e with
  |.normal=>aT sl m (nL:=nL) (S:=S) (M:=M) (I:=I) (μ:=μ) (i:=i)
  |e=>Q e sl m
theorem bD.use {P:Program}{N nL:Nat}{sl:SL}{m:ML}{c:Code}{Q:Exit→SL→ML→Prop}{ι:Type}(Γ:bL)(hΓ:Γ.Good P)(S:ι→SL)(M:ι→ML)(I:ι→Prop)(μ:ι→Nat)(i0:ι)(hI:I i0)(h0:Fit nL sl m (S i0) (M i0))
    (round:∀i,I i→rO P N nL Γ c (S i) (M i) (Mh nL S M I μ i Q)):bD P N nL sl m (c:=.loop c) (Q:=Q):=by
  refine ek.Kk (C:=fun i=>St (S i) (M i)) I μ i0 hI h0.sE ?_
  intro i hi
  refine(lI hΓ _ _ _ _ (round i hi)).mono ?_
  rintro e σ ⟨sl',m',rfl,h⟩
  cases e with
  | normal=>
    obtain⟨j,h1,h2,h3⟩:=h
    exact⟨j,h1,h2,h3.sE⟩
  |_=>exact⟨sl',m',rfl,h⟩
theorem bD.fit {P:Program}{N nL:Nat}{sl sl':SL}{m m':ML}{c:Code}{Q:Exit→SL→ML→Prop}(h:Fit nL sl m sl' m')(hc:bD P N nL sl' m' (c:=c) (Q:=Q)):bD P N nL sl m (c:=c) (Q:=Q):=ek.fits h.sE hc
theorem bD.ghost {P:Program}{N nL:Nat}{sl:SL}{m:ML}{c:Code}{Q:Exit→SL→ML→Prop}(d t wd:Nat)(hd:sZ sl d=.lit (.slice none 0 0))(ht:dc m t=.free)(hc:bD P N nL (pA d (.own t 0 0) sl) (jw t (.live wd [] false) m) (c:=c) (Q:=Q)):
    bD P N nL sl m (c:=c) (Q:=Q):=by
  refine ek.ghost (d:=d) (t:=t) wd (.inl (by show bX sl d=_;rw[←gQ];exact hd)) (cI ht) ?_
  rw[sJ,sj]
  exact hc
section
variable {P : Program} {N : Nat} {o : Oper} {f : FuncId} {args args' : List AV} {acc : Tk} {sl : SL} {m : ML} {R : Rest} {res : AV} {outs : List MS}
@[reducible] def Mv (T : List Nat) (t : Nat) : Bool := oy T t
@[reducible] def tN (T : List Nat) (m : ML) (args' args : List AV) : Prop := u5 (MF [] (Mv T) m 12) args' args
theorem tN.cv {T:List Nat}(hw:∀t wd rows ro,dc m t=.live wd rows ro→t∈T→bB wd rows)(h:tN T m args' args):gJ (St sl m).mem id (fun _=>False) (· ∈T) args' args:=by
  have:=jE (D:=fun _=>False) (F:=(· ∈T)) (ρ:=gH []) (mm:=aN m) (fun r x=>kL (fun t wd rows ro h1 h2=>hw t wd rows ro h1 (dJ.1 h2)) (fun t u h=>by cases h) (fun t wd rows ro _ h2=>dJ.1 h2) 12 r x) h
  exact this
theorem gr (hd:jS N o.dst=true):∀d,o.dst=some d→d<N:=aG (ye hd)
theorem az.r9 {σ:au}{rd:List Nat}{x:AV}{ups:ML}(h:(∃ (w0:World) (W0:Nat→Prop) (L μ:Mu) (a:Act) (w:World) (σ2:au),(∀t∈rd,σ2.mem t=σ.mem t)∧bV P N w0 W0 L μ σ2 a w)→az P N o σ rd x ups):az P N o σ rd x ups:=by
  intro σ2 he hr w0 W0 L μ a w K Q hs hK
  exact h ⟨w0,W0,L,μ,a,w,σ2,hr,hs⟩ σ2 he hr w0 W0 L μ a w K Q hs hK
theorem CU {σ:au}{T:List Nat}(hσ:σ=St sl m)(h:∃ (w0:World) (W0:Nat→Prop) (L μ:Mu) (a:Act) (w:World) (σ2:au),(∀t∈T,σ2.mem t=σ.mem t)∧bV P N w0 W0 L μ σ2 a w):∀t wd rows ro,dc m t=.live wd rows ro→t∈T→bB wd rows:=by
  subst hσ
  obtain⟨w0,W0,L,μ,a,w,σ2,h1,h2⟩:=h
  intro t wd rows ro ht hT
  obtain⟨B,_,h3⟩:=h2.objs t wd rows ro (by rw[h1 t hT,mem_eq];exact ht)
  exact h3.wide
theorem ah.lit (T:List Nat)(hf:an P f [] args' [] res)(hc:af P f)(ha:tN T m args' args)(hd:jS N o.dst=true)(hp:jO res=true)(h:R T res [] acc sl m):ah P N f args acc sl m (o:=o) (R:=R):=by
  intro hto
  exact⟨T,res,[],az.r9 fun hs=>az.CC T hto hc (ha.cv (CU rfl hs)) hf hp (gr hd),h⟩
@[reducible] def wE (m : ML) : List Nat → Bool
  |[]=>true
  | t::r=>match dc m t with
    |.live _ _ _=>wE m r
    |_=>false
theorem pg {m:ML}:∀ {T:List Nat},wE m T=true→∀t∈T,∃wd rows ro,aN m t=.live wd rows ro
  |[],_,t,h=>by simp at h
  | u ::r,h,t,ht=>by
    simp only[wE] at h
    split at h
    · rename_i hm
      rcases dZ.1 ht with rfl|ht
      ·exact⟨_,_,_,cI hm⟩
      ·exact pg h t ht
    ·cases h
@[reducible] def Mw : MS → MS
  |.live wd rows _=>.live wd rows true
  |s=>s
theorem ah.val (T:List Nat)(hf:an P f [] args' [] res)(hc:af P f)(ha:tN T m args' args)(hT:wE m T=true)(hd:jS N o.dst=true)(hp:bj res=true)
    (h:R T res (dO (fun t=>(t,Mw (dc m t))) T) acc sl m):ah P N f args acc sl m (o:=o) (R:=R):=by
  intro hto
  have e:dO (fun t=>(t,Mw (dc m t))) T=T.map fun t=>(t,lA ((St sl m).mem t)):=by
    rw[dX];apply List.map_congr_left;intro t _;rw[mem_eq];rfl
  rw[e] at h
  refine⟨T,res,_,az.r9 fun hs=>?_,h⟩
  have:=az.FU (P:=P) (N:=N) (o:=o) (σ:=St sl m) (news:=[]) (x:=res) (base:=0) T hto hc (ha.cv (CU rfl hs)) (fun t ht=>pg hT t ht) hf (by simp) rfl (by simp) (.same hp) (gr hd)
  simpa using this
@[reducible] def qK : Nat → Nat → AV → AV
  |0,_,x=>x
  | n+1,b,x=>match x with
    |.own t o l=>.own (Nat.add b t) o l
    |.ptr t i k=>.ptr (Nat.add b t) i k
    |.mapr t=>.mapr (Nat.add b t)
    |.agg cs=>.agg (dO (qK n b) cs)
    |.tup cs=>.tup (dO (qK n b) cs)
    |x=>x
@[reducible] def Ao : Nat → Nat → AV → Bool
  |0,_,x=>bj x
  | n+1,k,x=>match x with
    |.own t _ _=>Nat.ble (Nat.add t 1) k
    |.ptr t _ _=>Nat.ble (Nat.add t 1) k
    |.mapr t=>Nat.ble (Nat.add t 1) k
    |.agg cs=>iQ (Ao n k) cs
    |.tup cs=>iQ (Ao n k) cs
    |x=>bj x
theorem wS {mm:Nat→MS}{F:Nat→Prop}{b k:Nat}:∀ (n:Nat) (x:AV),Ao n k x=true→Cv mm (· -b) (fun t=>b≤t∧t-b<k) F (qK n b x) x
  |0,x,h=>.same h
  | n + 1,x,h=>by
    have list:∀cs:List AV,iQ (Ao n k) cs=true→gJ mm (· -b) (fun t=>b≤t∧t-b<k) F (dO (qK n b) cs) cs:=by
      intro cs
      induction cs with
      |nil=>intro _;exact .nil
      | cons c cs ih=>
        intro h
        simp only[iQ] at h
        split at h
        ·rename_i h1;exact .cons (wS n c h1) (ih h)
        ·cases h
    cases x with
    | own t o l=>
      have ht:t+1≤k:=bT h
      show Cv _ _ _ _ (.own (b+t) o l) _
      have e:t=(b+t)-b:=by omega
      have:=Cv.own (m:=mm) (ρ:=(· -b)) (D:=fun t=>b≤t∧t-b<k) (F:=F) (t:=b+t) (o:=o) (l:=l) ⟨by omega,by omega⟩
      simp only[Nat.add_sub_cancel_left] at this
      exact this
    | ptr t i k'=>
      have ht:t+1≤k:=bT h
      show Cv _ _ _ _ (.ptr (b+t) i k') _
      have:=Cv.ptr (m:=mm) (ρ:=(· -b)) (D:=fun t=>b≤t∧t-b<k) (F:=F) (t:=b+t) (i:=i) (k:=k') ⟨by omega,by omega⟩
      simp only[Nat.add_sub_cancel_left] at this
      exact this
    | mapr t=>
      have ht:t+1≤k:=bT h
      show Cv _ _ _ _ (.mapr (b+t)) _
      have:=Cv.mapr (m:=mm) (ρ:=(· -b)) (D:=fun t=>b≤t∧t-b<k) (F:=F) (t:=b+t) ⟨by omega,by omega⟩
      simp only[Nat.add_sub_cancel_left] at this
      exact this
    |agg cs=>exact .tT (list cs h)
    |tup cs=>exact .ue (list cs h)
    |_=>exact .same h
@[reducible] def xF (b : Nat) : Nat → List MS → ML
  |_,[]=>[]
  |k,s::r=>(Nat.add b k,s)::xF b (Nat.add k 1) r
theorem wB (b:Nat):∀ (l:List MS) (k:Nat),xF b k l=jo b k l
  |[],_=>rfl
  |s::r,k=>by simp only[xF,jo];rw[wB b r];rfl
@[reducible] def Ch (m : ML) (b : Nat) : List MS → Nat → Bool
  |[],_=>true
  | _::r,k=>match dc m (Nat.add b k) with
    |.free=>Ch m b r (Nat.add k 1)
    |_=>false
theorem zg {m:ML}{b:Nat}:∀ {l:List MS} {j:Nat},Ch m b l j=true→∀k,k<l.length→aN m (b+ (j+k))=.free
  |[],j,_,k,hk=>by simp at hk
  | s :: r,j,h,k,hk=>by
    simp only[Ch] at h
    split at h
    · rename_i hm
      cases k with
      |zero=>exact cI hm
      | succ k=>
        have:=zg h k (by simpa using hk)
        rw[show b+ (j+ (k+1))=b+ (Nat.add j 1+k) from by show _=b+ (j+1+k);omega]
        exact this
    ·cases h
@[reducible] def xO (b : Nat) : Nat → List MS → List Nat
  |_,[]=>[]
  |k,_::r=>Nat.add b k::xO b (Nat.add k 1) r
theorem vP (b:Nat):∀ (l:List MS) (k:Nat),xO b k l=(List.range' k l.length).map (b+ ·)
  |[],_=>rfl
  |s::r,k=>by simp only[xO,List.length_cons,List.range'_succ,List.map_cons,vP b r];rfl
theorem ah.new (b:Nat)(T:List Nat)(hf:an P f [] args' outs res)(hc:af P f)(ha:tN T m args' args)(hT:wE m T=true)(hd:jS N o.dst=true)(hp:Ao 12 (dD outs) res=true)(ho:ic outs)(hfree:Ch m b outs 0=true)
    (h:R (dH T (xO b 0 outs)) (qK 12 b res) (dH (xF b 0 outs) (dO (fun t=>(t,Mw (dc m t))) T)) acc sl m):ah P N f args acc sl m (o:=o) (R:=R):=by
  intro hto
  have e:dO (fun t=>(t,Mw (dc m t))) T=T.map fun t=>(t,lA ((St sl m).mem t)):=by
    rw[dX];apply List.map_congr_left;intro t _;rw[mem_eq];rfl
  rw[e,gU,gU,vP,wB,ld,←List.range_eq_range'] at h
  rw[cq] at hp
  refine⟨_,_,_,az.r9 fun hs=>?_,h⟩
  have hwd:∀t wd rows ro,dc m t=.live wd rows ro→t∈T→bB wd rows:=by
    obtain⟨w0,W0,L,μ,a,w,σ2,h1,h2⟩:=hs
    exact CU (sl:=sl) rfl ⟨w0,W0,L,μ,a,w,σ2,fun t ht=>h1 t (by simp[ht]),h2⟩
  refine az.FU (P:=P) (N:=N) (o:=o) (σ:=St sl m) (news:=outs) (x:=qK 12 b res) (base:=b) T hto hc (ha.cv hwd) (fun t ht=>pg hT t ht) hf (fun k hk=>by have:=zg hfree k hk;rw[Nat.zero_add] at this;exact this) rfl (fun k s hk=>?_) (wS 12 res hp) (gr hd)
  obtain⟨wd,rows,rfl,h1,h2⟩:=lT ho hk
  exact⟨wd,rows,rows,rfl,hk,h1,.same h2⟩
end
end Go.Am
namespace Go.Am
open Go
theorem aY.mk {acc:Tk}{sl:SL}{m:ML}{A:Tk→SL→ML→Prop}(h:A acc sl m):aY acc sl m (A:=A):=h
theorem aZ.mk {sl:SL}{m:ML}{A:SL→ML→Prop}(h:A sl m):aZ sl m (A:=A):=h
theorem aL.mk {b:Bool}{acc:Tk}{sl:SL}{m:ML}{A B:Tk→SL→ML→Prop}(h1:b=true→A acc sl m)(h2:b=false→B acc sl m):aL b acc sl m (A:=A) (B:=B):=⟨h1,h2⟩
theorem aL.tt {acc:Tk}{sl:SL}{m:ML}{A B:Tk→SL→ML→Prop}(h1:A acc sl m):aL true acc sl m (A:=A) (B:=B):=⟨fun _=>h1,fun h=>by cases h⟩
theorem aL.ff {acc:Tk}{sl:SL}{m:ML}{A B:Tk→SL→ML→Prop}(h1:B acc sl m):aL false acc sl m (A:=A) (B:=B):=⟨(fun h=>by cases h),fun _=>h1⟩
theorem aL.yes {b:Bool}{acc:Tk}{sl:SL}{m:ML}{A B:Tk→SL→ML→Prop}(h:b=true)(h1:A acc sl m):aL b acc sl m (A:=A) (B:=B):=⟨fun _=>h1,fun h'=>by rw[h] at h';cases h'⟩
theorem aL.no {b:Bool}{acc:Tk}{sl:SL}{m:ML}{A B:Tk→SL→ML→Prop}(h:b=false)(h1:B acc sl m):aL b acc sl m (A:=A) (B:=B):=⟨(fun h'=>by rw[h] at h';cases h'),fun _=>h1⟩
theorem oW.mk {p q:Prop}{sl:SL}{m:ML}{A B:SL→ML→Prop}(h1:p→A sl m)(h2:q→B sl m):oW p q sl m (A:=A) (B:=B):=⟨h1,h2⟩
theorem aP.mk {p:Prop}{acc:Tk}{sl:SL}{m:ML}{A:Tk→SL→ML→Prop}(h:p)(h1:A acc sl m):aP p acc sl m (A:=A):=⟨h,h1⟩
theorem bn.mk {rows:List AV}{i:Int}{acc:Tk}{sl:SL}{m:ML}{A:AV→Tk→SL→ML→Prop}(k:Nat)(r:AV)(hi:i=k)(hr:rows[k]? =some r)(h:A r acc sl m):bn rows i acc sl m (A:=A):=⟨k,r,hi,hr,h⟩
theorem bn.map {α:Type}{e:α→AV}{l:List α}{i:Int}{acc:Tk}{sl:SL}{m:ML}{A:AV→Tk→SL→ML→Prop}(k:Nat)(x:α)(hi:i=k)(hr:l[k]? =some x)(h:A (e x) acc sl m):bn (l.map e) i acc sl m (A:=A):=⟨k,e x,hi,by rw[dM,hr];rfl,h⟩
theorem gX.mk {i:Int}{n:Nat}{acc:Tk}{sl:SL}{m:ML}{A:Nat→Tk→SL→ML→Prop}(k:Nat)(hi:i=k)(hk:k<n)(h:A k acc sl m):gX i n acc sl m (A:=A):=⟨k,hi,hk,h⟩
theorem bE.mk {rows:List AV}{i:Nat}{acc:Tk}{sl:SL}{m:ML}{A:AV→Tk→SL→ML→Prop}(r:AV)(hr:rows[i]? =some r)(h:A r acc sl m):bE rows i acc sl m (A:=A):=⟨r,hr,h⟩
theorem bE.map {α:Type}{e:α→AV}{l:List α}{i:Nat}{acc:Tk}{sl:SL}{m:ML}{A:AV→Tk→SL→ML→Prop}(x:α)(hr:l[i]? =some x)(h:A (e x) acc sl m):bE (l.map e) i acc sl m (A:=A):=⟨e x,by rw[dM,hr];rfl,h⟩
theorem uM.mk {l h:Int}{len:Nat}{acc:Tk}{sl:SL}{m:ML}{A:Nat→Nat→Tk→SL→ML→Prop}(a n:Nat)(h1:l=a)(h2:h=(a:Int)+n)(h3:a+n≤len)(h4:A a n acc sl m):uM l h len acc sl m (A:=A):=⟨a,n,h1,h2,h3,h4⟩
theorem Gc.mk {l h:Int}{rows:List AV}{acc:Tk}{sl:SL}{m:ML}{A:List AV→Tk→SL→ML→Prop}(a n:Nat)(rows':List AV)(h1:l=a)(h2:h=(a:Int)+n)(h3:a+n≤rows.length)(h4:rows'=(rows.drop a).take n)(h5:A rows' acc sl m):Gc l h rows acc sl m (A:=A):=⟨a,n,rows',h1,h2,h3,h4,h5⟩
theorem jR.mk {rb rs:List AV}{off len off' len' bytes:Nat}{acc:Tk}{sl:SL}{m:ML}{A:List AV→Tk→SL→ML→Prop}(rows0 news:List AV)(h0:off=0∧len=rb.length∧rows0=rb)(h1:off'=0∧len'=rs.length∧news=rs)(h2:lX (flat news)=true)
    (h3:(rows0.length+news.length)*bytes≤140737488355328) (h4:rows0.length+news.length≤9223372036854775807) (h:A (rows0++news) acc sl m):jR rb off len rs off' len' bytes acc sl m (A:=A):=by
  obtain⟨rfl,rfl,rfl⟩:=h0
  obtain⟨rfl,rfl,rfl⟩:=h1
  exact⟨_,_,by omega,by simp,by omega,by simp,h2,h3,h4,h⟩
theorem aH.mk {P:Program}{l:List Oper}{acc:Tk}{sl:SL}{m:ML}{A:SL→ML→Prop}(h1:P.follows .mixedOrders=true)(h2:Region.lexB .any l.toArray=true)(h3:(zE l.toArray acc||ij l.toArray acc)=true)(h4:A sl m):aH P acc sl m (l:=l) (A:=A):=⟨h1,h2,h3,h4⟩
theorem mY {α:Type}(e:α→AV)(h:∀a,lX (cells (e a))=true)(l:List α):lX (flat (l.map e))=true:=by
  induction l with
  |nil=>rfl
  | cons x xs ih=>
    simp only[List.map_cons,eH]
    unfold lX at ih h ⊢
    rw[List.all_append,h x,ih];rfl
theorem sN.cut {m:ML}{fz:Nat→Bool}{tab:List (Nat×Nat)}{n:Nat}{t off len wd:Nat}{rows rows':List AV}{ro:Bool}(h1:dc m t=.live wd rows ro)(h2:fz t=true)(h3:off+len≤rows.length)(h4:rows'=(rows.drop off).take len)(h5:aV rows'=true):sN m fz (MF tab fz m n) (.sl wd rows') t off len:=
  ⟨wd,rows,ro,rows',h1,h2,rfl,h3,h5,by rw[←h4];exact .refl h5⟩
end Go.Am
end
namespace Go.Am
open Go Go.MapKept
set_option linter.unusedSectionVars false
@[reducible] def wu (m : ML) (ym : AV) (rows : List AV) : Prop :=
  match ym with
  |.mapr t=> ∃wd ro,dc m t=.live wd rows ro
  |.fmap rs=>rs=rows
  |_=>False
@[reducible] def wJ : AV → List Nat
  |.mapr t=>[t]
  |_=>[]
theorem wu.src {sl:SL}{m:ML}{ym:AV}{rows:List AV}(h:wu m ym rows):lF (St sl m) ym rows (wJ ym):=by
  cases ym with
  |mapr t=>obtain⟨wd,ro,h⟩:=h;exact .own (by rw[mem_eq];exact h)
  |fmap rs=>have h':rs=rows:=h;subst h';exact .frz
  |_=>exact h.elim
@[reducible] def xA (c : Bool) (x : AV) (ok : Bool) : AV := match c with
  |true=>.tup [x,.lit (.bool ok)]
  |false=>x
section
variable {P : Program} {N : Nat} {o : Oper} {t : TypeId} {c : Bool} {ym x r : AV} {key z : Value} {d : TypeDesc} {rows : List AV} {acc : Tk} {sl : SL} {m : ML} {R : Rest}
theorem jV.yes (hT:gj P t d z)(hrows:wu m ym rows)(hk:IsKey d key)(hks:ku d rows)(hr:entry key r∈rows)(hd:jS N o.dst=true)(h:R (wJ ym) (xA c r true) [] acc sl m):jV P N t c ym (.lit key) acc sl m (o:=o) (R:=R):=by
  rintro⟨y,x,ho,hy,hx⟩
  obtain⟨i,hi⟩:=List.getElem?_of_mem hr
  refine⟨_,_,_,az.lookup ho hy hrows.src hx hT hk hks hi (gr hd),?_⟩
  cases c<;>exact h
theorem jV.no (hT:gj P t d z)(hrows:wu m ym rows)(hk:IsKey d key)(hks:ku d rows)(hr:∀r,entry key r∉rows)(hd:jS N o.dst=true){zv:AV}(hz:l6 z=zv)(h:R (wJ ym) (xA c zv false) [] acc sl m):jV P N t c ym (.lit key) acc sl m (o:=o) (R:=R):=by
  rintro⟨y,x,ho,hy,hx⟩
  subst hz
  refine⟨_,_,_,az.Au ho hy hrows.src hx hT hk hks hr (gr hd),?_⟩
  cases c<;>exact h
theorem pQ.old {tk wd:Nat}(hT:gj P t d z)(hm:dc m tk=.live wd rows false)(hk:IsKey d key)(hks:ku d rows)(i:Nat)(hr:rows[i]? =some (entry key r))(hd:jS N o.dst=true)(h:R [tk] .any [(tk,.live wd (rows.set i (entry key x)) false)] acc sl m):pQ P N t (.mapr tk) (.lit key) x acc sl m (o:=o) (R:=R):=by
  rintro⟨y,xx,v,ho,hy,hx,hv⟩
  exact⟨_,_,_,az.mapUpdate ho hy (by rw[mem_eq];exact hm) hx hv hT hk hks hr (gr hd),h⟩
theorem pQ.new {tk wd:Nat}(hT:gj P t d z)(hm:dc m tk=.live wd rows false)(hk:IsKey d key)(hks:ku d rows)(hr:∀r,entry key r∉rows)(hroom:rows.length+1<maxLen)(hwd:wd=2)(hd:jS N o.dst=true)(h:R [tk] .any [(tk,.live wd (rows++ [entry key x]) false)] acc sl m):pQ P N t (.mapr tk) (.lit key) x acc sl m (o:=o) (R:=R):=by
  rintro⟨y,xx,v,ho,hy,hx,hv⟩
  exact⟨_,_,_,az.p8 ho hy (by rw[mem_eq];exact hm) hx hv hT hk hks hr hroom hwd (gr hd),h⟩
theorem eZ.mk (hT:gj P t d z)(hrows:wu m ym rows)(hd:jS N o.dst=true)(h:R (wJ ym) (.lit (.int .i64 rows.length)) [] acc sl m):eZ P N t ym acc sl m (o:=o) (R:=R):=by
  rintro⟨y,ho,hy⟩
  exact⟨_,_,_,az.G0 ho hy hrows.src hT (gr hd),h⟩
end
section
variable {α : Type} {K : Type} [DecidableEq K]
def cM (k:K):List (K×α)→Option α
  |[]=>none
  |p::r=>if p.1=k then some p.2 else cM k r
def dP (k:K)(x:α):List (K×α)→List (K×α)
  |[]=>[(k,x)]
  |p::r=>if p.1=k then(k,x)::r else p::dP k x r
theorem eE (k k':K)(x:α):∀l:List (K×α),cM k' (dP k x l)=if k=k' then some x else cM k' l
  |[]=>by simp[dP,cM]
  | p ::r=>by
    simp only[dP]
    by_cases h:p.1=k
    · rw[if_pos h]
      simp only[cM]
      by_cases hk:k=k'
      ·rw[if_pos hk,if_pos hk]
      ·rw[if_neg hk,if_neg hk,if_neg (by rw[h];exact hk)]
    · rw[if_neg h]
      simp only[cM,eE k k' x r]
      by_cases hk:k=k'
      ·subst hk;rw[if_neg h];simp
      ·simp[hk]
theorem vg {k:K}:∀ {l:List (K×α)},cM k l=none↔k∉l.map (·.1)
  |[]=>by simp[cM]
  | p ::r=>by
    simp only[cM,List.map_cons,dZ,not_or]
    by_cases h:p.1=k
    ·simp[h]
    · rw[if_neg h,vg (l:=r)]
      exact⟨fun hh=>⟨fun e=>h e.symm,hh⟩,fun hh=>hh.2⟩
theorem AD {k:K}{x:α}:∀ {l:List (K×α)},cM k l=some x→(k,x)∈l
  |[],h=>by cases h
  | p::r,h=>by
    simp only[cM] at h
    split at h
    ·rename_i hp;cases h;subst hp;exact jC
    ·exact gy _ (AD h)
theorem mX {k:K}{x:α}:∀ (l:List (K×α)),(dP k x l).length=l.length+ (if k∈l.map (·.1) then 0 else 1)
  |[]=>by simp[dP]
  | p ::r=>by
    simp only[dP]
    by_cases h:p.1=k
    ·rw[if_pos h];subst h;simp
    · rw[if_neg h,List.length_cons,mX r]
      have:k≠p.1:=fun e=>h e.symm
      simp only[List.map_cons,dZ,this,false_or,List.length_cons];omega
theorem C5 {k:K}{x:α}(f:K×α→AV):∀ {l:List (K×α)} {y:α},cM k l=some y→∃i,(l.map f)[i]? =some (f (k,y))∧(dP k x l).map f=(l.map f).set i (f (k,x))
  |[],y,h=>by cases h
  | p ::r,y,h=>by
    simp only[cM] at h
    split at h
    ·rename_i hp;cases h;subst hp;exact⟨0,rfl,by simp[dP]⟩
    · rename_i hp
      obtain⟨i,h1,h2⟩:=C5 (x:=x) f h
      exact⟨i+1,by simpa using h1,by simp[dP,hp,h2]⟩
theorem o9 {k:K}{x:α}:∀ {l:List (K×α)},cM k l=none→dP k x l=l++ [(k,x)]
  |[],_=>rfl
  | p::r,h=>by
    simp only[cM] at h
    split at h
    ·cases h
    ·rename_i hp;simp[dP,hp,o9 h]
end
def dz {K α:Type}(kv:K→Value)(e:α→AV)(l:List (K×α)):List AV:=l.map fun p=>entry (kv p.1) (e p.2)
section
variable {P : Program} {N : Nat} {o : Oper} {t : TypeId} {c : Bool} {ym : AV} {z : Value} {d : TypeDesc} {acc : Tk} {sl : SL} {m : ML} {R : Rest} {α : Type} {K : Type} [DecidableEq K] {kv : K → Value} {e : α → AV} {l : List (K × α)} {k : K}
theorem jH (hk:∀k,IsKey d (kv k)):ku d (dz kv e l):=ku.map (fun p:K×α=>kv p.1) (fun p=>e p.2) (fun p=>hk p.1) l
theorem tU (hinj:∀a b,kv a=kv b→a=b)(h:cM k l=none):∀r,entry (kv k) r∉dz kv e l:=by
  intro r hr
  obtain⟨p,hp,he⟩:=List.mem_map.1 hr
  have:=hinj _ _ (qm he).1
  exact vg.1 h (List.mem_map.2 ⟨p,hp,this⟩)
theorem jV.tab (kv:K→Value)(e:α→AV)(l:List (K×α))(hT:gj P t d z)(hrows:wu m ym (dz kv e l))(hk:∀k,IsKey d (kv k))(hinj:∀a b,kv a=kv b→a=b)(hd:jS N o.dst=true){zv:AV}(hz:l6 z=zv)
    (h1:∀x,cM k l=some x→R (wJ ym) (xA c (e x) true) [] acc sl m) (h2:cM k l=none→R (wJ ym) (xA c zv false) [] acc sl m):jV P N t c ym (.lit (kv k)) acc sl m (o:=o) (R:=R):=by
  cases hg:cM k l with
  |some x=>exact .yes hT hrows (hk k) (jH hk) (List.mem_map.2 ⟨(k,x),AD hg,rfl⟩) hd (h1 x hg)
  |none=>exact .no hT hrows (hk k) (jH hk) (tU hinj hg) hd hz (h2 hg)
theorem pQ.tab {tk:Nat}(kv:K→Value)(e:α→AV)(l:List (K×α))(x:α)(hT:gj P t d z)(hm:dc m tk=.live 2 (dz kv e l) false)(hk:∀k,IsKey d (kv k))(hinj:∀a b,kv a=kv b→a=b)(hroom:l.length+1<maxLen)(hd:jS N o.dst=true)
    (h:R [tk] .any [(tk,.live 2 (dz kv e (dP k x l)) false)] acc sl m):pQ P N t (.mapr tk) (.lit (kv k)) (e x) acc sl m (o:=o) (R:=R):=by
  cases hg:cM k l with
  | some y=>
    obtain⟨i,h1,h2⟩:=C5 (x:=x) (fun p:K×α=>entry (kv p.1) (e p.2)) hg
    refine .old hT hm (hk k) (jH hk) i h1 hd ?_
    have:(dz kv e l).set i (entry (kv k) (e x))=dz kv e (dP k x l):=h2.symm
    rw[this];exact h
  | none=>
    refine .new hT hm (hk k) (jH hk) (tU hinj hg) (by simpa[dz] using hroom) rfl hd ?_
    have:dz kv e l++ [entry (kv k) (e x)]=dz kv e (dP k x l):=by rw[o9 hg];simp[dz]
    rw[this];exact h
end
theorem nN (s:ByteArray):IsKey .string (.string s):=trivial
theorem jj (n:Int):IsKey (.int .i64) (.int .i64 n):=rfl
theorem nM (a b:ByteArray)(h:Value.string a=.string b):a=b:=by cases h;rfl
theorem j3 (a b:Int)(h:Value.int .i64 a=.int .i64 b):a=b:=by cases h;rfl
end Go.Am
