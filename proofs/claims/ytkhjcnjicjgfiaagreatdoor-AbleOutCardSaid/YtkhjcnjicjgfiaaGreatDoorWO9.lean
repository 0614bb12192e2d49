/- Walks of functions by unfolding over abstract states; runs of functions by an evaluator that is proved. By an AI agent. -/
import Derived.Test.YtkhjcnjicjgfiaaGreatDoorWO8
import Derived.Test.YtkhjcnjicjgfiaaGreatDoorWO5
set_option linter.unusedSimpArgs false
set_option linter.unusedVariables false
namespace Go.Am
open Go
@[reducible] def oN : List (Nat × Nat) → Nat → Option Nat
  |[],_=>none
  | (k,x)::r,i=>match Nat.beq i k with
    |true=>some x
    |false=>oN r i
def gI (tab:List (Nat×Nat))(t:Nat):Nat:=(oN tab t).getD t
def eF (R:AV→AV→Prop)(a b:List AV):Prop:=a.length=b.length∧∀ (i:Nat) (x y:AV),a[i]? =some x→b[i]? =some y→R x y
def xU (m:ML)(fz:Nat→Bool)(R:AV→AV→Prop)(r:AV)(t off len:Nat):Prop:=
  ∃wd rows ro rows',dX m t=.live wd rows ro∧fz t=true∧r=.sl wd rows'∧off+len≤rows.length∧br rows'=true∧eF R rows' ((rows.drop off).take len)
def Mf (m:ML)(fz:Nat→Bool)(R:AV→AV→Prop)(r:AV)(t i k:Nat):Prop:=
  ∃wd rows ro x y,dX m t=.live wd rows ro∧fz t=true∧r=.fptr x k∧rows[i]? =some y∧bu x=true∧R x y
def Mt (m:ML)(fz:Nat→Bool)(r:AV)(t:Nat):Prop:=
  ∃wd rows ro,dX m t=.live wd rows ro∧fz t=true∧r=.fmap rows∧∀x∈rows,∃key y,x=entry key y∧bu y=true
def nX (r:AV):Prop:=r=.lit (.slice none 0 0)∨r=.emp∨∃wd,r=.sl wd []
def Lc (r:AV):Prop:=r=.emp∨∃wd,r=.sl wd []
@[reducible] def yp (f : AV → AV → Prop) : List AV → List AV → Prop
  |[],[]=>True
  |r::rs,x::xs=>f r x∧yp f rs xs
  |_,_=>False
@[reducible] def MF (tab : List (Nat × Nat)) (fz : Nat → Bool) (m : ML) : Nat → AV → AV → Prop
  |0,r,x=>r=x∧bu x=true
  | n + 1, r,x=>match x with
    | .own t off len=>match r with
      | .own t' off' len'=>match oN tab t' with
        | some u=>match Nat.beq u t with
          |true=>off'=off∧len'=len
          |false=>False
        |none=>False
      |r=>xU m fz (MF tab fz m n) r t off len
    | .ptr t i k=>match r with
      | .ptr t' i' k'=>match oN tab t' with
        | some u=>match Nat.beq u t with
          |true=>i'=i∧k'=k
          |false=>False
        |none=>False
      |r=>Mf m fz (MF tab fz m n) r t i k
    | .mapr t=>match r with
      | .mapr t'=>match oN tab t' with
        | some u=>match Nat.beq u t with
          |true=>True
          |false=>False
        |none=>False
      |r=>Mt m fz r t
    | .agg cs=>match r with
      |.agg rs=>yp (MF tab fz m n) rs cs
      |r=>r=x∧bu x=true
    | .tup cs=>match r with
      |.tup rs=>yp (MF tab fz m n) rs cs
      |r=>r=x∧bu x=true
    | .clo f a b=>match r with
      |.clo f' a' b'=>f'=f∧yp (MF tab fz m n) a' a∧yp (MF tab fz m n) b' b
      |r=>r=x∧bu x=true
    | .lit (.slice ad a c)=>match nV (.slice ad a c) with
      |true=>nX r
      |false=>r=x∧bu x=true
    | .lit (.int k b)=>match r with
      | .lit (.int k' a)=>match Nat.beq (qw k') (qw k) with
        |true=>a=b
        |false=>False
      |r=>r=x
    | .lit (.bool b)=>match r with
      |.lit (.bool a)=>a=b
      |r=>r=x
    | .lit (.string b)=>match r with
      |.lit (.string a)=>a=b
      |r=>r=x
    | .sl wd rows=>match r with
      | .sl wd' rows'=>match si wd' wd with
        |true=>rows'=rows
        |false=>False
      |r=>r=x
    |.emp=>Lc r
    |x=>r=x∧bu x=true
section
variable {tab : List (Nat × Nat)} {fz : Nat → Bool} {m : ML} {D F : Nat → Prop}
theorem jr {R:AV→AV→Prop}{mm:Nat→MS}{ρ:Nat→Nat}:∀ {rs xs:List AV},(∀r x,R r x→Cv mm ρ D F r x)→yp R rs xs→gJ mm ρ D F rs xs
  |[],[],_,_=>.nil
  |_::_,_::_,hR,h=>.cons (hR _ _ h.1) (jr hR h.2)
  |[],_::_,_,h=>h.elim
  |_::_,[],_,h=>h.elim
theorem Dh {R:AV→AV→Prop}:∀ {rs xs:List AV},yp R rs xs→rs.length=xs.length
  |[],[],_=>rfl
  |_::_,_::_,h=>by simp[Dh h.2]
  |[],_::_,h=>h.elim
  |_::_,[],h=>h.elim
theorem nX.one {r:AV}(h:nX r):cells r=[r]:=by
  rcases h with rfl|rfl|⟨wd,rfl⟩<;>rfl
theorem Lc.one {r:AV}(h:Lc r):cells r=[r]:=by
  rcases h with rfl|⟨wd,rfl⟩<;>rfl
theorem xq:∀ {n:Nat} {r x:AV},MF tab fz m n r x→(cells r).length=(cells x).length
  |0,r,x,h=>by rw[h.1]
  | n +1,r,x,h=>by
    unfold MF at h
    split at h
    · split at h
      ·rfl
      ·obtain⟨wd,rows,ro,rows',_,_,rfl,_⟩:=h;rfl
    · split at h
      ·rfl
      ·obtain⟨wd,rows,ro,a,b,_,_,rfl,_⟩:=h;rfl
    · split at h
      ·rfl
      ·obtain⟨wd,rows,ro,_,_,rfl,_⟩:=h;rfl
    · split at h
      ·exact Dh h
      ·rw[h.1]
    · split at h
      ·rfl
      ·rw[h.1]
    · split at h
      ·rfl
      ·rw[h.1]
    · split at h
      ·rw[h.one];rfl
      ·rw[h.1]
    · split at h
      ·rfl
      ·rw[h]
    · split at h
      ·rfl
      ·rw[h]
    · split at h
      ·rfl
      ·rw[h]
    · split at h
      ·rfl
      ·rw[h]
    ·rw[h.one];rfl
    ·rw[h.1]
theorem cW {t:Nat}{s:MS}(h:dX m t=s):aO m t=s:=by rw[←gO];exact h
theorem kI (hw:∀t wd rows ro,dX m t=.live wd rows ro→fz t=true→bD wd rows)(hD:∀t u,oN tab t=some u→D t)(hF:∀t wd rows ro,dX m t=.live wd rows ro→fz t=true→F t):
    ∀ (n:Nat) (r x:AV),MF tab fz m n r x→Cv (aO m) (gI tab) D F r x
  |0,r,x,h=>by rw[h.1];exact .same h.2
  | n + 1, r,x,h=>by
    have ih:=kI hw hD hF n
    unfold MF at h
    split at h
    · split at h
      · split at h
        · rename_i t off len _ t' off' len' _ u hu
          split at h
          · rename_i hb
            have hb':=beq_eq hb
            subst hb'
            obtain⟨rfl,rfl⟩:=h
            have:gI tab t'=u:=by simp[gI,hu]
            rw[←this]
            exact .own (hD _ _ hu)
          ·exact h.elim
        ·exact h.elim
      · obtain⟨wd,rows,ro,rows',h1,h2,rfl,h4,h5,h6⟩:=h
        have hwr:=hw _ _ _ _ h1 h2
        have hcl:gJ (aO m) (gI tab) D F rows' ((rows.drop _).take _):=⟨h6.1,fun q c d a b=>ih _ _ (h6.2 q c d a b)⟩
        refine .Gh (hF _ _ _ _ h1 h2) (cW h1) ?_ hwr h4 hcl h5
        intro i y hy
        have hi:=(bg hy).1
        rw[h6.1] at hi
        have hz:=bz hi
        rw[xq (h6.2 i _ _ hy hz)]
        exact hwr.mem (List.mem_of_mem_drop (List.mem_of_mem_take (bT hz)))
    · split at h
      · split at h
        · rename_i t i k _ t' i' k' _ u hu
          split at h
          · rename_i hb
            have hb':=beq_eq hb
            subst hb'
            obtain⟨rfl,rfl⟩:=h
            have:gI tab t'=u:=by simp[gI,hu]
            rw[←this]
            exact .ptr (hD _ _ hu)
          ·exact h.elim
        ·exact h.elim
      · obtain⟨wd,rows,ro,a,b,h1,h2,rfl,h4,h5,h6⟩:=h
        have hwr:=hw _ _ _ _ h1 h2
        have hlen:=xq h6
        have hc:=(ih _ _ h6).cells hlen
        exact .frzp (hF _ _ _ _ h1 h2) (cW h1) h4 (by rw[hlen];exact hwr _ _ h4) (fun q c d h1 h2=>hc.2 q c d h1 h2) (fun c hc=>mZ h5 hc)
    · split at h
      · split at h
        · rename_i t _ t' _ u hu
          split at h
          · rename_i hb
            have hb':=beq_eq hb
            subst hb'
            have:gI tab t'=u:=by simp[gI,hu]
            rw[←this]
            exact .mapr (hD _ _ hu)
          ·exact h.elim
        ·exact h.elim
      · obtain⟨wd,rows,ro,h1,h2,rfl,h4⟩:=h
        refine .fmap (hF _ _ _ _ h1 h2) (cW h1) rfl (fun i r' hr=>?_) (fun i key key' x' x k1 k2=>?_) (fun r hr=>?_)
        · obtain⟨key,y,rfl,_⟩:=h4 r' (bT hr)
          exact⟨key,y,y,rfl,hr⟩
        · rw[k1] at k2
          have k3:=Option.some.inj k2
          simp only[entry,AV.agg.injEq,List.cons.injEq,AV.tup.injEq,and_true] at k3
          obtain⟨key2,y2,k4,k5⟩:=h4 _ (bT k1)
          simp only[entry,AV.agg.injEq,List.cons.injEq,AV.tup.injEq,and_true] at k4
          rw[←k3.2,k4.2];exact .same k5
        · obtain⟨key,y,rfl,h5⟩:=h4 r hr
          simp[entry,bu,br,h5]
    · split at h
      ·exact .tj (jr ih h)
      ·rw[h.1];exact .same h.2
    · split at h
      ·exact .tf (jr ih h)
      ·rw[h.1];exact .same h.2
    · split at h
      · obtain⟨rfl,h1,h2⟩:=h
        exact .Ks (jr ih h1) (jr ih h2)
      ·rw[h.1];exact .same h.2
    · split at h
      · rename_i hn
        have hn':=eW hn
        cases hn'
        rcases h with rfl|rfl|⟨wd,rfl⟩
        ·exact .same rfl
        ·exact .nilE
        ·exact .nil
      ·rw[h.1];exact .same h.2
    · split at h
      · split at h
        · rename_i hk
          rw[h,wW hk];exact .same rfl
        ·exact h.elim
      ·rw[h];exact .same rfl
    · split at h
      ·rw[h];exact .same rfl
      ·rw[h];exact .same rfl
    · split at h
      ·rw[h];exact .same rfl
      ·rw[h];exact .same rfl
    · split at h
      · split at h
        · rename_i hb
          rw[dW] at hb;rw[h,beq_eq hb];exact .same rfl
        ·exact h.elim
      ·rw[h];exact .same rfl
    · rcases h with rfl|⟨wd,rfl⟩
      ·exact .same rfl
      ·exact .empS
    ·rw[h.1];exact .same h.2
theorem jg:∀ (n:Nat) (x:AV),bu x=true→MF tab fz m n x x
  |0,x,h=>⟨rfl,h⟩
  | n + 1,x,h=>by
    have list:∀cs:List AV,br cs=true→yp (MF tab fz m n) cs cs:=by
      intro cs
      induction cs with
      |nil=>intro _;trivial
      | cons c cs ih=>
        intro hh
        simp only[br,bQ] at hh
        exact⟨jg n c hh.1,ih hh.2⟩
    cases x with
    |own=>simp[bu] at h
    |ptr=>simp[bu] at h
    |mapr=>simp[bu] at h
    |agg cs=>exact list cs (by simpa only[bu] using h)
    |tup cs=>exact list cs (by simpa only[bu] using h)
    | clo f a b=>
      simp only[bu,bQ] at h
      exact⟨rfl,list a h.1,list b h.2⟩
    | sl wd rows=>
      show(match si wd wd with|true=>rows=rows|false=>False)
      rw[dW,Nat.beq_refl]
    |emp=>exact .inl rfl
    | lit v=>
      cases v with
      | int k b=>
        show(match Nat.beq (qw k) (qw k) with|true=>b=b|false=>False)
        rw[Nat.beq_refl]
      |bool b=>rfl
      |string b=>rfl
      | slice ad a c=>
        show(match nV (.slice ad a c) with|true=>nX _|false=>_=_∧_)
        split
        ·rename_i hn;exact .inl (by rw[eW hn])
        ·exact⟨rfl,rfl⟩
      |_=>exact⟨rfl,rfl⟩
    |_=>exact⟨rfl,h⟩
theorem eF.refl {n:Nat}{rows:List AV}(h:br rows=true):eF (MF tab fz m n) rows rows:=
  ⟨rfl,fun i x y hx hy=>by rw[hx] at hy;cases hy;exact jg n x (cO.1 h x (bT hx))⟩
end
def r6 (R:AV→AV→Prop)(rows' rows:List AV):Prop:=eF R rows' rows∧br rows'=true
@[reducible] def KC (t : Nat) : Bool := Nat.beq (Nat.mod t 10) 4
@[reducible] def Nf : Bool → Bool → Bool
  |false,true=>false
  |_,_=>true
@[reducible] def Ed (tab : List (Nat × Nat)) (fz : Nat → Bool) (m : ML) (t' : Nat) : MS → Prop
  | .live wd' rows' ro'=>match oN tab t' with
    | some u =>match dX m u with
      | .live wd rows ro=>match si wd' wd,Nf ro' ro with
        | true,true=>match vL t' with
          |true=>yp (MF tab fz m 12) rows' rows
          | false=>match KC t' with
            |true=>eF (MF tab fz m 12) rows' rows
            |false=>r6 (MF tab fz m 12) rows' rows
        |_,_=>False
      |_=>False
    |none=>False
  | .dead=>match oN tab t' with
    | some u=>match dX m u with
      |.free=>False
      |_=>True
    |none=>False
  |.free=>False
@[reducible] def qb (tab : List (Nat × Nat)) (fz : Nat → Bool) (m : ML) : ML → Prop
  |[]=>True
  |(t,s)::r=>Ed tab fz m t s∧qb tab fz m r
@[reducible] def JI (tab : List (Nat × Nat)) (fz : Nat → Bool) (m : ML) (sl : SL) : SL → Prop
  |[]=>True
  |(d,x)::r=>MF tab fz m 12 x (sS sl d)∧JI tab fz m sl r
section
variable (m' m : ML)
@[reducible] def AX (f : AV → AV → List (Nat × Nat)) : List AV → List AV → List (Nat × Nat)
  |x::xs,y::ys=>dL (f x y) (AX f xs ys)
  |_,_=>[]
@[reducible] def eB : Nat → AV → AV → List (Nat × Nat)
  |0,_,_=>[]
  | n + 1,x',x=>match x',x with
    |.own t' _ _,.own t _ _=>[(t',t)]
    | .ptr t' _ _,.ptr t _ _=>(t',t)::(match vL t' with
      | true=>match dX m' t',dX m t with
        |.live _ rows' _,.live _ rows _=>AX (eB n) rows' rows
        |_,_=>[]
      |false=>[])
    |.mapr t',.mapr t=>[(t',t)]
    |.agg cs',.agg cs=>AX (eB n) cs' cs
    |.tup cs',.tup cs=>AX (eB n) cs' cs
    |.clo _ a' b',.clo _ a b=>dL (AX (eB n) a' a) (AX (eB n) b' b)
    |_,_=>[]
@[reducible] def iF (sl : SL) : SL → List (Nat × Nat)
  |[]=>[]
  |(d,x)::r=>dL (eB m' m 4 x (sS sl d)) (iF sl r)
end
@[reducible] def cP (ps : List (Nat × Nat)) : ML → List (Nat × Nat)
  |[]=>[]
  | (k,_)::r=>match oN ps k with
    |some u=>(k,u)::cP ps r
    |none=>(k,k)::cP ps r
@[reducible] def kZ : List (Nat × Nat) → Bool
  |[]=>true
  | (k,u)::r=>match oQ (dU Prod.snd r) u,oQ (dU Prod.fst r) k with
    |false,false=>kZ r
    |_,_=>false
@[reducible] def gP (m' : ML) : List (Nat × Nat) → List (Nat × Nat)
  |[]=>[]
  | (k,u)::r=>match dX m' k with
    |.live _ _ _=>(k,u)::gP m' r
    |_=>gP m' r
@[reducible] def n5 (m : ML) (tab : List (Nat × Nat)) : Nat → Bool
  |0=>true
  | k + 1=>match dX m k with
    |.free=>n5 m tab k
    | _ =>match oN tab k with
      | some u=>match Nat.beq u k with
        |true=>n5 m tab k
        |false=>false
      |none=>false
@[reducible] def js (tab : List (Nat × Nat)) (t : Nat) : Bool := match oQ (dU Prod.snd tab) t with
  |true=>false
  |false=>true
@[reducible] def Fit (nL : Nat) (sl : SL) (m : ML) (sl' : SL) (m' : ML) : Prop :=
  (kZ (gP m' (cP (iF m' m sl sl') m'))=true∧n5 m (cP (iF m' m sl sl') m') nL=true)∧
    JI (cP (iF m' m sl sl') m') (js (cP (iF m' m sl sl') m')) m sl sl'∧qb (cP (iF m' m sl sl') m') (js (cP (iF m' m sl sl') m')) m m'
theorem dQ:∀ {l:List Nat} {k:Nat},oQ l k=true↔k∈l
  |[],k=>by simp[oQ]
  | x :: r,k=>by
    simp only[oQ,dm]
    split
    ·rename_i h;simp[beq_eq h]
    · rename_i h
      rw[dQ (l:=r)]
      constructor
      ·exact .inr
      · rintro(rfl|h')
        ·rw[Nat.beq_refl] at h;cases h
        ·exact h'
theorem iB:∀ {l:List (Nat×Nat)} {i u:Nat},oN l i=some u→(i,u)∈l
  |[],i,u,h=>by cases h
  | p::r,i,u,h=>by
    simp only[oN] at h
    split at h
    ·rename_i hb;cases h;rw[beq_eq hb];simp
    ·exact c7 _ (iB h)
theorem uF:∀ {l:List (Nat×Nat)},kZ l=true→∀ {i j u:Nat},(i,u)∈l→(j,u)∈l→i=j
  |[],_,i,j,u,h,_=>by simp at h
  | p :: r,hn,i,j,u,h1,h2=>by
    simp only[kZ] at hn
    split at hn
    · rename_i g1 g2
      have no:∀k,(k,p.2)∉r:=fun k hk=>by
        have:oQ (dU Prod.snd r) p.2=true:=by rw[eo,dQ];exact List.mem_map.2 ⟨_,hk,rfl⟩
        rw[this] at g1;cases g1
      rcases dm.1 h1 with h1|h1
      · rcases dm.1 h2 with h2|h2
        ·rw[←h1] at h2;cases h2;rfl
        ·rw[←h1] at no;exact absurd h2 (no j)
      · rcases dm.1 h2 with h2|h2
        ·rw[←h2] at no;exact absurd h1 (no i)
        ·exact uF hn h1 h2
    ·cases hn
theorem ny {m':ML}:∀ {l:List (Nat×Nat)} {i u:Nat} {wd:Nat} {rows:List AV} {ro:Bool},(i,u)∈l→aO m' i=.live wd rows ro→(i,u)∈gP m' l
  | p ::r,i,u,wd,rows,ro,h,hl=>by
    rcases dm.1 h with h|h
    · subst h
      have e:dX m' i=.live wd rows ro:=by rw[gO];exact hl
      simp only[gP,e]
      exact dJ
    · have ih:=ny h hl
      simp only[gP]
      split
      ·exact c7 _ ih
      ·exact ih
theorem gp {ps:List (Nat×Nat)}:∀ {m':ML} {i u:Nat},(i,u)∈cP ps m'→i∈m'.map (·.1)
  |[],i,u,h=>by simp at h
  | (k,s)::r,i,u,h=>by
    simp only[cP] at h
    split at h
    · rcases dm.1 h with h|h
      ·cases h;simp
      ·simp[gp h]
    · rcases dm.1 h with h|h
      ·cases h;simp
      ·simp[gp h]
theorem fV {tab:List (Nat×Nat)}{fz:Nat→Bool}{m:ML}:∀ {m':ML},qb tab fz m m'→∀t,aO m' t=.free∧t∉m'.map (·.1)∨(Ed tab fz m t (aO m' t)∧t∈m'.map (·.1))
  |[],_,t=>.inl ⟨rfl,by simp⟩
  | (d,s)::r,h,t=>by
    simp only[aO]
    by_cases hi:t=d
    ·subst hi;simp;exact h.1
    · have h':(t==d)=false:=by simpa using hi
      rw[h']
      rcases fV h.2 t with⟨a,b⟩|⟨a,b⟩
      ·exact .inl ⟨a,by simp[hi];simpa using b⟩
      ·exact .inr ⟨a,by simp;exact .inr (by simpa using b)⟩
theorem qN {tab:List (Nat×Nat)}{fz:Nat→Bool}{m:ML}{sl:SL}:∀ {sl':SL},JI tab fz m sl sl'→∀d,cq sl' d=.any∨MF tab fz m 12 (cq sl' d) (sS sl d)
  |[],_,d=>.inl rfl
  | (e,x)::r,h,d=>by
    simp only[cq]
    by_cases hi:d=e
    ·subst hi;simp;exact .inr h.1
    · have h':(d==e)=false:=by simpa using hi
      rw[h'];exact qN h.2 d
section
variable {P : Program} {tab : List (Nat × Nat)} {fz : Nat → Bool} {m m' : ML} {N nL : Nat} {w0 : World} {W0 : Nat → Prop} {L μ : Mu} {sl : SL} {a : Act} {w : World}
theorem tZ (hs:ck P N w0 W0 L μ (St sl m) a w):∀t wd rows ro,dX m t=.live wd rows ro→bD wd rows:=by
  intro t wd rows ro h
  obtain⟨B,_,h2⟩:=hs.objs t wd rows ro (cW h)
  exact h2.wide
theorem qb.qv (hs:ck P N w0 W0 L μ (St sl m) a w)(hn:kZ (gP m' tab)=true)(hl:n5 m tab nL=true)(hk:∀i u,(i,u)∈tab→i∈m'.map (·.1))(hfz:∀t,fz t=true→js tab t=true)(h:qb tab fz m m')(sl':Nat→AV)
    (hsl:∀i,Cv (aO m) (gI tab) (fun t=>aO m' t≠ .free) (fun t=>(∃wd rows ro,dX m t=.live wd rows ro)∧fz t=true) (sl' i) (cq sl i)):
    lE nL (gI tab) (fun t=>(∃wd rows ro,dX m t=.live wd rows ro)∧fz t=true) ⟨sl',aO m'⟩ (St sl m):=by
  have hD:∀t u,oN tab t=some u→aO m' t≠ .free:=by
    intro t u ht e
    rcases fV h t with⟨_,b⟩|⟨b,_⟩
    ·exact b (hk _ _ (iB ht))
    ·rw[e] at b;exact b
  have hcv:∀n r x,MF tab fz m n r x→Cv (aO m) (gI tab) (fun t=>aO m' t≠ .free) (fun t=>(∃wd rows ro,dX m t=.live wd rows ro)∧fz t=true) r x:=
    kI (fun t wd rows ro h _=>tZ hs t wd rows ro h) hD (fun t wd rows ro h1 h2=>⟨⟨wd,rows,ro,h1⟩,h2⟩)
  have tabd:∀t,aO m' t≠ .free→∃u,oN tab t=some u∧gI tab t=u:=by
    intro t ht
    rcases fV h t with⟨b,_⟩|⟨b,_⟩
    ·exact absurd b ht
    · revert b
      cases hs':aO m' t with
      |free=>exact fun b=>b.elim
      | dead=>
        intro b
        simp only[Ed] at b
        split at b
        ·rename_i u hu;exact⟨u,hu,by simp[gI,hu]⟩
        ·exact b.elim
      | live wd rows ro=>
        intro b
        simp only[Ed] at b
        split at b
        ·rename_i u hu;exact⟨u,hu,by simp[gI,hu]⟩
        ·exact b.elim
  refine⟨hsl,fun t=>?_,fun t t' wd rows wd' rows' ro' h1 h2 h3=>?_,fun s hsF=>⟨?_,?_⟩,fun t ht hne=>?_⟩
  · show aO m' t =.free∨_
    rcases fV h t with⟨b,_⟩|⟨b,_⟩
    ·exact .inl b
    · right
      show(aO m' t=.dead∧aO m (gI tab t)≠ .free)∨_
      revert b
      cases hs':aO m' t with
      |free=>exact fun b=>b.elim
      | dead=>
        intro b
        simp only[Ed] at b
        split at b
        · rename_i u hu
          have hr:gI tab t=u:=by simp[gI,hu]
          rw[hr]
          refine .inl ⟨rfl,fun e=>?_⟩
          rw[gO,e] at b;exact b
        ·exact b.elim
      | live wd' rows' ro'=>
        intro b
        simp only[Ed] at b
        split at b
        · rename_i u hu
          have hr:gI tab t=u:=by simp[gI,hu]
          split at b
          · rename_i wd rows ro hm
            have hwr:=tZ hs _ _ _ _ hm
            split at b
            · rename_i g1 g2
              have g1':=beq_eq (by rw[←dW];exact g1)
              subst g1'
              have hcl:gJ (aO m) (gI tab) (fun t=>aO m' t≠ .free) (fun t=>(∃wd rows ro,dX m t=.live wd rows ro)∧fz t=true) rows' rows∧bD wd' rows':=by
                split at b
                · refine⟨jr (fun r x hrx=>hcv 12 r x hrx) b,?_⟩
                  clear hs' hm
                  induction rows' generalizing rows with
                  |nil=>exact .nil _
                  | cons r rs ih=>
                    cases rows with
                    |nil=>exact b.elim
                    |cons y ys=>exact .cons (by rw[xq b.1];exact hwr.tail.1) (ih _ hwr.tail.2 b.2)
                · have b:eF (MF tab fz m 12) rows' rows:=by
                    split at b
                    ·exact b
                    ·exact b.1
                  refine⟨⟨b.1,fun q c d h1 h2=>hcv 12 _ _ (b.2 q c d h1 h2)⟩,fun i y hy=>?_⟩
                  have hi:=(bg hy).1
                  rw[b.1] at hi
                  have hz:=bz hi
                  rw[xq (b.2 i _ _ hy hz)]
                  exact hwr.mem (bT hz)
              refine .inr ⟨wd',rows',rows,ro',ro,hs',?_,?_,hcl.2,hcl.1⟩
              ·rw[hr];exact cW hm
              · intro hro
                subst hro
                cases ro with
                |false=>rfl
                |true=>cases g2
            ·exact b.elim
          ·exact b.elim
        ·exact b.elim
  · obtain⟨u,a1,a2⟩:=tabd t (fun e=>by have g:aO m' t=.live wd rows false:=h1;rw[e] at g;cases g)
    obtain⟨u',b1,b2⟩:=tabd t' (fun e=>by have g:aO m' t'=.live wd' rows' ro':=h2;rw[e] at g;cases g)
    have:u=u':=by rw[←a2,←b2,h3]
    subst this
    exact uF hn (ny (iB a1) h1) (ny (iB b1) h2)
  · obtain⟨⟨wd,rows,ro,h1⟩,_⟩:=hsF
    exact⟨wd,rows,ro,cW h1⟩
  · intro t wd rows ht e
    have hne:aO m' t≠ .free:=by intro e';have:aO m' t=.live wd rows false:=ht;rw[e'] at this;cases this
    obtain⟨u,a1,a2⟩:=tabd t hne
    have h5:=hfz s hsF.2
    have:oQ (dU Prod.snd tab) s=true:=by
      rw[eo,dQ,List.mem_map]
      exact⟨(t,u),iB a1,by rw[←e,a2]⟩
    simp only[js,this] at h5
    cases h5
  · have key : ∀k,n5 m tab k=true→∀t,t<k→aO m t≠ .free→oN tab t=some t:=by
      intro k
      induction k with
      |zero=>intro _ t ht;omega
      | succ k ih=>
        intro hk t ht hne
        simp only[n5] at hk
        split at hk
        · rename_i hm
          rcases Nat.lt_succ_iff_lt_or_eq.1 ht with h'|rfl
          ·exact ih hk t h' hne
          ·exact absurd (cW hm) hne
        · split at hk
          · rename_i u hu
            split at hk
            · rename_i hb
              rcases Nat.lt_succ_iff_lt_or_eq.1 ht with h'|rfl
              ·exact ih hk t h' hne
              ·rw[hu,beq_eq hb]
            ·cases hk
          ·cases hk
    have h5:=key nL hl t ht hne
    exact⟨by simp[gI,h5],hD _ _ h5⟩
end
theorem Fit.uV {P:Program}{nL:Nat}{sl sl':SL}{m m':ML}(h:Fit nL sl m sl' m'):gX P nL (St sl m) (St sl' m'):=by
  intro N w0 W0 L μ a w hL hs
  obtain⟨⟨h1,h2⟩,h3,h4⟩:=h
  have hk:∀i u,(i,u)∈cP (iF m' m sl sl') m'→i∈m'.map (·.1):=fun i u h=>gp h
  have hD:∀t u,oN (cP (iF m' m sl sl') m') t=some u→aO m' t≠ .free:=by
    intro t u ht e
    rcases fV h4 t with⟨_,b⟩|⟨b,_⟩
    ·exact b (hk _ _ (iB ht))
    ·rw[e] at b;exact b
  have hw:=qb.qv hs h1 h2 hk (fun t h=>h) h4 (cq sl') (fun i=>by
    rcases qN h3 i with h|h
    ·rw[h];exact .any
    · rw[←gR sl]
      exact kI (fun t wd rows ro h _=>tZ hs t wd rows ro h) hD (fun t wd rows ro h1 h2=>⟨⟨wd,rows,ro,h1⟩,h2⟩) 12 _ _ h)
  obtain⟨μ',hs',_⟩:=hw.Gc hL hs (.inl ⟨rfl,rfl⟩)
  exact⟨μ',hs'⟩
end Go.Am
section
namespace Go.Am
open Go
@[reducible] def Fw (Γ : bZ) (sl : SL) (m : ML) : ResultVar → Option AV
  |.tmp t=>some (sS sl t)
  | .cell a t=>match sS sl a with
    | .ptr tk i k=>match dX m tk with
      | .live _ rows _=>match gd rows i with
        |some r=>pD (kN Γ t) r k
        |none=>none
      |_=>none
    |_=>none
@[reducible] def Dy (Γ : bZ) (sl : SL) (m : ML) : List ResultVar → Option (List AV)
  |[]=>some []
  | rv::r=>match Fw Γ sl m rv,Dy Γ sl m r with
    |some x,some xs=>some (x::xs)
    |_,_=>none
@[reducible] def EW : List AV → AV
  |[x]=>x
  |xs=>.tup xs
@[reducible] def bj : Nat → List MS → ML
  |_,[]=>[]
  |k,x::r=>(k,x)::bj (Nat.add k 1) r
@[reducible] def zi : Nat → List AV → SL
  |_,[]=>[]
  |k,x::r=>(k,x)::zi (Nat.add k 1) r
theorem kx:∀ (l:List MS) (k:Nat),bj k l=pJ k l
  |[],_=>rfl
  |x::r,k=>by simp only[bj,pJ];rw[kx r]
theorem tQ:∀ (l:List AV) (k:Nat),zi k l=rN k l
  |[],_=>rfl
  |x::r,k=>by simp only[zi,rN];rw[tQ r]
theorem ee (l:List MS):aO (pJ 0 l)=aH l:=by
  funext t;rw[uy];simp[aH]
@[reducible] def LO (nL : Nat) (x : AV) (m : ML) (outs : List MS) (res : AV) : Prop :=
  (kZ (gP (bj 0 outs) (cP (eB (bj 0 outs) m 6 res x) (bj 0 outs)))=true∧n5 m (cP (eB (bj 0 outs) m 6 res x) (bj 0 outs)) nL=true)∧
    MF (cP (eB (bj 0 outs) m 6 res x) (bj 0 outs)) (js (cP (eB (bj 0 outs) m 6 res x) (bj 0 outs))) m 12 res x∧
    qb (cP (eB (bj 0 outs) m 6 res x) (bj 0 outs)) (js (cP (eB (bj 0 outs) m 6 res x) (bj 0 outs))) m (bj 0 outs)
@[reducible] def n3 : List ResultVar → AV → List AV
  |[_],x=>[x]
  | _,x=>match x with
    |.tup xs=>xs
    |_=>[]
@[reducible] def gA (outs : List MS) : List ResultVar → List AV → SL → ML → SL × ML
  |[],_,sl,m=>(sl,m)
  | rv :: rvs,rs,sl,m=>match rs with
    |[]=>(sl,m)
    | r :: rs=>match rv with
      | .tmp d=>match r with
        | .own t _ _=>match sS sl d with
          | .lit v=>match nV v,dX m (Nat.add 1000003 t),gd outs t with
            |true,.free,some (.live wd _ _)=>gA outs rvs rs (ql d (.own (Nat.add 1000003 t) 0 0) sl) (jB (Nat.add 1000003 t) (.live wd [] false) m)
            |_,_,_=>gA outs rvs rs sl m
          | .emp=>match dX m (Nat.add 1000003 t),gd outs t with
            |.free,some (.live wd _ _)=>gA outs rvs rs (ql d (.own (Nat.add 1000003 t) 0 0) sl) (jB (Nat.add 1000003 t) (.live wd [] false) m)
            |_,_=>gA outs rvs rs sl m
          |_=>gA outs rvs rs sl m
        |_=>gA outs rvs rs sl m
      |_=>gA outs rvs rs sl m
@[reducible] def HW (Γ : bZ) (nL : Nat) (rvs : List ResultVar) (outs : List MS) (res : AV) : SL × ML → Prop
  | (sl,m)=>match Dy Γ sl m rvs with
    |some xs=>LO nL (EW xs) m outs res
    |none=>False
@[reducible] def NU (Γ : bZ) (nL : Nat) (rvs : List ResultVar) (outs : List MS) (res : AV) (e : Exit) (sl : SL) (m : ML) : Prop :=
  match e with
  |.normal=>HW Γ nL rvs outs res (gA outs rvs (n3 rvs res) sl m)
  |.ret=>HW Γ nL rvs outs res (gA outs rvs (n3 rvs res) sl m)
  |_=>False
theorem ck.ghost {P:Program}{N:Nat}{w0:World}{W0:Nat→Prop}{L μ:Mu}{sl:SL}{m:ML}{a:Act}{w:World}(hs:ck P N w0 W0 L μ (St sl m) a w){d t:Nat}(wd:Nat)(hd:sS sl d=.lit (.slice none 0 0)∨sS sl d=.emp)(ht:dX m t=.free):
    ck P N w0 W0 L (bq μ t ⟨0,0,wd,true,false⟩) (St (ql d (.own t 0 0) sl) (jB t (.live wd [] false) m)) a w:=by
  have h1:=hs.nP (t:=t) (wd:=wd) (cW ht)
  have hv:∃ad,a.tmps.getD d undef=.slice ad 0 0:=by
    have:=hs.slots d
    have e:(St sl m).slots d=sS sl d:=by rw[gR];rfl
    rw[e] at this
    generalize a.tmps.getD d undef=v at this
    rcases hd with hd|hd<;>(rw[hd] at this;cases this;exact⟨_,rfl⟩)
  obtain⟨ad,hv⟩:=hv
  have key:ck P N w0 W0 L (bq μ t ⟨0,0,wd,true,false⟩) ((St sl m).xe (some d) (.own t 0 0) [(t,.live wd [] false)]) a w:=by
    refine{h1 with slots:=fun i=>?_}
    simp only[aA.xe,dz]
    by_cases hi:i=d
    · subst hi
      rw[if_pos rfl,hv]
      exact .ownNil (B:=⟨0,0,wd,true,false⟩) (by simp[bq])
    ·rw[if_neg hi];exact h1.slots i
  rw[tM,sy] at key
  exact key
theorem qR {P:Program}{outs:List MS}{N:Nat}{w0:World}{W0:Nat→Prop}{L:Mu}{a:Act}{w:World}:∀ (rvs:List ResultVar) (rs:List AV) (sl:SL) (m:ML) (μ:Mu),ck P N w0 W0 L μ (St sl m) a w→∃μ',ck P N w0 W0 L μ' (St (gA outs rvs rs sl m).1 (gA outs rvs rs sl m).2) a w
  |[],rs,sl,m,μ,hs=>⟨μ,by simpa only[gA] using hs⟩
  |rv::rvs,[],sl,m,μ,hs=>⟨μ,by simpa only[gA] using hs⟩
  | rv :: rvs,r::rs,sl,m,μ,hs=>by
    have ih:=qR (P:=P) (outs:=outs) (N:=N) (w0:=w0) (W0:=W0) (L:=L) (a:=a) (w:=w) rvs rs
    unfold gA
    dsimp only
    split
    · split
      · split
        · rename_i hd
          split
          · rename_i hn ht _
            exact ih _ _ _ (hs.ghost _ (.inl (by rw[hd,eW hn])) ht)
          ·exact ih _ _ _ hs
        · rename_i hd
          split
          · rename_i ht _
            exact ih _ _ _ (hs.ghost _ (.inr hd) ht)
          ·exact ih _ _ _ hs
        ·exact ih _ _ _ hs
      ·exact ih _ _ _ hs
    ·exact ih _ _ _ hs
section
variable {P : Program} {Γ : bZ} {sl : SL} {m : ML}
theorem xE (hΓ:Γ.Good P):∀ {rvs:List ResultVar} {xs:List AV},Dy Γ sl m rvs=some xs→xC P (St sl m) rvs xs
  |[],xs,h=>by cases h;trivial
  | rv :: rvs, xs,h=>by
    simp only[Dy] at h
    split at h
    · rename_i x ys h1 h2
      cases h
      refine⟨?_,xE hΓ h2⟩
      cases rv with
      | tmp t=>
        simp only[Fw,Option.some.injEq] at h1
        show cq sl t=x
        rw[←gR];exact h1
      | cell a t=>
        simp only[Fw] at h1
        split at h1
        · rename_i tk i k ha
          split at h1
          · rename_i wd rows ro hm
            split at h1
            · rename_i r hr
              rw[eU] at hr
              exact⟨tk,i,k,wd,rows,ro,r,by show cq sl a=_;rw[←gR];exact ha,cW hm,hr,kR hΓ (by rw[←cw,←nn];exact h1)⟩
            ·cases h1
          ·cases h1
        ·cases h1
    ·cases h
theorem zF (xs:List AV):EW xs=rX xs:=by
  match xs with
  |[]=>rfl
  |[x]=>rfl
  |x::y::r=>rfl
theorem LO.end {nL:Nat}{x:AV}{outs:List MS}{res:AV}(h:LO nL x m outs res){N:Nat}{w0:World}{W0:Nat→Prop}{L μ:Mu}{a:Act}{w:World}{v:Value}(hL:∀t,nL≤t→t<iY→L t=none)
    (hs:ck P N w0 W0 L μ (St sl m) a w) (hv:ct (Wr W0 μ (aO m)) μ w x v):∃μ',ck P 0 w0 W0 L μ' (bare outs) gi w∧ct (Wr W0 μ' (aH outs)) μ' w res v:=by
  obtain⟨⟨h1,h2⟩,h3,h4⟩:=h
  generalize ht:cP (eB (bj 0 outs) m 6 res x) (bj 0 outs)=tab at h1 h2 h3 h4
  have hk:∀i u,(i,u)∈tab→i∈ (bj 0 outs).map (·.1):=fun i u h=>by rw[←ht] at h;exact gp h
  have hD:∀t u,oN tab t=some u→aO (bj 0 outs) t≠ .free:=by
    intro t u ht e
    rcases fV h4 t with⟨_,b⟩|⟨b,_⟩
    ·exact b (hk _ _ (iB ht))
    ·rw[e] at b;exact b
  have hw:=qb.qv hs h1 h2 hk (fun t h=>h) h4 (fun _=>.any) (fun i=>.any)
  have hcv:=kI (fun t wd rows ro h _=>tZ hs t wd rows ro h) hD (F:=fun t=>(∃wd rows ro,dX m t=.live wd rows ro)∧js tab t=true) (fun t wd rows ro h1 h2=>⟨⟨wd,rows,ro,h1⟩,h2⟩) 12 _ _ h3
  obtain⟨μ',hs',hrep⟩:=hw.Gc hL hs (N':=0) (a':=gi) (.inr ⟨fun _=>rfl,rfl,rfl⟩)
  have e:aO (bj 0 outs)=aH outs:=by rw[kx,ee]
  rw[e] at hs' hrep hcv
  exact⟨μ',hs',hrep _ _ _ hcv hv⟩
theorem an.aF {f:FuncId}{fn:Func}{c:Code}{ins outs:List MS}{args:List AV}{res:AV}{N:Nat}{rvs:List ResultVar}(Γ:bZ)(hΓ:Γ.Good P)(hf:P.funcs[f]? =some fn)(hb:fn.body=some c)(hN:fn.ntmps=N)(hr:fn.results.toList=rvs)
    (hlen:Nat.ble (eL args) N=true) (h:ug P N (eL ins) Γ c (zi 0 args) (bj 0 ins) (NU Γ (eL ins) rvs outs res)):an P f ins args outs res:=by
  subst hN;subst hr
  have hlen:args.length≤fn.ntmps:=by rw[←cR];exact cr hlen
  intro w W0 L vs hL hs hr
  have h:=mN hΓ _ _ _ _ h
  rw[tQ,kx,cR] at h
  have hst:(⟨fun i=>args.getD i .any,aH ins⟩:aA)=St (rN 0 args) (pJ 0 ins):=by
    unfold St
    congr 1
    ·funext i;rw[oM];simp
    ·exact(ee ins).symm
  have hsim:ck P fn.ntmps w W0 L L ⟨fun i=>args.getD i .any,aH ins⟩ {tmps:=vs.toArray++Array.replicate (fn.ntmps-vs.toArray.size) undef,defers:=[]} w:=by
    refine⟨?_,.nil,hs.os,hs.tape,hs.output,hs.hsize,hs.shp,hs.keep,hs.w0lt,hs.lentμ,hs.free,fun i=>?_,hs.objs,hs.inj,hs.out,hs.tabs⟩
    ·simp[hr.1];omega
    · by_cases hi:i<args.length
      · have h1:args[i]? =some args[i]:=bz hi
        have h2:vs[i]? =some (vs[i]'(by rw[hr.1];exact hi)):=bz _
        have:=hr.2 i _ _ h1 h2
        have hv:(vs.toArray++Array.replicate (fn.ntmps-vs.toArray.size) undef).getD i undef=vs[i]'(by rw[hr.1];exact hi):=by
          rw[Array.getD_eq_getD_getElem?,Array.getElem?_append_left (by simp;rw[hr.1];exact hi)]
          simp[h2]
        simp only[hv,List.getD_eq_getElem?_getD,h1,Option.getD_some]
        exact this
      · simp only[List.getD_eq_getElem?_getD,ni (Nat.le_of_not_lt hi),Option.getD_none]
        exact .any
  rw[hst] at hsim
  refine lz hf hb h (fun t ht=>hL t (by omega)) hsim (fun e σ' ⟨sl,m,_,hend⟩=>?_) ?_
  · cases e with
    |normal=>exact .inl rfl
    |ret=>exact .inr rfl
    |_=>exact hend.elim
  rintro e σ' μ' a' w' ⟨sl,m,rfl,hend⟩ hs' hd
  have key:HW Γ ins.length fn.results.toList outs res (gA outs fn.results.toList (n3 fn.results.toList res) sl m)→∃v,(results fn a'.tmps).run P w'=.ok v w'∧∃v_1 μ',Ending.returned v=.returned v_1∧ck P 0 w W0 L μ' (bare outs) gi w'∧ct (Wr W0 μ' (aH outs)) μ' w' res v_1:=by
    intro hend
    obtain⟨μ2,hs2⟩:=qR (outs:=outs) fn.results.toList (n3 fn.results.toList res) sl m μ' hs'
    generalize gA outs fn.results.toList (n3 fn.results.toList res) sl m=q at hend hs2
    obtain⟨sl2,m2⟩:=q
    simp only[HW] at hend
    split at hend
    · rename_i xs hxs
      have hres:=(xE hΓ hxs).get
      obtain⟨v,v1,v2⟩:=mJ hs2 hres.1 hres.2
      rw[zF] at hend
      obtain⟨μ'',h1,h2⟩:=hend.end (fun t ht _=>hL t ht) hs2 v2
      exact⟨v,v1,v,μ'',rfl,h1,h2⟩
    ·exact hend.elim
  cases e with
  |normal=>exact key hend
  |ret=>exact key hend
  |_=>exact hend.elim
end
def cm {ι:Type}(sl:SL)(m:ML){nL:Nat}{S:ι→SL}{M:ι→ML}{I:ι→Prop}{μ:ι→Nat}{i:ι}:Prop:=∃j,I j∧μ j<μ i∧Fit nL sl m (S j) (M j)
theorem cm.mk {ι:Type}{sl:SL}{m:ML}{nL:Nat}{S:ι→SL}{M:ι→ML}{I:ι→Prop}{μ:ι→Nat}{i:ι}(j:ι)(h1:I j)(h2:μ j<μ i)(h3:Fit nL sl m (S j) (M j)):cm sl m (nL:=nL) (S:=S) (M:=M) (I:=I) (μ:=μ) (i:=i):=⟨j,h1,h2,h3⟩
@[reducible] def Le {ι : Type} (nL : Nat) (S : ι → SL) (M : ι → ML) (I : ι → Prop) (μ : ι → Nat) (i : ι) (Q : Exit → SL → ML → Prop) (e : Exit) (sl : SL) (m : ML) : Prop :=
  match e with
  |.normal=>cm sl m (nL:=nL) (S:=S) (M:=M) (I:=I) (μ:=μ) (i:=i)
  |e=>Q e sl m
theorem cn.use {P:Program}{N nL:Nat}{sl:SL}{m:ML}{c:Code}{Q:Exit→SL→ML→Prop}{ι:Type}(Γ:bZ)(hΓ:Γ.Good P)(S:ι→SL)(M:ι→ML)(I:ι→Prop)(μ:ι→Nat)(i0:ι)(hI:I i0)(h0:Fit nL sl m (S i0) (M i0))
    (round:∀i,I i→ug P N nL Γ c (S i) (M i) (Le nL S M I μ i Q)):cn P N nL sl m (c:=.loop c) (Q:=Q):=by
  refine eH.Kl (C:=fun i=>St (S i) (M i)) I μ i0 hI h0.uV ?_
  intro i hi
  refine(mN hΓ _ _ _ _ (round i hi)).mono ?_
  rintro e σ ⟨sl',m',rfl,h⟩
  cases e with
  | normal=>
    obtain⟨j,h1,h2,h3⟩:=h
    exact⟨j,h1,h2,h3.uV⟩
  |_=>exact⟨sl',m',rfl,h⟩
theorem cn.ghost {P:Program}{N nL:Nat}{sl:SL}{m:ML}{c:Code}{Q:Exit→SL→ML→Prop}(d t wd:Nat)(hd:sS sl d=.lit (.slice none 0 0))(ht:dX m t=.free)(hc:cn P N nL (ql d (.own t 0 0) sl) (jB t (.live wd [] false) m) (c:=c) (Q:=Q)):
    cn P N nL sl m (c:=c) (Q:=Q):=by
  refine eH.ghost (d:=d) (t:=t) wd (.inl (by show cq sl d=_;rw[←gR];exact hd)) (cW ht) ?_
  rw[tM,sy]
  exact hc
section
variable {P : Program} {N : Nat} {o : Oper} {f : FuncId} {args args' : List AV} {acc : Tk} {sl : SL} {m : ML} {R : Rest} {res : AV} {outs : List MS}
@[reducible] def LX (T : List Nat) (t : Nat) : Bool := oQ T t
@[reducible] def wJ (T : List Nat) (m : ML) (args' args : List AV) : Prop := yp (MF [] (LX T) m 12) args' args
theorem wJ.cv {T:List Nat}(hw:∀t wd rows ro,dX m t=.live wd rows ro→t∈T→bD wd rows)(h:wJ T m args' args):gJ (St sl m).mem id (fun _=>False) (· ∈T) args' args:=by
  have:=jr (D:=fun _=>False) (F:=(· ∈T)) (ρ:=gI []) (mm:=aO m) (fun r x=>kI (fun t wd rows ro h1 h2=>hw t wd rows ro h1 (dQ.1 h2)) (fun t u h=>by cases h) (fun t wd rows ro _ h2=>dQ.1 h2) 12 r x) h
  exact this
theorem gq (hd:j9 N o.dst=true):∀d,o.dst=some d→d<N:=aJ (yg hd)
theorem aD.sv {σ:aA}{rd:List Nat}{x:AV}{ups:ML}(h:(∃ (w0:World) (W0:Nat→Prop) (L μ:Mu) (a:Act) (w:World) (σ2:aA),(∀t∈rd,σ2.mem t=σ.mem t)∧ck P N w0 W0 L μ σ2 a w)→aD P N o σ rd x ups):aD P N o σ rd x ups:=by
  intro σ2 he hr w0 W0 L μ a w K Q hs hK
  exact h ⟨w0,W0,L,μ,a,w,σ2,hr,hs⟩ σ2 he hr w0 W0 L μ a w K Q hs hK
theorem Cg {σ:aA}{T:List Nat}(hσ:σ=St sl m)(h:∃ (w0:World) (W0:Nat→Prop) (L μ:Mu) (a:Act) (w:World) (σ2:aA),(∀t∈T,σ2.mem t=σ.mem t)∧ck P N w0 W0 L μ σ2 a w):∀t wd rows ro,dX m t=.live wd rows ro→t∈T→bD wd rows:=by
  subst hσ
  obtain⟨w0,W0,L,μ,a,w,σ2,h1,h2⟩:=h
  intro t wd rows ro ht hT
  obtain⟨B,_,h3⟩:=h2.objs t wd rows ro (by rw[h1 t hT,mem_eq];exact ht)
  exact h3.wide
theorem aa.lit (T:List Nat)(hf:an P f [] args' [] res)(hc:ak P f)(ha:wJ T m args' args)(hd:j9 N o.dst=true)(hp:jw res=true)(h:R T res [] acc sl m):aa P N f args acc sl m (o:=o) (R:=R):=by
  intro hto
  exact⟨T,res,[],aD.sv fun hs=>aD.CO T hto hc (ha.cv (Cg rfl hs)) hf hp (gq hd),h⟩
@[reducible] def wL (m : ML) : List Nat → Bool
  |[]=>true
  | t::r=>match dX m t with
    |.live _ _ _=>wL m r
    |_=>false
theorem pC {m:ML}:∀ {T:List Nat},wL m T=true→∀t∈T,∃wd rows ro,aO m t=.live wd rows ro
  |[],_,t,h=>by simp at h
  | u ::r,h,t,ht=>by
    simp only[wL] at h
    split at h
    · rename_i hm
      rcases dm.1 ht with rfl|ht
      ·exact⟨_,_,_,cW hm⟩
      ·exact pC h t ht
    ·cases h
@[reducible] def LW : MS → MS
  |.live wd rows _=>.live wd rows true
  |s=>s
theorem aa.val (T:List Nat)(hf:an P f [] args' [] res)(hc:ak P f)(ha:wJ T m args' args)(hT:wL m T=true)(hd:j9 N o.dst=true)(hp:bu res=true)
    (h:R T res (dU (fun t=>(t,LW (dX m t))) T) acc sl m):aa P N f args acc sl m (o:=o) (R:=R):=by
  intro hto
  have e:dU (fun t=>(t,LW (dX m t))) T=T.map fun t=>(t,kY ((St sl m).mem t)):=by
    rw[eo];apply List.map_congr_left;intro t _;rw[mem_eq];rfl
  rw[e] at h
  refine⟨T,res,_,aD.sv fun hs=>?_,h⟩
  have:=aD.G9 (P:=P) (N:=N) (o:=o) (σ:=St sl m) (news:=[]) (x:=res) (base:=0) T hto hc (ha.cv (Cg rfl hs)) (fun t ht=>pC hT t ht) hf (by simp) rfl (by simp) (.same hp) (gq hd)
  simpa using this
@[reducible] def qS : Nat → Nat → AV → AV
  |0,_,x=>x
  | n+1,b,x=>match x with
    |.own t o l=>.own (Nat.add b t) o l
    |.ptr t i k=>.ptr (Nat.add b t) i k
    |.mapr t=>.mapr (Nat.add b t)
    |.agg cs=>.agg (dU (qS n b) cs)
    |.tup cs=>.tup (dU (qS n b) cs)
    |x=>x
@[reducible] def Au : Nat → Nat → AV → Bool
  |0,_,x=>bu x
  | n+1,k,x=>match x with
    |.own t _ _=>Nat.ble (Nat.add t 1) k
    |.ptr t _ _=>Nat.ble (Nat.add t 1) k
    |.mapr t=>Nat.ble (Nat.add t 1) k
    |.agg cs=>iP (Au n k) cs
    |.tup cs=>iP (Au n k) cs
    |x=>bu x
theorem vA {mm:Nat→MS}{F:Nat→Prop}{b k:Nat}:∀ (n:Nat) (x:AV),Au n k x=true→Cv mm (· -b) (fun t=>b≤t∧t-b<k) F (qS n b x) x
  |0,x,h=>.same h
  | n + 1,x,h=>by
    have list:∀cs:List AV,iP (Au n k) cs=true→gJ mm (· -b) (fun t=>b≤t∧t-b<k) F (dU (qS n b) cs) cs:=by
      intro cs
      induction cs with
      |nil=>intro _;exact .nil
      | cons c cs ih=>
        intro h
        simp only[iP] at h
        split at h
        ·rename_i h1;exact .cons (vA n c h1) (ih h)
        ·cases h
    cases x with
    | own t o l=>
      have ht:t+1≤k:=cr h
      show Cv _ _ _ _ (.own (b+t) o l) _
      have e:t=(b+t)-b:=by omega
      have:=Cv.own (m:=mm) (ρ:=(· -b)) (D:=fun t=>b≤t∧t-b<k) (F:=F) (t:=b+t) (o:=o) (l:=l) ⟨by omega,by omega⟩
      simp only[Nat.add_sub_cancel_left] at this
      exact this
    | ptr t i k'=>
      have ht:t+1≤k:=cr h
      show Cv _ _ _ _ (.ptr (b+t) i k') _
      have:=Cv.ptr (m:=mm) (ρ:=(· -b)) (D:=fun t=>b≤t∧t-b<k) (F:=F) (t:=b+t) (i:=i) (k:=k') ⟨by omega,by omega⟩
      simp only[Nat.add_sub_cancel_left] at this
      exact this
    | mapr t=>
      have ht:t+1≤k:=cr h
      show Cv _ _ _ _ (.mapr (b+t)) _
      have:=Cv.mapr (m:=mm) (ρ:=(· -b)) (D:=fun t=>b≤t∧t-b<k) (F:=F) (t:=b+t) ⟨by omega,by omega⟩
      simp only[Nat.add_sub_cancel_left] at this
      exact this
    |agg cs=>exact .tj (list cs h)
    |tup cs=>exact .tf (list cs h)
    |_=>exact .same h
@[reducible] def xH (b : Nat) : Nat → List MS → ML
  |_,[]=>[]
  |k,s::r=>(Nat.add b k,s)::xH b (Nat.add k 1) r
theorem vE (b:Nat):∀ (l:List MS) (k:Nat),xH b k l=jk b k l
  |[],_=>rfl
  |s::r,k=>by simp only[xH,jk];rw[vE b r];rfl
@[reducible] def Cw (m : ML) (b : Nat) : List MS → Nat → Bool
  |[],_=>true
  | _::r,k=>match dX m (Nat.add b k) with
    |.free=>Cw m b r (Nat.add k 1)
    |_=>false
theorem yK {m:ML}{b:Nat}:∀ {l:List MS} {j:Nat},Cw m b l j=true→∀k,k<l.length→aO m (b+ (j+k))=.free
  |[],j,_,k,hk=>by simp at hk
  | s :: r,j,h,k,hk=>by
    simp only[Cw] at h
    split at h
    · rename_i hm
      cases k with
      |zero=>exact cW hm
      | succ k=>
        have:=yK h k (by simpa using hk)
        rw[show b+ (j+ (k+1))=b+ (Nat.add j 1+k) from by show _=b+ (j+1+k);omega]
        exact this
    ·cases h
@[reducible] def ye (b : Nat) : Nat → List MS → List Nat
  |_,[]=>[]
  |k,_::r=>Nat.add b k::ye b (Nat.add k 1) r
theorem vG (b:Nat):∀ (l:List MS) (k:Nat),ye b k l=(List.range' k l.length).map (b+ ·)
  |[],_=>rfl
  |s::r,k=>by simp only[ye,List.length_cons,List.range'_succ,List.map_cons,vG b r];rfl
theorem aa.new (b:Nat)(T:List Nat)(hf:an P f [] args' outs res)(hc:ak P f)(ha:wJ T m args' args)(hT:wL m T=true)(hd:j9 N o.dst=true)(hp:Au 12 (eL outs) res=true)(ho:jC outs)(hfree:Cw m b outs 0=true)
    (h:R (dL T (ye b 0 outs)) (qS 12 b res) (dL (xH b 0 outs) (dU (fun t=>(t,LW (dX m t))) T)) acc sl m):aa P N f args acc sl m (o:=o) (R:=R):=by
  intro hto
  have e:dU (fun t=>(t,LW (dX m t))) T=T.map fun t=>(t,kY ((St sl m).mem t)):=by
    rw[eo];apply List.map_congr_left;intro t _;rw[mem_eq];rfl
  rw[e,gW,gW,vG,vE,lD,←List.range_eq_range'] at h
  rw[cR] at hp
  refine⟨_,_,_,aD.sv fun hs=>?_,h⟩
  have hwd:∀t wd rows ro,dX m t=.live wd rows ro→t∈T→bD wd rows:=by
    obtain⟨w0,W0,L,μ,a,w,σ2,h1,h2⟩:=hs
    exact Cg (sl:=sl) rfl ⟨w0,W0,L,μ,a,w,σ2,fun t ht=>h1 t (by simp[ht]),h2⟩
  refine aD.G9 (P:=P) (N:=N) (o:=o) (σ:=St sl m) (news:=outs) (x:=qS 12 b res) (base:=b) T hto hc (ha.cv hwd) (fun t ht=>pC hT t ht) hf (fun k hk=>by have:=yK hfree k hk;rw[Nat.zero_add] at this;exact this) rfl (fun k s hk=>?_) (vA 12 res hp) (gq hd)
  obtain⟨wd,rows,rfl,h1,h2⟩:=lu ho hk
  exact⟨wd,rows,rows,rfl,hk,h1,.same h2⟩
end
end Go.Am
namespace Go.Am
open Go
theorem bG.mk {acc:Tk}{sl:SL}{m:ML}{A:Tk→SL→ML→Prop}(h:A acc sl m):bG acc sl m (A:=A):=h
theorem bF.mk {sl:SL}{m:ML}{A:SL→ML→Prop}(h:A sl m):bF sl m (A:=A):=h
theorem bk.mk {b:Bool}{acc:Tk}{sl:SL}{m:ML}{A B:Tk→SL→ML→Prop}(h1:b=true→A acc sl m)(h2:b=false→B acc sl m):bk b acc sl m (A:=A) (B:=B):=⟨h1,h2⟩
theorem bk.tt {acc:Tk}{sl:SL}{m:ML}{A B:Tk→SL→ML→Prop}(h1:A acc sl m):bk true acc sl m (A:=A) (B:=B):=⟨fun _=>h1,fun h=>by cases h⟩
theorem bk.ff {acc:Tk}{sl:SL}{m:ML}{A B:Tk→SL→ML→Prop}(h1:B acc sl m):bk false acc sl m (A:=A) (B:=B):=⟨(fun h=>by cases h),fun _=>h1⟩
theorem bk.yes {b:Bool}{acc:Tk}{sl:SL}{m:ML}{A B:Tk→SL→ML→Prop}(h:b=true)(h1:A acc sl m):bk b acc sl m (A:=A) (B:=B):=⟨fun _=>h1,fun h'=>by rw[h] at h';cases h'⟩
theorem bk.no {b:Bool}{acc:Tk}{sl:SL}{m:ML}{A B:Tk→SL→ML→Prop}(h:b=false)(h1:B acc sl m):bk b acc sl m (A:=A) (B:=B):=⟨(fun h'=>by rw[h] at h';cases h'),fun _=>h1⟩
theorem o8.mk {p q:Prop}{sl:SL}{m:ML}{A B:SL→ML→Prop}(h1:p→A sl m)(h2:q→B sl m):o8 p q sl m (A:=A) (B:=B):=⟨h1,h2⟩
theorem bC.mk {p:Prop}{acc:Tk}{sl:SL}{m:ML}{A:Tk→SL→ML→Prop}(h:p)(h1:A acc sl m):bC p acc sl m (A:=A):=⟨h,h1⟩
theorem aG.mk {rows:List AV}{i:Int}{acc:Tk}{sl:SL}{m:ML}{A:AV→Tk→SL→ML→Prop}(k:Nat)(r:AV)(hi:i=k)(hr:rows[k]? =some r)(h:A r acc sl m):aG rows i acc sl m (A:=A):=⟨k,r,hi,hr,h⟩
theorem aG.map {α:Type}{e:α→AV}{l:List α}{i:Int}{acc:Tk}{sl:SL}{m:ML}{A:AV→Tk→SL→ML→Prop}(k:Nat)(x:α)(hi:i=k)(hr:l[k]? =some x)(h:A (e x) acc sl m):aG (l.map e) i acc sl m (A:=A):=⟨k,e x,hi,by rw[fH,hr];rfl,h⟩
theorem eO.mk {i:Int}{n:Nat}{acc:Tk}{sl:SL}{m:ML}{A:Nat→Tk→SL→ML→Prop}(k:Nat)(hi:i=k)(hk:k<n)(h:A k acc sl m):eO i n acc sl m (A:=A):=⟨k,hi,hk,h⟩
theorem aZ.mk {rows:List AV}{i:Nat}{acc:Tk}{sl:SL}{m:ML}{A:AV→Tk→SL→ML→Prop}(r:AV)(hr:rows[i]? =some r)(h:A r acc sl m):aZ rows i acc sl m (A:=A):=⟨r,hr,h⟩
theorem aZ.map {α:Type}{e:α→AV}{l:List α}{i:Nat}{acc:Tk}{sl:SL}{m:ML}{A:AV→Tk→SL→ML→Prop}(x:α)(hr:l[i]? =some x)(h:A (e x) acc sl m):aZ (l.map e) i acc sl m (A:=A):=⟨e x,by rw[fH,hr];rfl,h⟩
theorem Bi.mk {l h:Int}{len:Nat}{acc:Tk}{sl:SL}{m:ML}{A:Nat→Nat→Tk→SL→ML→Prop}(a n:Nat)(h1:l=a)(h2:h=(a:Int)+n)(h3:a+n≤len)(h4:A a n acc sl m):Bi l h len acc sl m (A:=A):=⟨a,n,h1,h2,h3,h4⟩
theorem FO.mk {l h:Int}{rows:List AV}{acc:Tk}{sl:SL}{m:ML}{A:List AV→Tk→SL→ML→Prop}(a n:Nat)(rows':List AV)(h1:l=a)(h2:h=(a:Int)+n)(h3:a+n≤rows.length)(h4:rows'=(rows.drop a).take n)(h5:A rows' acc sl m):FO l h rows acc sl m (A:=A):=⟨a,n,rows',h1,h2,h3,h4,h5⟩
theorem j0.mk {rb rs:List AV}{off len off' len' bytes:Nat}{acc:Tk}{sl:SL}{m:ML}{A:List AV→Tk→SL→ML→Prop}(rows0 news:List AV)(h0:off=0∧len=rb.length∧rows0=rb)(h1:off'=0∧len'=rs.length∧news=rs)(h2:j7 (flat news)=true)
    (h3:(rows0.length+news.length)*bytes≤140737488355328) (h4:rows0.length+news.length≤9223372036854775807) (h:A (rows0++news) acc sl m):j0 rb off len rs off' len' bytes acc sl m (A:=A):=by
  obtain⟨rfl,rfl,rfl⟩:=h0
  obtain⟨rfl,rfl,rfl⟩:=h1
  exact⟨_,_,by omega,by simp,by omega,by simp,h2,h3,h4,h⟩
theorem aL.mk {P:Program}{l:List Oper}{acc:Tk}{sl:SL}{m:ML}{A:SL→ML→Prop}(h1:P.follows .mixedOrders=true)(h2:Region.lexB .any l.toArray=true)(h3:(zm l.toArray acc||ik l.toArray acc)=true)(h4:A sl m):aL P acc sl m (l:=l) (A:=A):=⟨h1,h2,h3,h4⟩
theorem mz {α:Type}(e:α→AV)(h:∀a,j7 (cells (e a))=true)(l:List α):j7 (flat (l.map e))=true:=by
  induction l with
  |nil=>rfl
  | cons x xs ih=>
    simp only[List.map_cons,eE]
    unfold j7 at ih h ⊢
    rw[List.all_append,h x,ih];rfl
theorem xU.cut {m:ML}{fz:Nat→Bool}{tab:List (Nat×Nat)}{n:Nat}{t off len wd:Nat}{rows rows':List AV}{ro:Bool}(h1:dX m t=.live wd rows ro)(h2:fz t=true)(h3:off+len≤rows.length)(h4:rows'=(rows.drop off).take len)(h5:br rows'=true):xU m fz (MF tab fz m n) (.sl wd rows') t off len:=
  ⟨wd,rows,ro,rows',h1,h2,rfl,h3,h5,by rw[←h4];exact .refl h5⟩
end Go.Am
end
namespace Go.Am
open Go Go.MapKept
set_option linter.unusedSectionVars false
@[reducible] def vl (m : ML) (ym : AV) (rows : List AV) : Prop :=
  match ym with
  |.mapr t=> ∃wd ro,dX m t=.live wd rows ro
  |.fmap rs=>rs=rows
  |_=>False
@[reducible] def vM : AV → List Nat
  |.mapr t=>[t]
  |_=>[]
theorem vl.src {sl:SL}{m:ML}{ym:AV}{rows:List AV}(h:vl m ym rows):lR (St sl m) ym rows (vM ym):=by
  cases ym with
  |mapr t=>obtain⟨wd,ro,h⟩:=h;exact .own (by rw[mem_eq];exact h)
  |fmap rs=>have h':rs=rows:=h;subst h';exact .frz
  |_=>exact h.elim
@[reducible] def xM (c : Bool) (x : AV) (ok : Bool) : AV := match c with
  |true=>.tup [x,.lit (.bool ok)]
  |false=>x
section
variable {P : Program} {N : Nat} {o : Oper} {t : TypeId} {c : Bool} {ym x r : AV} {key z : Value} {d : TypeDesc} {rows : List AV} {acc : Tk} {sl : SL} {m : ML} {R : Rest}
theorem qk.yes (hT:iI P t d z)(hrows:vl m ym rows)(hk:IsKey d key)(hks:jV d rows)(hr:entry key r∈rows)(hd:j9 N o.dst=true)(h:R (vM ym) (xM c r true) [] acc sl m):qk P N t c ym (.lit key) acc sl m (o:=o) (R:=R):=by
  rintro⟨y,x,ho,hy,hx⟩
  obtain⟨i,hi⟩:=List.getElem?_of_mem hr
  refine⟨_,_,_,aD.lookup ho hy hrows.src hx hT hk hks hi (gq hd),?_⟩
  cases c<;>exact h
theorem qk.no (hT:iI P t d z)(hrows:vl m ym rows)(hk:IsKey d key)(hks:jV d rows)(hr:∀r,entry key r∉rows)(hd:j9 N o.dst=true){zv:AV}(hz:l7 z=zv)(h:R (vM ym) (xM c zv false) [] acc sl m):qk P N t c ym (.lit key) acc sl m (o:=o) (R:=R):=by
  rintro⟨y,x,ho,hy,hx⟩
  subst hz
  refine⟨_,_,_,aD.AD ho hy hrows.src hx hT hk hks hr (gq hd),?_⟩
  cases c<;>exact h
theorem xO.old {tk wd:Nat}(hT:iI P t d z)(hm:dX m tk=.live wd rows false)(hk:IsKey d key)(hks:jV d rows)(i:Nat)(hr:rows[i]? =some (entry key r))(hd:j9 N o.dst=true)(h:R [tk] .any [(tk,.live wd (rows.set i (entry key x)) false)] acc sl m):xO P N t (.mapr tk) (.lit key) x acc sl m (o:=o) (R:=R):=by
  rintro⟨y,xx,v,ho,hy,hx,hv⟩
  exact⟨_,_,_,aD.mapUpdate ho hy (by rw[mem_eq];exact hm) hx hv hT hk hks hr (gq hd),h⟩
theorem xO.new {tk wd:Nat}(hT:iI P t d z)(hm:dX m tk=.live wd rows false)(hk:IsKey d key)(hks:jV d rows)(hr:∀r,entry key r∉rows)(hroom:rows.length+1<maxLen)(hwd:wd=2)(hd:j9 N o.dst=true)(h:R [tk] .any [(tk,.live wd (rows++ [entry key x]) false)] acc sl m):xO P N t (.mapr tk) (.lit key) x acc sl m (o:=o) (R:=R):=by
  rintro⟨y,xx,v,ho,hy,hx,hv⟩
  exact⟨_,_,_,aD.qm ho hy (by rw[mem_eq];exact hm) hx hv hT hk hks hr hroom hwd (gq hd),h⟩
theorem rF.mk (hT:iI P t d z)(hrows:vl m ym rows)(hd:j9 N o.dst=true)(h:R (vM ym) (.lit (.int .i64 rows.length)) [] acc sl m):rF P N t ym acc sl m (o:=o) (R:=R):=by
  rintro⟨y,ho,hy⟩
  exact⟨_,_,_,aD.Hf ho hy hrows.src hT (gq hd),h⟩
end
section
variable {α : Type} {K : Type} [DecidableEq K]
def iG (k:K):List (K×α)→Option α
  |[]=>none
  |p::r=>if p.1=k then some p.2 else iG k r
def ju (k:K)(x:α):List (K×α)→List (K×α)
  |[]=>[(k,x)]
  |p::r=>if p.1=k then(k,x)::r else p::ju k x r
theorem pP (k k':K)(x:α):∀l:List (K×α),iG k' (ju k x l)=if k=k' then some x else iG k' l
  |[]=>by simp[ju,iG]
  | p ::r=>by
    simp only[ju]
    by_cases h:p.1=k
    · rw[if_pos h]
      simp only[iG]
      by_cases hk:k=k'
      ·rw[if_pos hk,if_pos hk]
      ·rw[if_neg hk,if_neg hk,if_neg (by rw[h];exact hk)]
    · rw[if_neg h]
      simp only[iG,pP k k' x r]
      by_cases hk:k=k'
      ·subst hk;rw[if_neg h];simp
      ·simp[hk]
theorem vg {k:K}:∀ {l:List (K×α)},iG k l=none↔k∉l.map (·.1)
  |[]=>by simp[iG]
  | p ::r=>by
    simp only[iG,List.map_cons,dm,not_or]
    by_cases h:p.1=k
    ·simp[h]
    · rw[if_neg h,vg (l:=r)]
      exact⟨fun hh=>⟨fun e=>h e.symm,hh⟩,fun hh=>hh.2⟩
theorem zO {k:K}{x:α}:∀ {l:List (K×α)},iG k l=some x→(k,x)∈l
  |[],h=>by cases h
  | p::r,h=>by
    simp only[iG] at h
    split at h
    ·rename_i hp;cases h;subst hp;exact dJ
    ·exact c7 _ (zO h)
theorem Cy {k:K}{x:α}(f:K×α→AV):∀ {l:List (K×α)} {y:α},iG k l=some y→∃i,(l.map f)[i]? =some (f (k,y))∧(ju k x l).map f=(l.map f).set i (f (k,x))
  |[],y,h=>by cases h
  | p ::r,y,h=>by
    simp only[iG] at h
    split at h
    ·rename_i hp;cases h;subst hp;exact⟨0,rfl,by simp[ju]⟩
    · rename_i hp
      obtain⟨i,h1,h2⟩:=Cy (x:=x) f h
      exact⟨i+1,by simpa using h1,by simp[ju,hp,h2]⟩
theorem s9 {k:K}{x:α}:∀ {l:List (K×α)},iG k l=none→ju k x l=l++ [(k,x)]
  |[],_=>rfl
  | p::r,h=>by
    simp only[iG] at h
    split at h
    ·cases h
    ·rename_i hp;simp[ju,hp,s9 h]
end
def iJ {K α:Type}(kv:K→Value)(e:α→AV)(l:List (K×α)):List AV:=l.map fun p=>entry (kv p.1) (e p.2)
section
variable {P : Program} {N : Nat} {o : Oper} {t : TypeId} {c : Bool} {ym : AV} {z : Value} {d : TypeDesc} {acc : Tk} {sl : SL} {m : ML} {R : Rest} {α : Type} {K : Type} [DecidableEq K] {kv : K → Value} {e : α → AV} {l : List (K × α)} {k : K}
theorem lS (hk:∀k,IsKey d (kv k)):jV d (iJ kv e l):=jV.map (fun p:K×α=>kv p.1) (fun p=>e p.2) (fun p=>hk p.1) l
theorem yC (hinj:∀a b,kv a=kv b→a=b)(h:iG k l=none):∀r,entry (kv k) r∉iJ kv e l:=by
  intro r hr
  obtain⟨p,hp,he⟩:=List.mem_map.1 hr
  have:=hinj _ _ (qO he).1
  exact vg.1 h (List.mem_map.2 ⟨p,hp,this⟩)
theorem qk.tab (kv:K→Value)(e:α→AV)(l:List (K×α))(hT:iI P t d z)(hrows:vl m ym (iJ kv e l))(hk:∀k,IsKey d (kv k))(hinj:∀a b,kv a=kv b→a=b)(hd:j9 N o.dst=true){zv:AV}(hz:l7 z=zv)
    (h1:∀x,iG k l=some x→R (vM ym) (xM c (e x) true) [] acc sl m) (h2:iG k l=none→R (vM ym) (xM c zv false) [] acc sl m):qk P N t c ym (.lit (kv k)) acc sl m (o:=o) (R:=R):=by
  cases hg:iG k l with
  |some x=>exact .yes hT hrows (hk k) (lS hk) (List.mem_map.2 ⟨(k,x),zO hg,rfl⟩) hd (h1 x hg)
  |none=>exact .no hT hrows (hk k) (lS hk) (yC hinj hg) hd hz (h2 hg)
theorem xO.tab {tk:Nat}(kv:K→Value)(e:α→AV)(l:List (K×α))(x:α)(hT:iI P t d z)(hm:dX m tk=.live 2 (iJ kv e l) false)(hk:∀k,IsKey d (kv k))(hinj:∀a b,kv a=kv b→a=b)(hroom:l.length+1<maxLen)(hd:j9 N o.dst=true)
    (h:R [tk] .any [(tk,.live 2 (iJ kv e (ju k x l)) false)] acc sl m):xO P N t (.mapr tk) (.lit (kv k)) (e x) acc sl m (o:=o) (R:=R):=by
  cases hg:iG k l with
  | some y=>
    obtain⟨i,h1,h2⟩:=Cy (x:=x) (fun p:K×α=>entry (kv p.1) (e p.2)) hg
    refine .old hT hm (hk k) (lS hk) i h1 hd ?_
    have:(iJ kv e l).set i (entry (kv k) (e x))=iJ kv e (ju k x l):=h2.symm
    rw[this];exact h
  | none=>
    refine .new hT hm (hk k) (lS hk) (yC hinj hg) (by simpa[iJ] using hroom) rfl hd ?_
    have:iJ kv e l++ [entry (kv k) (e x)]=iJ kv e (ju k x l):=by rw[s9 hg];simp[iJ]
    rw[this];exact h
end
theorem Ib (s:ByteArray):IsKey .string (.string s):=trivial
theorem xg (n:Int):IsKey (.int .i64) (.int .i64 n):=rfl
theorem HS (a b:ByteArray)(h:Value.string a=.string b):a=b:=by cases h;rfl
theorem wY (a b:Int)(h:Value.int .i64 a=.int .i64 b):a=b:=by cases h;rfl
end Go.Am
