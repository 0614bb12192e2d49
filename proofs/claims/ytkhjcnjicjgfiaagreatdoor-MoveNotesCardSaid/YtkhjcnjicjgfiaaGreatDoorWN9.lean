/- Walks of functions by unfolding over abstract states; runs of functions by an evaluator that is proved. By an AI agent. -/
import Derived.Test.YtkhjcnjicjgfiaaGreatDoorWN8
import Derived.Test.YtkhjcnjicjgfiaaGreatDoorWN5
set_option linter.unusedSimpArgs false
set_option linter.unusedVariables false
namespace Go.Am
open Go
@[reducible] def oG : List (Nat × Nat) → Nat → Option Nat
  |[],_=>none
  | (k,x)::r,i=>match Nat.beq i k with
    |true=>some x
    |false=>oG r i
def gQ (tab:List (Nat×Nat))(t:Nat):Nat:=(oG tab t).getD t
def gb (R:AV→AV→Prop)(a b:List AV):Prop:=a.length=b.length∧∀ (i:Nat) (x y:AV),a[i]? =some x→b[i]? =some y→R x y
def xd (m:ML)(fz:Nat→Bool)(R:AV→AV→Prop)(r:AV)(t off len:Nat):Prop:=
  ∃wd rows ro rows',eD m t=.live wd rows ro∧fz t=true∧r=.sl wd rows'∧off+len≤rows.length∧br rows'=true∧gb R rows' ((rows.drop off).take len)
def Kj (m:ML)(fz:Nat→Bool)(R:AV→AV→Prop)(r:AV)(t i k:Nat):Prop:=
  ∃wd rows ro x y,eD m t=.live wd rows ro∧fz t=true∧r=.fptr x k∧rows[i]? =some y∧bz x=true∧R x y
def Kz (m:ML)(fz:Nat→Bool)(r:AV)(t:Nat):Prop:=
  ∃wd rows ro,eD m t=.live wd rows ro∧fz t=true∧r=.fmap rows∧∀x∈rows,∃key y,x=entry key y∧bz y=true
def mY (r:AV):Prop:=r=.lit (.slice none 0 0)∨r=.emp∨∃wd,r=.sl wd []
def IG (r:AV):Prop:=r=.emp∨∃wd,r=.sl wd []
@[reducible] def xu (f : AV → AV → Prop) : List AV → List AV → Prop
  |[],[]=>True
  |r::rs,x::xs=>f r x∧xu f rs xs
  |_,_=>False
@[reducible] def MF (tab : List (Nat × Nat)) (fz : Nat → Bool) (m : ML) : Nat → AV → AV → Prop
  |0,r,x=>r=x∧bz x=true
  | n + 1, r,x=>match x with
    | .own t off len=>match r with
      | .own t' off' len'=>match oG tab t' with
        | some u=>match Nat.beq u t with
          |true=>off'=off∧len'=len
          |false=>False
        |none=>False
      |r=>xd m fz (MF tab fz m n) r t off len
    | .ptr t i k=>match r with
      | .ptr t' i' k'=>match oG tab t' with
        | some u=>match Nat.beq u t with
          |true=>i'=i∧k'=k
          |false=>False
        |none=>False
      |r=>Kj m fz (MF tab fz m n) r t i k
    | .mapr t=>match r with
      | .mapr t'=>match oG tab t' with
        | some u=>match Nat.beq u t with
          |true=>True
          |false=>False
        |none=>False
      |r=>Kz m fz r t
    | .agg cs=>match r with
      |.agg rs=>xu (MF tab fz m n) rs cs
      |r=>r=x∧bz x=true
    | .tup cs=>match r with
      |.tup rs=>xu (MF tab fz m n) rs cs
      |r=>r=x∧bz x=true
    | .clo f a b=>match r with
      |.clo f' a' b'=>f'=f∧xu (MF tab fz m n) a' a∧xu (MF tab fz m n) b' b
      |r=>r=x∧bz x=true
    | .lit (.slice ad a c)=>match Aw (.slice ad a c) with
      |true=>mY r
      |false=>r=x∧bz x=true
    | .lit (.int k b)=>match r with
      | .lit (.int k' a)=>match Nat.beq (tG k') (tG k) with
        |true=>a=b
        |false=>False
      |r=>r=x
    | .lit (.bool b)=>match r with
      |.lit (.bool a)=>a=b
      |r=>r=x
    | .lit (.string b)=>match r with
      |.lit (.string a)=>a=b
      |r=>r=x
    | .sl wd rows=>match r with
      | .sl wd' rows'=>match r8 wd' wd with
        |true=>rows'=rows
        |false=>False
      |r=>r=x
    |.emp=>IG r
    |x=>r=x∧bz x=true
section
variable {tab : List (Nat × Nat)} {fz : Nat → Bool} {m : ML} {D F : Nat → Prop}
theorem jE {R:AV→AV→Prop}{mm:Nat→MS}{ρ:Nat→Nat}:∀ {rs xs:List AV},(∀r x,R r x→Cv mm ρ D F r x)→xu R rs xs→gR mm ρ D F rs xs
  |[],[],_,_=>.nil
  |_::_,_::_,hR,h=>.cons (hR _ _ h.1) (jE hR h.2)
  |[],_::_,_,h=>h.elim
  |_::_,[],_,h=>h.elim
theorem Bq {R:AV→AV→Prop}:∀ {rs xs:List AV},xu R rs xs→rs.length=xs.length
  |[],[],_=>rfl
  |_::_,_::_,h=>by simp[Bq h.2]
  |[],_::_,h=>h.elim
  |_::_,[],h=>h.elim
theorem mY.one {r:AV}(h:mY r):cells r=[r]:=by
  rcases h with rfl|rfl|⟨wd,rfl⟩<;>rfl
theorem IG.one {r:AV}(h:IG r):cells r=[r]:=by
  rcases h with rfl|⟨wd,rfl⟩<;>rfl
theorem xB:∀ {n:Nat} {r x:AV},MF tab fz m n r x→(cells r).length=(cells x).length
  |0,r,x,h=>by rw[h.1]
  | n +1,r,x,h=>by
    unfold MF at h
    split at h
    · split at h
      ·rfl
      ·obtain⟨wd,rows,ro,rows',_,_,rfl,_⟩:=h;rfl
    · split at h
      ·rfl
      ·obtain⟨wd,rows,ro,a,b,_,_,rfl,_⟩:=h;rfl
    · split at h
      ·rfl
      ·obtain⟨wd,rows,ro,_,_,rfl,_⟩:=h;rfl
    · split at h
      ·exact Bq h
      ·rw[h.1]
    · split at h
      ·rfl
      ·rw[h.1]
    · split at h
      ·rfl
      ·rw[h.1]
    · split at h
      ·rw[h.one];rfl
      ·rw[h.1]
    · split at h
      ·rfl
      ·rw[h]
    · split at h
      ·rfl
      ·rw[h]
    · split at h
      ·rfl
      ·rw[h]
    · split at h
      ·rfl
      ·rw[h]
    ·rw[h.one];rfl
    ·rw[h.1]
theorem dj {t:Nat}{s:MS}(h:eD m t=s):aR m t=s:=by rw[←gW];exact h
theorem lA (hw:∀t wd rows ro,eD m t=.live wd rows ro→fz t=true→bG wd rows)(hD:∀t u,oG tab t=some u→D t)(hF:∀t wd rows ro,eD m t=.live wd rows ro→fz t=true→F t):
    ∀ (n:Nat) (r x:AV),MF tab fz m n r x→Cv (aR m) (gQ tab) D F r x
  |0,r,x,h=>by rw[h.1];exact .same h.2
  | n + 1, r,x,h=>by
    have ih:=lA hw hD hF n
    unfold MF at h
    split at h
    · split at h
      · split at h
        · rename_i t off len _ t' off' len' _ u hu
          split at h
          · rename_i hb
            have hb':=beq_eq hb
            subst hb'
            obtain⟨rfl,rfl⟩:=h
            have:gQ tab t'=u:=by simp[gQ,hu]
            rw[←this]
            exact .own (hD _ _ hu)
          ·exact h.elim
        ·exact h.elim
      · obtain⟨wd,rows,ro,rows',h1,h2,rfl,h4,h5,h6⟩:=h
        have hwr:=hw _ _ _ _ h1 h2
        have hcl:gR (aR m) (gQ tab) D F rows' ((rows.drop _).take _):=⟨h6.1,fun q c d a b=>ih _ _ (h6.2 q c d a b)⟩
        refine .D1 (hF _ _ _ _ h1 h2) (dj h1) ?_ hwr h4 hcl h5
        intro i y hy
        have hi:=(aY hy).1
        rw[h6.1] at hi
        have hz:=bD hi
        rw[xB (h6.2 i _ _ hy hz)]
        exact hwr.mem (List.mem_of_mem_drop (List.mem_of_mem_take (bO hz)))
    · split at h
      · split at h
        · rename_i t i k _ t' i' k' _ u hu
          split at h
          · rename_i hb
            have hb':=beq_eq hb
            subst hb'
            obtain⟨rfl,rfl⟩:=h
            have:gQ tab t'=u:=by simp[gQ,hu]
            rw[←this]
            exact .ptr (hD _ _ hu)
          ·exact h.elim
        ·exact h.elim
      · obtain⟨wd,rows,ro,a,b,h1,h2,rfl,h4,h5,h6⟩:=h
        have hwr:=hw _ _ _ _ h1 h2
        have hlen:=xB h6
        have hc:=(ih _ _ h6).cells hlen
        exact .frzp (hF _ _ _ _ h1 h2) (dj h1) h4 (by rw[hlen];exact hwr _ _ h4) (fun q c d h1 h2=>hc.2 q c d h1 h2) (fun c hc=>mT h5 hc)
    · split at h
      · split at h
        · rename_i t _ t' _ u hu
          split at h
          · rename_i hb
            have hb':=beq_eq hb
            subst hb'
            have:gQ tab t'=u:=by simp[gQ,hu]
            rw[←this]
            exact .mapr (hD _ _ hu)
          ·exact h.elim
        ·exact h.elim
      · obtain⟨wd,rows,ro,h1,h2,rfl,h4⟩:=h
        refine .fmap (hF _ _ _ _ h1 h2) (dj h1) rfl (fun i r' hr=>?_) (fun i key key' x' x k1 k2=>?_) (fun r hr=>?_)
        · obtain⟨key,y,rfl,_⟩:=h4 r' (bO hr)
          exact⟨key,y,y,rfl,hr⟩
        · rw[k1] at k2
          have k3:=Option.some.inj k2
          simp only[entry,AV.agg.injEq,List.cons.injEq,AV.tup.injEq,and_true] at k3
          obtain⟨key2,y2,k4,k5⟩:=h4 _ (bO k1)
          simp only[entry,AV.agg.injEq,List.cons.injEq,AV.tup.injEq,and_true] at k4
          rw[←k3.2,k4.2];exact .same k5
        · obtain⟨key,y,rfl,h5⟩:=h4 r hr
          simp[entry,bz,br,h5]
    · split at h
      ·exact .uk (jE ih h)
      ·rw[h.1];exact .same h.2
    · split at h
      ·exact .uB (jE ih h)
      ·rw[h.1];exact .same h.2
    · split at h
      · obtain⟨rfl,h1,h2⟩:=h
        exact .JO (jE ih h1) (jE ih h2)
      ·rw[h.1];exact .same h.2
    · split at h
      · rename_i hn
        have hn':=nC hn
        cases hn'
        rcases h with rfl|rfl|⟨wd,rfl⟩
        ·exact .same rfl
        ·exact .nilE
        ·exact .nil
      ·rw[h.1];exact .same h.2
    · split at h
      · split at h
        · rename_i hk
          rw[h,ET hk];exact .same rfl
        ·exact h.elim
      ·rw[h];exact .same rfl
    · split at h
      ·rw[h];exact .same rfl
      ·rw[h];exact .same rfl
    · split at h
      ·rw[h];exact .same rfl
      ·rw[h];exact .same rfl
    · split at h
      · split at h
        · rename_i hb
          rw[eo] at hb;rw[h,beq_eq hb];exact .same rfl
        ·exact h.elim
      ·rw[h];exact .same rfl
    · rcases h with rfl|⟨wd,rfl⟩
      ·exact .same rfl
      ·exact .empS
    ·rw[h.1];exact .same h.2
theorem jn:∀ (n:Nat) (x:AV),bz x=true→MF tab fz m n x x
  |0,x,h=>⟨rfl,h⟩
  | n + 1,x,h=>by
    have list:∀cs:List AV,br cs=true→xu (MF tab fz m n) cs cs:=by
      intro cs
      induction cs with
      |nil=>intro _;trivial
      | cons c cs ih=>
        intro hh
        simp only[br,bN] at hh
        exact⟨jn n c hh.1,ih hh.2⟩
    cases x with
    |own=>simp[bz] at h
    |ptr=>simp[bz] at h
    |mapr=>simp[bz] at h
    |agg cs=>exact list cs (by simpa only[bz] using h)
    |tup cs=>exact list cs (by simpa only[bz] using h)
    | clo f a b=>
      simp only[bz,bN] at h
      exact⟨rfl,list a h.1,list b h.2⟩
    | sl wd rows=>
      show(match r8 wd wd with|true=>rows=rows|false=>False)
      rw[eo,Nat.beq_refl]
    |emp=>exact .inl rfl
    | lit v=>
      cases v with
      | int k b=>
        show(match Nat.beq (tG k) (tG k) with|true=>b=b|false=>False)
        rw[Nat.beq_refl]
      |bool b=>rfl
      |string b=>rfl
      | slice ad a c=>
        show(match Aw (.slice ad a c) with|true=>mY _|false=>_=_∧_)
        split
        ·rename_i hn;exact .inl (by rw[nC hn])
        ·exact⟨rfl,rfl⟩
      |_=>exact⟨rfl,rfl⟩
    |_=>exact⟨rfl,h⟩
theorem gb.refl {n:Nat}{rows:List AV}(h:br rows=true):gb (MF tab fz m n) rows rows:=
  ⟨rfl,fun i x y hx hy=>by rw[hx] at hy;cases hy;exact jn n x (cT.1 h x (bO hx))⟩
end
def qx (R:AV→AV→Prop)(rows' rows:List AV):Prop:=gb R rows' rows∧br rows'=true
@[reducible] def JE (t : Nat) : Bool := Nat.beq (Nat.mod t 10) 4
@[reducible] def LX : Bool → Bool → Bool
  |false,true=>false
  |_,_=>true
@[reducible] def Co (tab : List (Nat × Nat)) (fz : Nat → Bool) (m : ML) (t' : Nat) : MS → Prop
  | .live wd' rows' ro'=>match oG tab t' with
    | some u =>match eD m u with
      | .live wd rows ro=>match r8 wd' wd,LX ro' ro with
        | true,true=>match uU t' with
          |true=>xu (MF tab fz m 12) rows' rows
          | false=>match JE t' with
            |true=>gb (MF tab fz m 12) rows' rows
            |false=>qx (MF tab fz m 12) rows' rows
        |_,_=>False
      |_=>False
    |none=>False
  | .dead=>match oG tab t' with
    | some u=>match eD m u with
      |.free=>False
      |_=>True
    |none=>False
  |.free=>False
@[reducible] def qn (tab : List (Nat × Nat)) (fz : Nat → Bool) (m : ML) : ML → Prop
  |[]=>True
  |(t,s)::r=>Co tab fz m t s∧qn tab fz m r
@[reducible] def Ia (tab : List (Nat × Nat)) (fz : Nat → Bool) (m : ML) (sl : SL) : SL → Prop
  |[]=>True
  |(d,x)::r=>MF tab fz m 12 x (uI sl d)∧Ia tab fz m sl r
section
variable (m' m : ML)
@[reducible] def At (f : AV → AV → List (Nat × Nat)) : List AV → List AV → List (Nat × Nat)
  |x::xs,y::ys=>dR (f x y) (At f xs ys)
  |_,_=>[]
@[reducible] def eO : Nat → AV → AV → List (Nat × Nat)
  |0,_,_=>[]
  | n + 1,x',x=>match x',x with
    |.own t' _ _,.own t _ _=>[(t',t)]
    | .ptr t' _ _,.ptr t _ _=>(t',t)::(match uU t' with
      | true=>match eD m' t',eD m t with
        |.live _ rows' _,.live _ rows _=>At (eO n) rows' rows
        |_,_=>[]
      |false=>[])
    |.mapr t',.mapr t=>[(t',t)]
    |.agg cs',.agg cs=>At (eO n) cs' cs
    |.tup cs',.tup cs=>At (eO n) cs' cs
    |.clo _ a' b',.clo _ a b=>dR (At (eO n) a' a) (At (eO n) b' b)
    |_,_=>[]
@[reducible] def iL (sl : SL) : SL → List (Nat × Nat)
  |[]=>[]
  |(d,x)::r=>dR (eO m' m 4 x (uI sl d)) (iL sl r)
end
@[reducible] def cW (ps : List (Nat × Nat)) : ML → List (Nat × Nat)
  |[]=>[]
  | (k,_)::r=>match oG ps k with
    |some u=>(k,u)::cW ps r
    |none=>(k,k)::cW ps r
@[reducible] def lR : List (Nat × Nat) → Bool
  |[]=>true
  | (k,u)::r=>match o6 (ef Prod.snd r) u,o6 (ef Prod.fst r) k with
    |false,false=>lR r
    |_,_=>false
@[reducible] def gX (m' : ML) : List (Nat × Nat) → List (Nat × Nat)
  |[]=>[]
  | (k,u)::r=>match eD m' k with
    |.live _ _ _=>(k,u)::gX m' r
    |_=>gX m' r
@[reducible] def oo (m : ML) (tab : List (Nat × Nat)) : Nat → Bool
  |0=>true
  | k + 1=>match eD m k with
    |.free=>oo m tab k
    | _ =>match oG tab k with
      | some u=>match Nat.beq u k with
        |true=>oo m tab k
        |false=>false
      |none=>false
@[reducible] def jR (tab : List (Nat × Nat)) (t : Nat) : Bool := match o6 (ef Prod.snd tab) t with
  |true=>false
  |false=>true
@[reducible] def Fit (nL : Nat) (sl : SL) (m : ML) (sl' : SL) (m' : ML) : Prop :=
  (lR (gX m' (cW (iL m' m sl sl') m'))=true∧oo m (cW (iL m' m sl sl') m') nL=true)∧
    Ia (cW (iL m' m sl sl') m') (jR (cW (iL m' m sl sl') m')) m sl sl'∧qn (cW (iL m' m sl sl') m') (jR (cW (iL m' m sl sl') m')) m m'
theorem dV:∀ {l:List Nat} {k:Nat},o6 l k=true↔k∈l
  |[],k=>by simp[o6]
  | x :: r,k=>by
    simp only[o6,dU]
    split
    ·rename_i h;simp[beq_eq h]
    · rename_i h
      rw[dV (l:=r)]
      constructor
      ·exact .inr
      · rintro(rfl|h')
        ·rw[Nat.beq_refl] at h;cases h
        ·exact h'
theorem iF:∀ {l:List (Nat×Nat)} {i u:Nat},oG l i=some u→(i,u)∈l
  |[],i,u,h=>by cases h
  | p::r,i,u,h=>by
    simp only[oG] at h
    split at h
    ·rename_i hb;cases h;rw[beq_eq hb];simp
    ·exact eP _ (iF h)
theorem tT:∀ {l:List (Nat×Nat)},lR l=true→∀ {i j u:Nat},(i,u)∈l→(j,u)∈l→i=j
  |[],_,i,j,u,h,_=>by simp at h
  | p :: r,hn,i,j,u,h1,h2=>by
    simp only[lR] at hn
    split at hn
    · rename_i g1 g2
      have no:∀k,(k,p.2)∉r:=fun k hk=>by
        have:o6 (ef Prod.snd r) p.2=true:=by rw[eB,dV];exact List.mem_map.2 ⟨_,hk,rfl⟩
        rw[this] at g1;cases g1
      rcases dU.1 h1 with h1|h1
      · rcases dU.1 h2 with h2|h2
        ·rw[←h1] at h2;cases h2;rfl
        ·rw[←h1] at no;exact absurd h2 (no j)
      · rcases dU.1 h2 with h2|h2
        ·rw[←h2] at no;exact absurd h1 (no i)
        ·exact tT hn h1 h2
    ·cases hn
theorem mS {m':ML}:∀ {l:List (Nat×Nat)} {i u:Nat} {wd:Nat} {rows:List AV} {ro:Bool},(i,u)∈l→aR m' i=.live wd rows ro→(i,u)∈gX m' l
  | p ::r,i,u,wd,rows,ro,h,hl=>by
    rcases dU.1 h with h|h
    · subst h
      have e:eD m' i=.live wd rows ro:=by rw[gW];exact hl
      simp only[gX,e]
      exact gj
    · have ih:=mS h hl
      simp only[gX]
      split
      ·exact eP _ ih
      ·exact ih
theorem gy {ps:List (Nat×Nat)}:∀ {m':ML} {i u:Nat},(i,u)∈cW ps m'→i∈m'.map (·.1)
  |[],i,u,h=>by simp at h
  | (k,s)::r,i,u,h=>by
    simp only[cW] at h
    split at h
    · rcases dU.1 h with h|h
      ·cases h;simp
      ·simp[gy h]
    · rcases dU.1 h with h|h
      ·cases h;simp
      ·simp[gy h]
theorem gi {tab:List (Nat×Nat)}{fz:Nat→Bool}{m:ML}:∀ {m':ML},qn tab fz m m'→∀t,aR m' t=.free∧t∉m'.map (·.1)∨(Co tab fz m t (aR m' t)∧t∈m'.map (·.1))
  |[],_,t=>.inl ⟨rfl,by simp⟩
  | (d,s)::r,h,t=>by
    simp only[aR]
    by_cases hi:t=d
    ·subst hi;simp;exact h.1
    · have h':(t==d)=false:=by simpa using hi
      rw[h']
      rcases gi h.2 t with⟨a,b⟩|⟨a,b⟩
      ·exact .inl ⟨a,by simp[hi];simpa using b⟩
      ·exact .inr ⟨a,by simp;exact .inr (by simpa using b)⟩
theorem qX {tab:List (Nat×Nat)}{fz:Nat→Bool}{m:ML}{sl:SL}:∀ {sl':SL},Ia tab fz m sl sl'→∀d,ct sl' d=.any∨MF tab fz m 12 (ct sl' d) (uI sl d)
  |[],_,d=>.inl rfl
  | (e,x)::r,h,d=>by
    simp only[ct]
    by_cases hi:d=e
    ·subst hi;simp;exact .inr h.1
    · have h':(d==e)=false:=by simpa using hi
      rw[h'];exact qX h.2 d
section
variable {P : Program} {tab : List (Nat × Nat)} {fz : Nat → Bool} {m m' : ML} {N nL : Nat} {w0 : World} {W0 : Nat → Prop} {L μ : Mu} {sl : SL} {a : Act} {w : World}
theorem tf (hs:cB P N w0 W0 L μ (St sl m) a w):∀t wd rows ro,eD m t=.live wd rows ro→bG wd rows:=by
  intro t wd rows ro h
  obtain⟨B,_,h2⟩:=hs.objs t wd rows ro (dj h)
  exact h2.wide
theorem qn.qZ (hs:cB P N w0 W0 L μ (St sl m) a w)(hn:lR (gX m' tab)=true)(hl:oo m tab nL=true)(hk:∀i u,(i,u)∈tab→i∈m'.map (·.1))(hfz:∀t,fz t=true→jR tab t=true)(h:qn tab fz m m')(sl':Nat→AV)
    (hsl:∀i,Cv (aR m) (gQ tab) (fun t=>aR m' t≠ .free) (fun t=>(∃wd rows ro,eD m t=.live wd rows ro)∧fz t=true) (sl' i) (ct sl i)):
    nv nL (gQ tab) (fun t=>(∃wd rows ro,eD m t=.live wd rows ro)∧fz t=true) ⟨sl',aR m'⟩ (St sl m):=by
  have hD:∀t u,oG tab t=some u→aR m' t≠ .free:=by
    intro t u ht e
    rcases gi h t with⟨_,b⟩|⟨b,_⟩
    ·exact b (hk _ _ (iF ht))
    ·rw[e] at b;exact b
  have hcv:∀n r x,MF tab fz m n r x→Cv (aR m) (gQ tab) (fun t=>aR m' t≠ .free) (fun t=>(∃wd rows ro,eD m t=.live wd rows ro)∧fz t=true) r x:=
    lA (fun t wd rows ro h _=>tf hs t wd rows ro h) hD (fun t wd rows ro h1 h2=>⟨⟨wd,rows,ro,h1⟩,h2⟩)
  have tabd:∀t,aR m' t≠ .free→∃u,oG tab t=some u∧gQ tab t=u:=by
    intro t ht
    rcases gi h t with⟨b,_⟩|⟨b,_⟩
    ·exact absurd b ht
    · revert b
      cases hs':aR m' t with
      |free=>exact fun b=>b.elim
      | dead=>
        intro b
        simp only[Co] at b
        split at b
        ·rename_i u hu;exact⟨u,hu,by simp[gQ,hu]⟩
        ·exact b.elim
      | live wd rows ro=>
        intro b
        simp only[Co] at b
        split at b
        ·rename_i u hu;exact⟨u,hu,by simp[gQ,hu]⟩
        ·exact b.elim
  refine⟨hsl,fun t=>?_,fun t t' wd rows wd' rows' ro' h1 h2 h3=>?_,fun s hsF=>⟨?_,?_⟩,fun t ht hne=>?_⟩
  · show aR m' t =.free∨_
    rcases gi h t with⟨b,_⟩|⟨b,_⟩
    ·exact .inl b
    · right
      show(aR m' t=.dead∧aR m (gQ tab t)≠ .free)∨_
      revert b
      cases hs':aR m' t with
      |free=>exact fun b=>b.elim
      | dead=>
        intro b
        simp only[Co] at b
        split at b
        · rename_i u hu
          have hr:gQ tab t=u:=by simp[gQ,hu]
          rw[hr]
          refine .inl ⟨rfl,fun e=>?_⟩
          rw[gW,e] at b;exact b
        ·exact b.elim
      | live wd' rows' ro'=>
        intro b
        simp only[Co] at b
        split at b
        · rename_i u hu
          have hr:gQ tab t=u:=by simp[gQ,hu]
          split at b
          · rename_i wd rows ro hm
            have hwr:=tf hs _ _ _ _ hm
            split at b
            · rename_i g1 g2
              have g1':=beq_eq (by rw[←eo];exact g1)
              subst g1'
              have hcl:gR (aR m) (gQ tab) (fun t=>aR m' t≠ .free) (fun t=>(∃wd rows ro,eD m t=.live wd rows ro)∧fz t=true) rows' rows∧bG wd' rows':=by
                split at b
                · refine⟨jE (fun r x hrx=>hcv 12 r x hrx) b,?_⟩
                  clear hs' hm
                  induction rows' generalizing rows with
                  |nil=>exact .nil _
                  | cons r rs ih=>
                    cases rows with
                    |nil=>exact b.elim
                    |cons y ys=>exact .cons (by rw[xB b.1];exact hwr.tail.1) (ih _ hwr.tail.2 b.2)
                · have b:gb (MF tab fz m 12) rows' rows:=by
                    split at b
                    ·exact b
                    ·exact b.1
                  refine⟨⟨b.1,fun q c d h1 h2=>hcv 12 _ _ (b.2 q c d h1 h2)⟩,fun i y hy=>?_⟩
                  have hi:=(aY hy).1
                  rw[b.1] at hi
                  have hz:=bD hi
                  rw[xB (b.2 i _ _ hy hz)]
                  exact hwr.mem (bO hz)
              refine .inr ⟨wd',rows',rows,ro',ro,hs',?_,?_,hcl.2,hcl.1⟩
              ·rw[hr];exact dj hm
              · intro hro
                subst hro
                cases ro with
                |false=>rfl
                |true=>cases g2
            ·exact b.elim
          ·exact b.elim
        ·exact b.elim
  · obtain⟨u,a1,a2⟩:=tabd t (fun e=>by have g:aR m' t=.live wd rows false:=h1;rw[e] at g;cases g)
    obtain⟨u',b1,b2⟩:=tabd t' (fun e=>by have g:aR m' t'=.live wd' rows' ro':=h2;rw[e] at g;cases g)
    have:u=u':=by rw[←a2,←b2,h3]
    subst this
    exact tT hn (mS (iF a1) h1) (mS (iF b1) h2)
  · obtain⟨⟨wd,rows,ro,h1⟩,_⟩:=hsF
    exact⟨wd,rows,ro,dj h1⟩
  · intro t wd rows ht e
    have hne:aR m' t≠ .free:=by intro e';have:aR m' t=.live wd rows false:=ht;rw[e'] at this;cases this
    obtain⟨u,a1,a2⟩:=tabd t hne
    have h5:=hfz s hsF.2
    have:o6 (ef Prod.snd tab) s=true:=by
      rw[eB,dV,List.mem_map]
      exact⟨(t,u),iF a1,by rw[←e,a2]⟩
    simp only[jR,this] at h5
    cases h5
  · have key : ∀k,oo m tab k=true→∀t,t<k→aR m t≠ .free→oG tab t=some t:=by
      intro k
      induction k with
      |zero=>intro _ t ht;omega
      | succ k ih=>
        intro hk t ht hne
        simp only[oo] at hk
        split at hk
        · rename_i hm
          rcases Nat.lt_succ_iff_lt_or_eq.1 ht with h'|rfl
          ·exact ih hk t h' hne
          ·exact absurd (dj hm) hne
        · split at hk
          · rename_i u hu
            split at hk
            · rename_i hb
              rcases Nat.lt_succ_iff_lt_or_eq.1 ht with h'|rfl
              ·exact ih hk t h' hne
              ·rw[hu,beq_eq hb]
            ·cases hk
          ·cases hk
    have h5:=key nL hl t ht hne
    exact⟨by simp[gQ,h5],hD _ _ h5⟩
end
theorem Fit.uJ {P:Program}{nL:Nat}{sl sl':SL}{m m':ML}(h:Fit nL sl m sl' m'):ik P nL (St sl m) (St sl' m'):=by
  intro N w0 W0 L μ a w hL hs
  obtain⟨⟨h1,h2⟩,h3,h4⟩:=h
  have hk:∀i u,(i,u)∈cW (iL m' m sl sl') m'→i∈m'.map (·.1):=fun i u h=>gy h
  have hD:∀t u,oG (cW (iL m' m sl sl') m') t=some u→aR m' t≠ .free:=by
    intro t u ht e
    rcases gi h4 t with⟨_,b⟩|⟨b,_⟩
    ·exact b (hk _ _ (iF ht))
    ·rw[e] at b;exact b
  have hw:=qn.qZ hs h1 h2 hk (fun t h=>h) h4 (ct sl') (fun i=>by
    rcases qX h3 i with h|h
    ·rw[h];exact .any
    · rw[←gS sl]
      exact lA (fun t wd rows ro h _=>tf hs t wd rows ro h) hD (fun t wd rows ro h1 h2=>⟨⟨wd,rows,ro,h1⟩,h2⟩) 12 _ _ h)
  obtain⟨μ',hs',_⟩:=hw.Gk hL hs (.inl ⟨rfl,rfl⟩)
  exact⟨μ',hs'⟩
end Go.Am
section
namespace Go.Am
open Go
@[reducible] def Ff (Γ : cQ) (sl : SL) (m : ML) : ResultVar → Option AV
  |.tmp t=>some (uI sl t)
  | .cell a t=>match uI sl a with
    | .ptr tk i k=>match eD m tk with
      | .live _ rows _=>match iA rows i with
        |some r=>rL (qk Γ t) r k
        |none=>none
      |_=>none
    |_=>none
@[reducible] def DN (Γ : cQ) (sl : SL) (m : ML) : List ResultVar → Option (List AV)
  |[]=>some []
  | rv::r=>match Ff Γ sl m rv,DN Γ sl m r with
    |some x,some xs=>some (x::xs)
    |_,_=>none
@[reducible] def Fc : List AV → AV
  |[x]=>x
  |xs=>.tup xs
@[reducible] def bh : Nat → List MS → ML
  |_,[]=>[]
  |k,x::r=>(k,x)::bh (Nat.add k 1) r
@[reducible] def zy : Nat → List AV → SL
  |_,[]=>[]
  |k,x::r=>(k,x)::zy (Nat.add k 1) r
theorem k7:∀ (l:List MS) (k:Nat),bh k l=pA k l
  |[],_=>rfl
  |x::r,k=>by simp only[bh,pA];rw[k7 r]
theorem uj:∀ (l:List AV) (k:Nat),zy k l=rH k l
  |[],_=>rfl
  |x::r,k=>by simp only[zy,rH];rw[uj r]
theorem eG (l:List MS):aR (pA 0 l)=aG l:=by
  funext t;rw[sU];simp[aG]
@[reducible] def JN (nL : Nat) (x : AV) (m : ML) (outs : List MS) (res : AV) : Prop :=
  (lR (gX (bh 0 outs) (cW (eO (bh 0 outs) m 6 res x) (bh 0 outs)))=true∧oo m (cW (eO (bh 0 outs) m 6 res x) (bh 0 outs)) nL=true)∧
    MF (cW (eO (bh 0 outs) m 6 res x) (bh 0 outs)) (jR (cW (eO (bh 0 outs) m 6 res x) (bh 0 outs))) m 12 res x∧
    qn (cW (eO (bh 0 outs) m 6 res x) (bh 0 outs)) (jR (cW (eO (bh 0 outs) m 6 res x) (bh 0 outs))) m (bh 0 outs)
@[reducible] def n3 : List ResultVar → AV → List AV
  |[_],x=>[x]
  | _,x=>match x with
    |.tup xs=>xs
    |_=>[]
@[reducible] def gN (outs : List MS) : List ResultVar → List AV → SL → ML → SL × ML
  |[],_,sl,m=>(sl,m)
  | rv :: rvs,rs,sl,m=>match rs with
    |[]=>(sl,m)
    | r :: rs=>match rv with
      | .tmp d=>match r with
        | .own t _ _=>match uI sl d with
          | .lit v=>match Aw v,eD m (Nat.add 1000003 t),iA outs t with
            |true,.free,some (.live wd _ _)=>gN outs rvs rs (pg d (.own (Nat.add 1000003 t) 0 0) sl) (jF (Nat.add 1000003 t) (.live wd [] false) m)
            |_,_,_=>gN outs rvs rs sl m
          | .emp=>match eD m (Nat.add 1000003 t),iA outs t with
            |.free,some (.live wd _ _)=>gN outs rvs rs (pg d (.own (Nat.add 1000003 t) 0 0) sl) (jF (Nat.add 1000003 t) (.live wd [] false) m)
            |_,_=>gN outs rvs rs sl m
          |_=>gN outs rvs rs sl m
        |_=>gN outs rvs rs sl m
      |_=>gN outs rvs rs sl m
@[reducible] def Gx (Γ : cQ) (nL : Nat) (rvs : List ResultVar) (outs : List MS) (res : AV) : SL × ML → Prop
  | (sl,m)=>match DN Γ sl m rvs with
    |some xs=>JN nL (Fc xs) m outs res
    |none=>False
@[reducible] def Lr (Γ : cQ) (nL : Nat) (rvs : List ResultVar) (outs : List MS) (res : AV) (e : Exit) (sl : SL) (m : ML) : Prop :=
  match e with
  |.normal=>Gx Γ nL rvs outs res (gN outs rvs (n3 rvs res) sl m)
  |.ret=>Gx Γ nL rvs outs res (gN outs rvs (n3 rvs res) sl m)
  |_=>False
theorem cB.ghost {P:Program}{N:Nat}{w0:World}{W0:Nat→Prop}{L μ:Mu}{sl:SL}{m:ML}{a:Act}{w:World}(hs:cB P N w0 W0 L μ (St sl m) a w){d t:Nat}(wd:Nat)(hd:uI sl d=.lit (.slice none 0 0)∨uI sl d=.emp)(ht:eD m t=.free):
    cB P N w0 W0 L (bq μ t ⟨0,0,wd,true,false⟩) (St (pg d (.own t 0 0) sl) (jF t (.live wd [] false) m)) a w:=by
  have h1:=hs.nE (t:=t) (wd:=wd) (dj ht)
  have hv:∃ad,a.tmps.getD d undef=.slice ad 0 0:=by
    have:=hs.slots d
    have e:(St sl m).slots d=uI sl d:=by rw[gS];rfl
    rw[e] at this
    generalize a.tmps.getD d undef=v at this
    rcases hd with hd|hd<;>(rw[hd] at this;cases this;exact⟨_,rfl⟩)
  obtain⟨ad,hv⟩:=hv
  have key:cB P N w0 W0 L (bq μ t ⟨0,0,wd,true,false⟩) ((St sl m).zV (some d) (.own t 0 0) [(t,.live wd [] false)]) a w:=by
    refine{h1 with slots:=fun i=>?_}
    simp only[az.zV,dg]
    by_cases hi:i=d
    · subst hi
      rw[if_pos rfl,hv]
      exact .ownNil (B:=⟨0,0,wd,true,false⟩) (by simp[bq])
    ·rw[if_neg hi];exact h1.slots i
  rw[uA,sL] at key
  exact key
theorem qI {P:Program}{outs:List MS}{N:Nat}{w0:World}{W0:Nat→Prop}{L:Mu}{a:Act}{w:World}:∀ (rvs:List ResultVar) (rs:List AV) (sl:SL) (m:ML) (μ:Mu),cB P N w0 W0 L μ (St sl m) a w→∃μ',cB P N w0 W0 L μ' (St (gN outs rvs rs sl m).1 (gN outs rvs rs sl m).2) a w
  |[],rs,sl,m,μ,hs=>⟨μ,by simpa only[gN] using hs⟩
  |rv::rvs,[],sl,m,μ,hs=>⟨μ,by simpa only[gN] using hs⟩
  | rv :: rvs,r::rs,sl,m,μ,hs=>by
    have ih:=qI (P:=P) (outs:=outs) (N:=N) (w0:=w0) (W0:=W0) (L:=L) (a:=a) (w:=w) rvs rs
    unfold gN
    dsimp only
    split
    · split
      · split
        · rename_i hd
          split
          · rename_i hn ht _
            exact ih _ _ _ (hs.ghost _ (.inl (by rw[hd,nC hn])) ht)
          ·exact ih _ _ _ hs
        · rename_i hd
          split
          · rename_i ht _
            exact ih _ _ _ (hs.ghost _ (.inr hd) ht)
          ·exact ih _ _ _ hs
        ·exact ih _ _ _ hs
      ·exact ih _ _ _ hs
    ·exact ih _ _ _ hs
section
variable {P : Program} {Γ : cQ} {sl : SL} {m : ML}
theorem xn (hΓ:Γ.Good P):∀ {rvs:List ResultVar} {xs:List AV},DN Γ sl m rvs=some xs→zG P (St sl m) rvs xs
  |[],xs,h=>by cases h;trivial
  | rv :: rvs, xs,h=>by
    simp only[DN] at h
    split at h
    · rename_i x ys h1 h2
      cases h
      refine⟨?_,xn hΓ h2⟩
      cases rv with
      | tmp t=>
        simp only[Ff,Option.some.injEq] at h1
        show ct sl t=x
        rw[←gS];exact h1
      | cell a t=>
        simp only[Ff] at h1
        split at h1
        · rename_i tk i k ha
          split at h1
          · rename_i wd rows ro hm
            split at h1
            · rename_i r hr
              rw[ij] at hr
              exact⟨tk,i,k,wd,rows,ro,r,by show ct sl a=_;rw[←gS];exact ha,dj hm,hr,ny hΓ (by rw[←eJ,←pC];exact h1)⟩
            ·cases h1
          ·cases h1
        ·cases h1
    ·cases h
theorem yB (xs:List AV):Fc xs=wS xs:=by
  match xs with
  |[]=>rfl
  |[x]=>rfl
  |x::y::r=>rfl
theorem JN.end {nL:Nat}{x:AV}{outs:List MS}{res:AV}(h:JN nL x m outs res){N:Nat}{w0:World}{W0:Nat→Prop}{L μ:Mu}{a:Act}{w:World}{v:Value}(hL:∀t,nL≤t→t<j9→L t=none)
    (hs:cB P N w0 W0 L μ (St sl m) a w) (hv:cE (Wr W0 μ (aR m)) μ w x v):∃μ',cB P 0 w0 W0 L μ' (bare outs) iH w∧cE (Wr W0 μ' (aG outs)) μ' w res v:=by
  obtain⟨⟨h1,h2⟩,h3,h4⟩:=h
  generalize ht:cW (eO (bh 0 outs) m 6 res x) (bh 0 outs)=tab at h1 h2 h3 h4
  have hk:∀i u,(i,u)∈tab→i∈ (bh 0 outs).map (·.1):=fun i u h=>by rw[←ht] at h;exact gy h
  have hD:∀t u,oG tab t=some u→aR (bh 0 outs) t≠ .free:=by
    intro t u ht e
    rcases gi h4 t with⟨_,b⟩|⟨b,_⟩
    ·exact b (hk _ _ (iF ht))
    ·rw[e] at b;exact b
  have hw:=qn.qZ hs h1 h2 hk (fun t h=>h) h4 (fun _=>.any) (fun i=>.any)
  have hcv:=lA (fun t wd rows ro h _=>tf hs t wd rows ro h) hD (F:=fun t=>(∃wd rows ro,eD m t=.live wd rows ro)∧jR tab t=true) (fun t wd rows ro h1 h2=>⟨⟨wd,rows,ro,h1⟩,h2⟩) 12 _ _ h3
  obtain⟨μ',hs',hrep⟩:=hw.Gk hL hs (N':=0) (a':=iH) (.inr ⟨fun _=>rfl,rfl,rfl⟩)
  have e:aR (bh 0 outs)=aG outs:=by rw[k7,eG]
  rw[e] at hs' hrep hcv
  exact⟨μ',hs',hrep _ _ _ hcv hv⟩
theorem ak.aD {f:FuncId}{fn:Func}{c:Code}{ins outs:List MS}{args:List AV}{res:AV}{N:Nat}{rvs:List ResultVar}(Γ:cQ)(hΓ:Γ.Good P)(hf:P.funcs[f]? =some fn)(hb:fn.body=some c)(hN:fn.ntmps=N)(hr:fn.results.toList=rvs)
    (hlen:Nat.ble (eV args) N=true) (h:tI P N (eV ins) Γ c (zy 0 args) (bh 0 ins) (Lr Γ (eV ins) rvs outs res)):ak P f ins args outs res:=by
  subst hN;subst hr
  have hlen:args.length≤fn.ntmps:=by rw[←c6];exact fO hlen
  intro w W0 L vs hL hs hr
  have h:=mN hΓ _ _ _ _ h
  rw[uj,k7,c6] at h
  have hst:(⟨fun i=>args.getD i .any,aG ins⟩:az)=St (rH 0 args) (pA 0 ins):=by
    unfold St
    congr 1
    ·funext i;rw[oH];simp
    ·exact(eG ins).symm
  have hsim:cB P fn.ntmps w W0 L L ⟨fun i=>args.getD i .any,aG ins⟩ {tmps:=vs.toArray++Array.replicate (fn.ntmps-vs.toArray.size) undef,defers:=[]} w:=by
    refine⟨?_,.nil,hs.os,hs.tape,hs.output,hs.hsize,hs.shp,hs.keep,hs.w0lt,hs.lentμ,hs.free,fun i=>?_,hs.objs,hs.inj,hs.out,hs.tabs⟩
    ·simp[hr.1];omega
    · by_cases hi:i<args.length
      · have h1:args[i]? =some args[i]:=bD hi
        have h2:vs[i]? =some (vs[i]'(by rw[hr.1];exact hi)):=bD _
        have:=hr.2 i _ _ h1 h2
        have hv:(vs.toArray++Array.replicate (fn.ntmps-vs.toArray.size) undef).getD i undef=vs[i]'(by rw[hr.1];exact hi):=by
          rw[Array.getD_eq_getD_getElem?,Array.getElem?_append_left (by simp;rw[hr.1];exact hi)]
          simp[h2]
        simp only[hv,List.getD_eq_getElem?_getD,h1,Option.getD_some]
        exact this
      · simp only[List.getD_eq_getElem?_getD,mD (Nat.le_of_not_lt hi),Option.getD_none]
        exact .any
  rw[hst] at hsim
  refine qb hf hb h (fun t ht=>hL t (by omega)) hsim (fun e σ' ⟨sl,m,_,hend⟩=>?_) ?_
  · cases e with
    |normal=>exact .inl rfl
    |ret=>exact .inr rfl
    |_=>exact hend.elim
  rintro e σ' μ' a' w' ⟨sl,m,rfl,hend⟩ hs' hd
  have key:Gx Γ ins.length fn.results.toList outs res (gN outs fn.results.toList (n3 fn.results.toList res) sl m)→∃v,(results fn a'.tmps).run P w'=.ok v w'∧∃v_1 μ',Ending.returned v=.returned v_1∧cB P 0 w W0 L μ' (bare outs) iH w'∧cE (Wr W0 μ' (aG outs)) μ' w' res v_1:=by
    intro hend
    obtain⟨μ2,hs2⟩:=qI (outs:=outs) fn.results.toList (n3 fn.results.toList res) sl m μ' hs'
    generalize gN outs fn.results.toList (n3 fn.results.toList res) sl m=q at hend hs2
    obtain⟨sl2,m2⟩:=q
    simp only[Gx] at hend
    split at hend
    · rename_i xs hxs
      have hres:=(xn hΓ hxs).get
      obtain⟨v,v1,v2⟩:=rF hs2 hres.1 hres.2
      rw[yB] at hend
      obtain⟨μ'',h1,h2⟩:=hend.end (fun t ht _=>hL t ht) hs2 v2
      exact⟨v,v1,v,μ'',rfl,h1,h2⟩
    ·exact hend.elim
  cases e with
  |normal=>exact key hend
  |ret=>exact key hend
  |_=>exact hend.elim
end
def bR {ι:Type}(sl:SL)(m:ML){nL:Nat}{S:ι→SL}{M:ι→ML}{I:ι→Prop}{μ:ι→Nat}{i:ι}:Prop:=∃j,I j∧μ j<μ i∧Fit nL sl m (S j) (M j)
theorem bR.mk {ι:Type}{sl:SL}{m:ML}{nL:Nat}{S:ι→SL}{M:ι→ML}{I:ι→Prop}{μ:ι→Nat}{i:ι}(j:ι)(h1:I j)(h2:μ j<μ i)(h3:Fit nL sl m (S j) (M j)):bR sl m (nL:=nL) (S:=S) (M:=M) (I:=I) (μ:=μ) (i:=i):=⟨j,h1,h2,h3⟩
@[reducible] def Jr {ι : Type} (nL : Nat) (S : ι → SL) (M : ι → ML) (I : ι → Prop) (μ : ι → Nat) (i : ι) (Q : Exit → SL → ML → Prop) (e : Exit) (sl : SL) (m : ML) : Prop :=
  match e with
  |.normal=>bR sl m (nL:=nL) (S:=S) (M:=M) (I:=I) (μ:=μ) (i:=i)
  |e=>Q e sl m
theorem bX.use {P:Program}{N nL:Nat}{sl:SL}{m:ML}{c:Code}{Q:Exit→SL→ML→Prop}{ι:Type}(Γ:cQ)(hΓ:Γ.Good P)(S:ι→SL)(M:ι→ML)(I:ι→Prop)(μ:ι→Nat)(i0:ι)(hI:I i0)(h0:Fit nL sl m (S i0) (M i0))
    (round:∀i,I i→tI P N nL Γ c (S i) (M i) (Jr nL S M I μ i Q)):bX P N nL sl m (c:=.loop c) (Q:=Q):=by
  refine ga.It (C:=fun i=>St (S i) (M i)) I μ i0 hI h0.uJ ?_
  intro i hi
  refine(mN hΓ _ _ _ _ (round i hi)).mono ?_
  rintro e σ ⟨sl',m',rfl,h⟩
  cases e with
  | normal=>
    obtain⟨j,h1,h2,h3⟩:=h
    exact⟨j,h1,h2,h3.uJ⟩
  |_=>exact⟨sl',m',rfl,h⟩
theorem bX.ghost {P:Program}{N nL:Nat}{sl:SL}{m:ML}{c:Code}{Q:Exit→SL→ML→Prop}(d t wd:Nat)(hd:uI sl d=.lit (.slice none 0 0))(ht:eD m t=.free)(hc:bX P N nL (pg d (.own t 0 0) sl) (jF t (.live wd [] false) m) (c:=c) (Q:=Q)):
    bX P N nL sl m (c:=c) (Q:=Q):=by
  refine ga.ghost (d:=d) (t:=t) wd (.inl (by show ct sl d=_;rw[←gS];exact hd)) (dj ht) ?_
  rw[uA,sL]
  exact hc
section
variable {P : Program} {N : Nat} {o : Oper} {f : FuncId} {args args' : List AV} {acc : Tk} {sl : SL} {m : ML} {R : Rest} {res : AV} {outs : List MS}
@[reducible] def J5 (T : List Nat) (t : Nat) : Bool := o6 T t
@[reducible] def vg (T : List Nat) (m : ML) (args' args : List AV) : Prop := xu (MF [] (J5 T) m 12) args' args
theorem vg.cv {T:List Nat}(hw:∀t wd rows ro,eD m t=.live wd rows ro→t∈T→bG wd rows)(h:vg T m args' args):gR (St sl m).mem id (fun _=>False) (· ∈T) args' args:=by
  have:=jE (D:=fun _=>False) (F:=(· ∈T)) (ρ:=gQ []) (mm:=aR m) (fun r x=>lA (fun t wd rows ro h1 h2=>hw t wd rows ro h1 (dV.1 h2)) (fun t u h=>by cases h) (fun t wd rows ro _ h2=>dV.1 h2) 12 r x) h
  exact this
theorem iw (hd:kZ N o.dst=true):∀d,o.dst=some d→d<N:=bA (BD hd)
theorem aH.sC {σ:az}{rd:List Nat}{x:AV}{ups:ML}(h:(∃ (w0:World) (W0:Nat→Prop) (L μ:Mu) (a:Act) (w:World) (σ2:az),(∀t∈rd,σ2.mem t=σ.mem t)∧cB P N w0 W0 L μ σ2 a w)→aH P N o σ rd x ups):aH P N o σ rd x ups:=by
  intro σ2 he hr w0 W0 L μ a w K Q hs hK
  exact h ⟨w0,W0,L,μ,a,w,σ2,hr,hs⟩ σ2 he hr w0 W0 L μ a w K Q hs hK
theorem BK {σ:az}{T:List Nat}(hσ:σ=St sl m)(h:∃ (w0:World) (W0:Nat→Prop) (L μ:Mu) (a:Act) (w:World) (σ2:az),(∀t∈T,σ2.mem t=σ.mem t)∧cB P N w0 W0 L μ σ2 a w):∀t wd rows ro,eD m t=.live wd rows ro→t∈T→bG wd rows:=by
  subst hσ
  obtain⟨w0,W0,L,μ,a,w,σ2,h1,h2⟩:=h
  intro t wd rows ro ht hT
  obtain⟨B,_,h3⟩:=h2.objs t wd rows ro (by rw[h1 t hT,mem_eq];exact ht)
  exact h3.wide
theorem af.lit (T:List Nat)(hf:ak P f [] args' [] res)(hc:aq P f)(ha:vg T m args' args)(hd:kZ N o.dst=true)(hp:kx res=true)(h:R T res [] acc sl m):af P N f args acc sl m (o:=o) (R:=R):=by
  intro hto
  exact⟨T,res,[],aH.sC fun hs=>aH.D0 T hto hc (ha.cv (BK rfl hs)) hf hp (iw hd),h⟩
@[reducible] def ve (m : ML) : List Nat → Bool
  |[]=>true
  | t::r=>match eD m t with
    |.live _ _ _=>ve m r
    |_=>false
theorem o7 {m:ML}:∀ {T:List Nat},ve m T=true→∀t∈T,∃wd rows ro,aR m t=.live wd rows ro
  |[],_,t,h=>by simp at h
  | u ::r,h,t,ht=>by
    simp only[ve] at h
    split at h
    · rename_i hm
      rcases dU.1 ht with rfl|ht
      ·exact⟨_,_,_,dj hm⟩
      ·exact o7 h t ht
    ·cases h
@[reducible] def J8 : MS → MS
  |.live wd rows _=>.live wd rows true
  |s=>s
theorem af.val (T:List Nat)(hf:ak P f [] args' [] res)(hc:aq P f)(ha:vg T m args' args)(hT:ve m T=true)(hd:kZ N o.dst=true)(hp:bz res=true)
    (h:R T res (ef (fun t=>(t,J8 (eD m t))) T) acc sl m):af P N f args acc sl m (o:=o) (R:=R):=by
  intro hto
  have e:ef (fun t=>(t,J8 (eD m t))) T=T.map fun t=>(t,lJ ((St sl m).mem t)):=by
    rw[eB];apply List.map_congr_left;intro t _;rw[mem_eq];rfl
  rw[e] at h
  refine⟨T,res,_,aH.sC fun hs=>?_,h⟩
  have:=aH.DU (P:=P) (N:=N) (o:=o) (σ:=St sl m) (news:=[]) (x:=res) (base:=0) T hto hc (ha.cv (BK rfl hs)) (fun t ht=>o7 hT t ht) hf (by simp) rfl (by simp) (.same hp) (iw hd)
  simpa using this
@[reducible] def qG : Nat → Nat → AV → AV
  |0,_,x=>x
  | n+1,b,x=>match x with
    |.own t o l=>.own (Nat.add b t) o l
    |.ptr t i k=>.ptr (Nat.add b t) i k
    |.mapr t=>.mapr (Nat.add b t)
    |.agg cs=>.agg (ef (qG n b) cs)
    |.tup cs=>.tup (ef (qG n b) cs)
    |x=>x
@[reducible] def za : Nat → Nat → AV → Bool
  |0,_,x=>bz x
  | n+1,k,x=>match x with
    |.own t _ _=>Nat.ble (Nat.add t 1) k
    |.ptr t _ _=>Nat.ble (Nat.add t 1) k
    |.mapr t=>Nat.ble (Nat.add t 1) k
    |.agg cs=>iZ (za n k) cs
    |.tup cs=>iZ (za n k) cs
    |x=>bz x
theorem u3 {mm:Nat→MS}{F:Nat→Prop}{b k:Nat}:∀ (n:Nat) (x:AV),za n k x=true→Cv mm (· -b) (fun t=>b≤t∧t-b<k) F (qG n b x) x
  |0,x,h=>.same h
  | n + 1,x,h=>by
    have list:∀cs:List AV,iZ (za n k) cs=true→gR mm (· -b) (fun t=>b≤t∧t-b<k) F (ef (qG n b) cs) cs:=by
      intro cs
      induction cs with
      |nil=>intro _;exact .nil
      | cons c cs ih=>
        intro h
        simp only[iZ] at h
        split at h
        ·rename_i h1;exact .cons (u3 n c h1) (ih h)
        ·cases h
    cases x with
    | own t o l=>
      have ht:t+1≤k:=fO h
      show Cv _ _ _ _ (.own (b+t) o l) _
      have e:t=(b+t)-b:=by omega
      have:=Cv.own (m:=mm) (ρ:=(· -b)) (D:=fun t=>b≤t∧t-b<k) (F:=F) (t:=b+t) (o:=o) (l:=l) ⟨by omega,by omega⟩
      simp only[Nat.add_sub_cancel_left] at this
      exact this
    | ptr t i k'=>
      have ht:t+1≤k:=fO h
      show Cv _ _ _ _ (.ptr (b+t) i k') _
      have:=Cv.ptr (m:=mm) (ρ:=(· -b)) (D:=fun t=>b≤t∧t-b<k) (F:=F) (t:=b+t) (i:=i) (k:=k') ⟨by omega,by omega⟩
      simp only[Nat.add_sub_cancel_left] at this
      exact this
    | mapr t=>
      have ht:t+1≤k:=fO h
      show Cv _ _ _ _ (.mapr (b+t)) _
      have:=Cv.mapr (m:=mm) (ρ:=(· -b)) (D:=fun t=>b≤t∧t-b<k) (F:=F) (t:=b+t) ⟨by omega,by omega⟩
      simp only[Nat.add_sub_cancel_left] at this
      exact this
    |agg cs=>exact .uk (list cs h)
    |tup cs=>exact .uB (list cs h)
    |_=>exact .same h
@[reducible] def wE (b : Nat) : Nat → List MS → ML
  |_,[]=>[]
  |k,s::r=>(Nat.add b k,s)::wE b (Nat.add k 1) r
theorem vB (b:Nat):∀ (l:List MS) (k:Nat),wE b k l=jy b k l
  |[],_=>rfl
  |s::r,k=>by simp only[wE,jy];rw[vB b r];rfl
@[reducible] def Bv (m : ML) (b : Nat) : List MS → Nat → Bool
  |[],_=>true
  | _::r,k=>match eD m (Nat.add b k) with
    |.free=>Bv m b r (Nat.add k 1)
    |_=>false
theorem zx {m:ML}{b:Nat}:∀ {l:List MS} {j:Nat},Bv m b l j=true→∀k,k<l.length→aR m (b+ (j+k))=.free
  |[],j,_,k,hk=>by simp at hk
  | s :: r,j,h,k,hk=>by
    simp only[Bv] at h
    split at h
    · rename_i hm
      cases k with
      |zero=>exact dj hm
      | succ k=>
        have:=zx h k (by simpa using hk)
        rw[show b+ (j+ (k+1))=b+ (Nat.add j 1+k) from by show _=b+ (j+1+k);omega]
        exact this
    ·cases h
@[reducible] def w7 (b : Nat) : Nat → List MS → List Nat
  |_,[]=>[]
  |k,_::r=>Nat.add b k::w7 b (Nat.add k 1) r
theorem vu (b:Nat):∀ (l:List MS) (k:Nat),w7 b k l=(List.range' k l.length).map (b+ ·)
  |[],_=>rfl
  |s::r,k=>by simp only[w7,List.length_cons,List.range'_succ,List.map_cons,vu b r];rfl
theorem af.new (b:Nat)(T:List Nat)(hf:ak P f [] args' outs res)(hc:aq P f)(ha:vg T m args' args)(hT:ve m T=true)(hd:kZ N o.dst=true)(hp:za 12 (eV outs) res=true)(ho:jL outs)(hfree:Bv m b outs 0=true)
    (h:R (dR T (w7 b 0 outs)) (qG 12 b res) (dR (wE b 0 outs) (ef (fun t=>(t,J8 (eD m t))) T)) acc sl m):af P N f args acc sl m (o:=o) (R:=R):=by
  intro hto
  have e:ef (fun t=>(t,J8 (eD m t))) T=T.map fun t=>(t,lJ ((St sl m).mem t)):=by
    rw[eB];apply List.map_congr_left;intro t _;rw[mem_eq];rfl
  rw[e,gT,gT,vu,vB,l9,←List.range_eq_range'] at h
  rw[c6] at hp
  refine⟨_,_,_,aH.sC fun hs=>?_,h⟩
  have hwd:∀t wd rows ro,eD m t=.live wd rows ro→t∈T→bG wd rows:=by
    obtain⟨w0,W0,L,μ,a,w,σ2,h1,h2⟩:=hs
    exact BK (sl:=sl) rfl ⟨w0,W0,L,μ,a,w,σ2,fun t ht=>h1 t (by simp[ht]),h2⟩
  refine aH.DU (P:=P) (N:=N) (o:=o) (σ:=St sl m) (news:=outs) (x:=qG 12 b res) (base:=b) T hto hc (ha.cv hwd) (fun t ht=>o7 hT t ht) hf (fun k hk=>by have:=zx hfree k hk;rw[Nat.zero_add] at this;exact this) rfl (fun k s hk=>?_) (u3 12 res hp) (iw hd)
  obtain⟨wd,rows,rfl,h1,h2⟩:=lU ho hk
  exact⟨wd,rows,rows,rfl,hk,h1,.same h2⟩
end
end Go.Am
namespace Go.Am
open Go
theorem bK.mk {acc:Tk}{sl:SL}{m:ML}{A:Tk→SL→ML→Prop}(h:A acc sl m):bK acc sl m (A:=A):=h
theorem bL.mk {sl:SL}{m:ML}{A:SL→ML→Prop}(h:A sl m):bL sl m (A:=A):=h
theorem aX.mk {b:Bool}{acc:Tk}{sl:SL}{m:ML}{A B:Tk→SL→ML→Prop}(h1:b=true→A acc sl m)(h2:b=false→B acc sl m):aX b acc sl m (A:=A) (B:=B):=⟨h1,h2⟩
theorem aX.tt {acc:Tk}{sl:SL}{m:ML}{A B:Tk→SL→ML→Prop}(h1:A acc sl m):aX true acc sl m (A:=A) (B:=B):=⟨fun _=>h1,fun h=>by cases h⟩
theorem aX.ff {acc:Tk}{sl:SL}{m:ML}{A B:Tk→SL→ML→Prop}(h1:B acc sl m):aX false acc sl m (A:=A) (B:=B):=⟨(fun h=>by cases h),fun _=>h1⟩
theorem aX.yes {b:Bool}{acc:Tk}{sl:SL}{m:ML}{A B:Tk→SL→ML→Prop}(h:b=true)(h1:A acc sl m):aX b acc sl m (A:=A) (B:=B):=⟨fun _=>h1,fun h'=>by rw[h] at h';cases h'⟩
theorem aX.no {b:Bool}{acc:Tk}{sl:SL}{m:ML}{A B:Tk→SL→ML→Prop}(h:b=false)(h1:B acc sl m):aX b acc sl m (A:=A) (B:=B):=⟨(fun h'=>by rw[h] at h';cases h'),fun _=>h1⟩
theorem mO.mk {p q:Prop}{sl:SL}{m:ML}{A B:SL→ML→Prop}(h1:p→A sl m)(h2:q→B sl m):mO p q sl m (A:=A) (B:=B):=⟨h1,h2⟩
theorem bE.mk {p:Prop}{acc:Tk}{sl:SL}{m:ML}{A:Tk→SL→ML→Prop}(h:p)(h1:A acc sl m):bE p acc sl m (A:=A):=⟨h,h1⟩
theorem bg.mk {rows:List AV}{i:Int}{acc:Tk}{sl:SL}{m:ML}{A:AV→Tk→SL→ML→Prop}(k:Nat)(r:AV)(hi:i=k)(hr:rows[k]? =some r)(h:A r acc sl m):bg rows i acc sl m (A:=A):=⟨k,r,hi,hr,h⟩
theorem bg.map {α:Type}{e:α→AV}{l:List α}{i:Int}{acc:Tk}{sl:SL}{m:ML}{A:AV→Tk→SL→ML→Prop}(k:Nat)(x:α)(hi:i=k)(hr:l[k]? =some x)(h:A (e x) acc sl m):bg (l.map e) i acc sl m (A:=A):=⟨k,e x,hi,by rw[fI,hr];rfl,h⟩
theorem ee.mk {i:Int}{n:Nat}{acc:Tk}{sl:SL}{m:ML}{A:Nat→Tk→SL→ML→Prop}(k:Nat)(hi:i=k)(hk:k<n)(h:A k acc sl m):ee i n acc sl m (A:=A):=⟨k,hi,hk,h⟩
theorem aT.mk {rows:List AV}{i:Nat}{acc:Tk}{sl:SL}{m:ML}{A:AV→Tk→SL→ML→Prop}(r:AV)(hr:rows[i]? =some r)(h:A r acc sl m):aT rows i acc sl m (A:=A):=⟨r,hr,h⟩
theorem aT.map {α:Type}{e:α→AV}{l:List α}{i:Nat}{acc:Tk}{sl:SL}{m:ML}{A:AV→Tk→SL→ML→Prop}(x:α)(hr:l[i]? =some x)(h:A (e x) acc sl m):aT (l.map e) i acc sl m (A:=A):=⟨e x,by rw[fI,hr];rfl,h⟩
theorem A0.mk {l h:Int}{len:Nat}{acc:Tk}{sl:SL}{m:ML}{A:Nat→Nat→Tk→SL→ML→Prop}(a n:Nat)(h1:l=a)(h2:h=(a:Int)+n)(h3:a+n≤len)(h4:A a n acc sl m):A0 l h len acc sl m (A:=A):=⟨a,n,h1,h2,h3,h4⟩
theorem zO.mk {l h:Int}{rows:List AV}{acc:Tk}{sl:SL}{m:ML}{A:List AV→Tk→SL→ML→Prop}(a n:Nat)(rows':List AV)(h1:l=a)(h2:h=(a:Int)+n)(h3:a+n≤rows.length)(h4:rows'=(rows.drop a).take n)(h5:A rows' acc sl m):zO l h rows acc sl m (A:=A):=⟨a,n,rows',h1,h2,h3,h4,h5⟩
theorem iT.mk {rb rs:List AV}{off len off' len' bytes:Nat}{acc:Tk}{sl:SL}{m:ML}{A:List AV→Tk→SL→ML→Prop}(rows0 news:List AV)(h0:off=0∧len=rb.length∧rows0=rb)(h1:off'=0∧len'=rs.length∧news=rs)(h2:kP (flat news)=true)
    (h3:(rows0.length+news.length)*bytes≤140737488355328) (h4:rows0.length+news.length≤9223372036854775807) (h:A (rows0++news) acc sl m):iT rb off len rs off' len' bytes acc sl m (A:=A):=by
  obtain⟨rfl,rfl,rfl⟩:=h0
  obtain⟨rfl,rfl,rfl⟩:=h1
  exact⟨_,_,by omega,by simp,by omega,by simp,h2,h3,h4,h⟩
theorem aI.mk {P:Program}{l:List Oper}{acc:Tk}{sl:SL}{m:ML}{A:SL→ML→Prop}(h1:P.follows .mixedOrders=true)(h2:Region.lexB .any l.toArray=true)(h3:(zI l.toArray acc||jc l.toArray acc)=true)(h4:A sl m):aI P acc sl m (l:=l) (A:=A):=⟨h1,h2,h3,h4⟩
theorem kR {α:Type}(e:α→AV)(h:∀a,kP (cells (e a))=true)(l:List α):kP (flat (l.map e))=true:=by
  induction l with
  |nil=>rfl
  | cons x xs ih=>
    simp only[List.map_cons,eW]
    unfold kP at ih h ⊢
    rw[List.all_append,h x,ih];rfl
theorem xd.cut {m:ML}{fz:Nat→Bool}{tab:List (Nat×Nat)}{n:Nat}{t off len wd:Nat}{rows rows':List AV}{ro:Bool}(h1:eD m t=.live wd rows ro)(h2:fz t=true)(h3:off+len≤rows.length)(h4:rows'=(rows.drop off).take len)(h5:br rows'=true):xd m fz (MF tab fz m n) (.sl wd rows') t off len:=
  ⟨wd,rows,ro,rows',h1,h2,rfl,h3,h5,by rw[←h4];exact .refl h5⟩
end Go.Am
end
namespace Go.Am
open Go Go.MapKept
set_option linter.unusedSectionVars false
@[reducible] def vR (m : ML) (ym : AV) (rows : List AV) : Prop :=
  match ym with
  |.mapr t=> ∃wd ro,eD m t=.live wd rows ro
  |.fmap rs=>rs=rows
  |_=>False
@[reducible] def vI : AV → List Nat
  |.mapr t=>[t]
  |_=>[]
theorem vR.src {sl:SL}{m:ML}{ym:AV}{rows:List AV}(h:vR m ym rows):mL (St sl m) ym rows (vI ym):=by
  cases ym with
  |mapr t=>obtain⟨wd,ro,h⟩:=h;exact .own (by rw[mem_eq];exact h)
  |fmap rs=>have h':rs=rows:=h;subst h';exact .frz
  |_=>exact h.elim
@[reducible] def wV (c : Bool) (x : AV) (ok : Bool) : AV := match c with
  |true=>.tup [x,.lit (.bool ok)]
  |false=>x
section
variable {P : Program} {N : Nat} {o : Oper} {t : TypeId} {c : Bool} {ym x r : AV} {key z : Value} {d : TypeDesc} {rows : List AV} {acc : Tk} {sl : SL} {m : ML} {R : Rest}
theorem pQ.yes (hT:kj P t d z)(hrows:vR m ym rows)(hk:IsKey d key)(hks:kM d rows)(hr:entry key r∈rows)(hd:kZ N o.dst=true)(h:R (vI ym) (wV c r true) [] acc sl m):pQ P N t c ym (.lit key) acc sl m (o:=o) (R:=R):=by
  rintro⟨y,x,ho,hy,hx⟩
  obtain⟨i,hi⟩:=List.getElem?_of_mem hr
  refine⟨_,_,_,aH.lookup ho hy hrows.src hx hT hk hks hi (iw hd),?_⟩
  cases c<;>exact h
theorem pQ.no (hT:kj P t d z)(hrows:vR m ym rows)(hk:IsKey d key)(hks:kM d rows)(hr:∀r,entry key r∉rows)(hd:kZ N o.dst=true){zv:AV}(hz:n7 z=zv)(h:R (vI ym) (wV c zv false) [] acc sl m):pQ P N t c ym (.lit key) acc sl m (o:=o) (R:=R):=by
  rintro⟨y,x,ho,hy,hx⟩
  subst hz
  refine⟨_,_,_,aH.Fb ho hy hrows.src hx hT hk hks hr (iw hd),?_⟩
  cases c<;>exact h
theorem wL.old {tk wd:Nat}(hT:kj P t d z)(hm:eD m tk=.live wd rows false)(hk:IsKey d key)(hks:kM d rows)(i:Nat)(hr:rows[i]? =some (entry key r))(hd:kZ N o.dst=true)(h:R [tk] .any [(tk,.live wd (rows.set i (entry key x)) false)] acc sl m):wL P N t (.mapr tk) (.lit key) x acc sl m (o:=o) (R:=R):=by
  rintro⟨y,xx,v,ho,hy,hx,hv⟩
  exact⟨_,_,_,aH.mapUpdate ho hy (by rw[mem_eq];exact hm) hx hv hT hk hks hr (iw hd),h⟩
theorem wL.new {tk wd:Nat}(hT:kj P t d z)(hm:eD m tk=.live wd rows false)(hk:IsKey d key)(hks:kM d rows)(hr:∀r,entry key r∉rows)(hroom:rows.length+1<maxLen)(hwd:wd=2)(hd:kZ N o.dst=true)(h:R [tk] .any [(tk,.live wd (rows++ [entry key x]) false)] acc sl m):wL P N t (.mapr tk) (.lit key) x acc sl m (o:=o) (R:=R):=by
  rintro⟨y,xx,v,ho,hy,hx,hv⟩
  exact⟨_,_,_,aH.xC ho hy (by rw[mem_eq];exact hm) hx hv hT hk hks hr hroom hwd (iw hd),h⟩
theorem qW.mk (hT:kj P t d z)(hrows:vR m ym rows)(hd:kZ N o.dst=true)(h:R (vI ym) (.lit (.int .i64 rows.length)) [] acc sl m):qW P N t ym acc sl m (o:=o) (R:=R):=by
  rintro⟨y,ho,hy⟩
  exact⟨_,_,_,aH.Jq ho hy hrows.src hT (iw hd),h⟩
end
section
variable {α : Type} {K : Type} [DecidableEq K]
def iQ (k:K):List (K×α)→Option α
  |[]=>none
  |p::r=>if p.1=k then some p.2 else iQ k r
def jO (k:K)(x:α):List (K×α)→List (K×α)
  |[]=>[(k,x)]
  |p::r=>if p.1=k then(k,x)::r else p::jO k x r
theorem o9 (k k':K)(x:α):∀l:List (K×α),iQ k' (jO k x l)=if k=k' then some x else iQ k' l
  |[]=>by simp[jO,iQ]
  | p ::r=>by
    simp only[jO]
    by_cases h:p.1=k
    · rw[if_pos h]
      simp only[iQ]
      by_cases hk:k=k'
      ·rw[if_pos hk,if_pos hk]
      ·rw[if_neg hk,if_neg hk,if_neg (by rw[h];exact hk)]
    · rw[if_neg h]
      simp only[iQ,o9 k k' x r]
      by_cases hk:k=k'
      ·subst hk;rw[if_neg h];simp
      ·simp[hk]
theorem vf {k:K}:∀ {l:List (K×α)},iQ k l=none↔k∉l.map (·.1)
  |[]=>by simp[iQ]
  | p ::r=>by
    simp only[iQ,List.map_cons,dU,not_or]
    by_cases h:p.1=k
    ·simp[h]
    · rw[if_neg h,vf (l:=r)]
      exact⟨fun hh=>⟨fun e=>h e.symm,hh⟩,fun hh=>hh.2⟩
theorem yU {k:K}{x:α}:∀ {l:List (K×α)},iQ k l=some x→(k,x)∈l
  |[],h=>by cases h
  | p::r,h=>by
    simp only[iQ] at h
    split at h
    ·rename_i hp;cases h;subst hp;exact gj
    ·exact eP _ (yU h)
theorem B4 {k:K}{x:α}(f:K×α→AV):∀ {l:List (K×α)} {y:α},iQ k l=some y→∃i,(l.map f)[i]? =some (f (k,y))∧(jO k x l).map f=(l.map f).set i (f (k,x))
  |[],y,h=>by cases h
  | p ::r,y,h=>by
    simp only[iQ] at h
    split at h
    ·rename_i hp;cases h;subst hp;exact⟨0,rfl,by simp[jO]⟩
    · rename_i hp
      obtain⟨i,h1,h2⟩:=B4 (x:=x) f h
      exact⟨i+1,by simpa using h1,by simp[jO,hp,h2]⟩
theorem sZ {k:K}{x:α}:∀ {l:List (K×α)},iQ k l=none→jO k x l=l++ [(k,x)]
  |[],_=>rfl
  | p::r,h=>by
    simp only[iQ] at h
    split at h
    ·cases h
    ·rename_i hp;simp[jO,hp,sZ h]
end
def iW {K α:Type}(kv:K→Value)(e:α→AV)(l:List (K×α)):List AV:=l.map fun p=>entry (kv p.1) (e p.2)
section
variable {P : Program} {N : Nat} {o : Oper} {t : TypeId} {c : Bool} {ym : AV} {z : Value} {d : TypeDesc} {acc : Tk} {sl : SL} {m : ML} {R : Rest} {α : Type} {K : Type} [DecidableEq K] {kv : K → Value} {e : α → AV} {l : List (K × α)} {k : K}
theorem l8 (hk:∀k,IsKey d (kv k)):kM d (iW kv e l):=kM.map (fun p:K×α=>kv p.1) (fun p=>e p.2) (fun p=>hk p.1) l
theorem yZ (hinj:∀a b,kv a=kv b→a=b)(h:iQ k l=none):∀r,entry (kv k) r∉iW kv e l:=by
  intro r hr
  obtain⟨p,hp,he⟩:=List.mem_map.1 hr
  have:=hinj _ _ (vS he).1
  exact vf.1 h (List.mem_map.2 ⟨p,hp,this⟩)
theorem pQ.tab (kv:K→Value)(e:α→AV)(l:List (K×α))(hT:kj P t d z)(hrows:vR m ym (iW kv e l))(hk:∀k,IsKey d (kv k))(hinj:∀a b,kv a=kv b→a=b)(hd:kZ N o.dst=true){zv:AV}(hz:n7 z=zv)
    (h1:∀x,iQ k l=some x→R (vI ym) (wV c (e x) true) [] acc sl m) (h2:iQ k l=none→R (vI ym) (wV c zv false) [] acc sl m):pQ P N t c ym (.lit (kv k)) acc sl m (o:=o) (R:=R):=by
  cases hg:iQ k l with
  |some x=>exact .yes hT hrows (hk k) (l8 hk) (List.mem_map.2 ⟨(k,x),yU hg,rfl⟩) hd (h1 x hg)
  |none=>exact .no hT hrows (hk k) (l8 hk) (yZ hinj hg) hd hz (h2 hg)
theorem wL.tab {tk:Nat}(kv:K→Value)(e:α→AV)(l:List (K×α))(x:α)(hT:kj P t d z)(hm:eD m tk=.live 2 (iW kv e l) false)(hk:∀k,IsKey d (kv k))(hinj:∀a b,kv a=kv b→a=b)(hroom:l.length+1<maxLen)(hd:kZ N o.dst=true)
    (h:R [tk] .any [(tk,.live 2 (iW kv e (jO k x l)) false)] acc sl m):wL P N t (.mapr tk) (.lit (kv k)) (e x) acc sl m (o:=o) (R:=R):=by
  cases hg:iQ k l with
  | some y=>
    obtain⟨i,h1,h2⟩:=B4 (x:=x) (fun p:K×α=>entry (kv p.1) (e p.2)) hg
    refine .old hT hm (hk k) (l8 hk) i h1 hd ?_
    have:(iW kv e l).set i (entry (kv k) (e x))=iW kv e (jO k x l):=h2.symm
    rw[this];exact h
  | none=>
    refine .new hT hm (hk k) (l8 hk) (yZ hinj hg) (by simpa[iW] using hroom) rfl hd ?_
    have:iW kv e l++ [entry (kv k) (e x)]=iW kv e (jO k x l):=by rw[sZ hg];simp[iW]
    rw[this];exact h
end
theorem GJ (s:ByteArray):IsKey .string (.string s):=trivial
theorem wZ (n:Int):IsKey (.int .i64) (.int .i64 n):=rfl
theorem G6 (a b:ByteArray)(h:Value.string a=.string b):a=b:=by cases h;rfl
theorem xA (a b:Int)(h:Value.int .i64 a=.int .i64 b):a=b:=by cases h;rfl
end Go.Am
