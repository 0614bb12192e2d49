/- Walks of functions by unfolding over abstract states; runs of functions by an evaluator that is proved. By an AI agent. -/
import Derived.Test.YtkhjcnjicjgfiaaGreatDoorW8
import Derived.Test.YtkhjcnjicjgfiaaGreatDoorW5
set_option linter.unusedSimpArgs false
set_option linter.unusedVariables false
namespace Go.Am
open Go
@[reducible] def o4 : List (Nat × Nat) → Nat → Option Nat
  |[],_=>none
  | (k,x)::r,i=>match Nat.beq i k with
    |true=>some x
    |false=>o4 r i
def gR (tab:List (Nat×Nat))(t:Nat):Nat:=(o4 tab t).getD t
def gj (R:AV→AV→Prop)(a b:List AV):Prop:=a.length=b.length∧∀ (i:Nat) (x y:AV),a[i]? =some x→b[i]? =some y→R x y
def xq (m:ML)(fz:Nat→Bool)(R:AV→AV→Prop)(r:AV)(t off len:Nat):Prop:=
  ∃wd rows ro rows',eM m t=.live wd rows ro∧fz t=true∧r=.sl wd rows'∧off+len≤rows.length∧bz rows'=true∧gj R rows' ((rows.drop off).take len)
def Lw (m:ML)(fz:Nat→Bool)(R:AV→AV→Prop)(r:AV)(t i k:Nat):Prop:=
  ∃wd rows ro x y,eM m t=.live wd rows ro∧fz t=true∧r=.fptr x k∧rows[i]? =some y∧bG x=true∧R x y
def Lu (m:ML)(fz:Nat→Bool)(r:AV)(t:Nat):Prop:=
  ∃wd rows ro,eM m t=.live wd rows ro∧fz t=true∧r=.fmap rows∧∀x∈rows,∃key y,x=entry key y∧bG y=true
def rY (r:AV):Prop:=r=.lit (.slice none 0 0)∨r=.emp∨∃wd,r=.sl wd []
def JB (r:AV):Prop:=r=.emp∨∃wd,r=.sl wd []
@[reducible] def yd (f : AV → AV → Prop) : List AV → List AV → Prop
  |[],[]=>True
  |r::rs,x::xs=>f r x∧yd f rs xs
  |_,_=>False
@[reducible] def MF (tab : List (Nat × Nat)) (fz : Nat → Bool) (m : ML) : Nat → AV → AV → Prop
  |0,r,x=>r=x∧bG x=true
  | n + 1, r,x=>match x with
    | .own t off len=>match r with
      | .own t' off' len'=>match o4 tab t' with
        | some u=>match Nat.beq u t with
          |true=>off'=off∧len'=len
          |false=>False
        |none=>False
      |r=>xq m fz (MF tab fz m n) r t off len
    | .ptr t i k=>match r with
      | .ptr t' i' k'=>match o4 tab t' with
        | some u=>match Nat.beq u t with
          |true=>i'=i∧k'=k
          |false=>False
        |none=>False
      |r=>Lw m fz (MF tab fz m n) r t i k
    | .mapr t=>match r with
      | .mapr t'=>match o4 tab t' with
        | some u=>match Nat.beq u t with
          |true=>True
          |false=>False
        |none=>False
      |r=>Lu m fz r t
    | .agg cs=>match r with
      |.agg rs=>yd (MF tab fz m n) rs cs
      |r=>r=x∧bG x=true
    | .tup cs=>match r with
      |.tup rs=>yd (MF tab fz m n) rs cs
      |r=>r=x∧bG x=true
    | .clo f a b=>match r with
      |.clo f' a' b'=>f'=f∧yd (MF tab fz m n) a' a∧yd (MF tab fz m n) b' b
      |r=>r=x∧bG x=true
    | .lit (.slice ad a c)=>match Bc (.slice ad a c) with
      |true=>rY r
      |false=>r=x∧bG x=true
    | .lit (.int k b)=>match r with
      | .lit (.int k' a)=>match Nat.beq (tu k') (tu k) with
        |true=>a=b
        |false=>False
      |r=>r=x
    | .lit (.bool b)=>match r with
      |.lit (.bool a)=>a=b
      |r=>r=x
    | .lit (.string b)=>match r with
      |.lit (.string a)=>a=b
      |r=>r=x
    | .sl wd rows=>match r with
      | .sl wd' rows'=>match rZ wd' wd with
        |true=>rows'=rows
        |false=>False
      |r=>r=x
    |.emp=>JB r
    |x=>r=x∧bG x=true
section
variable {tab : List (Nat × Nat)} {fz : Nat → Bool} {m : ML} {D F : Nat → Prop}
theorem j0 {R:AV→AV→Prop}{mm:Nat→MS}{ρ:Nat→Nat}:∀ {rs xs:List AV},(∀r x,R r x→Cv mm ρ D F r x)→yd R rs xs→gS mm ρ D F rs xs
  |[],[],_,_=>.nil
  |_::_,_::_,hR,h=>.cons (hR _ _ h.1) (j0 hR h.2)
  |[],_::_,_,h=>h.elim
  |_::_,[],_,h=>h.elim
theorem BP {R:AV→AV→Prop}:∀ {rs xs:List AV},yd R rs xs→rs.length=xs.length
  |[],[],_=>rfl
  |_::_,_::_,h=>by simp[BP h.2]
  |[],_::_,h=>h.elim
  |_::_,[],h=>h.elim
theorem rY.one {r:AV}(h:rY r):cells r=[r]:=by
  rcases h with rfl|rfl|⟨wd,rfl⟩<;>rfl
theorem JB.one {r:AV}(h:JB r):cells r=[r]:=by
  rcases h with rfl|⟨wd,rfl⟩<;>rfl
theorem xN:∀ {n:Nat} {r x:AV},MF tab fz m n r x→(cells r).length=(cells x).length
  |0,r,x,h=>by rw[h.1]
  | n +1,r,x,h=>by
    unfold MF at h
    split at h
    · split at h
      ·rfl
      ·obtain⟨wd,rows,ro,rows',_,_,rfl,_⟩:=h;rfl
    · split at h
      ·rfl
      ·obtain⟨wd,rows,ro,a,b,_,_,rfl,_⟩:=h;rfl
    · split at h
      ·rfl
      ·obtain⟨wd,rows,ro,_,_,rfl,_⟩:=h;rfl
    · split at h
      ·exact BP h
      ·rw[h.1]
    · split at h
      ·rfl
      ·rw[h.1]
    · split at h
      ·rfl
      ·rw[h.1]
    · split at h
      ·rw[h.one];rfl
      ·rw[h.1]
    · split at h
      ·rfl
      ·rw[h]
    · split at h
      ·rfl
      ·rw[h]
    · split at h
      ·rfl
      ·rw[h]
    · split at h
      ·rfl
      ·rw[h]
    ·rw[h.one];rfl
    ·rw[h.1]
theorem dg {t:Nat}{s:MS}(h:eM m t=s):aX m t=s:=by rw[←gZ];exact h
theorem lp (hw:∀t wd rows ro,eM m t=.live wd rows ro→fz t=true→bS wd rows)(hD:∀t u,o4 tab t=some u→D t)(hF:∀t wd rows ro,eM m t=.live wd rows ro→fz t=true→F t):
    ∀ (n:Nat) (r x:AV),MF tab fz m n r x→Cv (aX m) (gR tab) D F r x
  |0,r,x,h=>by rw[h.1];exact .same h.2
  | n + 1, r,x,h=>by
    have ih:=lp hw hD hF n
    unfold MF at h
    split at h
    · split at h
      · split at h
        · rename_i t off len _ t' off' len' _ u hu
          split at h
          · rename_i hb
            have hb':=beq_eq hb
            subst hb'
            obtain⟨rfl,rfl⟩:=h
            have:gR tab t'=u:=by simp[gR,hu]
            rw[←this]
            exact .own (hD _ _ hu)
          ·exact h.elim
        ·exact h.elim
      · obtain⟨wd,rows,ro,rows',h1,h2,rfl,h4,h5,h6⟩:=h
        have hwr:=hw _ _ _ _ h1 h2
        have hcl:gS (aX m) (gR tab) D F rows' ((rows.drop _).take _):=⟨h6.1,fun q c d a b=>ih _ _ (h6.2 q c d a b)⟩
        refine .Fk (hF _ _ _ _ h1 h2) (dg h1) ?_ hwr h4 hcl h5
        intro i y hy
        have hi:=(aZ hy).1
        rw[h6.1] at hi
        have hz:=bH hi
        rw[xN (h6.2 i _ _ hy hz)]
        exact hwr.mem (List.mem_of_mem_drop (List.mem_of_mem_take (bV hz)))
    · split at h
      · split at h
        · rename_i t i k _ t' i' k' _ u hu
          split at h
          · rename_i hb
            have hb':=beq_eq hb
            subst hb'
            obtain⟨rfl,rfl⟩:=h
            have:gR tab t'=u:=by simp[gR,hu]
            rw[←this]
            exact .ptr (hD _ _ hu)
          ·exact h.elim
        ·exact h.elim
      · obtain⟨wd,rows,ro,a,b,h1,h2,rfl,h4,h5,h6⟩:=h
        have hwr:=hw _ _ _ _ h1 h2
        have hlen:=xN h6
        have hc:=(ih _ _ h6).cells hlen
        exact .frzp (hF _ _ _ _ h1 h2) (dg h1) h4 (by rw[hlen];exact hwr _ _ h4) (fun q c d h1 h2=>hc.2 q c d h1 h2) (fun c hc=>nu h5 hc)
    · split at h
      · split at h
        · rename_i t _ t' _ u hu
          split at h
          · rename_i hb
            have hb':=beq_eq hb
            subst hb'
            have:gR tab t'=u:=by simp[gR,hu]
            rw[←this]
            exact .mapr (hD _ _ hu)
          ·exact h.elim
        ·exact h.elim
      · obtain⟨wd,rows,ro,h1,h2,rfl,h4⟩:=h
        refine .fmap (hF _ _ _ _ h1 h2) (dg h1) rfl (fun i r' hr=>?_) (fun i key key' x' x k1 k2=>?_) (fun r hr=>?_)
        · obtain⟨key,y,rfl,_⟩:=h4 r' (bV hr)
          exact⟨key,y,y,rfl,hr⟩
        · rw[k1] at k2
          have k3:=Option.some.inj k2
          simp only[entry,AV.agg.injEq,List.cons.injEq,AV.tup.injEq,and_true] at k3
          obtain⟨key2,y2,k4,k5⟩:=h4 _ (bV k1)
          simp only[entry,AV.agg.injEq,List.cons.injEq,AV.tup.injEq,and_true] at k4
          rw[←k3.2,k4.2];exact .same k5
        · obtain⟨key,y,rfl,h5⟩:=h4 r hr
          simp[entry,bG,bz,h5]
    · split at h
      ·exact .ug (j0 ih h)
      ·rw[h.1];exact .same h.2
    · split at h
      ·exact .sO (j0 ih h)
      ·rw[h.1];exact .same h.2
    · split at h
      · obtain⟨rfl,h1,h2⟩:=h
        exact .JS (j0 ih h1) (j0 ih h2)
      ·rw[h.1];exact .same h.2
    · split at h
      · rename_i hn
        have hn':=nU hn
        cases hn'
        rcases h with rfl|rfl|⟨wd,rfl⟩
        ·exact .same rfl
        ·exact .nilE
        ·exact .nil
      ·rw[h.1];exact .same h.2
    · split at h
      · split at h
        · rename_i hk
          rw[h,E8 hk];exact .same rfl
        ·exact h.elim
      ·rw[h];exact .same rfl
    · split at h
      ·rw[h];exact .same rfl
      ·rw[h];exact .same rfl
    · split at h
      ·rw[h];exact .same rfl
      ·rw[h];exact .same rfl
    · split at h
      · split at h
        · rename_i hb
          rw[eF] at hb;rw[h,beq_eq hb];exact .same rfl
        ·exact h.elim
      ·rw[h];exact .same rfl
    · rcases h with rfl|⟨wd,rfl⟩
      ·exact .same rfl
      ·exact .empS
    ·rw[h.1];exact .same h.2
theorem jt:∀ (n:Nat) (x:AV),bG x=true→MF tab fz m n x x
  |0,x,h=>⟨rfl,h⟩
  | n + 1,x,h=>by
    have list:∀cs:List AV,bz cs=true→yd (MF tab fz m n) cs cs:=by
      intro cs
      induction cs with
      |nil=>intro _;trivial
      | cons c cs ih=>
        intro hh
        simp only[bz,bg] at hh
        exact⟨jt n c hh.1,ih hh.2⟩
    cases x with
    |own=>simp[bG] at h
    |ptr=>simp[bG] at h
    |mapr=>simp[bG] at h
    |agg cs=>exact list cs (by simpa only[bG] using h)
    |tup cs=>exact list cs (by simpa only[bG] using h)
    | clo f a b=>
      simp only[bG,bg] at h
      exact⟨rfl,list a h.1,list b h.2⟩
    | sl wd rows=>
      show(match rZ wd wd with|true=>rows=rows|false=>False)
      rw[eF,Nat.beq_refl]
    |emp=>exact .inl rfl
    | lit v=>
      cases v with
      | int k b=>
        show(match Nat.beq (tu k) (tu k) with|true=>b=b|false=>False)
        rw[Nat.beq_refl]
      |bool b=>rfl
      |string b=>rfl
      | slice ad a c=>
        show(match Bc (.slice ad a c) with|true=>rY _|false=>_=_∧_)
        split
        ·rename_i hn;exact .inl (by rw[nU hn])
        ·exact⟨rfl,rfl⟩
      |_=>exact⟨rfl,rfl⟩
    |_=>exact⟨rfl,h⟩
theorem gj.refl {n:Nat}{rows:List AV}(h:bz rows=true):gj (MF tab fz m n) rows rows:=
  ⟨rfl,fun i x y hx hy=>by rw[hx] at hy;cases hy;exact jt n x (cT.1 h x (bV hx))⟩
end
def qK (R:AV→AV→Prop)(rows' rows:List AV):Prop:=gj R rows' rows∧bz rows'=true
@[reducible] def Kb (t : Nat) : Bool := Nat.beq (Nat.mod t 10) 4
@[reducible] def MB : Bool → Bool → Bool
  |false,true=>false
  |_,_=>true
@[reducible] def CQ (tab : List (Nat × Nat)) (fz : Nat → Bool) (m : ML) (t' : Nat) : MS → Prop
  | .live wd' rows' ro'=>match o4 tab t' with
    | some u =>match eM m u with
      | .live wd rows ro=>match rZ wd' wd,MB ro' ro with
        | true,true=>match wk t' with
          |true=>yd (MF tab fz m 12) rows' rows
          | false=>match Kb t' with
            |true=>gj (MF tab fz m 12) rows' rows
            |false=>qK (MF tab fz m 12) rows' rows
        |_,_=>False
      |_=>False
    |none=>False
  | .dead=>match o4 tab t' with
    | some u=>match eM m u with
      |.free=>False
      |_=>True
    |none=>False
  |.free=>False
@[reducible] def pT (tab : List (Nat × Nat)) (fz : Nat → Bool) (m : ML) : ML → Prop
  |[]=>True
  |(t,s)::r=>CQ tab fz m t s∧pT tab fz m r
@[reducible] def Ho (tab : List (Nat × Nat)) (fz : Nat → Bool) (m : ML) (sl : SL) : SL → Prop
  |[]=>True
  |(d,x)::r=>MF tab fz m 12 x (uX sl d)∧Ho tab fz m sl r
section
variable (m' m : ML)
@[reducible] def AS (f : AV → AV → List (Nat × Nat)) : List AV → List AV → List (Nat × Nat)
  |x::xs,y::ys=>dR (f x y) (AS f xs ys)
  |_,_=>[]
@[reducible] def eX : Nat → AV → AV → List (Nat × Nat)
  |0,_,_=>[]
  | n + 1,x',x=>match x',x with
    |.own t' _ _,.own t _ _=>[(t',t)]
    | .ptr t' _ _,.ptr t _ _=>(t',t)::(match wk t' with
      | true=>match eM m' t',eM m t with
        |.live _ rows' _,.live _ rows _=>AS (eX n) rows' rows
        |_,_=>[]
      |false=>[])
    |.mapr t',.mapr t=>[(t',t)]
    |.agg cs',.agg cs=>AS (eX n) cs' cs
    |.tup cs',.tup cs=>AS (eX n) cs' cs
    |.clo _ a' b',.clo _ a b=>dR (AS (eX n) a' a) (AS (eX n) b' b)
    |_,_=>[]
@[reducible] def iQ (sl : SL) : SL → List (Nat × Nat)
  |[]=>[]
  |(d,x)::r=>dR (eX m' m 4 x (uX sl d)) (iQ sl r)
end
@[reducible] def cV (ps : List (Nat × Nat)) : ML → List (Nat × Nat)
  |[]=>[]
  | (k,_)::r=>match o4 ps k with
    |some u=>(k,u)::cV ps r
    |none=>(k,k)::cV ps r
@[reducible] def lP : List (Nat × Nat) → Bool
  |[]=>true
  | (k,u)::r=>match o9 (eC Prod.snd r) u,o9 (eC Prod.fst r) k with
    |false,false=>lP r
    |_,_=>false
@[reducible] def ig (m' : ML) : List (Nat × Nat) → List (Nat × Nat)
  |[]=>[]
  | (k,u)::r=>match eM m' k with
    |.live _ _ _=>(k,u)::ig m' r
    |_=>ig m' r
@[reducible] def oo (m : ML) (tab : List (Nat × Nat)) : Nat → Bool
  |0=>true
  | k + 1=>match eM m k with
    |.free=>oo m tab k
    | _ =>match o4 tab k with
      | some u=>match Nat.beq u k with
        |true=>oo m tab k
        |false=>false
      |none=>false
@[reducible] def j6 (tab : List (Nat × Nat)) (t : Nat) : Bool := match o9 (eC Prod.snd tab) t with
  |true=>false
  |false=>true
@[reducible] def Fit (nL : Nat) (sl : SL) (m : ML) (sl' : SL) (m' : ML) : Prop :=
  (lP (ig m' (cV (iQ m' m sl sl') m'))=true∧oo m (cV (iQ m' m sl sl') m') nL=true)∧
    Ho (cV (iQ m' m sl sl') m') (j6 (cV (iQ m' m sl sl') m')) m sl sl'∧pT (cV (iQ m' m sl sl') m') (j6 (cV (iQ m' m sl sl') m')) m m'
theorem ee:∀ {l:List Nat} {k:Nat},o9 l k=true↔k∈l
  |[],k=>by simp[o9]
  | x :: r,k=>by
    simp only[o9,eB]
    split
    ·rename_i h;simp[beq_eq h]
    · rename_i h
      rw[ee (l:=r)]
      constructor
      ·exact .inr
      · rintro(rfl|h')
        ·rw[Nat.beq_refl] at h;cases h
        ·exact h'
theorem iL:∀ {l:List (Nat×Nat)} {i u:Nat},o4 l i=some u→(i,u)∈l
  |[],i,u,h=>by cases h
  | p::r,i,u,h=>by
    simp only[o4] at h
    split at h
    ·rename_i hb;cases h;rw[beq_eq hb];simp
    ·exact fJ _ (iL h)
theorem uc:∀ {l:List (Nat×Nat)},lP l=true→∀ {i j u:Nat},(i,u)∈l→(j,u)∈l→i=j
  |[],_,i,j,u,h,_=>by simp at h
  | p :: r,hn,i,j,u,h1,h2=>by
    simp only[lP] at hn
    split at hn
    · rename_i g1 g2
      have no:∀k,(k,p.2)∉r:=fun k hk=>by
        have:o9 (eC Prod.snd r) p.2=true:=by rw[eN,ee];exact List.mem_map.2 ⟨_,hk,rfl⟩
        rw[this] at g1;cases g1
      rcases eB.1 h1 with h1|h1
      · rcases eB.1 h2 with h2|h2
        ·rw[←h1] at h2;cases h2;rfl
        ·rw[←h1] at no;exact absurd h2 (no j)
      · rcases eB.1 h2 with h2|h2
        ·rw[←h2] at no;exact absurd h1 (no i)
        ·exact uc hn h1 h2
    ·cases hn
theorem mP {m':ML}:∀ {l:List (Nat×Nat)} {i u:Nat} {wd:Nat} {rows:List AV} {ro:Bool},(i,u)∈l→aX m' i=.live wd rows ro→(i,u)∈ig m' l
  | p ::r,i,u,wd,rows,ro,h,hl=>by
    rcases eB.1 h with h|h
    · subst h
      have e:eM m' i=.live wd rows ro:=by rw[gZ];exact hl
      simp only[ig,e]
      exact gE
    · have ih:=mP h hl
      simp only[ig]
      split
      ·exact fJ _ ih
      ·exact ih
theorem gH {ps:List (Nat×Nat)}:∀ {m':ML} {i u:Nat},(i,u)∈cV ps m'→i∈m'.map (·.1)
  |[],i,u,h=>by simp at h
  | (k,s)::r,i,u,h=>by
    simp only[cV] at h
    split at h
    · rcases eB.1 h with h|h
      ·cases h;simp
      ·simp[gH h]
    · rcases eB.1 h with h|h
      ·cases h;simp
      ·simp[gH h]
theorem gu {tab:List (Nat×Nat)}{fz:Nat→Bool}{m:ML}:∀ {m':ML},pT tab fz m m'→∀t,aX m' t=.free∧t∉m'.map (·.1)∨(CQ tab fz m t (aX m' t)∧t∈m'.map (·.1))
  |[],_,t=>.inl ⟨rfl,by simp⟩
  | (d,s)::r,h,t=>by
    simp only[aX]
    by_cases hi:t=d
    ·subst hi;simp;exact h.1
    · have h':(t==d)=false:=by simpa using hi
      rw[h']
      rcases gu h.2 t with⟨a,b⟩|⟨a,b⟩
      ·exact .inl ⟨a,by simp[hi];simpa using b⟩
      ·exact .inr ⟨a,by simp;exact .inr (by simpa using b)⟩
theorem qP {tab:List (Nat×Nat)}{fz:Nat→Bool}{m:ML}{sl:SL}:∀ {sl':SL},Ho tab fz m sl sl'→∀d,cE sl' d=.any∨MF tab fz m 12 (cE sl' d) (uX sl d)
  |[],_,d=>.inl rfl
  | (e,x)::r,h,d=>by
    simp only[cE]
    by_cases hi:d=e
    ·subst hi;simp;exact .inr h.1
    · have h':(d==e)=false:=by simpa using hi
      rw[h'];exact qP h.2 d
section
variable {P : Program} {tab : List (Nat × Nat)} {fz : Nat → Bool} {m m' : ML} {N nL : Nat} {w0 : World} {W0 : Nat → Prop} {L μ : Mu} {sl : SL} {a : Act} {w : World}
theorem sQ (hs:cF P N w0 W0 L μ (St sl m) a w):∀t wd rows ro,eM m t=.live wd rows ro→bS wd rows:=by
  intro t wd rows ro h
  obtain⟨B,_,h2⟩:=hs.objs t wd rows ro (dg h)
  exact h2.wide
theorem pT.qC (hs:cF P N w0 W0 L μ (St sl m) a w)(hn:lP (ig m' tab)=true)(hl:oo m tab nL=true)(hk:∀i u,(i,u)∈tab→i∈m'.map (·.1))(hfz:∀t,fz t=true→j6 tab t=true)(h:pT tab fz m m')(sl':Nat→AV)
    (hsl:∀i,Cv (aX m) (gR tab) (fun t=>aX m' t≠ .free) (fun t=>(∃wd rows ro,eM m t=.live wd rows ro)∧fz t=true) (sl' i) (cE sl i)):
    nq nL (gR tab) (fun t=>(∃wd rows ro,eM m t=.live wd rows ro)∧fz t=true) ⟨sl',aX m'⟩ (St sl m):=by
  have hD:∀t u,o4 tab t=some u→aX m' t≠ .free:=by
    intro t u ht e
    rcases gu h t with⟨_,b⟩|⟨b,_⟩
    ·exact b (hk _ _ (iL ht))
    ·rw[e] at b;exact b
  have hcv:∀n r x,MF tab fz m n r x→Cv (aX m) (gR tab) (fun t=>aX m' t≠ .free) (fun t=>(∃wd rows ro,eM m t=.live wd rows ro)∧fz t=true) r x:=
    lp (fun t wd rows ro h _=>sQ hs t wd rows ro h) hD (fun t wd rows ro h1 h2=>⟨⟨wd,rows,ro,h1⟩,h2⟩)
  have tabd:∀t,aX m' t≠ .free→∃u,o4 tab t=some u∧gR tab t=u:=by
    intro t ht
    rcases gu h t with⟨b,_⟩|⟨b,_⟩
    ·exact absurd b ht
    · revert b
      cases hs':aX m' t with
      |free=>exact fun b=>b.elim
      | dead=>
        intro b
        simp only[CQ] at b
        split at b
        ·rename_i u hu;exact⟨u,hu,by simp[gR,hu]⟩
        ·exact b.elim
      | live wd rows ro=>
        intro b
        simp only[CQ] at b
        split at b
        ·rename_i u hu;exact⟨u,hu,by simp[gR,hu]⟩
        ·exact b.elim
  refine⟨hsl,fun t=>?_,fun t t' wd rows wd' rows' ro' h1 h2 h3=>?_,fun s hsF=>⟨?_,?_⟩,fun t ht hne=>?_⟩
  · show aX m' t =.free∨_
    rcases gu h t with⟨b,_⟩|⟨b,_⟩
    ·exact .inl b
    · right
      show(aX m' t=.dead∧aX m (gR tab t)≠ .free)∨_
      revert b
      cases hs':aX m' t with
      |free=>exact fun b=>b.elim
      | dead=>
        intro b
        simp only[CQ] at b
        split at b
        · rename_i u hu
          have hr:gR tab t=u:=by simp[gR,hu]
          rw[hr]
          refine .inl ⟨rfl,fun e=>?_⟩
          rw[gZ,e] at b;exact b
        ·exact b.elim
      | live wd' rows' ro'=>
        intro b
        simp only[CQ] at b
        split at b
        · rename_i u hu
          have hr:gR tab t=u:=by simp[gR,hu]
          split at b
          · rename_i wd rows ro hm
            have hwr:=sQ hs _ _ _ _ hm
            split at b
            · rename_i g1 g2
              have g1':=beq_eq (by rw[←eF];exact g1)
              subst g1'
              have hcl:gS (aX m) (gR tab) (fun t=>aX m' t≠ .free) (fun t=>(∃wd rows ro,eM m t=.live wd rows ro)∧fz t=true) rows' rows∧bS wd' rows':=by
                split at b
                · refine⟨j0 (fun r x hrx=>hcv 12 r x hrx) b,?_⟩
                  clear hs' hm
                  induction rows' generalizing rows with
                  |nil=>exact .nil _
                  | cons r rs ih=>
                    cases rows with
                    |nil=>exact b.elim
                    |cons y ys=>exact .cons (by rw[xN b.1];exact hwr.tail.1) (ih _ hwr.tail.2 b.2)
                · have b:gj (MF tab fz m 12) rows' rows:=by
                    split at b
                    ·exact b
                    ·exact b.1
                  refine⟨⟨b.1,fun q c d h1 h2=>hcv 12 _ _ (b.2 q c d h1 h2)⟩,fun i y hy=>?_⟩
                  have hi:=(aZ hy).1
                  rw[b.1] at hi
                  have hz:=bH hi
                  rw[xN (b.2 i _ _ hy hz)]
                  exact hwr.mem (bV hz)
              refine .inr ⟨wd',rows',rows,ro',ro,hs',?_,?_,hcl.2,hcl.1⟩
              ·rw[hr];exact dg hm
              · intro hro
                subst hro
                cases ro with
                |false=>rfl
                |true=>cases g2
            ·exact b.elim
          ·exact b.elim
        ·exact b.elim
  · obtain⟨u,a1,a2⟩:=tabd t (fun e=>by have g:aX m' t=.live wd rows false:=h1;rw[e] at g;cases g)
    obtain⟨u',b1,b2⟩:=tabd t' (fun e=>by have g:aX m' t'=.live wd' rows' ro':=h2;rw[e] at g;cases g)
    have:u=u':=by rw[←a2,←b2,h3]
    subst this
    exact uc hn (mP (iL a1) h1) (mP (iL b1) h2)
  · obtain⟨⟨wd,rows,ro,h1⟩,_⟩:=hsF
    exact⟨wd,rows,ro,dg h1⟩
  · intro t wd rows ht e
    have hne:aX m' t≠ .free:=by intro e';have:aX m' t=.live wd rows false:=ht;rw[e'] at this;cases this
    obtain⟨u,a1,a2⟩:=tabd t hne
    have h5:=hfz s hsF.2
    have:o9 (eC Prod.snd tab) s=true:=by
      rw[eN,ee,List.mem_map]
      exact⟨(t,u),iL a1,by rw[←e,a2]⟩
    simp only[j6,this] at h5
    cases h5
  · have key : ∀k,oo m tab k=true→∀t,t<k→aX m t≠ .free→o4 tab t=some t:=by
      intro k
      induction k with
      |zero=>intro _ t ht;omega
      | succ k ih=>
        intro hk t ht hne
        simp only[oo] at hk
        split at hk
        · rename_i hm
          rcases Nat.lt_succ_iff_lt_or_eq.1 ht with h'|rfl
          ·exact ih hk t h' hne
          ·exact absurd (dg hm) hne
        · split at hk
          · rename_i u hu
            split at hk
            · rename_i hb
              rcases Nat.lt_succ_iff_lt_or_eq.1 ht with h'|rfl
              ·exact ih hk t h' hne
              ·rw[hu,beq_eq hb]
            ·cases hk
          ·cases hk
    have h5:=key nL hl t ht hne
    exact⟨by simp[gR,h5],hD _ _ h5⟩
end
theorem Fit.tZ {P:Program}{nL:Nat}{sl sl':SL}{m m':ML}(h:Fit nL sl m sl' m'):ir P nL (St sl m) (St sl' m'):=by
  intro N w0 W0 L μ a w hL hs
  obtain⟨⟨h1,h2⟩,h3,h4⟩:=h
  have hk:∀i u,(i,u)∈cV (iQ m' m sl sl') m'→i∈m'.map (·.1):=fun i u h=>gH h
  have hD:∀t u,o4 (cV (iQ m' m sl sl') m') t=some u→aX m' t≠ .free:=by
    intro t u ht e
    rcases gu h4 t with⟨_,b⟩|⟨b,_⟩
    ·exact b (hk _ _ (iL ht))
    ·rw[e] at b;exact b
  have hw:=pT.qC hs h1 h2 hk (fun t h=>h) h4 (cE sl') (fun i=>by
    rcases qP h3 i with h|h
    ·rw[h];exact .any
    · rw[←ic sl]
      exact lp (fun t wd rows ro h _=>sQ hs t wd rows ro h) hD (fun t wd rows ro h1 h2=>⟨⟨wd,rows,ro,h1⟩,h2⟩) 12 _ _ h)
  obtain⟨μ',hs',_⟩:=hw.Gu hL hs (.inl ⟨rfl,rfl⟩)
  exact⟨μ',hs'⟩
end Go.Am
section
namespace Go.Am
open Go
@[reducible] def Fo (Γ : cR) (sl : SL) (m : ML) : ResultVar → Option AV
  |.tmp t=>some (uX sl t)
  | .cell a t=>match uX sl a with
    | .ptr tk i k=>match eM m tk with
      | .live _ rows _=>match iE rows i with
        |some r=>rB (pI Γ t) r k
        |none=>none
      |_=>none
    |_=>none
@[reducible] def uW (Γ : cR) (sl : SL) (m : ML) : List ResultVar → Option (List AV)
  |[]=>some []
  | rv::r=>match Fo Γ sl m rv,uW Γ sl m r with
    |some x,some xs=>some (x::xs)
    |_,_=>none
@[reducible] def Fw : List AV → AV
  |[x]=>x
  |xs=>.tup xs
@[reducible] def bt : Nat → List MS → ML
  |_,[]=>[]
  |k,x::r=>(k,x)::bt (Nat.add k 1) r
@[reducible] def zU : Nat → List AV → SL
  |_,[]=>[]
  |k,x::r=>(k,x)::zU (Nat.add k 1) r
theorem lg:∀ (l:List MS) (k:Nat),bt k l=qq k l
  |[],_=>rfl
  |x::r,k=>by simp only[bt,qq];rw[lg r]
theorem tQ:∀ (l:List AV) (k:Nat),zU k l=rm k l
  |[],_=>rfl
  |x::r,k=>by simp only[zU,rm];rw[tQ r]
theorem eO (l:List MS):aX (qq 0 l)=aJ l:=by
  funext t;rw[sV];simp[aJ]
@[reducible] def JF (nL : Nat) (x : AV) (m : ML) (outs : List MS) (res : AV) : Prop :=
  (lP (ig (bt 0 outs) (cV (eX (bt 0 outs) m 6 res x) (bt 0 outs)))=true∧oo m (cV (eX (bt 0 outs) m 6 res x) (bt 0 outs)) nL=true)∧
    MF (cV (eX (bt 0 outs) m 6 res x) (bt 0 outs)) (j6 (cV (eX (bt 0 outs) m 6 res x) (bt 0 outs))) m 12 res x∧
    pT (cV (eX (bt 0 outs) m 6 res x) (bt 0 outs)) (j6 (cV (eX (bt 0 outs) m 6 res x) (bt 0 outs))) m (bt 0 outs)
@[reducible] def lG : List ResultVar → AV → List AV
  |[_],x=>[x]
  | _,x=>match x with
    |.tup xs=>xs
    |_=>[]
@[reducible] def gQ (outs : List MS) : List ResultVar → List AV → SL → ML → SL × ML
  |[],_,sl,m=>(sl,m)
  | rv :: rvs,rs,sl,m=>match rs with
    |[]=>(sl,m)
    | r :: rs=>match rv with
      | .tmp d=>match r with
        | .own t _ _=>match uX sl d with
          | .lit v=>match Bc v,eM m (Nat.add 1000003 t),iE outs t with
            |true,.free,some (.live wd _ _)=>gQ outs rvs rs (o5 d (.own (Nat.add 1000003 t) 0 0) sl) (jQ (Nat.add 1000003 t) (.live wd [] false) m)
            |_,_,_=>gQ outs rvs rs sl m
          | .emp=>match eM m (Nat.add 1000003 t),iE outs t with
            |.free,some (.live wd _ _)=>gQ outs rvs rs (o5 d (.own (Nat.add 1000003 t) 0 0) sl) (jQ (Nat.add 1000003 t) (.live wd [] false) m)
            |_,_=>gQ outs rvs rs sl m
          |_=>gQ outs rvs rs sl m
        |_=>gQ outs rvs rs sl m
      |_=>gQ outs rvs rs sl m
@[reducible] def IC (Γ : cR) (nL : Nat) (rvs : List ResultVar) (outs : List MS) (res : AV) : SL × ML → Prop
  | (sl,m)=>match uW Γ sl m rvs with
    |some xs=>JF nL (Fw xs) m outs res
    |none=>False
@[reducible] def L3 (Γ : cR) (nL : Nat) (rvs : List ResultVar) (outs : List MS) (res : AV) (e : Exit) (sl : SL) (m : ML) : Prop :=
  match e with
  |.normal=>IC Γ nL rvs outs res (gQ outs rvs (lG rvs res) sl m)
  |.ret=>IC Γ nL rvs outs res (gQ outs rvs (lG rvs res) sl m)
  |_=>False
theorem cF.ghost {P:Program}{N:Nat}{w0:World}{W0:Nat→Prop}{L μ:Mu}{sl:SL}{m:ML}{a:Act}{w:World}(hs:cF P N w0 W0 L μ (St sl m) a w){d t:Nat}(wd:Nat)(hd:uX sl d=.lit (.slice none 0 0)∨uX sl d=.emp)(ht:eM m t=.free):
    cF P N w0 W0 L (bI μ t ⟨0,0,wd,true,false⟩) (St (o5 d (.own t 0 0) sl) (jQ t (.live wd [] false) m)) a w:=by
  have h1:=hs.nJ (t:=t) (wd:=wd) (dg ht)
  have hv:∃ad,a.tmps.getD d undef=.slice ad 0 0:=by
    have:=hs.slots d
    have e:(St sl m).slots d=uX sl d:=by rw[ic];rfl
    rw[e] at this
    generalize a.tmps.getD d undef=v at this
    rcases hd with hd|hd<;>(rw[hd] at this;cases this;exact⟨_,rfl⟩)
  obtain⟨ad,hv⟩:=hv
  have key:cF P N w0 W0 L (bI μ t ⟨0,0,wd,true,false⟩) ((St sl m).Bi (some d) (.own t 0 0) [(t,.live wd [] false)]) a w:=by
    refine{h1 with slots:=fun i=>?_}
    simp only[aD.Bi,cJ]
    by_cases hi:i=d
    · subst hi
      rw[if_pos rfl,hv]
      exact .ownNil (B:=⟨0,0,wd,true,false⟩) (by simp[bI])
    ·rw[if_neg hi];exact h1.slots i
  rw[s9,sB] at key
  exact key
theorem rj {P:Program}{outs:List MS}{N:Nat}{w0:World}{W0:Nat→Prop}{L:Mu}{a:Act}{w:World}:∀ (rvs:List ResultVar) (rs:List AV) (sl:SL) (m:ML) (μ:Mu),cF P N w0 W0 L μ (St sl m) a w→∃μ',cF P N w0 W0 L μ' (St (gQ outs rvs rs sl m).1 (gQ outs rvs rs sl m).2) a w
  |[],rs,sl,m,μ,hs=>⟨μ,by simpa only[gQ] using hs⟩
  |rv::rvs,[],sl,m,μ,hs=>⟨μ,by simpa only[gQ] using hs⟩
  | rv :: rvs,r::rs,sl,m,μ,hs=>by
    have ih:=rj (P:=P) (outs:=outs) (N:=N) (w0:=w0) (W0:=W0) (L:=L) (a:=a) (w:=w) rvs rs
    unfold gQ
    dsimp only
    split
    · split
      · split
        · rename_i hd
          split
          · rename_i hn ht _
            exact ih _ _ _ (hs.ghost _ (.inl (by rw[hd,nU hn])) ht)
          ·exact ih _ _ _ hs
        · rename_i hd
          split
          · rename_i ht _
            exact ih _ _ _ (hs.ghost _ (.inr hd) ht)
          ·exact ih _ _ _ hs
        ·exact ih _ _ _ hs
      ·exact ih _ _ _ hs
    ·exact ih _ _ _ hs
section
variable {P : Program} {Γ : cR} {sl : SL} {m : ML}
theorem xm (hΓ:Γ.Good P):∀ {rvs:List ResultVar} {xs:List AV},uW Γ sl m rvs=some xs→zy P (St sl m) rvs xs
  |[],xs,h=>by cases h;trivial
  | rv :: rvs, xs,h=>by
    simp only[uW] at h
    split at h
    · rename_i x ys h1 h2
      cases h
      refine⟨?_,xm hΓ h2⟩
      cases rv with
      | tmp t=>
        simp only[Fo,Option.some.injEq] at h1
        show cE sl t=x
        rw[←ic];exact h1
      | cell a t=>
        simp only[Fo] at h1
        split at h1
        · rename_i tk i k ha
          split at h1
          · rename_i wd rows ro hm
            split at h1
            · rename_i r hr
              rw[gU] at hr
              exact⟨tk,i,k,wd,rows,ro,r,by show cE sl a=_;rw[←ic];exact ha,dg hm,hr,nB hΓ (by rw[←eS,←pB];exact h1)⟩
            ·cases h1
          ·cases h1
        ·cases h1
    ·cases h
theorem zx (xs:List AV):Fw xs=xO xs:=by
  match xs with
  |[]=>rfl
  |[x]=>rfl
  |x::y::r=>rfl
theorem JF.end {nL:Nat}{x:AV}{outs:List MS}{res:AV}(h:JF nL x m outs res){N:Nat}{w0:World}{W0:Nat→Prop}{L μ:Mu}{a:Act}{w:World}{v:Value}(hL:∀t,nL≤t→t<ko→L t=none)
    (hs:cF P N w0 W0 L μ (St sl m) a w) (hv:cH (Wr W0 μ (aX m)) μ w x v):∃μ',cF P 0 w0 W0 L μ' (bare outs) iM w∧cH (Wr W0 μ' (aJ outs)) μ' w res v:=by
  obtain⟨⟨h1,h2⟩,h3,h4⟩:=h
  generalize ht:cV (eX (bt 0 outs) m 6 res x) (bt 0 outs)=tab at h1 h2 h3 h4
  have hk:∀i u,(i,u)∈tab→i∈ (bt 0 outs).map (·.1):=fun i u h=>by rw[←ht] at h;exact gH h
  have hD:∀t u,o4 tab t=some u→aX (bt 0 outs) t≠ .free:=by
    intro t u ht e
    rcases gu h4 t with⟨_,b⟩|⟨b,_⟩
    ·exact b (hk _ _ (iL ht))
    ·rw[e] at b;exact b
  have hw:=pT.qC hs h1 h2 hk (fun t h=>h) h4 (fun _=>.any) (fun i=>.any)
  have hcv:=lp (fun t wd rows ro h _=>sQ hs t wd rows ro h) hD (F:=fun t=>(∃wd rows ro,eM m t=.live wd rows ro)∧j6 tab t=true) (fun t wd rows ro h1 h2=>⟨⟨wd,rows,ro,h1⟩,h2⟩) 12 _ _ h3
  obtain⟨μ',hs',hrep⟩:=hw.Gu hL hs (N':=0) (a':=iM) (.inr ⟨fun _=>rfl,rfl,rfl⟩)
  have e:aX (bt 0 outs)=aJ outs:=by rw[lg,eO]
  rw[e] at hs' hrep hcv
  exact⟨μ',hs',hrep _ _ _ hcv hv⟩
theorem aj.aA {f:FuncId}{fn:Func}{c:Code}{ins outs:List MS}{args:List AV}{res:AV}{N:Nat}{rvs:List ResultVar}(Γ:cR)(hΓ:Γ.Good P)(hf:P.funcs[f]? =some fn)(hb:fn.body=some c)(hN:fn.ntmps=N)(hr:fn.results.toList=rvs)
    (hlen:Nat.ble (fu args) N=true) (h:tP P N (fu ins) Γ c (zU 0 args) (bt 0 ins) (L3 Γ (fu ins) rvs outs res)):aj P f ins args outs res:=by
  subst hN;subst hr
  have hlen:args.length≤fn.ntmps:=by rw[←cW];exact ga hlen
  intro w W0 L vs hL hs hr
  have h:=mQ hΓ _ _ _ _ h
  rw[tQ,lg,cW] at h
  have hst:(⟨fun i=>args.getD i .any,aJ ins⟩:aD)=St (rm 0 args) (qq 0 ins):=by
    unfold St
    congr 1
    ·funext i;rw[oQ];simp
    ·exact(eO ins).symm
  have hsim:cF P fn.ntmps w W0 L L ⟨fun i=>args.getD i .any,aJ ins⟩ {tmps:=vs.toArray++Array.replicate (fn.ntmps-vs.toArray.size) undef,defers:=[]} w:=by
    refine⟨?_,.nil,hs.os,hs.tape,hs.output,hs.hsize,hs.shp,hs.keep,hs.w0lt,hs.lentμ,hs.free,fun i=>?_,hs.objs,hs.inj,hs.out,hs.tabs⟩
    ·simp[hr.1];omega
    · by_cases hi:i<args.length
      · have h1:args[i]? =some args[i]:=bH hi
        have h2:vs[i]? =some (vs[i]'(by rw[hr.1];exact hi)):=bH _
        have:=hr.2 i _ _ h1 h2
        have hv:(vs.toArray++Array.replicate (fn.ntmps-vs.toArray.size) undef).getD i undef=vs[i]'(by rw[hr.1];exact hi):=by
          rw[Array.getD_eq_getD_getElem?,Array.getElem?_append_left (by simp;rw[hr.1];exact hi)]
          simp[h2]
        simp only[hv,List.getD_eq_getElem?_getD,h1,Option.getD_some]
        exact this
      · simp only[List.getD_eq_getElem?_getD,pX (Nat.le_of_not_lt hi),Option.getD_none]
        exact .any
  rw[hst] at hsim
  refine pQ hf hb h (fun t ht=>hL t (by omega)) hsim (fun e σ' ⟨sl,m,_,hend⟩=>?_) ?_
  · cases e with
    |normal=>exact .inl rfl
    |ret=>exact .inr rfl
    |_=>exact hend.elim
  rintro e σ' μ' a' w' ⟨sl,m,rfl,hend⟩ hs' hd
  have key:IC Γ ins.length fn.results.toList outs res (gQ outs fn.results.toList (lG fn.results.toList res) sl m)→∃v,(results fn a'.tmps).run P w'=.ok v w'∧∃v_1 μ',Ending.returned v=.returned v_1∧cF P 0 w W0 L μ' (bare outs) iM w'∧cH (Wr W0 μ' (aJ outs)) μ' w' res v_1:=by
    intro hend
    obtain⟨μ2,hs2⟩:=rj (outs:=outs) fn.results.toList (lG fn.results.toList res) sl m μ' hs'
    generalize gQ outs fn.results.toList (lG fn.results.toList res) sl m=q at hend hs2
    obtain⟨sl2,m2⟩:=q
    simp only[IC] at hend
    split at hend
    · rename_i xs hxs
      have hres:=(xm hΓ hxs).get
      obtain⟨v,v1,v2⟩:=rN hs2 hres.1 hres.2
      rw[zx] at hend
      obtain⟨μ'',h1,h2⟩:=hend.end (fun t ht _=>hL t ht) hs2 v2
      exact⟨v,v1,v,μ'',rfl,h1,h2⟩
    ·exact hend.elim
  cases e with
  |normal=>exact key hend
  |ret=>exact key hend
  |_=>exact hend.elim
end
def aW {ι:Type}(sl:SL)(m:ML){nL:Nat}{S:ι→SL}{M:ι→ML}{I:ι→Prop}{μ:ι→Nat}{i:ι}:Prop:=∃j,I j∧μ j<μ i∧Fit nL sl m (S j) (M j)
theorem aW.mk {ι:Type}{sl:SL}{m:ML}{nL:Nat}{S:ι→SL}{M:ι→ML}{I:ι→Prop}{μ:ι→Nat}{i:ι}(j:ι)(h1:I j)(h2:μ j<μ i)(h3:Fit nL sl m (S j) (M j)):aW sl m (nL:=nL) (S:=S) (M:=M) (I:=I) (μ:=μ) (i:=i):=⟨j,h1,h2,h3⟩
@[reducible] def Jv {ι : Type} (nL : Nat) (S : ι → SL) (M : ι → ML) (I : ι → Prop) (μ : ι → Nat) (i : ι) (Q : Exit → SL → ML → Prop) (e : Exit) (sl : SL) (m : ML) : Prop :=
  match e with
  |.normal=>aW sl m (nL:=nL) (S:=S) (M:=M) (I:=I) (μ:=μ) (i:=i)
  |e=>Q e sl m
theorem bE.use {P:Program}{N nL:Nat}{sl:SL}{m:ML}{c:Code}{Q:Exit→SL→ML→Prop}{ι:Type}(Γ:cR)(hΓ:Γ.Good P)(S:ι→SL)(M:ι→ML)(I:ι→Prop)(μ:ι→Nat)(i0:ι)(hI:I i0)(h0:Fit nL sl m (S i0) (M i0))
    (round:∀i,I i→tP P N nL Γ c (S i) (M i) (Jv nL S M I μ i Q)):bE P N nL sl m (c:=.loop c) (Q:=Q):=by
  refine gg.Jc (C:=fun i=>St (S i) (M i)) I μ i0 hI h0.tZ ?_
  intro i hi
  refine(mQ hΓ _ _ _ _ (round i hi)).mono ?_
  rintro e σ ⟨sl',m',rfl,h⟩
  cases e with
  | normal=>
    obtain⟨j,h1,h2,h3⟩:=h
    exact⟨j,h1,h2,h3.tZ⟩
  |_=>exact⟨sl',m',rfl,h⟩
theorem bE.fit {P:Program}{N nL:Nat}{sl sl':SL}{m m':ML}{c:Code}{Q:Exit→SL→ML→Prop}(h:Fit nL sl m sl' m')(hc:bE P N nL sl' m' (c:=c) (Q:=Q)):bE P N nL sl m (c:=c) (Q:=Q):=gg.fits h.tZ hc
theorem bE.ghost {P:Program}{N nL:Nat}{sl:SL}{m:ML}{c:Code}{Q:Exit→SL→ML→Prop}(d t wd:Nat)(hd:uX sl d=.lit (.slice none 0 0))(ht:eM m t=.free)(hc:bE P N nL (o5 d (.own t 0 0) sl) (jQ t (.live wd [] false) m) (c:=c) (Q:=Q)):
    bE P N nL sl m (c:=c) (Q:=Q):=by
  refine gg.ghost (d:=d) (t:=t) wd (.inl (by show cE sl d=_;rw[←ic];exact hd)) (dg ht) ?_
  rw[s9,sB]
  exact hc
section
variable {P : Program} {N : Nat} {o : Oper} {f : FuncId} {args args' : List AV} {acc : Tk} {sl : SL} {m : ML} {R : Rest} {res : AV} {outs : List MS}
@[reducible] def KR (T : List Nat) (t : Nat) : Bool := o9 T t
@[reducible] def vU (T : List Nat) (m : ML) (args' args : List AV) : Prop := yd (MF [] (KR T) m 12) args' args
theorem vU.cv {T:List Nat}(hw:∀t wd rows ro,eM m t=.live wd rows ro→t∈T→bS wd rows)(h:vU T m args' args):gS (St sl m).mem id (fun _=>False) (· ∈T) args' args:=by
  have:=j0 (D:=fun _=>False) (F:=(· ∈T)) (ρ:=gR []) (mm:=aX m) (fun r x=>lp (fun t wd rows ro h1 h2=>hw t wd rows ro h1 (ee.1 h2)) (fun t u h=>by cases h) (fun t wd rows ro _ h2=>ee.1 h2) 12 r x) h
  exact this
theorem jX (hd:mH N o.dst=true):∀d,o.dst=some d→d<N:=bK (Ck hd)
theorem aL.sn {σ:aD}{rd:List Nat}{x:AV}{ups:ML}(h:(∃ (w0:World) (W0:Nat→Prop) (L μ:Mu) (a:Act) (w:World) (σ2:aD),(∀t∈rd,σ2.mem t=σ.mem t)∧cF P N w0 W0 L μ σ2 a w)→aL P N o σ rd x ups):aL P N o σ rd x ups:=by
  intro σ2 he hr w0 W0 L μ a w K Q hs hK
  exact h ⟨w0,W0,L,μ,a,w,σ2,hr,hs⟩ σ2 he hr w0 W0 L μ a w K Q hs hK
theorem Bs {σ:aD}{T:List Nat}(hσ:σ=St sl m)(h:∃ (w0:World) (W0:Nat→Prop) (L μ:Mu) (a:Act) (w:World) (σ2:aD),(∀t∈T,σ2.mem t=σ.mem t)∧cF P N w0 W0 L μ σ2 a w):∀t wd rows ro,eM m t=.live wd rows ro→t∈T→bS wd rows:=by
  subst hσ
  obtain⟨w0,W0,L,μ,a,w,σ2,h1,h2⟩:=h
  intro t wd rows ro ht hT
  obtain⟨B,_,h3⟩:=h2.objs t wd rows ro (by rw[h1 t hT,mem_eq];exact ht)
  exact h3.wide
theorem ae.lit (T:List Nat)(hf:aj P f [] args' [] res)(hc:au P f)(ha:vU T m args' args)(hd:mH N o.dst=true)(hp:ku res=true)(h:R T res [] acc sl m):ae P N f args acc sl m (o:=o) (R:=R):=by
  intro hto
  exact⟨T,res,[],aL.sn fun hs=>aL.D7 T hto hc (ha.cv (Bs rfl hs)) hf hp (jX hd),h⟩
@[reducible] def wg (m : ML) : List Nat → Bool
  |[]=>true
  | t::r=>match eM m t with
    |.live _ _ _=>wg m r
    |_=>false
theorem o6 {m:ML}:∀ {T:List Nat},wg m T=true→∀t∈T,∃wd rows ro,aX m t=.live wd rows ro
  |[],_,t,h=>by simp at h
  | u ::r,h,t,ht=>by
    simp only[wg] at h
    split at h
    · rename_i hm
      rcases eB.1 ht with rfl|ht
      ·exact⟨_,_,_,dg hm⟩
      ·exact o6 h t ht
    ·cases h
@[reducible] def KZ : MS → MS
  |.live wd rows _=>.live wd rows true
  |s=>s
theorem ae.val (T:List Nat)(hf:aj P f [] args' [] res)(hc:au P f)(ha:vU T m args' args)(hT:wg m T=true)(hd:mH N o.dst=true)(hp:bG res=true)
    (h:R T res (eC (fun t=>(t,KZ (eM m t))) T) acc sl m):ae P N f args acc sl m (o:=o) (R:=R):=by
  intro hto
  have e:eC (fun t=>(t,KZ (eM m t))) T=T.map fun t=>(t,me ((St sl m).mem t)):=by
    rw[eN];apply List.map_congr_left;intro t _;rw[mem_eq];rfl
  rw[e] at h
  refine⟨T,res,_,aL.sn fun hs=>?_,h⟩
  have:=aL.Ev (P:=P) (N:=N) (o:=o) (σ:=St sl m) (news:=[]) (x:=res) (base:=0) T hto hc (ha.cv (Bs rfl hs)) (fun t ht=>o6 hT t ht) hf (by simp) rfl (by simp) (.same hp) (jX hd)
  simpa using this
@[reducible] def qx : Nat → Nat → AV → AV
  |0,_,x=>x
  | n+1,b,x=>match x with
    |.own t o l=>.own (Nat.add b t) o l
    |.ptr t i k=>.ptr (Nat.add b t) i k
    |.mapr t=>.mapr (Nat.add b t)
    |.agg cs=>.agg (eC (qx n b) cs)
    |.tup cs=>.tup (eC (qx n b) cs)
    |x=>x
@[reducible] def zA : Nat → Nat → AV → Bool
  |0,_,x=>bG x
  | n+1,k,x=>match x with
    |.own t _ _=>Nat.ble (Nat.add t 1) k
    |.ptr t _ _=>Nat.ble (Nat.add t 1) k
    |.mapr t=>Nat.ble (Nat.add t 1) k
    |.agg cs=>jo (zA n k) cs
    |.tup cs=>jo (zA n k) cs
    |x=>bG x
theorem wF {mm:Nat→MS}{F:Nat→Prop}{b k:Nat}:∀ (n:Nat) (x:AV),zA n k x=true→Cv mm (· -b) (fun t=>b≤t∧t-b<k) F (qx n b x) x
  |0,x,h=>.same h
  | n + 1,x,h=>by
    have list:∀cs:List AV,jo (zA n k) cs=true→gS mm (· -b) (fun t=>b≤t∧t-b<k) F (eC (qx n b) cs) cs:=by
      intro cs
      induction cs with
      |nil=>intro _;exact .nil
      | cons c cs ih=>
        intro h
        simp only[jo] at h
        split at h
        ·rename_i h1;exact .cons (wF n c h1) (ih h)
        ·cases h
    cases x with
    | own t o l=>
      have ht:t+1≤k:=ga h
      show Cv _ _ _ _ (.own (b+t) o l) _
      have e:t=(b+t)-b:=by omega
      have:=Cv.own (m:=mm) (ρ:=(· -b)) (D:=fun t=>b≤t∧t-b<k) (F:=F) (t:=b+t) (o:=o) (l:=l) ⟨by omega,by omega⟩
      simp only[Nat.add_sub_cancel_left] at this
      exact this
    | ptr t i k'=>
      have ht:t+1≤k:=ga h
      show Cv _ _ _ _ (.ptr (b+t) i k') _
      have:=Cv.ptr (m:=mm) (ρ:=(· -b)) (D:=fun t=>b≤t∧t-b<k) (F:=F) (t:=b+t) (i:=i) (k:=k') ⟨by omega,by omega⟩
      simp only[Nat.add_sub_cancel_left] at this
      exact this
    | mapr t=>
      have ht:t+1≤k:=ga h
      show Cv _ _ _ _ (.mapr (b+t)) _
      have:=Cv.mapr (m:=mm) (ρ:=(· -b)) (D:=fun t=>b≤t∧t-b<k) (F:=F) (t:=b+t) ⟨by omega,by omega⟩
      simp only[Nat.add_sub_cancel_left] at this
      exact this
    |agg cs=>exact .ug (list cs h)
    |tup cs=>exact .sO (list cs h)
    |_=>exact .same h
@[reducible] def xn (b : Nat) : Nat → List MS → ML
  |_,[]=>[]
  |k,s::r=>(Nat.add b k,s)::xn b (Nat.add k 1) r
theorem vC (b:Nat):∀ (l:List MS) (k:Nat),xn b k l=jF b k l
  |[],_=>rfl
  |s::r,k=>by simp only[xn,jF];rw[vC b r];rfl
@[reducible] def Cq (m : ML) (b : Nat) : List MS → Nat → Bool
  |[],_=>true
  | _::r,k=>match eM m (Nat.add b k) with
    |.free=>Cq m b r (Nat.add k 1)
    |_=>false
theorem yZ {m:ML}{b:Nat}:∀ {l:List MS} {j:Nat},Cq m b l j=true→∀k,k<l.length→aX m (b+ (j+k))=.free
  |[],j,_,k,hk=>by simp at hk
  | s :: r,j,h,k,hk=>by
    simp only[Cq] at h
    split at h
    · rename_i hm
      cases k with
      |zero=>exact dg hm
      | succ k=>
        have:=yZ h k (by simpa using hk)
        rw[show b+ (j+ (k+1))=b+ (Nat.add j 1+k) from by show _=b+ (j+1+k);omega]
        exact this
    ·cases h
@[reducible] def wP (b : Nat) : Nat → List MS → List Nat
  |_,[]=>[]
  |k,_::r=>Nat.add b k::wP b (Nat.add k 1) r
theorem wm (b:Nat):∀ (l:List MS) (k:Nat),wP b k l=(List.range' k l.length).map (b+ ·)
  |[],_=>rfl
  |s::r,k=>by simp only[wP,List.length_cons,List.range'_succ,List.map_cons,wm b r];rfl
theorem ae.new (b:Nat)(T:List Nat)(hf:aj P f [] args' outs res)(hc:au P f)(ha:vU T m args' args)(hT:wg m T=true)(hd:mH N o.dst=true)(hp:zA 12 (fu outs) res=true)(ho:jT outs)(hfree:Cq m b outs 0=true)
    (h:R (dR T (wP b 0 outs)) (qx 12 b res) (dR (xn b 0 outs) (eC (fun t=>(t,KZ (eM m t))) T)) acc sl m):ae P N f args acc sl m (o:=o) (R:=R):=by
  intro hto
  have e:eC (fun t=>(t,KZ (eM m t))) T=T.map fun t=>(t,me ((St sl m).mem t)):=by
    rw[eN];apply List.map_congr_left;intro t _;rw[mem_eq];rfl
  rw[e,gV,gV,wm,vC,lY,←List.range_eq_range'] at h
  rw[cW] at hp
  refine⟨_,_,_,aL.sn fun hs=>?_,h⟩
  have hwd:∀t wd rows ro,eM m t=.live wd rows ro→t∈T→bS wd rows:=by
    obtain⟨w0,W0,L,μ,a,w,σ2,h1,h2⟩:=hs
    exact Bs (sl:=sl) rfl ⟨w0,W0,L,μ,a,w,σ2,fun t ht=>h1 t (by simp[ht]),h2⟩
  refine aL.Ev (P:=P) (N:=N) (o:=o) (σ:=St sl m) (news:=outs) (x:=qx 12 b res) (base:=b) T hto hc (ha.cv hwd) (fun t ht=>o6 hT t ht) hf (fun k hk=>by have:=yZ hfree k hk;rw[Nat.zero_add] at this;exact this) rfl (fun k s hk=>?_) (wF 12 res hp) (jX hd)
  obtain⟨wd,rows,rfl,h1,h2⟩:=l6 ho hk
  exact⟨wd,rows,rows,rfl,hk,h1,.same h2⟩
end
end Go.Am
namespace Go.Am
open Go
theorem bh.mk {acc:Tk}{sl:SL}{m:ML}{A:Tk→SL→ML→Prop}(h:A acc sl m):bh acc sl m (A:=A):=h
theorem bf.mk {sl:SL}{m:ML}{A:SL→ML→Prop}(h:A sl m):bf sl m (A:=A):=h
theorem aM.mk {b:Bool}{acc:Tk}{sl:SL}{m:ML}{A B:Tk→SL→ML→Prop}(h1:b=true→A acc sl m)(h2:b=false→B acc sl m):aM b acc sl m (A:=A) (B:=B):=⟨h1,h2⟩
theorem aM.tt {acc:Tk}{sl:SL}{m:ML}{A B:Tk→SL→ML→Prop}(h1:A acc sl m):aM true acc sl m (A:=A) (B:=B):=⟨fun _=>h1,fun h=>by cases h⟩
theorem aM.ff {acc:Tk}{sl:SL}{m:ML}{A B:Tk→SL→ML→Prop}(h1:B acc sl m):aM false acc sl m (A:=A) (B:=B):=⟨(fun h=>by cases h),fun _=>h1⟩
theorem aM.yes {b:Bool}{acc:Tk}{sl:SL}{m:ML}{A B:Tk→SL→ML→Prop}(h:b=true)(h1:A acc sl m):aM b acc sl m (A:=A) (B:=B):=⟨fun _=>h1,fun h'=>by rw[h] at h';cases h'⟩
theorem aM.no {b:Bool}{acc:Tk}{sl:SL}{m:ML}{A B:Tk→SL→ML→Prop}(h:b=false)(h1:B acc sl m):aM b acc sl m (A:=A) (B:=B):=⟨(fun h'=>by rw[h] at h';cases h'),fun _=>h1⟩
theorem nD.mk {p q:Prop}{sl:SL}{m:ML}{A B:SL→ML→Prop}(h1:p→A sl m)(h2:q→B sl m):nD p q sl m (A:=A) (B:=B):=⟨h1,h2⟩
theorem aY.mk {p:Prop}{acc:Tk}{sl:SL}{m:ML}{A:Tk→SL→ML→Prop}(h:p)(h1:A acc sl m):aY p acc sl m (A:=A):=⟨h,h1⟩
theorem aH.mk {rows:List AV}{i:Int}{acc:Tk}{sl:SL}{m:ML}{A:AV→Tk→SL→ML→Prop}(k:Nat)(r:AV)(hi:i=k)(hr:rows[k]? =some r)(h:A r acc sl m):aH rows i acc sl m (A:=A):=⟨k,r,hi,hr,h⟩
theorem aH.map {α:Type}{e:α→AV}{l:List α}{i:Int}{acc:Tk}{sl:SL}{m:ML}{A:AV→Tk→SL→ML→Prop}(k:Nat)(x:α)(hi:i=k)(hr:l[k]? =some x)(h:A (e x) acc sl m):aH (l.map e) i acc sl m (A:=A):=⟨k,e x,hi,by rw[fZ,hr];rfl,h⟩
theorem fM.mk {i:Int}{n:Nat}{acc:Tk}{sl:SL}{m:ML}{A:Nat→Tk→SL→ML→Prop}(k:Nat)(hi:i=k)(hk:k<n)(h:A k acc sl m):fM i n acc sl m (A:=A):=⟨k,hi,hk,h⟩
theorem bu.mk {rows:List AV}{i:Nat}{acc:Tk}{sl:SL}{m:ML}{A:AV→Tk→SL→ML→Prop}(r:AV)(hr:rows[i]? =some r)(h:A r acc sl m):bu rows i acc sl m (A:=A):=⟨r,hr,h⟩
theorem bu.map {α:Type}{e:α→AV}{l:List α}{i:Nat}{acc:Tk}{sl:SL}{m:ML}{A:AV→Tk→SL→ML→Prop}(x:α)(hr:l[i]? =some x)(h:A (e x) acc sl m):bu (l.map e) i acc sl m (A:=A):=⟨e x,by rw[fZ,hr];rfl,h⟩
theorem ve.mk {l h:Int}{len:Nat}{acc:Tk}{sl:SL}{m:ML}{A:Nat→Nat→Tk→SL→ML→Prop}(a n:Nat)(h1:l=a)(h2:h=(a:Int)+n)(h3:a+n≤len)(h4:A a n acc sl m):ve l h len acc sl m (A:=A):=⟨a,n,h1,h2,h3,h4⟩
theorem yE.mk {l h:Int}{rows:List AV}{acc:Tk}{sl:SL}{m:ML}{A:List AV→Tk→SL→ML→Prop}(a n:Nat)(rows':List AV)(h1:l=a)(h2:h=(a:Int)+n)(h3:a+n≤rows.length)(h4:rows'=(rows.drop a).take n)(h5:A rows' acc sl m):yE l h rows acc sl m (A:=A):=⟨a,n,rows',h1,h2,h3,h4,h5⟩
theorem dO.mk {rb rs:List AV}{off len off' len' bytes:Nat}{acc:Tk}{sl:SL}{m:ML}{A:List AV→Tk→SL→ML→Prop}(rows0 news:List AV)(h0:off=0∧len=rb.length∧rows0=rb)(h1:off'=0∧len'=rs.length∧news=rs)(h2:kW (flat news)=true)
    (h3:(rows0.length+news.length)*bytes≤140737488355328) (h4:rows0.length+news.length≤9223372036854775807) (h:A (rows0++news) acc sl m):dO rb off len rs off' len' bytes acc sl m (A:=A):=by
  obtain⟨rfl,rfl,rfl⟩:=h0
  obtain⟨rfl,rfl,rfl⟩:=h1
  exact⟨_,_,by omega,by simp,by omega,by simp,h2,h3,h4,h⟩
theorem aB.mk {P:Program}{l:List Oper}{acc:Tk}{sl:SL}{m:ML}{A:SL→ML→Prop}(h1:P.follows .mixedOrders=true)(h2:Region.lexB .any l.toArray=true)(h3:(yK l.toArray acc||jn l.toArray acc)=true)(h4:A sl m):aB P acc sl m (l:=l) (A:=A):=⟨h1,h2,h3,h4⟩
theorem kX {α:Type}(e:α→AV)(h:∀a,kW (cells (e a))=true)(l:List α):kW (flat (l.map e))=true:=by
  induction l with
  |nil=>rfl
  | cons x xs ih=>
    simp only[List.map_cons,fD]
    unfold kW at ih h ⊢
    rw[List.all_append,h x,ih];rfl
theorem xq.cut {m:ML}{fz:Nat→Bool}{tab:List (Nat×Nat)}{n:Nat}{t off len wd:Nat}{rows rows':List AV}{ro:Bool}(h1:eM m t=.live wd rows ro)(h2:fz t=true)(h3:off+len≤rows.length)(h4:rows'=(rows.drop off).take len)(h5:bz rows'=true):xq m fz (MF tab fz m n) (.sl wd rows') t off len:=
  ⟨wd,rows,ro,rows',h1,h2,rfl,h3,h5,by rw[←h4];exact .refl h5⟩
end Go.Am
end
namespace Go.Am
open Go Go.MapKept
set_option linter.unusedSectionVars false
@[reducible] def wj (m : ML) (ym : AV) (rows : List AV) : Prop :=
  match ym with
  |.mapr t=> ∃wd ro,eM m t=.live wd rows ro
  |.fmap rs=>rs=rows
  |_=>False
@[reducible] def wH : AV → List Nat
  |.mapr t=>[t]
  |_=>[]
theorem wj.src {sl:SL}{m:ML}{ym:AV}{rows:List AV}(h:wj m ym rows):ni (St sl m) ym rows (wH ym):=by
  cases ym with
  |mapr t=>obtain⟨wd,ro,h⟩:=h;exact .own (by rw[mem_eq];exact h)
  |fmap rs=>have h':rs=rows:=h;subst h';exact .frz
  |_=>exact h.elim
@[reducible] def wT (c : Bool) (x : AV) (ok : Bool) : AV := match c with
  |true=>.tup [x,.lit (.bool ok)]
  |false=>x
section
variable {P : Program} {N : Nat} {o : Oper} {t : TypeId} {c : Bool} {ym x r : AV} {key z : Value} {d : TypeDesc} {rows : List AV} {acc : Tk} {sl : SL} {m : ML} {R : Rest}
theorem pE.yes (hT:kG P t d z)(hrows:wj m ym rows)(hk:IsKey d key)(hks:mG d rows)(hr:entry key r∈rows)(hd:mH N o.dst=true)(h:R (wH ym) (wT c r true) [] acc sl m):pE P N t c ym (.lit key) acc sl m (o:=o) (R:=R):=by
  rintro⟨y,x,ho,hy,hx⟩
  obtain⟨i,hi⟩:=List.getElem?_of_mem hr
  refine⟨_,_,_,aL.lookup ho hy hrows.src hx hT hk hks hi (jX hd),?_⟩
  cases c<;>exact h
theorem pE.no (hT:kG P t d z)(hrows:wj m ym rows)(hk:IsKey d key)(hks:mG d rows)(hr:∀r,entry key r∉rows)(hd:mH N o.dst=true){zv:AV}(hz:ow z=zv)(h:R (wH ym) (wT c zv false) [] acc sl m):pE P N t c ym (.lit key) acc sl m (o:=o) (R:=R):=by
  rintro⟨y,x,ho,hy,hx⟩
  subst hz
  refine⟨_,_,_,aL.FL ho hy hrows.src hx hT hk hks hr (jX hd),?_⟩
  cases c<;>exact h
theorem wW.old {tk wd:Nat}(hT:kG P t d z)(hm:eM m tk=.live wd rows false)(hk:IsKey d key)(hks:mG d rows)(i:Nat)(hr:rows[i]? =some (entry key r))(hd:mH N o.dst=true)(h:R [tk] .any [(tk,.live wd (rows.set i (entry key x)) false)] acc sl m):wW P N t (.mapr tk) (.lit key) x acc sl m (o:=o) (R:=R):=by
  rintro⟨y,xx,v,ho,hy,hx,hv⟩
  exact⟨_,_,_,aL.mapUpdate ho hy (by rw[mem_eq];exact hm) hx hv hT hk hks hr (jX hd),h⟩
theorem wW.new {tk wd:Nat}(hT:kG P t d z)(hm:eM m tk=.live wd rows false)(hk:IsKey d key)(hks:mG d rows)(hr:∀r,entry key r∉rows)(hroom:rows.length+1<maxLen)(hwd:wd=2)(hd:mH N o.dst=true)(h:R [tk] .any [(tk,.live wd (rows++ [entry key x]) false)] acc sl m):wW P N t (.mapr tk) (.lit key) x acc sl m (o:=o) (R:=R):=by
  rintro⟨y,xx,v,ho,hy,hx,hv⟩
  exact⟨_,_,_,aL.xY ho hy (by rw[mem_eq];exact hm) hx hv hT hk hks hr hroom hwd (jX hd),h⟩
theorem qQ.mk (hT:kG P t d z)(hrows:wj m ym rows)(hd:mH N o.dst=true)(h:R (wH ym) (.lit (.int .i64 rows.length)) [] acc sl m):qQ P N t ym acc sl m (o:=o) (R:=R):=by
  rintro⟨y,ho,hy⟩
  exact⟨_,_,_,aL.JM ho hy hrows.src hT (jX hd),h⟩
end
section
variable {α : Type} {K : Type} [DecidableEq K]
def jc (k:K):List (K×α)→Option α
  |[]=>none
  |p::r=>if p.1=k then some p.2 else jc k r
def jS (k:K)(x:α):List (K×α)→List (K×α)
  |[]=>[(k,x)]
  |p::r=>if p.1=k then(k,x)::r else p::jS k x r
theorem qn (k k':K)(x:α):∀l:List (K×α),jc k' (jS k x l)=if k=k' then some x else jc k' l
  |[]=>by simp[jS,jc]
  | p ::r=>by
    simp only[jS]
    by_cases h:p.1=k
    · rw[if_pos h]
      simp only[jc]
      by_cases hk:k=k'
      ·rw[if_pos hk,if_pos hk]
      ·rw[if_neg hk,if_neg hk,if_neg (by rw[h];exact hk)]
    · rw[if_neg h]
      simp only[jc,qn k k' x r]
      by_cases hk:k=k'
      ·subst hk;rw[if_neg h];simp
      ·simp[hk]
theorem vz {k:K}:∀ {l:List (K×α)},jc k l=none↔k∉l.map (·.1)
  |[]=>by simp[jc]
  | p ::r=>by
    simp only[jc,List.map_cons,eB,not_or]
    by_cases h:p.1=k
    ·simp[h]
    · rw[if_neg h,vz (l:=r)]
      exact⟨fun hh=>⟨fun e=>h e.symm,hh⟩,fun hh=>hh.2⟩
theorem zW {k:K}{x:α}:∀ {l:List (K×α)},jc k l=some x→(k,x)∈l
  |[],h=>by cases h
  | p::r,h=>by
    simp only[jc] at h
    split at h
    ·rename_i hp;cases h;subst hp;exact gE
    ·exact fJ _ (zW h)
theorem BR {k:K}{x:α}(f:K×α→AV):∀ {l:List (K×α)} {y:α},jc k l=some y→∃i,(l.map f)[i]? =some (f (k,y))∧(jS k x l).map f=(l.map f).set i (f (k,x))
  |[],y,h=>by cases h
  | p ::r,y,h=>by
    simp only[jc] at h
    split at h
    ·rename_i hp;cases h;subst hp;exact⟨0,rfl,by simp[jS]⟩
    · rename_i hp
      obtain⟨i,h1,h2⟩:=BR (x:=x) f h
      exact⟨i+1,by simpa using h1,by simp[jS,hp,h2]⟩
theorem tT {k:K}{x:α}:∀ {l:List (K×α)},jc k l=none→jS k x l=l++ [(k,x)]
  |[],_=>rfl
  | p::r,h=>by
    simp only[jc] at h
    split at h
    ·cases h
    ·rename_i hp;simp[jS,hp,tT h]
end
def jd {K α:Type}(kv:K→Value)(e:α→AV)(l:List (K×α)):List AV:=l.map fun p=>entry (kv p.1) (e p.2)
section
variable {P : Program} {N : Nat} {o : Oper} {t : TypeId} {c : Bool} {ym : AV} {z : Value} {d : TypeDesc} {acc : Tk} {sl : SL} {m : ML} {R : Rest} {α : Type} {K : Type} [DecidableEq K] {kv : K → Value} {e : α → AV} {l : List (K × α)} {k : K}
theorem lU (hk:∀k,IsKey d (kv k)):mG d (jd kv e l):=mG.map (fun p:K×α=>kv p.1) (fun p=>e p.2) (fun p=>hk p.1) l
theorem yw (hinj:∀a b,kv a=kv b→a=b)(h:jc k l=none):∀r,entry (kv k) r∉jd kv e l:=by
  intro r hr
  obtain⟨p,hp,he⟩:=List.mem_map.1 hr
  have:=hinj _ _ (vB he).1
  exact vz.1 h (List.mem_map.2 ⟨p,hp,this⟩)
theorem pE.tab (kv:K→Value)(e:α→AV)(l:List (K×α))(hT:kG P t d z)(hrows:wj m ym (jd kv e l))(hk:∀k,IsKey d (kv k))(hinj:∀a b,kv a=kv b→a=b)(hd:mH N o.dst=true){zv:AV}(hz:ow z=zv)
    (h1:∀x,jc k l=some x→R (wH ym) (wT c (e x) true) [] acc sl m) (h2:jc k l=none→R (wH ym) (wT c zv false) [] acc sl m):pE P N t c ym (.lit (kv k)) acc sl m (o:=o) (R:=R):=by
  cases hg:jc k l with
  |some x=>exact .yes hT hrows (hk k) (lU hk) (List.mem_map.2 ⟨(k,x),zW hg,rfl⟩) hd (h1 x hg)
  |none=>exact .no hT hrows (hk k) (lU hk) (yw hinj hg) hd hz (h2 hg)
theorem wW.tab {tk:Nat}(kv:K→Value)(e:α→AV)(l:List (K×α))(x:α)(hT:kG P t d z)(hm:eM m tk=.live 2 (jd kv e l) false)(hk:∀k,IsKey d (kv k))(hinj:∀a b,kv a=kv b→a=b)(hroom:l.length+1<maxLen)(hd:mH N o.dst=true)
    (h:R [tk] .any [(tk,.live 2 (jd kv e (jS k x l)) false)] acc sl m):wW P N t (.mapr tk) (.lit (kv k)) (e x) acc sl m (o:=o) (R:=R):=by
  cases hg:jc k l with
  | some y=>
    obtain⟨i,h1,h2⟩:=BR (x:=x) (fun p:K×α=>entry (kv p.1) (e p.2)) hg
    refine .old hT hm (hk k) (lU hk) i h1 hd ?_
    have:(jd kv e l).set i (entry (kv k) (e x))=jd kv e (jS k x l):=h2.symm
    rw[this];exact h
  | none=>
    refine .new hT hm (hk k) (lU hk) (yw hinj hg) (by simpa[jd] using hroom) rfl hd ?_
    have:jd kv e l++ [entry (kv k) (e x)]=jd kv e (jS k x l):=by rw[tT hg];simp[jd]
    rw[this];exact h
end
theorem GG (s:ByteArray):IsKey .string (.string s):=trivial
theorem xJ (n:Int):IsKey (.int .i64) (.int .i64 n):=rfl
theorem GI (a b:ByteArray)(h:Value.string a=.string b):a=b:=by cases h;rfl
theorem xp (a b:Int)(h:Value.int .i64 a=.int .i64 b):a=b:=by cases h;rfl
end Go.Am
