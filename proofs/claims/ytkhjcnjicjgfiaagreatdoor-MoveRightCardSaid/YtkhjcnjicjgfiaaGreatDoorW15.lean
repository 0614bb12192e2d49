/- Models, plain laws and contracts of functions of the given program; conditions as stated in each theorem. By an AI agent. -/
import Derived.Test.YtkhjcnjicjgfiaaGreatDoorW14
set_option linter.unusedSimpArgs false
set_option linter.unusedVariables false
namespace Go.Proofs.Heir
open Go Go.Am Go.RowKit Go.Lib
set_option maxRecDepth 100000
set_option maxHeartbeats 8000000
theorem uH {l:List ai}{n k:Int}(h:gL l n k=true):∃ (i:Nat) (x:ai),n=(i:Int)∧l[i]? =some x∧nd l n=x:=by
 unfold gL at h
 simp only[bg] at h
 exact aI.1 h.1
theorem Hl (f:ForM)(k:Nat)(x:ai)(hx:f.nodes[k]? =some x):aj Tryz.prog 119 [] [aN f,ah k] [] (bA (eL f.nodes k x)):=by
 have h1:=sj f x.host 1
 have h4:=sj f x.under 4
 obtain⟨l,m⟩:=f
 obtain⟨a1,a2,a3,a4,a5,a6,a7,a8,a9,a10⟩:=x
 unfold eL
 simp only at h1 h4 hx ⊢
 refine aj.aA (rvs:=[.tmp 4]) G ak Tryz.func119 rfl Tryz.ntmps119 rfl rfl ?_;with_reducible refine wD ?_
 refine aH.mk k (aG _) rfl (az hx) ?_;with_reducible refine wK ?_
 by_cases e4:a1=4
 ·have e1:¬a1=1:=by omega
  refine aM.yes (by simp[e4]) ?_;with_reducible refine wK ?_
  rw[if_pos e4]
  cases hi:gL l a8 1 with
  | false=>
    rw[hi] at h1
    by_cases e9:a9=-1
    ·(have fct:=And.intro e4 (e9);(repeat' (first
  |refine gF ?_|refine aE ?_ ?_
  |(((with_reducible refine kQ 136 ?_);refine cL h1 pN ?_)<;>with_reducible refine wK ?_)
  | apply trivial));all_goals clear fct)
     all_goals simp[e9]
    ·(have fct:=And.intro e4 (And.intro (eq_false e9) ((eq_false e1)));(repeat' (first
  |refine gF ?_|refine aE ?_ ?_
  |(((with_reducible refine kQ 136 ?_);refine cL h1 pN ?_)<;>with_reducible refine wK ?_)
  |apply trivial));all_goals clear fct)
     all_goals simp[e9,e1]
  | true=>
    rw[hi] at h1
    obtain⟨i,y,rfl,hy,hnd⟩:=uH hi
    rw[hnd]
    obtain⟨b1,b2,b3,b4,b5,b6,b7,b8,b9,b10⟩:=y
    by_cases e9:a9=-1
    ·by_cases u9:b9=k
     ·by_cases u10:b10=a10
      ·(have fct:=And.intro e4 (And.intro e9 (And.intro u9 (u10)));(repeat' (first
  |refine gF ?_|refine aE ?_ ?_
  | ((first
   |((with_reducible refine kQ 136 ?_);refine cL h1 pN ?_)
   |(refine aH.mk i (aG _) rfl (az hy) ?_))<;>with_reducible refine wK ?_)
  |apply trivial));all_goals clear fct)
       all_goals simp[e9,u9,u10]
      ·(have fct:=And.intro e4 (And.intro e9 (And.intro u9 ((eq_false u10))));(repeat' (first
  |refine gF ?_|refine aE ?_ ?_
  | ((first
   |((with_reducible refine kQ 136 ?_);refine cL h1 pN ?_)
   |(refine aH.mk i (aG _) rfl (az hy) ?_))<;>with_reducible refine wK ?_)
  |apply trivial));all_goals clear fct)
       all_goals simp[e9,u9,u10]
     ·(have fct:=And.intro e4 (And.intro e9 ((eq_false u9)));(repeat' (first
  |refine gF ?_|refine aE ?_ ?_
  | ((first
   |((with_reducible refine kQ 136 ?_);refine cL h1 pN ?_)
   |(refine aH.mk i (aG _) rfl (az hy) ?_))<;>with_reducible refine wK ?_)
  | apply trivial));all_goals clear fct)
      all_goals simp[e9,u9]
    ·by_cases u9:b9=k
     ·by_cases u10:b10=a10
      ·(have fct:=And.intro e4 (And.intro (eq_false e9) (And.intro (eq_false e1) (And.intro u9 (u10))));(repeat' (first
  |refine gF ?_|refine aE ?_ ?_
  | ((first
   |((with_reducible refine kQ 136 ?_);refine cL h1 pN ?_)
   |(refine aH.mk i (aG _) rfl (az hy) ?_))<;>with_reducible refine wK ?_)
  |apply trivial));all_goals clear fct)
       all_goals simp[e9,e1,u9,u10]
      ·(have fct:=And.intro e4 (And.intro (eq_false e9) (And.intro (eq_false e1) (And.intro u9 ((eq_false u10)))));(repeat' (first
  |refine gF ?_|refine aE ?_ ?_
  | ((first
   |((with_reducible refine kQ 136 ?_);refine cL h1 pN ?_)
   |(refine aH.mk i (aG _) rfl (az hy) ?_))<;>with_reducible refine wK ?_)
  |apply trivial));all_goals clear fct)
       all_goals simp[e9,e1,u9,u10]
     ·(have fct:=And.intro e4 (And.intro (eq_false e9) (And.intro (eq_false e1) ((eq_false u9))));(repeat' (first
  |refine gF ?_|refine aE ?_ ?_
  | ((first
   |((with_reducible refine kQ 136 ?_);refine cL h1 pN ?_)
   |(refine aH.mk i (aG _) rfl (az hy) ?_))<;>with_reducible refine wK ?_)
  |apply trivial));all_goals clear fct)
      all_goals simp[e9,e1,u9]
 ·refine aM.no (by simp[e4]) ?_;with_reducible refine wK ?_
  rw[if_neg e4]
  by_cases e8:a8=-1
  ·by_cases e9:a9=-1
   ·(have fct:=And.intro (eq_false e4) (And.intro e8 (e9));(repeat' (first
  |refine gF ?_|refine aE ?_ ?_
  | apply trivial));all_goals clear fct)
    all_goals simp[e9,e8]
   ·by_cases e1:a1=1
    ·cases hu:gL l a9 4 with
     | false=>
       rw[hu] at h4
       (have fct:=And.intro (eq_false e4) (And.intro e8 (And.intro (eq_false e9) (e1)));(repeat' (first
  |refine gF ?_|refine aE ?_ ?_
  |(((with_reducible refine kQ 136 ?_);refine cL h4 pN ?_)<;>with_reducible refine wK ?_)
  |apply trivial));all_goals clear fct)
       all_goals simp[e9,e8,e1]
     | true=>
       rw[hu] at h4
       obtain⟨j,z,rfl,hz,hnd⟩:=uH hu
       rw[hnd]
       obtain⟨d1,d2,d3,d4,d5,d6,d7,d8,d9,d10⟩:=z
       (have fct:=And.intro (eq_false e4) (And.intro e8 (And.intro (eq_false e9) (e1)));(repeat' (first
  |refine gF ?_|refine aE ?_ ?_
  | ((first
   |((with_reducible refine kQ 136 ?_);refine cL h4 pN ?_)
   |(refine aH.mk j (aG ⟨d1,d2,d3,d4,d5,d6,d7,d8,d9,d10⟩) rfl (az hz) ?_))<;>with_reducible refine wK ?_)
  | apply trivial));all_goals clear fct)
       all_goals simp[e9,e8,e1]
    ·(have fct:=And.intro (eq_false e4) (And.intro e8 (And.intro (eq_false e9) ((eq_false e1))));(repeat' (first
  |refine gF ?_|refine aE ?_ ?_
  |apply trivial));all_goals clear fct)
     all_goals simp[e9,e8,e1]
  ·by_cases e9:a9=-1
   ·(have fct:=And.intro (eq_false e4) (And.intro (eq_false e8) (e9));(repeat' (first
  |refine gF ?_|refine aE ?_ ?_
  | apply trivial));all_goals clear fct)
    all_goals simp[e9,e8]
   ·by_cases e1:a1=1
    ·cases hu:gL l a9 4 with
     | false=>
       rw[hu] at h4
       (have fct:=And.intro (eq_false e4) (And.intro (eq_false e8) (And.intro (eq_false e9) (e1)));(repeat' (first
  |refine gF ?_|refine aE ?_ ?_
  |(((with_reducible refine kQ 136 ?_);refine cL h4 pN ?_)<;>with_reducible refine wK ?_)
  |apply trivial));all_goals clear fct)
       all_goals simp[e9,e8,e1]
     | true=>
       rw[hu] at h4
       obtain⟨j,z,rfl,hz,hnd⟩:=uH hu
       rw[hnd]
       obtain⟨d1,d2,d3,d4,d5,d6,d7,d8,d9,d10⟩:=z
       (have fct:=And.intro (eq_false e4) (And.intro (eq_false e8) (And.intro (eq_false e9) (e1)));(repeat' (first
  |refine gF ?_|refine aE ?_ ?_
  | ((first
   |((with_reducible refine kQ 136 ?_);refine cL h4 pN ?_)
   |(refine aH.mk j (aG ⟨d1,d2,d3,d4,d5,d6,d7,d8,d9,d10⟩) rfl (az hz) ?_))<;>with_reducible refine wK ?_)
  | apply trivial));all_goals clear fct)
       all_goals simp[e9,e8,e1]
    ·(have fct:=And.intro (eq_false e4) (And.intro (eq_false e8) (And.intro (eq_false e9) ((eq_false e1))));(repeat' (first
  |refine gF ?_|refine aE ?_ ?_
  |apply trivial));all_goals clear fct)
     all_goals simp[e9,e8,e1]
theorem Cf (x:ai)(hx:x.attrs.length≤100000):aj Tryz.prog 115 [] [aG x] [] (bA (fV x)):=by
 have h45:=AW x.name
 have h54:=Iy x.is
 have h44:=B7 x.attrs hx
 obtain⟨a1,a2,a3,a4,a5,a6,a7,a8,a9,a10⟩:=x
 have hlm:(a5.map dn).length=a5.length:=bP ..
 unfold fV
 simp only at h45 h54 h44 hx ⊢
 refine aj.aA (rvs:=[.tmp 2]) G ak Tryz.func115 rfl Tryz.ntmps115 rfl rfl ?_;with_reducible refine wD ?_
 by_cases e1:a1=1
 ·rw [if_pos e1]
  cases hr:cm a2 with
  | false=>
    rw[hr] at h45
    simp only[Bool.false_eq_true,if_false] at h45
    (have fct:=And.intro e1 (hr);(repeat' (first
  |refine gF ?_|refine aE ?_ ?_
  |(((with_reducible refine kQ 67 ?_);refine cL h45 Iz ?_)<;>with_reducible refine wK ?_)
  | apply trivial));all_goals clear fct)
    all_goals simp[hr]
  | true=>
    rw[hr] at h45
    simp only[if_true] at h45
    by_cases hl:dQ a2=a2
    ·by_cases h3:a3=⟨#[]⟩
     ·by_cases h4:a4=⟨#[]⟩
      ·(have fct:=And.intro e1 (And.intro hr (And.intro hl (And.intro h3 (h4))));(repeat' (first
  |refine gF ?_|refine aE ?_ ?_
  | ((first
   |((with_reducible refine kQ 67 ?_);refine cL h45 Iz ?_)
   |((with_reducible refine kQ 131 ?_);refine cL h44 J6 ?_))<;>with_reducible refine wK ?_)
  |apply trivial));all_goals clear fct)
       all_goals simp[hr,hl,h3,h4]
      ·(have fct:=And.intro e1 (And.intro hr (And.intro hl (And.intro h3 ((eq_false h4)))));(repeat' (first
  |refine gF ?_|refine aE ?_ ?_
  |(((with_reducible refine kQ 67 ?_);refine cL h45 Iz ?_)<;>with_reducible refine wK ?_)
  |apply trivial));all_goals clear fct)
       all_goals simp[hr,hl,h3,h4]
     ·cases hc:dA a3 with
      | false=>
        rw[hc] at h54
        (have fct:=And.intro e1 (And.intro hr (And.intro hl (And.intro (eq_false h3) (hc))));(repeat' (first
  |refine gF ?_|refine aE ?_ ?_
  | ((first
   |((with_reducible refine kQ 67 ?_);refine cL h45 Iz ?_)
   |((with_reducible refine kQ 174 ?_);refine cL h54 Ju ?_))<;>with_reducible refine wK ?_)
  |apply trivial));all_goals clear fct)
        all_goals simp[hr,hl,h3,hc]
      | true=>
        rw[hc] at h54
        by_cases h4:a4=⟨#[]⟩
        ·(have fct:=And.intro e1 (And.intro hr (And.intro hl (And.intro (eq_false h3) (And.intro hc (h4)))));(repeat' (first
  |refine gF ?_|refine aE ?_ ?_
  | ((first
   |((with_reducible refine kQ 67 ?_);refine cL h45 Iz ?_)
   |((with_reducible refine kQ 174 ?_);refine cL h54 Ju ?_)
   |((with_reducible refine kQ 131 ?_);refine cL h44 J6 ?_))<;>with_reducible refine wK ?_)
  |apply  trivial));all_goals clear fct)
         all_goals simp[hr,hl,h3,hc,h4]
        ·(have fct:=And.intro e1 (And.intro hr (And.intro hl (And.intro (eq_false h3) (And.intro hc ((eq_false h4))))));(repeat' (first
  |refine gF ?_|refine aE ?_ ?_
  | ((first
   |((with_reducible refine kQ 67 ?_);refine cL h45 Iz ?_)
   |((with_reducible refine kQ 174 ?_);refine cL h54 Ju ?_))<;>with_reducible refine wK ?_)
  | apply trivial));all_goals clear fct)
         all_goals simp[hr,hl,h3,hc,h4]
    ·(have fct:=And.intro e1 (And.intro hr ((eq_false hl)));(repeat' (first
  |refine gF ?_|refine aE ?_ ?_
  |(((with_reducible refine kQ 67 ?_);refine cL h45 Iz ?_)<;>with_reducible refine wK ?_)
  |apply trivial));all_goals clear fct)
     all_goals simp[hr,hl]
 ·rw [if_neg e1]
  by_cases e2:a1=2
  ·rw [if_pos e2]
   by_cases hd:a4.size≤200
   ·by_cases h2:a2=⟨#[]⟩
    ·by_cases h3:a3=⟨#[]⟩
     ·(have fct:=And.intro e2 (And.intro hd (And.intro h2 (h3)));(repeat' (first
  |refine gF ?_|refine aE ?_ ?_
  |apply trivial));all_goals clear fct)
      all_goals simp[hd,h2,h3]
     ·(have fct:=And.intro e2 (And.intro hd (And.intro h2 ((eq_false h3))));(repeat' (first
  |refine gF ?_|refine aE ?_ ?_
  | apply trivial));all_goals clear fct)
      all_goals simp[hd,h2,h3]
    ·(have fct:=And.intro e2 (And.intro hd ((eq_false h2)));(repeat' (first
  |refine gF ?_|refine aE ?_ ?_
  | apply trivial));all_goals clear fct)
     all_goals simp[hd,h2]
   ·(have fct:=And.intro e2 ((eq_false hd));(repeat' (first
  |refine gF ?_|refine aE ?_ ?_
  | apply trivial));all_goals clear fct)
    all_goals simp[hd]
  ·rw [if_neg e2]
   by_cases ho:a1=0∨a1=3∨a1=4
   ·rw [if_pos ho]
    by_cases h2:a2=⟨#[]⟩
    ·by_cases h3:a3=⟨#[]⟩
     ·by_cases h4:a4=⟨#[]⟩
      ·rcases ho with e|e|e
       ·(have fct:=And.intro e (And.intro h2 (And.intro h3 (h4)));(repeat' (first
  |refine gF ?_|refine aE ?_ ?_
  |apply trivial));all_goals clear fct)
        all_goals simp[h2,h3,h4]
       ·(have fct:=And.intro e (And.intro h2 (And.intro h3 (h4)));(repeat' (first
  |refine gF ?_|refine aE ?_ ?_
  |apply trivial));all_goals clear fct)
        all_goals simp[h2,h3,h4]
       ·(have fct:=And.intro e (And.intro h2 (And.intro h3 (h4)));(repeat' (first
  |refine gF ?_|refine aE ?_ ?_
  |apply trivial));all_goals clear fct)
        all_goals simp[h2,h3,h4]
      ·rcases ho with e|e|e
       ·(have fct:=And.intro e (And.intro h2 (And.intro h3 ((eq_false h4))));(repeat' (first
  |refine gF ?_|refine aE ?_ ?_
  |apply trivial));all_goals clear fct)
        all_goals simp[h2,h3,h4]
       ·(have fct:=And.intro e (And.intro h2 (And.intro h3 ((eq_false h4))));(repeat' (first
  |refine gF ?_|refine aE ?_ ?_
  |apply trivial));all_goals clear fct)
        all_goals simp[h2,h3,h4]
       ·(have fct:=And.intro e (And.intro h2 (And.intro h3 ((eq_false h4))));(repeat' (first
  |refine gF ?_|refine aE ?_ ?_
  |apply trivial));all_goals clear fct)
        all_goals simp[h2,h3,h4]
     ·rcases ho with e|e|e
      ·(have fct:=And.intro e (And.intro h2 ((eq_false h3)));(repeat' (first
  |refine gF ?_|refine aE ?_ ?_
  |apply trivial));all_goals clear fct)
       all_goals simp[h2,h3]
      ·(have fct:=And.intro e (And.intro h2 ((eq_false h3)));(repeat' (first
  |refine gF ?_|refine aE ?_ ?_
  |apply trivial));all_goals clear fct)
       all_goals simp[h2,h3]
      ·(have fct:=And.intro e (And.intro h2 ((eq_false h3)));(repeat' (first
  |refine gF ?_|refine aE ?_ ?_
  | apply trivial));all_goals clear fct)
       all_goals simp[h2,h3]
    ·rcases ho with e|e|e
     ·(have fct:=And.intro e ((eq_false h2));(repeat' (first
  |refine gF ?_|refine aE ?_ ?_
  |apply trivial));all_goals clear fct)
      all_goals simp[h2]
     ·(have fct:=And.intro e ((eq_false h2));(repeat' (first
  |refine gF ?_|refine aE ?_ ?_
  |apply trivial));all_goals clear fct)
      all_goals simp[h2]
     ·(have fct:=And.intro e ((eq_false h2));(repeat' (first
  |refine gF ?_|refine aE ?_ ?_
  | apply trivial));all_goals clear fct)
      all_goals simp[h2]
   ·rw[if_neg ho]
    have e0:¬a1=0:=fun h=>ho (.inl h)
    have e3:¬a1=3:=fun h=>ho (.inr (.inl h))
    have e4:¬a1=4:=fun h=>ho (.inr (.inr h))
    (have fct:=And.intro e0 (And.intro e1 (And.intro e2 (And.intro e3 (e4))));(repeat' (first
  |refine gF ?_|refine aE ?_ ?_
  |apply trivial));all_goals clear fct)
def mW (l:List Int):List (Int×Int):=l.map fun c=>(c,1)
theorem qB (c:Int):∀l:List Int,jc c (mW l)=if c∈l then some 1 else none
 |[]=>rfl
 | a ::r=>by
   show(if a=c then some 1 else jc c (mW r))=_
   rw[qB c r]
   by_cases e:a=c
   ·rw[if_pos e,if_pos (by simp[e])]
   ·rw[if_neg e]
    by_cases h:c∈r
    ·rw[if_pos h,if_pos (fJ _ h)]
    ·rw[if_neg h,if_neg (by simp[h];exact fun e'=>e e'.symm)]
theorem CG {l:List Int}{c:Int}(h:c∉l):jS c 1 (mW l)=mW (l++ [c]):=by
 rw[tT (by rw[qB,if_neg h])]
 simp[mW]
theorem j8 {α:Type}{l:List α}{k:Nat}{x:α}(h:l[k]? =some x):l.take (k+1)=l.take k++ [x]:=by
 obtain⟨hk,rfl⟩:=aZ h
 rw[List.take_add_one,bH hk];rfl
theorem Dj {l:List ai}{n:Int}{x:ai}{cs:List Int}{j:Nat}{c:Int}(h:cs[j]? =some c):kS l n x (cs.take j) (cs.drop j)=(zC l n x (cs.take j) c&&kS l n x (cs.take (j+1)) (cs.drop (j+1))):=by
 obtain⟨hk,rfl⟩:=aZ h
 rw[List.drop_eq_getElem_cons hk,j8 h]
 rfl
theorem sL {l:List ai}{cs:List Int}{j:Nat}{c:Int}(h:cs[j]? =some c):cA l (cs.take (j+1))=cA l (cs.take j)+if(nd l c).kind=1 then 1 else 0:=by
 rw[j8 h]
 unfold cA
 rw[List.countP_append,List.countP_cons];simp
theorem tG (l:List ai)(cs:List Int)(j:Nat):cA l (cs.take j)≤j:=by
 unfold cA
 refine Nat.le_trans List.countP_le_length ?_
 simp;omega
@[reducible] def Ly (t : List (Int × Int)) : MS := .live 2 (jd EE bJ t) false
theorem lK (t:List (Int×Int)):bz (jd EE bJ t)=true:=by
 rw[cT];intro x hx
 obtain⟨a,_,rfl⟩:=List.mem_map.1 hx
 rfl
theorem GW (f:ForM)(hs:bq f.nodes)(k:Nat)(x:ai)(hx:f.nodes[k]? =some x):aj Tryz.prog 118 [] [aN f,ah k] [] (bA (kN f.nodes k x)):=by
 have h49:=yf f
 have h56:=BD x.kind
 have h7:=hs.kids x (bV hx)
 have hl:=hs.len
 obtain⟨l,m⟩:=f
 have hst:=fun j c=> @Dj l k x x.kids j c
 have hse:=fun j c=> @sL l x.kids j c
 unfold kN
 simp only at h49 h56 hx h7 hl ⊢
 obtain⟨⟨a1,a2,a3,a4,a5,a6,a7,a8,a9,a10⟩,hx0⟩:∃y,y=x:=⟨x,rfl⟩
 rw[←hx0] at hx h56 h7 hst hse ⊢
 simp only at h56 h7 hst hse ⊢
 have hlm:(a7.map bJ).length=a7.length:=bP ..
 refine aj.aA (rvs:=[.tmp 4]) G ak Tryz.func118 rfl Tryz.ntmps118 rfl rfl ?_;with_reducible refine wD ?_
 refine aH.mk k (aG _) rfl (az hx) ?_;with_reducible refine wK ?_
 refine bE.use G ak (fun(j:Nat)=>[(1,ah k),(2,.ptr 20 0 0),(5,.ptr 50 0 0),(6,.mapr 161),(7,ah (cA l (a7.take j))),(18,bY a7),(19,ah a7.length),(20,ah j)])
  (fun j=>[(20,.live 2 [aN ⟨l,m⟩] false),(50,.live 10 [aG ⟨a1,a2,a3,a4,a5,a6,a7,a8,a9,a10⟩] false),(161,Ly (mW (a7.take j)))])
  (fun j=>j≤a7.length∧kS l k ⟨a1,a2,a3,a4,a5,a6,a7,a8,a9,a10⟩ [] a7=kS l k ⟨a1,a2,a3,a4,a5,a6,a7,a8,a9,a10⟩ (a7.take j) (a7.drop j)) (fun j=>a7.length-j) 0 ⟨Nat.zero_le _,rfl⟩
  ⟨⟨rfl,rfl⟩,⟨rfl,⟨rfl,rfl⟩,⟨rfl,rfl⟩,trivial,rfl,rfl,by show(a7.length:Int)=((a7.map bJ).length:Int);rw[hlm],rfl,trivial⟩,⟨⟨rfl,rfl,trivial⟩,trivial⟩,⟨⟨rfl,rfl,rfl,rfl,rfl,rfl,rfl,rfl,rfl,rfl,trivial⟩,trivial⟩,⟨.refl rfl,rfl⟩,trivial⟩ ?_
 rintro j ⟨hj,hok⟩
 with_reducible refine wK ?_
 refine aM.mk (fun h1=>?_) (fun h1=>?_)<;>(try simp only[aq] at h1)<;>with_reducible refine wK ?_
 ·have hj' :j<a7.length:=by simp only[aP] at h1;omega
  obtain⟨c,hc⟩:∃c,a7[j]? =some c:=⟨_,bH hj'⟩
  rw[hst j c hc] at hok
  have hse':=hse j c hc
  have hel:=tG l a7 j
  have h49':=h49 c
  unfold zC at hok
  refine aH.mk j (ah c) rfl (ct hc) ?_;with_reducible refine wK ?_
  refine cL h49' yj ?_;with_reducible refine wK ?_
  cases ht:af l c with
  | false=>
    rw[ht] at hok
    simp only[Bool.false_and] at hok
    rw[hok,Bool.false_and]
    (have fct:=ht;(repeat' (first
  |refine gF ?_|refine aE ?_ ?_
  |apply trivial));all_goals clear fct)
  | true=>
    obtain⟨i,y,rfl,hy,hnd⟩:=aI.1 ht
    rw[ht,hnd] at hok
    rw[hnd] at hse'
    obtain⟨b1,b2,b3,b4,b5,b6,b7,b8,b9,b10⟩:=y
    simp only[Bool.true_and] at hok hse'
    refine aM.ff ?_;with_reducible refine wK ?_
    have hts:=qB (i:Int) (a7.take j)
    refine pE.tab EE bJ (mW (a7.take j)) (k:=(i:Int)) (zv:=ah 0) Kl ⟨_,_,rfl⟩ xJ xp rfl rfl (fun z hxx=>?_) (fun hxx=>?_)
    ·rw[hxx] at hts
     have hin:(i:Int)∈a7.take j:=by by_cases h:(i:Int)∈a7.take j;exact h;rw[if_neg h] at hts;cases hts
     rw[if_pos hin] at hts
     cases hts
     rw[show qz (a7.take j) (i:Int)=true from bO hin] at hok
     simp only[Bool.not_true,Bool.false_and] at hok
     rw[hok,Bool.false_and]
     rw[show bJ 1=ah 1 from rfl]
     with_reducible refine wK ?_
     (have fct:=ht;(repeat' (first
  |refine gF ?_|refine aE ?_ ?_
  | apply trivial));all_goals clear fct)
    ·rw [hxx] at hts
     have hin:(i:Int)∉a7.take j:=by intro h;rw[if_pos h] at hts;cases hts
     rw[show qz (a7.take j) (i:Int)=false from bB hin] at hok
     simp only[Bool.not_false,Bool.true_and] at hok
     with_reducible refine wK ?_
     by_cases e6:b6=k
     ·by_cases e10:b10=a10
      ·simp only[e6,e10,decide_true,Bool.true_and] at hok
       (have fct:=And.intro e6 (e10);(repeat' (first
  |refine gF ?_|refine aE ?_ ?_
  |((refine aH.mk i (aG _) rfl (az hy) ?_)<;>with_reducible refine wK ?_)
  |apply trivial));all_goals clear fct)
       refine pE.tab EE bJ (mW (a7.take j)) (k:=(i:Int)) (zv:=ah 0) Kl ⟨_,_,rfl⟩ xJ xp rfl rfl (fun z hyy=>?_) (fun hyy=>?_)
       ·rw[hxx] at hyy;cases hyy
       with_reducible refine wK ?_
       have hln:(mW (a7.take j)).length≤j:=by unfold mW;simp;omega
       have hsn:=CG hin
       rw[←j8 hc] at hsn
       refine nK ?_;with_reducible refine wK ?_
       refine wW.tab EE bJ (mW (a7.take j)) (k:=(i:Int)) (1:Int) Kl rfl xJ xp (by unfold maxLen;omega) rfl ?_;with_reducible refine wK ?_
       rw[hsn]
       refine aH.mk i (aG _) rfl (az hy) ?_;with_reducible refine wK ?_
       by_cases f1:b1=1
       ·have hs1:(cA l (a7.take (j+1)):Int)=cA l (a7.take j)+1:=by rw[hse',if_pos f1];rfl
        simp only[f1,decide_true,Bool.true_or,Bool.true_and] at hok
        (have fct:=f1;(repeat' (first
  |refine gF ?_|refine aE ?_ ?_
  |(((with_reducible show aW _ _);refine aW.mk (j+1) ⟨by omega,hok⟩ (by omega) ⟨⟨rfl,rfl⟩,⟨rfl,⟨rfl,rfl⟩,⟨rfl,rfl⟩,trivial,hs1,rfl,rfl,by show((j+1:Nat):Int)=(j:Int)+1;omega,trivial⟩,⟨⟨rfl,rfl,trivial⟩,trivial⟩,⟨⟨rfl,rfl,rfl,rfl,rfl,rfl,rfl,rfl,rfl,rfl,trivial⟩,trivial⟩,⟨.refl (lK _),lK _⟩,trivial⟩)<;>with_reducible refine wK ?_)
  |apply  trivial));all_goals clear fct)
       ·have hs1:(cA l (a7.take (j+1)):Int)=cA l (a7.take j):=by rw[hse',if_neg f1];rfl
        by_cases f2:b1=2
        ·by_cases e0:a1=0
         ·have hkk:(decide (b1=1)||decide (b1=2)&&decide (a1≠0))=false:=by simp[f2,e0]
          rw[hkk,Bool.false_and] at hok
          rw[hok,Bool.false_and]
          (have fct:=And.intro (eq_false f1) (And.intro f2 (e0));(repeat' (first
  |refine gF ?_|refine aE ?_ ?_
  |apply  trivial));all_goals clear fct)
         ·have hkk:(decide (b1=1)||decide (b1=2)&&decide (a1≠0))=true:=by simp[f2,e0]
          rw[hkk,Bool.true_and] at hok
          (have fct:=And.intro (eq_false f1) (And.intro f2 ((eq_false e0)));(repeat' (first
  |refine gF ?_|refine aE ?_ ?_
  |(((with_reducible show aW _ _);refine aW.mk (j+1) ⟨by omega,hok⟩ (by omega) ⟨⟨rfl,rfl⟩,⟨rfl,⟨rfl,rfl⟩,⟨rfl,rfl⟩,trivial,hs1,rfl,rfl,by show((j+1:Nat):Int)=(j:Int)+1;omega,trivial⟩,⟨⟨rfl,rfl,trivial⟩,trivial⟩,⟨⟨rfl,rfl,rfl,rfl,rfl,rfl,rfl,rfl,rfl,rfl,trivial⟩,trivial⟩,⟨.refl (lK _),lK _⟩,trivial⟩)<;>with_reducible refine wK ?_)
  |apply  trivial));all_goals clear fct)
        ·simp only[eq_false f1,eq_false f2,decide_false,Bool.false_and,Bool.or_false] at hok
         rw[hok,Bool.false_and]
         (have fct:=And.intro f1 (f2);(repeat' (first
  |refine gF ?_|refine aE ?_ ?_
  |apply trivial));all_goals clear fct)
      ·simp only[e6,eq_false e10,decide_true,decide_false,Bool.true_and,Bool.false_and] at hok
       rw[hok,Bool.false_and]
       (have fct:=And.intro e6 ((eq_false e10));(repeat' (first
  |refine gF ?_|refine aE ?_ ?_
  |((refine aH.mk i (aG _) rfl (az hy) ?_)<;>with_reducible refine wK ?_)
  |apply trivial));all_goals clear fct)
     ·simp only[eq_false e6,decide_false,Bool.false_and] at hok
      rw[hok,Bool.false_and]
      (have fct:=(eq_false e6);(repeat' (first
  |refine gF ?_|refine aE ?_ ?_
  |((refine aH.mk i (aG _) rfl (az hy) ?_)<;>with_reducible refine wK ?_)
  |apply trivial));all_goals clear fct)
 ·have hjl:j=a7.length:=by simp only[cj] at h1;omega
  rw[hjl,List.take_length,List.drop_length] at hok
  rw[hjl,List.take_length]
  rw[hok]
  simp only[kS,Bool.true_and]
  refine cL h56 FE ?_;with_reducible refine wK ?_
  by_cases e7:a7.length=0
  ·have e7':a7=[]:=List.eq_nil_of_length_eq_zero e7
   cases hh:dS a1 with
   | false=>
     by_cases e0:a1=0
     ·(have fct:=And.intro hh (And.intro e0 (And.intro e7 (hlm)));(repeat' (first
  |refine gF ?_|refine aE ?_ ?_
  |apply trivial));all_goals clear fct)
      all_goals first|(simp[hh,e0,e7'];done)|((try simp only[aq]);simp[hh,e0,e7'];omega)
     ·(have fct:=And.intro hh (And.intro (eq_false e0) (And.intro e7 (hlm)));(repeat' (first
  |refine gF ?_|refine aE ?_ ?_
  | apply trivial));all_goals clear fct)
      all_goals first|(simp[hh,e0,e7'];done)|((try simp only[aq]);simp[hh,e0,e7'];omega)
   | true=>
     by_cases e0:a1=0
     ·(have fct:=And.intro hh (And.intro e0 (And.intro e7 (hlm)));(repeat' (first
  |refine gF ?_|refine aE ?_ ?_
  |apply trivial));all_goals clear fct)
      all_goals first|(simp[hh,e0,e7'];done)|((try simp only[aq]);simp[hh,e0,e7'];omega)
     ·(have fct:=And.intro hh (And.intro (eq_false e0) (And.intro e7 (hlm)));(repeat' (first
  |refine gF ?_|refine aE ?_ ?_
  |apply trivial));all_goals clear fct)
      all_goals first|(simp[hh,e0,e7'];done)|((try simp only[aq]);simp[hh,e0,e7'];omega)
  ·have e7':¬a7=[]:=fun h=>e7 (by rw[h];rfl)
   cases hh:dS a1 with
   | false=>
     by_cases e0:a1=0
     ·(have fct:=And.intro hh (And.intro e0 (And.intro e7 (hlm)));(repeat' (first
  |refine gF ?_|refine aE ?_ ?_
  |apply trivial));all_goals clear fct)
      all_goals first|(simp[hh,e0,e7'];done)|((try simp only[aq]);simp[hh,e0,e7'];omega)
     ·(have fct:=And.intro hh (And.intro (eq_false e0) (And.intro e7 (hlm)));(repeat' (first
  |refine gF ?_|refine aE ?_ ?_
  | apply trivial));all_goals clear fct)
      all_goals first|(simp[hh,e0,e7'];done)|((try simp only[aq]);simp[hh,e0,e7'];omega)
   | true=>
     by_cases e0:a1=0
     ·(have fct:=And.intro hh (And.intro e0 (And.intro e7 (hlm)));(repeat' (first
  |refine gF ?_|refine aE ?_ ?_
  |apply trivial));all_goals clear fct)
      all_goals first|(simp[hh,e0,e7'];done)|((try simp only[aq]);simp[hh,e0,e7'];omega)
     ·(have fct:=And.intro hh (And.intro (eq_false e0) (And.intro e7 (hlm)));(repeat' (first
  |refine gF ?_|refine aE ?_ ?_
  |apply trivial));all_goals clear fct)
      all_goals first|(simp[hh,e0,e7'];done)|((try simp only[aq]);simp[hh,e0,e7'];omega)
theorem pS {α:Type}{p:Nat→α→Bool}{l:List α}{k:Nat}{x:α}(h:l[k]? =some x)(hp:p k x=false):mj p 0 l=false:=by
 rw[Bool.eq_false_iff]
 intro h1
 have:=jE.1 h1 k x h
 rw[Nat.zero_add,hp] at this
 cases this
theorem nV {α:Type}{p:Nat→α→Bool}{l:List α}(h:∀k x,l[k]? =some x→p k x=true):mj p 0 l=true:=
 jE.2 fun k x hx=>by rw[Nat.zero_add];exact h k x hx
theorem FD (f:ForM)(hs:bq f.nodes):aj Tryz.prog 55 [] [aN f] [] (bA (bC f)):=by
 have hl:=hs.len
 have h38:∀x∈f.nodes,aj Tryz.prog 115 [] [aG x] [] (bA (fV x)):=fun x hx=>Cf x (by have:=hs.attrs x hx;omega)
 have h39:=HV f
 have h40:=Hy f hs
 have h41:=GW f hs
 have h42:=Hl f
 have h43:(∀n,af f.nodes n=true→cN f.nodes n (nd f.nodes n)=true)→∀k,k<f.nodes.length→aj Tryz.prog 120 [] [aN f,ah k] [] (bA (dJ f.nodes f.nodes.length k)):=fun hN k hk=>Ic f (by omega) (fun k x hx=>by have:=sx hN k (fR hx);rwa [cI hx] at this) k hk
 obtain⟨l,m⟩:=f
 unfold bC jh
 simp only at hl h38 h39 h40 h41 h42 h43 ⊢
 have hlm:(l.map bM).length=l.length:=bP ..
 refine aj.aA (rvs:=[.tmp 2]) G ak Tryz.func55 rfl Tryz.ntmps55 rfl rfl ?_;with_reducible refine wD ?_
 by_cases e1:m<1
 ·have c1:decide (1≤m)=false:=bB (by omega)
  rw[c1]
  (have fct:=e1;(repeat' (first
  |refine gF ?_|refine aE ?_ ?_
  |apply trivial));all_goals clear fct)
  all_goals simp
 by_cases e2:400<m
 ·have c1:decide (m≤400)=false:=bB (by omega)
  rw[c1]
  (have fct:=And.intro (eq_false e1) (e2);(repeat' (first
  |refine gF ?_|refine aE ?_ ?_
  |apply trivial));all_goals clear fct)
  all_goals simp
 by_cases e3:l.length<1
 ·have c1:decide (1≤l.length)=false:=bB (by omega)
  have e3':(l.length:Int)<1:=by omega
  rw[c1]
  (have fct:=And.intro (eq_false e1) (And.intro (eq_false e2) (And.intro hlm (e3')));(repeat' (first
  |refine gF ?_|refine aE ?_ ?_
  |apply trivial));all_goals clear fct)
  all_goals simp
 have e3':¬ (l.length:Int)<1:=by omega
 by_cases e4:m< (l.length:Int)
 ·have c1:decide ((l.length:Int)≤m)=false:=bB (by omega)
  rw[c1]
  (have fct:=And.intro (eq_false e1) (And.intro (eq_false e2) (And.intro hlm (And.intro (eq_false e3') (e4))));(repeat' (first
  |refine gF ?_|refine aE ?_ ?_
  |apply trivial));all_goals clear fct)
  all_goals simp
 obtain⟨x0,hx0⟩:∃x,l[0]? =some x:=⟨_,bH (by omega)⟩
 have hn0:nd l 0=x0:=cI (k:=0) hx0
 rw[hn0]
 obtain⟨z1,z2,z3,z4,z5,z6,z7,z8,z9,z10⟩:=x0
 by_cases e5:¬z1=0
 ·(have fct:=And.intro (eq_false e1) (And.intro (eq_false e2) (And.intro hlm (And.intro (eq_false e3') (And.intro (eq_false e4) ((eq_false e5))))));(repeat' (first
  |refine gF ?_|refine aE ?_ ?_
  |((refine aH.mk 0 (aG ⟨z1,z2,z3,z4,z5,z6,z7,z8,z9,z10⟩) rfl (az hx0) ?_)<;>with_reducible refine wK ?_)
  |apply trivial));all_goals clear fct)
  all_goals simp[e5]
 have e5:=Decidable.not_not.1 e5
 have c1:(decide (1≤m)&&decide (m≤400)&&decide (1≤l.length)&&decide ((l.length:Int)≤m)&&decide (z1=0))=true:=by
  simp only[bg,aP];omega
 simp only at c1 ⊢
 rw[c1,Bool.true_and]
 (have fct:=And.intro (eq_false e1) (And.intro (eq_false e2) (And.intro hlm (And.intro (eq_false e3') (And.intro (eq_false e4) (e5)))));(repeat' (first
  |refine gF ?_|refine aE ?_ ?_
  |((refine aH.mk 0 (aG ⟨z1,z2,z3,z4,z5,z6,z7,z8,z9,z10⟩) rfl (az hx0) ?_)<;>with_reducible refine wK ?_)
  |apply trivial));all_goals clear fct)
 refine bE.use G ak (fun(k:Nat)=>[(1,.ptr 10 0 0),(44,oU l),(45,ah l.length),(46,ah k)]) (fun _=>[(10,.live 2 [aN ⟨l,m⟩] false)])
  (fun k=>k≤l.length∧∀j x,j<k→l[j]? =some x→cN l j x=true) (fun k=>l.length-k) 0 ⟨Nat.zero_le _,fun j x h=>by omega⟩
  ⟨⟨rfl,rfl⟩,⟨⟨rfl,rfl⟩,rfl,by show(l.length:Int)=((l.map bM).length:Int);rw[hlm],rfl,trivial⟩,⟨⟨rfl,rfl,trivial⟩,trivial⟩,trivial⟩ ?_
 rintro k ⟨hk,hok⟩
 with_reducible refine wK ?_
 refine aM.mk (fun g1=>?_) (fun g1=>?_)<;>(try simp only[aq] at g1)<;>with_reducible refine wK ?_
 ·have hk' : k<l.length:=by simp only[aP] at g1;omega
  obtain⟨x,hx⟩:∃x,l[k]? =some x:=⟨_,bH hk'⟩
  have h38':=h38 x (bV hx)
  have h39':=h39 k x hx
  have h40':=h40 k x hx
  have h41':=h41 k x hx
  have h42':=h42 k x hx
  have bad:cN l k x=false→mj (fun k x=>cN l k x) 0 l=false:=fun h=>pS hx h
  have good:cN l k x=true→∀j y,j<k+1→l[j]? =some y→cN l j y=true:=fun h j y hj hy=>by
   rcases Nat.lt_or_ge j k with h6|h6
   ·exact hok j y h6 hy
   ·have:j=k:=by omega
    subst this
    rw[hx] at hy;cases hy;exact h
  obtain⟨a1,a2,a3,a4,a5,a6,a7,a8,a9,a10⟩:=x
  refine aH.mk k (aG _) rfl (az hx) ?_;with_reducible refine wK ?_
  cases q1:fV ⟨a1,a2,a3,a4,a5,a6,a7,a8,a9,a10⟩ with
  | false=>
    rw[bad (by unfold cN;rw[q1];rfl),Bool.false_and]
    (have fct:=q1;(repeat' (first
  |refine gF ?_|refine aE ?_ ?_
  |(((with_reducible refine kQ 115 ?_);refine cL h38' Az ?_)<;>with_reducible refine wK ?_)
  |apply trivial));all_goals clear fct)
  | true=>
    cases q2:o3 l k ⟨a1,a2,a3,a4,a5,a6,a7,a8,a9,a10⟩ with
    | false=>
      rw[bad (by unfold cN;rw[q1,q2];rfl),Bool.false_and]
      (have fct:=And.intro q1 (q2);(repeat' (first
  |refine gF ?_|refine aE ?_ ?_
  | ((first
   |((with_reducible refine kQ 115 ?_);refine cL h38' Az ?_)
   |((with_reducible refine kQ 116 ?_);refine cL h39' F4 ?_))<;>with_reducible refine wK ?_)
  | apply trivial));all_goals clear fct)
    | true=>
      cases q3:ot l k ⟨a1,a2,a3,a4,a5,a6,a7,a8,a9,a10⟩ with
      | false=>
        rw[bad (by unfold cN;rw[q1,q2,q3];rfl),Bool.false_and]
        (have fct:=And.intro q1 (And.intro q2 (q3));(repeat' (first
  |refine gF ?_|refine aE ?_ ?_
  | ((first
   |((with_reducible refine kQ 115 ?_);refine cL h38' Az ?_)
   |((with_reducible refine kQ 116 ?_);refine cL h39' F4 ?_)
   |((with_reducible refine kQ 117 ?_);refine cL h40' HQ ?_))<;>with_reducible refine wK ?_)
  |apply  trivial));all_goals clear fct)
      | true=>
        cases q4:kN l k ⟨a1,a2,a3,a4,a5,a6,a7,a8,a9,a10⟩ with
        | false=>
          rw[bad (by unfold cN;rw[q1,q2,q3,q4];rfl),Bool.false_and]
          (have fct:=And.intro q1 (And.intro q2 (And.intro q3 (q4)));(repeat' (first
  |refine gF ?_|refine aE ?_ ?_
  | ((first
   |((with_reducible refine kQ 115 ?_);refine cL h38' Az ?_)
   |((with_reducible refine kQ 116 ?_);refine cL h39' F4 ?_)
   |((with_reducible refine kQ 117 ?_);refine cL h40' HQ ?_)
   |((with_reducible refine kQ 118 ?_);refine cL h41' Kx ?_))<;>with_reducible refine wK ?_)
  |apply  trivial));all_goals clear fct)
        | true=>
          cases q5:eL l k ⟨a1,a2,a3,a4,a5,a6,a7,a8,a9,a10⟩ with
          | false=>
            rw[bad (by unfold cN;rw[q1,q2,q3,q4,q5];rfl),Bool.false_and]
            (have fct:=And.intro q1 (And.intro q2 (And.intro q3 (And.intro q4 (q5))));(repeat' (first
  |refine gF ?_|refine aE ?_ ?_
  | ((first
   |((with_reducible refine kQ 115 ?_);refine cL h38' Az ?_)
   |((with_reducible refine kQ 116 ?_);refine cL h39' F4 ?_)
   |((with_reducible refine kQ 117 ?_);refine cL h40' HQ ?_)
   |((with_reducible refine kQ 118 ?_);refine cL h41' Kx ?_)
   |((with_reducible refine kQ 119 ?_);refine cL h42' LK ?_))<;>with_reducible refine wK ?_)
  |apply  trivial));all_goals clear fct)
          | true=>
            have hnx:=good (by unfold cN;rw[q1,q2,q3,q4,q5];rfl)
            (have fct:=And.intro q1 (And.intro q2 (And.intro q3 (And.intro q4 (q5))));(repeat' (first
  |refine gF ?_|refine aE ?_ ?_
  | ((first
   |((with_reducible refine kQ 115 ?_);refine cL h38' Az ?_)
   |((with_reducible refine kQ 116 ?_);refine cL h39' F4 ?_)
   |((with_reducible refine kQ 117 ?_);refine cL h40' HQ ?_)
   |((with_reducible refine kQ 118 ?_);refine cL h41' Kx ?_)
   |((with_reducible refine kQ 119 ?_);refine cL h42' LK ?_)
   |((with_reducible show aW _ _);refine aW.mk (k+1) ⟨by omega,hnx⟩ (by omega) ⟨⟨rfl,rfl⟩,⟨⟨rfl,rfl⟩,rfl,rfl,by show((k+1:Nat):Int)=(k:Int)+1;omega,trivial⟩,⟨⟨rfl,rfl,trivial⟩,trivial⟩,trivial⟩))<;>with_reducible refine wK ?_)
  |apply trivial));all_goals clear fct)
 ·have hkl:k=l.length:=by simp only[cj] at g1;omega
  have hall:∀ (j:Nat) (x:ai),l[j]? =some x→cN l j x=true:=fun j x hx=>hok j x (by have:=(aZ hx).1;omega) hx
  rw[nV hall,Bool.true_and]
  have h43':=h43 fun n hn=>by
   obtain⟨k,x,rfl,hk,hx⟩:=aI.1 hn
   rw[hx];exact hall k x hk
  refine bE.use G ak (fun(k:Nat)=>[(1,.ptr 10 0 0),(82,ah l.length),(83,ah k)]) (fun _=>[(10,.live 2 [aN ⟨l,m⟩] false)])
   (fun k=>k≤l.length∧∀ (j:Nat) (x:ai),j<k→l[j]? =some x→dJ l l.length j=true) (fun k=>l.length-k) 0 ⟨Nat.zero_le _,fun j x h=>by omega⟩
   ⟨⟨rfl,rfl⟩,⟨⟨rfl,rfl⟩,by show(l.length:Int)=((l.map bM).length:Int);rw[hlm],rfl,trivial⟩,⟨⟨rfl,rfl,trivial⟩,trivial⟩,trivial⟩ ?_
  rintro i ⟨hi,hends⟩
  with_reducible refine wK ?_
  refine aM.mk (fun g2=>?_) (fun g2=>?_)<;>(try simp only[aq] at g2)<;>with_reducible refine wK ?_
  ·have hi':i<l.length:=by simp only[aP] at g2;omega
   obtain⟨y,hy⟩:∃y,l[i]? =some y:=⟨_,bH hi'⟩
   have h43'':=h43' i hi'
   refine cL h43'' Mi ?_;with_reducible refine wK ?_
   cases q:dJ l l.length i with
   | false=>
     rw[pS hy q]
     (have fct:=q;(repeat' (first
  |refine gF ?_|refine aE ?_ ?_
  | apply trivial));all_goals clear fct)
   | true=>
     (have fct:=q;(repeat' (first
  |refine gF ?_|refine aE ?_ ?_
  |(((with_reducible show aW _ _);refine aW.mk (i+1) ⟨by omega,fun j x hj hx=>?_⟩ (by omega) ⟨⟨rfl,rfl⟩,⟨⟨rfl,rfl⟩,rfl,by show((i+1:Nat):Int)=(i:Int)+1;omega,trivial⟩,⟨⟨rfl,rfl,trivial⟩,trivial⟩,trivial⟩)<;>with_reducible refine wK ?_)
  |apply trivial));all_goals clear fct)
     rcases Nat.lt_or_ge j i with h6|h6
     ·exact hends j x h6 hx
     ·have:j=i:=by omega
      rw[this];exact q
  ·have hil:i=l.length:=by simp only[cj] at g2;omega
   rw[nV fun j x hx=>hends j x (by have:=(aZ hx).1;omega) hx]
   (refine eK ?_ ?_<;>with_reducible repeat' (first|exact trivial|(show _∧_;refine aK ?_ ?_)))
theorem th (f:ForM)(hs:bq f.nodes):aj Tryz.prog 17 [] [aN f] [] (bA (bC f)):=by
 have h23:=FD f hs
 obtain⟨l,m⟩:=f
 refine aj.aA (rvs:=[.tmp 2]) G ak Tryz.func17 rfl Tryz.ntmps17 rfl rfl ?_;with_reducible refine wD ?_
 refine cL h23 M5 ?_;with_reducible refine wK ?_
 (refine eK ?_ ?_<;>with_reducible repeat' (first|exact trivial|(show _∧_;refine aK ?_ ?_)))
theorem aa (l:List Int):bz (l.map bJ)=true:=by
 rw[cT];intro x hx
 obtain⟨a,_,rfl⟩:=List.mem_map.1 hx
 rfl
theorem j5 (l:List Int):kW (flat (l.map bJ))=true:=kX bJ (fun _=>rfl) l
theorem bX {m:ML}{fz:Nat→Bool}{tab:List (Nat×Nat)}{n t len:Nat}{ro:Bool}{rows:List AV}{l:List Int}(h1:eM m t=.live 1 rows ro)(h2:fz t=true)(h3:rows=l.map bJ)(h4:len=l.length):xq m fz (MF tab fz m n) (bY l) t 0 len:=by
 subst h3;subst h4
 have e:(l.map bJ).length=l.length:=bP ..
 exact .cut h1 h2 (by omega) (by rw[List.drop_zero,qV (by omega)]) (aa l)
@[reducible] def iv (l : List Int) : MS := .live 1 (l.map bJ) false
theorem Ah {l:List Int}{n c:Int}{k:Nat}(h:l[k]? =some c):(l.take (k+1)).count n=(l.take k).count n+if c=n then 1 else 0:=by
 rw[j8 h,List.count_append,List.count_singleton]
 by_cases e:c=n<;>simp[e]
theorem An (l:List Int)(hl:l.length≤100000)(n:Int):aj Tryz.prog 31 [] [bY l,ah n] [] (ah (l.count n)):=by
 have hlm:(l.map bJ).length=l.length:=bP ..
 refine aj.aA (rvs:=[.tmp 4]) G ak Tryz.func31 rfl Tryz.ntmps31 rfl rfl ?_;with_reducible refine wD ?_
 refine bE.use G ak (fun(k:Nat)=>[(0,bY l),(1,ah n),(5,ah ((l.take k).count n)),(6,ah k)]) (fun _=>[]) (fun k=>k≤l.length) (fun k=>l.length-k) 0 (Nat.zero_le _)
  ⟨⟨rfl,rfl⟩,⟨rfl,rfl,rfl,rfl,trivial⟩,trivial⟩ ?_
 rintro k hk
 with_reducible refine wK ?_
 refine aM.mk (fun h1=>?_) (fun h1=>?_)<;>(try simp only[aq] at h1)<;>with_reducible refine wK ?_
 ·have hk':k<l.length:=by simp only[aP] at h1;omega
  obtain⟨c,hc⟩:∃a,l[k]? =some a:=⟨_,bH hk'⟩
  have hst:=Ah (n:=n) hc
  have hle:(l.take k).count n≤k:=Nat.le_trans List.count_le_length (by simp;omega)
  refine aH.mk k (ah c) rfl (ct hc) ?_;with_reducible refine wK ?_
  by_cases e:c=n
  ·rw[if_pos e] at hst
   (have fct:=e;(repeat' (first
  |refine gF ?_|refine aE ?_ ?_
  |(((with_reducible show aW _ _);refine aW.mk (k+1) (by omega) (by omega) ⟨⟨rfl,rfl⟩,⟨rfl,rfl,by show(((l.take (k+1)).count n:Nat):Int)=_;rw[hst];rfl,by show((k+1:Nat):Int)=(k:Int)+1;omega,trivial⟩,trivial⟩)<;>with_reducible refine wK ?_)
  |apply trivial));all_goals clear fct)
  ·rw[if_neg e] at hst
   (have fct:=(eq_false e);(repeat' (first
  |refine gF ?_|refine aE ?_ ?_
  |(((with_reducible show aW _ _);refine aW.mk (k+1) (by omega) (by omega) ⟨⟨rfl,rfl⟩,⟨rfl,rfl,by show(((l.take (k+1)).count n:Nat):Int)=_;rw[hst];simp,by show((k+1:Nat):Int)=(k:Int)+1;omega,trivial⟩,trivial⟩)<;>with_reducible refine wK ?_)
  |apply trivial));all_goals clear fct)
 ·(refine eK ?_ ?_<;>with_reducible repeat' (first|exact trivial|(show _∧_;refine aK ?_ ?_)))
  have:k=l.length:=by simp only[cj] at h1;omega
  rw[this,List.take_length]
def oF (x:ai):Bool:=decide (x.kids.length≤60)&&decide (x.attrs.length≤60)&&decide (x.name.size≤300)
theorem yX (f:ForM):uD f=(decide (f.nodes.length≤60)&&f.nodes.all oF):=rfl
theorem E5 {α:Type}{p:α→Bool}{l:List α}{k:Nat}{x:α}(h:l[k]? =some x)(hp:p x=false):l.all p=false:=by
 rw[Bool.eq_false_iff]
 intro h1
 rw[List.all_eq_true] at h1
 rw[h1 x (bV h)] at hp;cases hp
theorem Ci {α:Type}{p:α→Bool}{l:List α}(h:∀ (k:Nat) (x:α),l[k]? =some x→p x=true):l.all p=true:=by
 rw[List.all_eq_true]
 intro x hx
 obtain⟨k,hk⟩:=List.getElem?_of_mem hx
 exact h k x hk
theorem KP (f:ForM):aj Tryz.prog 16 [] [aN f] [] (bA (uD f)):=by
 rw[yX]
 obtain⟨l,m⟩:=f
 simp only
 have hlm:(l.map bM).length=l.length:=bP ..
 refine aj.aA (rvs:=[.tmp 2]) G ak Tryz.func16 rfl Tryz.ntmps16 rfl rfl ?_;with_reducible refine wD ?_
 by_cases e0:(60:Int)< (l.length:Int)
 ·rw[bB (show ¬l.length≤60 by omega)]
  (have fct:=And.intro hlm (e0);(repeat' (first
  |refine gF ?_|refine aE ?_ ?_
  |apply trivial));all_goals clear fct)
  all_goals rfl
 rw[bO (show l.length≤60 by omega),Bool.true_and]
 (have fct:=And.intro hlm ((eq_false e0));(repeat' (first
  |refine gF ?_|refine aE ?_ ?_
  |apply trivial));all_goals clear fct)
 refine bE.use G ak (fun(k:Nat)=>[(1,.ptr 10 0 0),(3,ah k)]) (fun _=>[(10,.live 2 [aN ⟨l,m⟩] false)])
  (fun k=>k≤l.length∧∀ (j:Nat) (y:ai),j<k→l[j]? =some y→oF y=true) (fun k=>l.length-k) 0 ⟨Nat.zero_le _,fun j y h=>by omega⟩
  ⟨⟨rfl,rfl⟩,⟨⟨rfl,rfl⟩,rfl,trivial⟩,⟨⟨rfl,rfl,trivial⟩,trivial⟩,trivial⟩ ?_
 rintro k ⟨hk,hok⟩
 with_reducible refine wK ?_
 refine aM.mk (fun h1=>?_) (fun h1=>?_)<;>(try simp only[aq] at h1)<;>with_reducible refine wK ?_
 ·have hk':k<l.length:=by simp only[aP] at h1;omega
  obtain⟨x,hx⟩:∃x,l[k]? =some x:=⟨_,bH hk'⟩
  have bad:oF x=false→l.all oF=false:=fun h=>E5 hx h
  have good:oF x=true→∀ (j:Nat) (y:ai),j<k+1→l[j]? =some y→oF y=true:=fun h j y hj hy=>by
   rcases Nat.lt_or_ge j k with h6|h6
   ·exact hok j y h6 hy
   ·have:j=k:=by omega
    subst this
    rw[hx] at hy;cases hy;exact h
  obtain⟨a1,a2,a3,a4,a5,a6,a7,a8,a9,a10⟩:=x
  have hla:(a5.map dn).length=a5.length:=bP ..
  have hlk:(a7.map bJ).length=a7.length:=bP ..
  have sm:oF ⟨a1,a2,a3,a4,a5,a6,a7,a8,a9,a10⟩=(decide (a7.length≤60)&&decide (a5.length≤60)&&decide (a2.size≤300)):=rfl
  rw[sm] at bad good
  refine aH.mk k (aG _) rfl (az hx) ?_;with_reducible refine wK ?_
  by_cases e1:(60:Int)< (a7.length:Int)
  ·rw[bad (by rw[bB (show ¬a7.length≤60 by omega)];rfl)]
   (have fct:=And.intro hlk (e1);(repeat' (first
  |refine gF ?_|refine aE ?_ ?_
  |apply trivial));all_goals clear fct)
  by_cases e2:(60:Int)< (a5.length:Int)
  ·rw[bad (by rw[bB (show ¬a5.length≤60 by omega),Bool.and_false];rfl)]
   (have fct:=And.intro hlk (And.intro hla (And.intro (eq_false e1) (e2)));(repeat' (first
  |refine gF ?_|refine aE ?_ ?_
  |((refine aH.mk k (aG _) rfl (az hx) ?_)<;>with_reducible refine wK ?_)
  |apply trivial));all_goals clear fct)
  by_cases e3:(300:Int)< (a2.size:Int)
  ·rw[bad (by rw[bB (show ¬a2.size≤300 by omega),Bool.and_false])]
   (have fct:=And.intro hlk (And.intro hla (And.intro (eq_false e1) (And.intro (eq_false e2) (e3))));(repeat' (first
  |refine gF ?_|refine aE ?_ ?_
  |((refine aH.mk k (aG _) rfl (az hx) ?_)<;>with_reducible refine wK ?_)
  |apply trivial));all_goals clear fct)
  have hnx:=good (by simp only[bg,aP];omega)
  (have fct:=And.intro hlk (And.intro hla (And.intro (eq_false e1) (And.intro (eq_false e2) ((eq_false e3)))));(repeat' (first
  |refine gF ?_|refine aE ?_ ?_
  | ((first
   |(refine aH.mk k (aG _) rfl (az hx) ?_)
   |((with_reducible show aW _ _);refine aW.mk (k+1) ⟨by omega,hnx⟩ (by omega) ⟨⟨rfl,rfl⟩,⟨⟨rfl,rfl⟩,by show((k+1:Nat):Int)=(k:Int)+1;omega,trivial⟩,⟨⟨rfl,rfl,trivial⟩,trivial⟩,trivial⟩))<;>with_reducible refine wK ?_)
  |apply trivial));all_goals clear fct)
 ·have hkl:k=l.length:=by simp only[cj] at h1;omega
  rw[Ci fun j y hy=>hok j y (by have:=(aZ hy).1;omega) hy]
  (refine eK ?_ ?_<;>with_reducible repeat' (first|exact trivial|(show _∧_;refine aK ?_ ?_)))
theorem n5 {l:List ai}{n:Int}(h:0≤n∧n< (l.length:Int)):∃ (i:Nat) (y:ai),n=(i:Int)∧l[i]? =some y∧nd l n=y:=by
  obtain⟨i,y,h1,h2,h3⟩:=aI.1 (show af l n=true by unfold af;simp;omega)
  exact⟨i,y,h1,h2,h3⟩
theorem ve {P:Program}{N nL:Nat}{sl:SL}{m:ML}{c:Code}{Q:Exit→SL→ML→Prop}{F G:Prop}(main:(F→bE P N nL sl m (c:=c) (Q:=Q))→G)(rest:F→bE P N nL sl m (c:=c) (Q:=Q)):G:=main rest
set_option maxHeartbeats 16000000 in
theorem J9 (f:ForM)(hs:bq f.nodes)(k:Nat)(x:ai)(hx:f.nodes[k]? =some x):aj Tryz.prog 88 [] [aN f,ah k] [] (bA (fO f.nodes k x)):=by
  have h29:=fun(l:List Int) (hl:l.length≤100000)=>An l hl
  have hxk:=hs.kids x (bV hx)
  have hxa:=hs.attrs x (bV hx)
  have hxn:=hs.name x (bV hx)
  have h30:=ye x.name
  have h31:=wX x.name (by omega)
  have h32:=GK x.is
  have h33:=Hz x.attrs (by omega)
  have hK:∀ (i:Nat) (y:ai),f.nodes[i]? =some y→y.kids.length≤100000:=fun i y h=>by have:=hs.kids y (bV h);omega
  have hl:=hs.len
  have hk:k<f.nodes.length:=(aZ hx).1
  obtain⟨l,m⟩:=f
  unfold fO
  simp only at hK hx hl hk ⊢
  obtain⟨a1,a2,a3,a4,a5,a6,a7,a8,a9,a10⟩:=x
  simp only at hxk hxa hxn h30 h31 h32 h33 ⊢
  have hlm:(l.map bM).length=l.length:=bP ..
  have hlk:(a7.map bJ).length=a7.length:=bP ..
  have hla:(a5.map dn).length=a5.length:=bP ..
  apply ve (P:=Tryz.prog) (N:=353) (nL:=0) (F:=u7 l k ⟨a1,a2,a3,a4,a5,a6,a7,a8,a9,a10⟩=true∧uZ l k ⟨a1,a2,a3,a4,a5,a6,a7,a8,a9,a10⟩=true)
    (sl:=[(1,ah k),(2,.ptr 20 0 0),(5,.ptr 50 0 0),(6,ah l.length),(7,ah 0),(8,ah 0)]) (m:=[(20,.live 2 [aN ⟨l,m⟩] false),(50,.live 10 [aG ⟨a1,a2,a3,a4,a5,a6,a7,a8,a9,a10⟩] false)])
  case main =>
    intro key
    have bad1:∀b,u7 l k ⟨a1,a2,a3,a4,a5,a6,a7,a8,a9,a10⟩=false→(u7 l k ⟨a1,a2,a3,a4,a5,a6,a7,a8,a9,a10⟩&&b)=false:=fun b h=>by rw[h];rfl
    have bad2:∀b c,uZ l k ⟨a1,a2,a3,a4,a5,a6,a7,a8,a9,a10⟩=false→(c&&(uZ l k ⟨a1,a2,a3,a4,a5,a6,a7,a8,a9,a10⟩&&b))=false:=fun b c h=>by rw[h];simp
    refine aj.aA (rvs:=[.tmp 4]) G ak Tryz.func88 rfl Tryz.ntmps88 rfl rfl ?_;delta List.toArray;(with_reducible ((conv=>whnf);(conv=>congr<;>reduce);repeat((first|refine bh.mk ?_|refine bf.mk ?_);(conv=>whnf);(conv=>congr<;>reduce))))
    refine aH.mk k (aG _) rfl (az hx) ?_;(with_reducible ((conv=>whnf);(conv=>congr<;>reduce);repeat((first|refine bh.mk ?_|refine bf.mk ?_);(conv=>whnf);(conv=>congr<;>reduce))))
    repeat' (first
    |(first
    |((with_reducible show aM _ _ _ _);first|refine aM.ff ?_|refine aM.tt ?_|refine aM.no (by first|exact qA|exact bO (by(try simp only[aq]);omega)|exact bB (by(try simp only[aq]);omega)|(simp only[aq,Bool.not_eq_true',Bool.not_eq_false',aP,cj];omega)) ?_|refine aM.yes (by first|exact qA|exact bO (by(try simp only[aq]);omega)|exact bB (by(try simp only[aq]);omega)|(simp only[aq,Bool.not_eq_true',Bool.not_eq_false',aP,cj];omega)) ?_|(refine aM.mk (fun hp=>?_) (fun hp=>?_)<;>(try simp only[aq,aP,cj,Bool.not_eq_true',Bool.not_eq_false',Decidable.not_not,Int.not_lt,Int.not_le] at hp)))
    |((with_reducible show aY _ _ _ _);refine nK ?_)
    |((with_reducible show aB _ _ _ _);refine dK ?_)
    |((with_reducible show aH _ a10 _ _ _);refine aH.mk iD (aG _) eD (az hyD) ?_)
    |((with_reducible show aH _ a10 _ _ _);(obtain⟨iD,y,eD,hyD,hnyD⟩:=n5 (l:=l) (n:=a10) (by omega));(obtain⟨b1,b2,b3,b4,b5,b6,b7,b8,b9,b10⟩:=y);refine aH.mk iD (aG _) eD (az hyD) ?_)
    |((with_reducible show aH _ a6 _ _ _);refine aH.mk iP (aG _) eP (az hyP) ?_)
    |((with_reducible show aH _ a6 _ _ _);(obtain⟨iP,y,eP,hyP,hnyP⟩:=n5 (l:=l) (n:=a6) (by omega));(obtain⟨b1,b2,b3,b4,b5,b6,b7,b8,b9,b10⟩:=y);refine aH.mk iP (aG _) eP (az hyP) ?_)
    |((with_reducible refine kQ 31 ?_);refine cL (h29 _ (hK _ _ hyP) k) Ku ?_))<;>(with_reducible ((conv=>whnf);(conv=>congr<;>reduce);repeat((first|refine bh.mk ?_|refine bf.mk ?_);(conv=>whnf);(conv=>congr<;>reduce))))
    |((with_reducible show(_∧_)∧_∧_);refine⟨⟨rfl,rfl⟩,?_,?_⟩<;>with_reducible ((conv=>whnf)<;>repeat' (first|exact trivial|(refine And.intro ?_ ?_<;>(conv=>whnf))))))
    all_goals first
      | refine bad1 _ ?_
        (rw[Bool.eq_false_iff];intro h;(first|simp only[u7,gL,af,bg,dw,aP,ne_eq,←pV,hnyD] at h|simp only[u7,gL,af,bg,dw,aP,ne_eq,←pV] at h);omega)
      | refine bad2 _ _ ?_
        (rw[Bool.eq_false_iff];intro h;(first|simp only[uZ,gL,af,bg,dw,aP,ne_eq,←pV,hnyP] at h|simp only[uZ,gL,af,bg,dw,aP,ne_eq,←pV] at h);omega)
      | refine bE.fit ?_ (key ⟨?_,?_⟩)
        ·exact⟨⟨rfl,rfl⟩,⟨rfl,⟨rfl,rfl⟩,⟨rfl,rfl⟩,by show(l.length:Int)=((l.map bM).length:Int);rw[hlm],rfl,rfl,trivial⟩,⟨⟨rfl,rfl,trivial⟩,trivial⟩,⟨⟨rfl,rfl,rfl,rfl,rfl,rfl,rfl,rfl,rfl,rfl,trivial⟩,trivial⟩,trivial⟩
        ·
          (simp only[u7,gL,af,bg,dw,aP,ne_eq,←pV,hnyD];omega)
        ·first
            |(rw[uZ,bO (by assumption)];rfl)
            | skip
              (simp only[uZ,gL,af,bg,dw,aP,ne_eq,←pV,hnyP];omega)
  case rest =>
    rintro⟨hD,hP⟩
    rw[hD,hP]
    simp only[Bool.true_and]
    have bad3:∀b,a7.all (rS l k ⟨a1,a2,a3,a4,a5,a6,a7,a8,a9,a10⟩)=false→(a7.all (rS l k ⟨a1,a2,a3,a4,a5,a6,a7,a8,a9,a10⟩)&&b)=false:=fun b h=>by rw[h];rfl
    refine bE.use G ak (fun(j:Nat)=>[(1,ah k),(2,.ptr 20 0 0),(5,.ptr 50 0 0),(6,ah l.length),(7,ah (cA l (a7.take j))),(8,ah j)]) (fun _=>[(20,.live 2 [aN ⟨l,m⟩] false),(50,.live 10 [aG ⟨a1,a2,a3,a4,a5,a6,a7,a8,a9,a10⟩] false)])
      (fun j=>j≤a7.length∧∀ (i:Nat) (c:Int),i<j→a7[i]? =some c→rS l k ⟨a1,a2,a3,a4,a5,a6,a7,a8,a9,a10⟩ c=true) (fun j=>a7.length-j) 0 ⟨Nat.zero_le _,fun i c h=>by omega⟩
      ⟨⟨rfl,rfl⟩,⟨rfl,⟨rfl,rfl⟩,⟨rfl,rfl⟩,rfl,rfl,rfl,trivial⟩,⟨⟨rfl,rfl,trivial⟩,trivial⟩,⟨⟨rfl,rfl,rfl,rfl,rfl,rfl,rfl,rfl,rfl,rfl,trivial⟩,trivial⟩,trivial⟩ ?_
    rintro j ⟨hj,hok⟩
    (with_reducible ((conv=>whnf);(conv=>congr<;>reduce);repeat((first|refine bh.mk ?_|refine bf.mk ?_);(conv=>whnf);(conv=>congr<;>reduce))))
    refine aM.mk (fun h1=>?_) (fun h1=>?_)<;>(try simp only[aq] at h1)<;>(with_reducible ((conv=>whnf);(conv=>congr<;>reduce);repeat((first|refine bh.mk ?_|refine bf.mk ?_);(conv=>whnf);(conv=>congr<;>reduce))))
    · have hj':j<a7.length:=by simp only[aP] at h1;omega
      obtain⟨c,hc⟩:∃c,a7[j]? =some c:=⟨_,bH hj'⟩
      have hse:=@sL l a7 j c hc
      have hel:=tG l a7 j
      have h29':=h29 a7 (by omega) c
      have good:rS l k ⟨a1,a2,a3,a4,a5,a6,a7,a8,a9,a10⟩ c=true→∀ (i:Nat) (d:Int),i<j+1→a7[i]? =some d→rS l k ⟨a1,a2,a3,a4,a5,a6,a7,a8,a9,a10⟩ d=true:=fun h i d hi hd=>by
        rcases Nat.lt_or_ge i j with h6|h6
        ·exact hok i d h6 hd
        · have:i=j:=by omega
          subst this
          rw[hc] at hd;cases hd;exact h
      refine aH.mk j (ah c) rfl (ct hc) ?_;(with_reducible ((conv=>whnf);(conv=>congr<;>reduce);repeat((first|refine bh.mk ?_|refine bf.mk ?_);(conv=>whnf);(conv=>congr<;>reduce))))
      repeat' (first
    |(first
    |((with_reducible show aM _ _ _ _);first|refine aM.ff ?_|refine aM.tt ?_|refine aM.no (by first|exact qA|exact bO (by(try simp only[aq]);omega)|exact bB (by(try simp only[aq]);omega)|(simp only[aq,Bool.not_eq_true',Bool.not_eq_false',aP,cj];omega)) ?_|refine aM.yes (by first|exact qA|exact bO (by(try simp only[aq]);omega)|exact bB (by(try simp only[aq]);omega)|(simp only[aq,Bool.not_eq_true',Bool.not_eq_false',aP,cj];omega)) ?_|(refine aM.mk (fun hp=>?_) (fun hp=>?_)<;>(try simp only[aq,aP,cj,Bool.not_eq_true',Bool.not_eq_false',Decidable.not_not,Int.not_lt,Int.not_le] at hp)))
    |((with_reducible show aY _ _ _ _);refine nK ?_)
    |((with_reducible show aB _ _ _ _);refine dK ?_)
    |((with_reducible show aH _ c _ _ _);refine aH.mk iK (aG _) eK (az hyK) ?_)
    |((with_reducible show aH _ c _ _ _);(obtain⟨iK,y,eK,hyK,hnyK⟩:=n5 (l:=l) (n:=c) (by omega));(obtain⟨b1,b2,b3,b4,b5,b6,b7,b8,b9,b10⟩:=y);refine aH.mk iK (aG _) eK (az hyK) ?_)
    |((with_reducible refine kQ 31 ?_);refine cL h29' Ku ?_))<;>(with_reducible ((conv=>whnf);(conv=>congr<;>reduce);repeat((first|refine bh.mk ?_|refine bf.mk ?_);(conv=>whnf);(conv=>congr<;>reduce))))
    | ((with_reducible show(_∧_)∧_∧_);refine⟨⟨rfl,rfl⟩,?_,?_⟩<;>with_reducible ((conv=>whnf)<;>repeat' (first|exact trivial|(refine And.intro ?_ ?_<;>(conv=>whnf))))))
      all_goals first
        | refine bad3 _ (E5 hc ?_)
          (rw[Bool.eq_false_iff];intro h;(first|simp only[rS,gL,af,bg,dw,aP,ne_eq,←pV,hnyK] at h|simp only[rS,gL,af,bg,dw,aP,ne_eq,←pV] at h);omega)
        | ((with_reducible show aW _ _);refine aW.mk (j+1) ⟨by omega,good ?_⟩ (by omega) ⟨⟨rfl,rfl⟩,⟨rfl,⟨rfl,rfl⟩,⟨rfl,rfl⟩,rfl,by rw[hse,hnyK];first|(simp[show b1=1 by omega];done)|(simp[show ¬b1=1 by omega];done),by show((j+1:Nat):Int)=(j:Int)+1;omega,trivial⟩,⟨⟨rfl,rfl,trivial⟩,trivial⟩,⟨⟨rfl,rfl,rfl,rfl,rfl,rfl,rfl,rfl,rfl,rfl,trivial⟩,trivial⟩,trivial⟩)
          (simp only[rS,gL,af,bg,dw,aP,ne_eq,←pV,hnyK];omega)
    · have hjl:j=a7.length:=by simp only[cj] at h1;omega
      rw[Ci fun i c hc=>hok i c (by have:=(aZ hc).1;omega) hc,Bool.true_and]
      rw[hjl,List.take_length]
      have hel:=tG l a7 a7.length
      rw[List.take_length] at hel
      have bad4:∀b,kK l ⟨a1,a2,a3,a4,a5,a6,a7,a8,a9,a10⟩=false→(kK l ⟨a1,a2,a3,a4,a5,a6,a7,a8,a9,a10⟩&&b)=false:=fun b h=>by rw[h];rfl
      have bad5:∀b c,eL l k ⟨a1,a2,a3,a4,a5,a6,a7,a8,a9,a10⟩=false→(c&&(eL l k ⟨a1,a2,a3,a4,a5,a6,a7,a8,a9,a10⟩&&b))=false:=fun b c h=>by rw[h];simp
      have good6:kK l ⟨a1,a2,a3,a4,a5,a6,a7,a8,a9,a10⟩=true→eL l k ⟨a1,a2,a3,a4,a5,a6,a7,a8,a9,a10⟩=true→∀b,tD ⟨a1,a2,a3,a4,a5,a6,a7,a8,a9,a10⟩=b→(kK l ⟨a1,a2,a3,a4,a5,a6,a7,a8,a9,a10⟩&&(eL l k ⟨a1,a2,a3,a4,a5,a6,a7,a8,a9,a10⟩&&tD ⟨a1,a2,a3,a4,a5,a6,a7,a8,a9,a10⟩))=b:=fun h1 h2 b h3=>by rw[h1,h2,h3];rfl
      repeat' (first
    |(first
    |((with_reducible show aM _ _ _ _);first|refine aM.ff ?_|refine aM.tt ?_|refine aM.no (by first|exact qA|exact bO (by(try simp only[aq]);omega)|exact bB (by(try simp only[aq]);omega)|(simp only[aq,Bool.not_eq_true',Bool.not_eq_false',aP,cj];omega)) ?_|refine aM.yes (by first|exact qA|exact bO (by(try simp only[aq]);omega)|exact bB (by(try simp only[aq]);omega)|(simp only[aq,Bool.not_eq_true',Bool.not_eq_false',aP,cj];omega)) ?_|(refine aM.mk (fun hp=>?_) (fun hp=>?_)<;>(try simp only[aq,aP,cj,Bool.not_eq_true',Bool.not_eq_false',Decidable.not_not,Int.not_lt,Int.not_le] at hp)))
    |((with_reducible show aY _ _ _ _);refine nK ?_)
    |((with_reducible show aB _ _ _ _);refine dK ?_)
    |((with_reducible show aH _ a8 _ _ _);refine aH.mk iH (aG _) eH (az hyH) ?_)
    |((with_reducible show aH _ a8 _ _ _);(obtain⟨iH,y,eH,hyH,hnyH⟩:=n5 (l:=l) (n:=a8) (by omega));(obtain⟨b1,b2,b3,b4,b5,b6,b7,b8,b9,b10⟩:=y);refine aH.mk iH (aG _) eH (az hyH) ?_)
    |((with_reducible show aH _ a9 _ _ _);refine aH.mk iU (aG _) eU (az hyU) ?_)
    |((with_reducible show aH _ a9 _ _ _);(obtain⟨iU,y,eU,hyU,hnyU⟩:=n5 (l:=l) (n:=a9) (by omega));(obtain⟨b1,b2,b3,b4,b5,b6,b7,b8,b9,b10⟩:=y);refine aH.mk iU (aG _) eU (az hyU) ?_)
    |((with_reducible refine kQ 98 ?_);refine cL h30 LV ?_)
    |((with_reducible refine kQ 151 ?_);refine cL h31 JA ?_)
    |((with_reducible refine kQ 152 ?_);refine cL h32 MM ?_)
    |((with_reducible refine kQ 153 ?_);refine cL h33 MA ?_))<;>(with_reducible ((conv=>whnf);(conv=>congr<;>reduce);repeat((first|refine bh.mk ?_|refine bf.mk ?_);(conv=>whnf);(conv=>congr<;>reduce))))
    | ((with_reducible show(_∧_)∧_∧_);refine⟨⟨rfl,rfl⟩,?_,?_⟩<;>with_reducible ((conv=>whnf)<;>repeat' (first|exact trivial|(refine And.intro ?_ ?_<;>(conv=>whnf))))))
      all_goals clear hok
      all_goals first
        | refine bad4 _ ?_
          (rw[Bool.eq_false_iff];intro h;(first|simp only[kK,gL,af,bg,dw,aP,ne_eq,←pV,hlk] at h|simp only[kK,gL,af,bg,dw,aP,ne_eq,←pV] at h);omega)
        | refine bad5 _ _ ?_
          (rw[Bool.eq_false_iff];intro h;by_cases e4:a1=4
           ·simp only[eL,if_pos e4,gL,af,bg,dw,aP,ne_eq] at h;(try simp only[hnyH] at h);(try simp only[hnyU] at h);omega
           ·simp only[eL,if_neg e4,gL,af,bg,dw,aP,ne_eq] at h;(try simp only[hnyH] at h);(try simp only[hnyU] at h);omega)
        | refine good6 ?_ ?_ _ ?_
          ·
            (simp only[kK,gL,af,bg,dw,aP,ne_eq,←pV,hlk];omega)
          ·
            (by_cases e4:a1=4
             ·simp only[eL,if_pos e4,gL,af,bg,dw,aP,ne_eq];(try simp only[hnyH]);(try simp only[hnyU]);omega
             ·simp only[eL,if_neg e4,gL,af,bg,dw,aP,ne_eq];(try simp only[hnyH]);(try simp only[hnyU]);omega)
          · clear bad4 bad5 good6 hK hs hx h29 h30 h31 h32 h33 hD hP
            first|(simp_all[tD];done)|(simp_all[tD];omega)
end Go.Proofs.Heir
