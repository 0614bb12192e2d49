/- Walks of functions by unfolding over abstract states; runs of functions by an evaluator that is proved. By an AI agent. -/
import Derived.Test.YtkhjcnjicjgfiaaGreatDoorW16
set_option linter.unusedSimpArgs false
set_option linter.unusedVariables false
namespace Go.Am
open Go
mutual
def Cy:AV→AV→Bool
  | .sl a r,y=>match y with
    | .sl b s=>match Nat.beq a b with
      |true=>zz r s
      |false=>false
    |_=>false
  | .agg r,y=>match y with
    |.agg s=>zz r s
    |_=>false
  | .lit a,y=>match y with
    |.lit b=>OU a b
    |_=>false
  | .own a b c,y=>match y with
    |.own d e f=>CP [a,b,c] [d,e,f]
    |_=>false
  |_,_=>false
def zz:List AV→List AV→Bool
  | [],y=>match y with
    |[]=>true
    |_=>false
  | x ::xs,y=>match y with
    | y::ys=>match Cy x y with
      |true=>zz xs ys
      |false=>false
    |_=>false
end
mutual
theorem Mb:∀ (a b:AV),Cy a b=true→a=b
  | .sl a r,b,h=>by
    unfold Cy at h
    split at h
    · split at h
      ·rename_i hb;rw[Nat.eq_of_beq_eq_true hb,oe _ _ h]
      ·cases h
    ·cases h
  | .agg r,b,h=>by
    unfold Cy at h
    split at h
    ·rw[oe _ _ h]
    ·cases h
  | .lit a,b,h=>by
    unfold Cy at h
    split at h
    ·rw[Mk h]
    ·cases h
  | .own a b c,y,h=>by
    unfold Cy at h
    split at h
    ·have:=zu h;simp at this;obtain⟨rfl,rfl,rfl⟩:=this;rfl
    ·cases h
  |.any,_,h=>by simp[Cy] at h
  |.emp,_,h=>by simp[Cy] at h
  |.ptr _ _ _,_,h=>by simp[Cy] at h
  |.fptr _ _,_,h=>by simp[Cy] at h
  |.mapr _,_,h=>by simp[Cy] at h
  |.fmap _,_,h=>by simp[Cy] at h
  |.tup _,_,h=>by simp[Cy] at h
  |.clo _ _ _,_,h=>by simp[Cy] at h
  |.guess _ _,_,h=>by simp[Cy] at h
theorem oe:∀ (a b:List AV),zz a b=true→a=b
  | [],b,h=>by
    unfold zz at h
    split at h
    ·rfl
    ·cases h
  | x ::xs,b,h=>by
    unfold zz at h
    split at h
    · split at h
      ·rename_i hx;rw[Mb _ _ hx,oe _ _ h]
      ·cases h
    ·cases h
end
def LX:MS→MS→Bool
  | .live a r x,.live b s y=>match Nat.beq a b with
    | true=>match x,y with
      |true,true=>zz r s
      |false,false=>zz r s
      |_,_=>false
    |false=>false
  |.dead,.dead=>true
  |_,_=>false
theorem JV {a b:MS}(h:LX a b=true):a=b:=by
  unfold LX at h
  split at h
  · split at h
    · rename_i hb
      split at h
      ·rw[Nat.eq_of_beq_eq_true hb,oe _ _ h]
      ·rw[Nat.eq_of_beq_eq_true hb,oe _ _ h]
      ·cases h
    ·cases h
  ·rfl
  ·cases h
def D2:List MS→List MS→Bool
  |[],[]=>true
  | x::xs,y::ys=>match LX x y with
    |true=>D2 xs ys
    |false=>false
  |_,_=>false
theorem Bs:∀ {a b:List MS},D2 a b=true→a=b
  |[],[],_=>rfl
  | x::xs,y::ys,h=>by
    simp only[D2] at h
    split at h
    ·rename_i hb;rw[JV hb,Bs h]
    ·cases h
  |[],_::_,h=>by cases h
  |_::_,[],h=>by cases h
def EW (orc:iI):List qX→iI
  |[]=>orc
  | r :: rest=>fun g ins args=>match Nat.beq r.g g with
    | true=>match zz r.args args with
      | true=>match D2 r.ins ins with
        |true=>some (r.outs,r.res)
        |false=>EW orc rest g ins args
      |false=>EW orc rest g ins args
    |false=>EW orc rest g ins args
theorem DQ {P:Program}{orc:iI}(ho:jK P orc):∀ {l:List qX},(∀r∈l,r.OK P)→jK P (EW orc l)
  |[],_=>ho
  | r :: rest,h=>by
    intro g ins args outs res hq
    have ih:=DQ ho (l:=rest) (fun x hx=>h x (dQ _ hx))
    simp only[EW] at hq
    split at hq
    · rename_i h1
      split at hq
      · rename_i h3
        split at hq
        · rename_i h2
          cases hq
          have h0:=h r (eS ..)
          unfold qX.OK at h0
          rw[Nat.eq_of_beq_eq_true h1,Bs h2,oe _ _ h3] at h0
          exact h0
        ·exact ih _ _ _ _ _ hq
      ·exact ih _ _ _ _ _ hq
    ·exact ih _ _ _ _ _ hq
def kr.Ih (E:kr)(l:List qX):kr:=⟨E.Γ,E.Δ,E.fns,E.kinds,EW E.orc l,E.ifs⟩
theorem kr.vN {P:Program}{E:kr}(hE:E.Good P){l:List qX}(h:∀r∈l,r.OK P):(E.Ih l).Good P:=⟨hE.Γ,hE.Δ,hE.fns,hE.kinds,DQ (fun _ _ _ _ _ h=>hE.orc _ _ _ _ _ h) h,hE.orders,hE.ifs⟩
end Go.Am
