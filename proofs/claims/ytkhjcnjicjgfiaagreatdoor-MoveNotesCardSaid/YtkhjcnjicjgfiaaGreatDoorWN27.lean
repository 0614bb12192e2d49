/- Walks of functions by unfolding over abstract states; runs of functions by an evaluator that is proved. By an AI agent. -/
import Derived.Test.YtkhjcnjicjgfiaaGreatDoorWN25
set_option linter.unusedSimpArgs false
set_option linter.unusedVariables false
namespace Go.Am
open Go
section
variable {P : Program}
@[reducible] def Gd (P : Program) (N nL : Nat) (b : Code) (Q : Exit → SL → ML → Prop) : Exit → SL → ML → Prop := fun e sl m => match e with
  |.normal=>bX P N nL sl m (c:=b) (Q:=Q)
  |e=>Q e sl m
theorem Gd.ok {N nL:Nat}{Γ:cQ}(hΓ:Γ.Good P){a b:Code}{sl:SL}{m:ML}{Q:Exit→SL→ML→Prop}(h:tI P N nL Γ a sl m (Gd P N nL b Q)):ga P N nL (.seq a b) (Kh Q) (St sl m):=by
  refine ga.seq ((mN hΓ _ _ _ _ h).mono ?_)
  rintro e σ ⟨sl',m',rfl,h'⟩
  cases e with
  |normal=>exact h'
  |_=>exact⟨sl',m',rfl,h'⟩
theorem bX.run {N nL:Nat}{sl:SL}{m:ML}{c:Code}{Q:Exit→SL→ML→Prop}(Γ:cQ)(hΓ:Γ.Good P)(h:tI P N nL Γ c sl m Q):bX P N nL sl m (c:=c) (Q:=Q):=mN hΓ _ _ _ _ h
end
end Go.Am
