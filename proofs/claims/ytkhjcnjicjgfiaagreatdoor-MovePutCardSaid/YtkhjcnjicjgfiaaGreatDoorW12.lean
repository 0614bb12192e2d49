/- Walks of functions by unfolding over abstract states; runs of functions by an evaluator that is proved. By an AI agent. -/
import Derived.Test.YtkhjcnjicjgfiaaGreatDoorW10
set_option linter.unusedSimpArgs false
set_option linter.unusedVariables false
namespace Go.Am
open Go
section
variable {P : Program}
@[reducible] def IY (P : Program) (N nL : Nat) (b : Code) (Q : Exit → SL → ML → Prop) : Exit → SL → ML → Prop := fun e sl m => match e with
  |.normal=>bW P N nL sl m (c:=b) (Q:=Q)
  |e=>Q e sl m
theorem IY.ok {N nL:Nat}{Γ:ct}(hΓ:Γ.Good P){a b:Code}{sl:SL}{m:ML}{Q:Exit→SL→ML→Prop}(h:vL P N nL Γ a sl m (IY P N nL b Q)):fj P N nL (.seq a b) (N0 Q) (St sl m):=by
  refine fj.seq ((nP hΓ _ _ _ _ h).mono ?_)
  rintro e σ ⟨sl',m',rfl,h'⟩
  cases e with
  |normal=>exact h'
  |_=>exact⟨sl',m',rfl,h'⟩
theorem bW.run {N nL:Nat}{sl:SL}{m:ML}{c:Code}{Q:Exit→SL→ML→Prop}(Γ:ct)(hΓ:Γ.Good P)(h:vL P N nL Γ c sl m Q):bW P N nL sl m (c:=c) (Q:=Q):=nP hΓ _ _ _ _ h
end
end Go.Am
