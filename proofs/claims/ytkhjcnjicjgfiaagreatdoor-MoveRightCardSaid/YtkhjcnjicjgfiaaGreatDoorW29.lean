/- Walks of functions by unfolding over abstract states; runs of functions by an evaluator that is proved. By an AI agent. -/
import Derived.Test.YtkhjcnjicjgfiaaGreatDoorW27
set_option linter.unusedSimpArgs false
set_option linter.unusedVariables false
namespace Go.Am
open Go
section
variable {P : Program}
@[reducible] def D9 (P : Program) (N nL : Nat) (b : Code) (Q : Exit → SL → ML → Prop) : Exit → SL → ML → Prop := fun e sl m => match e with
  |.normal=>bE P N nL sl m (c:=b) (Q:=Q)
  |e=>Q e sl m
theorem D9.ok {N nL:Nat}{Γ:cR}(hΓ:Γ.Good P){a b:Code}{sl:SL}{m:ML}{Q:Exit→SL→ML→Prop}(h:tP P N nL Γ a sl m (D9 P N nL b Q)):gg P N nL (.seq a b) (Ln Q) (St sl m):=by
  refine gg.seq ((mQ hΓ _ _ _ _ h).mono ?_)
  rintro e σ ⟨sl',m',rfl,h'⟩
  cases e with
  |normal=>exact h'
  |_=>exact⟨sl',m',rfl,h'⟩
theorem bE.run {N nL:Nat}{sl:SL}{m:ML}{c:Code}{Q:Exit→SL→ML→Prop}(Γ:cR)(hΓ:Γ.Good P)(h:tP P N nL Γ c sl m Q):bE P N nL sl m (c:=c) (Q:=Q):=mQ hΓ _ _ _ _ h
end
end Go.Am
