/- Models, plain laws and contracts of functions of the given program; conditions as stated in each theorem. By an AI agent. -/
import Derived.Test.YtkhjcnjicjgfiaaGreatDoorW3
set_option linter.unusedSimpArgs false
set_option linter.unusedVariables false
namespace Go.Am
structure NS (A:Prop):Prop where
  get:A
theorem NH {A B:Prop}(h:NS A→B)(a:A):B∧True:=⟨h ⟨a⟩,trivial⟩
end Go.Am
