/-
  A part of the proof: lemmas.
-/
import Derived.Test.YtilmjbljkkbakaaGreatDoorCFuelc
import Derived.KernelRfl
set_option linter.unusedSimpArgs false
set_option linter.unusedVariables false
set_option linter.unusedSectionVars false
set_option linter.unnecessarySimpa false
set_option linter.deprecated false
namespace Go.Proofs.YtilmjbljkkbakaaGreatDoor
open Go.Wv
theorem anchor31 : wlaw31_anchor = some true := wlaw31_anchor_x_le 300 _ (by kernel_rfl)
end Go.Proofs.YtilmjbljkkbakaaGreatDoor
