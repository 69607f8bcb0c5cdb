/-
  A part of the proof: lemmas.
-/
import Derived.Test.YtilmjbljkkbakaaDoorFuelc
import Derived.KernelRfl
set_option linter.unusedSimpArgs false
set_option linter.unusedVariables false
set_option linter.unusedSectionVars false
set_option linter.unnecessarySimpa false
set_option linter.deprecated false
namespace Go.Proofs.YtilmjbljkkbakaaDoor
open Go.Wv
theorem anchor06 : wlaw06_anchor = some true := wlaw06_anchor_x_le 300 _ (by kernel_rfl)
end Go.Proofs.YtilmjbljkkbakaaDoor
