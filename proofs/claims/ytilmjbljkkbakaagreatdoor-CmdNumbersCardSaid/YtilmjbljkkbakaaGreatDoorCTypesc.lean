/-
  A part of the proof: lemmas.
-/
import Derived.Attr
import Derived.Test.YtilmjbljkkbakaaGreatDoorV2
import Derived.Test.YtilmjbljkkbakaaGreatDoorProg
import Derived.KernelRfl
set_option linter.unusedSimpArgs false
set_option linter.unusedVariables false
set_option linter.unusedSectionVars false
set_option linter.unnecessarySimpa false
set_option linter.deprecated false
namespace Go.Proofs.YtilmjbljkkbakaaGreatDoor
open Go.Wv
@[go_sem] theorem szT_1 : szT Go.Proofs.Tryz.prog 1 = 1 := by kernel_rfl
@[go_sem] theorem aggT_1 : aggT Go.Proofs.Tryz.prog 1 = some false := by kernel_rfl
@[go_sem] theorem elemT_1 : elemT Go.Proofs.Tryz.prog 1 = none := by kernel_rfl
@[go_sem] theorem arrT_1 : arrT Go.Proofs.Tryz.prog 1 = none := by kernel_rfl
@[go_sem] theorem byT_1 : byT Go.Proofs.Tryz.prog 1 = 8 := by kernel_rfl
@[go_sem] theorem strT_1 : strT Go.Proofs.Tryz.prog 1 = false := by kernel_rfl
@[go_sem] theorem boolT_1 : boolT Go.Proofs.Tryz.prog 1 = false := by kernel_rfl
@[go_sem] theorem intT_1 : intT Go.Proofs.Tryz.prog 1 = none := by kernel_rfl
@[go_sem] theorem zOk_1 : zOk Go.Proofs.Tryz.prog 1 = true := by kernel_rfl
@[go_sem] theorem zeroT_1 : zeroT Go.Proofs.Tryz.prog 1 = some (.lit .nilFunc) := by kernel_rfl
@[go_sem] theorem szT_2 : szT Go.Proofs.Tryz.prog 2 = 1 := by kernel_rfl
@[go_sem] theorem aggT_2 : aggT Go.Proofs.Tryz.prog 2 = some false := by kernel_rfl
@[go_sem] theorem elemT_2 : elemT Go.Proofs.Tryz.prog 2 = none := by kernel_rfl
@[go_sem] theorem arrT_2 : arrT Go.Proofs.Tryz.prog 2 = none := by kernel_rfl
@[go_sem] theorem byT_2 : byT Go.Proofs.Tryz.prog 2 = 8 := by kernel_rfl
@[go_sem] theorem strT_2 : strT Go.Proofs.Tryz.prog 2 = false := by kernel_rfl
@[go_sem] theorem boolT_2 : boolT Go.Proofs.Tryz.prog 2 = false := by kernel_rfl
@[go_sem] theorem intT_2 : intT Go.Proofs.Tryz.prog 2 = some .i64 := by kernel_rfl
@[go_sem] theorem zOk_2 : zOk Go.Proofs.Tryz.prog 2 = true := by kernel_rfl
@[go_sem] theorem zeroT_2 : zeroT Go.Proofs.Tryz.prog 2 = some (.lit (.int .i64 0)) := by kernel_rfl
@[go_sem] theorem szT_3 : szT Go.Proofs.Tryz.prog 3 = 1 := by kernel_rfl
@[go_sem] theorem aggT_3 : aggT Go.Proofs.Tryz.prog 3 = some false := by kernel_rfl
@[go_sem] theorem elemT_3 : elemT Go.Proofs.Tryz.prog 3 = none := by kernel_rfl
@[go_sem] theorem arrT_3 : arrT Go.Proofs.Tryz.prog 3 = none := by kernel_rfl
@[go_sem] theorem byT_3 : byT Go.Proofs.Tryz.prog 3 = 8 := by kernel_rfl
@[go_sem] theorem strT_3 : strT Go.Proofs.Tryz.prog 3 = false := by kernel_rfl
@[go_sem] theorem boolT_3 : boolT Go.Proofs.Tryz.prog 3 = false := by kernel_rfl
@[go_sem] theorem intT_3 : intT Go.Proofs.Tryz.prog 3 = some .i64 := by kernel_rfl
@[go_sem] theorem zOk_3 : zOk Go.Proofs.Tryz.prog 3 = true := by kernel_rfl
@[go_sem] theorem zeroT_3 : zeroT Go.Proofs.Tryz.prog 3 = some (.lit (.int .i64 0)) := by kernel_rfl
@[go_sem] theorem szT_4 : szT Go.Proofs.Tryz.prog 4 = 1 := by kernel_rfl
@[go_sem] theorem aggT_4 : aggT Go.Proofs.Tryz.prog 4 = some false := by kernel_rfl
@[go_sem] theorem elemT_4 : elemT Go.Proofs.Tryz.prog 4 = none := by kernel_rfl
@[go_sem] theorem arrT_4 : arrT Go.Proofs.Tryz.prog 4 = none := by kernel_rfl
@[go_sem] theorem byT_4 : byT Go.Proofs.Tryz.prog 4 = 1 := by kernel_rfl
@[go_sem] theorem strT_4 : strT Go.Proofs.Tryz.prog 4 = false := by kernel_rfl
@[go_sem] theorem boolT_4 : boolT Go.Proofs.Tryz.prog 4 = true := by kernel_rfl
@[go_sem] theorem intT_4 : intT Go.Proofs.Tryz.prog 4 = none := by kernel_rfl
@[go_sem] theorem zOk_4 : zOk Go.Proofs.Tryz.prog 4 = true := by kernel_rfl
@[go_sem] theorem zeroT_4 : zeroT Go.Proofs.Tryz.prog 4 = some (.lit (.bool false)) := by kernel_rfl
@[go_sem] theorem szT_5 : szT Go.Proofs.Tryz.prog 5 = 1 := by kernel_rfl
@[go_sem] theorem aggT_5 : aggT Go.Proofs.Tryz.prog 5 = some false := by kernel_rfl
@[go_sem] theorem elemT_5 : elemT Go.Proofs.Tryz.prog 5 = none := by kernel_rfl
@[go_sem] theorem arrT_5 : arrT Go.Proofs.Tryz.prog 5 = none := by kernel_rfl
@[go_sem] theorem byT_5 : byT Go.Proofs.Tryz.prog 5 = 1 := by kernel_rfl
@[go_sem] theorem strT_5 : strT Go.Proofs.Tryz.prog 5 = false := by kernel_rfl
@[go_sem] theorem boolT_5 : boolT Go.Proofs.Tryz.prog 5 = false := by kernel_rfl
@[go_sem] theorem intT_5 : intT Go.Proofs.Tryz.prog 5 = some .u8 := by kernel_rfl
@[go_sem] theorem zOk_5 : zOk Go.Proofs.Tryz.prog 5 = true := by kernel_rfl
@[go_sem] theorem zeroT_5 : zeroT Go.Proofs.Tryz.prog 5 = some (.lit (.int .u8 0)) := by kernel_rfl
@[go_sem] theorem szT_6 : szT Go.Proofs.Tryz.prog 6 = 1 := by kernel_rfl
@[go_sem] theorem aggT_6 : aggT Go.Proofs.Tryz.prog 6 = some false := by kernel_rfl
@[go_sem] theorem elemT_6 : elemT Go.Proofs.Tryz.prog 6 = none := by kernel_rfl
@[go_sem] theorem arrT_6 : arrT Go.Proofs.Tryz.prog 6 = none := by kernel_rfl
@[go_sem] theorem byT_6 : byT Go.Proofs.Tryz.prog 6 = 1 := by kernel_rfl
@[go_sem] theorem strT_6 : strT Go.Proofs.Tryz.prog 6 = false := by kernel_rfl
@[go_sem] theorem boolT_6 : boolT Go.Proofs.Tryz.prog 6 = false := by kernel_rfl
@[go_sem] theorem intT_6 : intT Go.Proofs.Tryz.prog 6 = some .u8 := by kernel_rfl
@[go_sem] theorem zOk_6 : zOk Go.Proofs.Tryz.prog 6 = true := by kernel_rfl
@[go_sem] theorem zeroT_6 : zeroT Go.Proofs.Tryz.prog 6 = some (.lit (.int .u8 0)) := by kernel_rfl
@[go_sem] theorem szT_7 : szT Go.Proofs.Tryz.prog 7 = 4 := by kernel_rfl
@[go_sem] theorem aggT_7 : aggT Go.Proofs.Tryz.prog 7 = some true := by kernel_rfl
@[go_sem] theorem fldT_7_0 : fldT Go.Proofs.Tryz.prog 7 0 = some (0, 1) := by kernel_rfl
@[go_sem] theorem fldT_7_1 : fldT Go.Proofs.Tryz.prog 7 1 = some (1, 1) := by kernel_rfl
@[go_sem] theorem fldT_7_2 : fldT Go.Proofs.Tryz.prog 7 2 = some (2, 1) := by kernel_rfl
@[go_sem] theorem fldT_7_3 : fldT Go.Proofs.Tryz.prog 7 3 = some (3, 1) := by kernel_rfl
@[go_sem] theorem elemT_7 : elemT Go.Proofs.Tryz.prog 7 = none := by kernel_rfl
@[go_sem] theorem arrT_7 : arrT Go.Proofs.Tryz.prog 7 = none := by kernel_rfl
@[go_sem] theorem byT_7 : byT Go.Proofs.Tryz.prog 7 = 24 := by kernel_rfl
@[go_sem] theorem strT_7 : strT Go.Proofs.Tryz.prog 7 = false := by kernel_rfl
@[go_sem] theorem fldsT_7 : fldsT Go.Proofs.Tryz.prog 7 = true := by kernel_rfl
@[go_sem] theorem boolT_7 : boolT Go.Proofs.Tryz.prog 7 = false := by kernel_rfl
@[go_sem] theorem intT_7 : intT Go.Proofs.Tryz.prog 7 = none := by kernel_rfl
@[go_sem] theorem zOk_7 : zOk Go.Proofs.Tryz.prog 7 = true := by kernel_rfl
@[go_sem] theorem zeroT_7 : zeroT Go.Proofs.Tryz.prog 7 = some (.agg [.lit (.int .i64 0), .lit (.int .i64 0), .lit (.bool false), .lit (.int .u8 0)]) := by kernel_rfl
@[go_sem] theorem szT_8 : szT Go.Proofs.Tryz.prog 8 = 4 := by kernel_rfl
@[go_sem] theorem aggT_8 : aggT Go.Proofs.Tryz.prog 8 = some true := by kernel_rfl
@[go_sem] theorem fldT_8_0 : fldT Go.Proofs.Tryz.prog 8 0 = some (0, 1) := by kernel_rfl
@[go_sem] theorem fldT_8_1 : fldT Go.Proofs.Tryz.prog 8 1 = some (1, 1) := by kernel_rfl
@[go_sem] theorem fldT_8_2 : fldT Go.Proofs.Tryz.prog 8 2 = some (2, 1) := by kernel_rfl
@[go_sem] theorem fldT_8_3 : fldT Go.Proofs.Tryz.prog 8 3 = some (3, 1) := by kernel_rfl
@[go_sem] theorem elemT_8 : elemT Go.Proofs.Tryz.prog 8 = none := by kernel_rfl
@[go_sem] theorem arrT_8 : arrT Go.Proofs.Tryz.prog 8 = none := by kernel_rfl
@[go_sem] theorem byT_8 : byT Go.Proofs.Tryz.prog 8 = 24 := by kernel_rfl
@[go_sem] theorem strT_8 : strT Go.Proofs.Tryz.prog 8 = false := by kernel_rfl
@[go_sem] theorem fldsT_8 : fldsT Go.Proofs.Tryz.prog 8 = true := by kernel_rfl
@[go_sem] theorem boolT_8 : boolT Go.Proofs.Tryz.prog 8 = false := by kernel_rfl
@[go_sem] theorem intT_8 : intT Go.Proofs.Tryz.prog 8 = none := by kernel_rfl
@[go_sem] theorem zOk_8 : zOk Go.Proofs.Tryz.prog 8 = true := by kernel_rfl
@[go_sem] theorem zeroT_8 : zeroT Go.Proofs.Tryz.prog 8 = some (.agg [.lit (.int .i64 0), .lit (.int .i64 0), .lit (.bool false), .lit (.int .u8 0)]) := by kernel_rfl
@[go_sem] theorem szT_9 : szT Go.Proofs.Tryz.prog 9 = 1 := by kernel_rfl
@[go_sem] theorem aggT_9 : aggT Go.Proofs.Tryz.prog 9 = some false := by kernel_rfl
@[go_sem] theorem elemT_9 : elemT Go.Proofs.Tryz.prog 9 = none := by kernel_rfl
@[go_sem] theorem arrT_9 : arrT Go.Proofs.Tryz.prog 9 = none := by kernel_rfl
@[go_sem] theorem byT_9 : byT Go.Proofs.Tryz.prog 9 = 16 := by kernel_rfl
@[go_sem] theorem strT_9 : strT Go.Proofs.Tryz.prog 9 = true := by kernel_rfl
@[go_sem] theorem boolT_9 : boolT Go.Proofs.Tryz.prog 9 = false := by kernel_rfl
@[go_sem] theorem intT_9 : intT Go.Proofs.Tryz.prog 9 = none := by kernel_rfl
@[go_sem] theorem zOk_9 : zOk Go.Proofs.Tryz.prog 9 = true := by kernel_rfl
@[go_sem] theorem zeroT_9 : zeroT Go.Proofs.Tryz.prog 9 = some (.lit (.string ⟨#[]⟩)) := by kernel_rfl
@[go_sem] theorem szT_10 : szT Go.Proofs.Tryz.prog 10 = 1 := by kernel_rfl
@[go_sem] theorem aggT_10 : aggT Go.Proofs.Tryz.prog 10 = some false := by kernel_rfl
@[go_sem] theorem elemT_10 : elemT Go.Proofs.Tryz.prog 10 = none := by kernel_rfl
@[go_sem] theorem arrT_10 : arrT Go.Proofs.Tryz.prog 10 = none := by kernel_rfl
@[go_sem] theorem byT_10 : byT Go.Proofs.Tryz.prog 10 = 16 := by kernel_rfl
@[go_sem] theorem strT_10 : strT Go.Proofs.Tryz.prog 10 = true := by kernel_rfl
@[go_sem] theorem boolT_10 : boolT Go.Proofs.Tryz.prog 10 = false := by kernel_rfl
@[go_sem] theorem intT_10 : intT Go.Proofs.Tryz.prog 10 = none := by kernel_rfl
@[go_sem] theorem zOk_10 : zOk Go.Proofs.Tryz.prog 10 = true := by kernel_rfl
@[go_sem] theorem zeroT_10 : zeroT Go.Proofs.Tryz.prog 10 = some (.lit (.string ⟨#[]⟩)) := by kernel_rfl
@[go_sem] theorem szT_11 : szT Go.Proofs.Tryz.prog 11 = 1 := by kernel_rfl
@[go_sem] theorem aggT_11 : aggT Go.Proofs.Tryz.prog 11 = some false := by kernel_rfl
@[go_sem] theorem elemT_11 : elemT Go.Proofs.Tryz.prog 11 = none := by kernel_rfl
@[go_sem] theorem arrT_11 : arrT Go.Proofs.Tryz.prog 11 = none := by kernel_rfl
@[go_sem] theorem byT_11 : byT Go.Proofs.Tryz.prog 11 = 16 := by kernel_rfl
@[go_sem] theorem strT_11 : strT Go.Proofs.Tryz.prog 11 = true := by kernel_rfl
@[go_sem] theorem boolT_11 : boolT Go.Proofs.Tryz.prog 11 = false := by kernel_rfl
@[go_sem] theorem intT_11 : intT Go.Proofs.Tryz.prog 11 = none := by kernel_rfl
@[go_sem] theorem zOk_11 : zOk Go.Proofs.Tryz.prog 11 = true := by kernel_rfl
@[go_sem] theorem zeroT_11 : zeroT Go.Proofs.Tryz.prog 11 = some (.lit (.string ⟨#[]⟩)) := by kernel_rfl
@[go_sem] theorem szT_12 : szT Go.Proofs.Tryz.prog 12 = 1 := by kernel_rfl
@[go_sem] theorem aggT_12 : aggT Go.Proofs.Tryz.prog 12 = some false := by kernel_rfl
@[go_sem] theorem elemT_12 : elemT Go.Proofs.Tryz.prog 12 = none := by kernel_rfl
@[go_sem] theorem arrT_12 : arrT Go.Proofs.Tryz.prog 12 = none := by kernel_rfl
@[go_sem] theorem byT_12 : byT Go.Proofs.Tryz.prog 12 = 8 := by kernel_rfl
@[go_sem] theorem strT_12 : strT Go.Proofs.Tryz.prog 12 = false := by kernel_rfl
@[go_sem] theorem boolT_12 : boolT Go.Proofs.Tryz.prog 12 = false := by kernel_rfl
@[go_sem] theorem intT_12 : intT Go.Proofs.Tryz.prog 12 = some .u64 := by kernel_rfl
@[go_sem] theorem zOk_12 : zOk Go.Proofs.Tryz.prog 12 = true := by kernel_rfl
@[go_sem] theorem zeroT_12 : zeroT Go.Proofs.Tryz.prog 12 = some (.lit (.int .u64 0)) := by kernel_rfl
@[go_sem] theorem szT_13 : szT Go.Proofs.Tryz.prog 13 = 2 := by kernel_rfl
@[go_sem] theorem aggT_13 : aggT Go.Proofs.Tryz.prog 13 = some true := by kernel_rfl
@[go_sem] theorem fldT_13_0 : fldT Go.Proofs.Tryz.prog 13 0 = some (0, 1) := by kernel_rfl
@[go_sem] theorem fldT_13_1 : fldT Go.Proofs.Tryz.prog 13 1 = some (1, 1) := by kernel_rfl
@[go_sem] theorem elemT_13 : elemT Go.Proofs.Tryz.prog 13 = none := by kernel_rfl
@[go_sem] theorem arrT_13 : arrT Go.Proofs.Tryz.prog 13 = none := by kernel_rfl
@[go_sem] theorem byT_13 : byT Go.Proofs.Tryz.prog 13 = 24 := by kernel_rfl
@[go_sem] theorem strT_13 : strT Go.Proofs.Tryz.prog 13 = false := by kernel_rfl
@[go_sem] theorem fldsT_13 : fldsT Go.Proofs.Tryz.prog 13 = true := by kernel_rfl
@[go_sem] theorem boolT_13 : boolT Go.Proofs.Tryz.prog 13 = false := by kernel_rfl
@[go_sem] theorem intT_13 : intT Go.Proofs.Tryz.prog 13 = none := by kernel_rfl
@[go_sem] theorem zOk_13 : zOk Go.Proofs.Tryz.prog 13 = true := by kernel_rfl
@[go_sem] theorem zeroT_13 : zeroT Go.Proofs.Tryz.prog 13 = some (.agg [.lit (.string ⟨#[]⟩), .lit (.int .u64 0)]) := by kernel_rfl
@[go_sem] theorem szT_14 : szT Go.Proofs.Tryz.prog 14 = 2 := by kernel_rfl
@[go_sem] theorem aggT_14 : aggT Go.Proofs.Tryz.prog 14 = some true := by kernel_rfl
@[go_sem] theorem fldT_14_0 : fldT Go.Proofs.Tryz.prog 14 0 = some (0, 1) := by kernel_rfl
@[go_sem] theorem fldT_14_1 : fldT Go.Proofs.Tryz.prog 14 1 = some (1, 1) := by kernel_rfl
@[go_sem] theorem elemT_14 : elemT Go.Proofs.Tryz.prog 14 = none := by kernel_rfl
@[go_sem] theorem arrT_14 : arrT Go.Proofs.Tryz.prog 14 = none := by kernel_rfl
@[go_sem] theorem byT_14 : byT Go.Proofs.Tryz.prog 14 = 24 := by kernel_rfl
@[go_sem] theorem strT_14 : strT Go.Proofs.Tryz.prog 14 = false := by kernel_rfl
@[go_sem] theorem fldsT_14 : fldsT Go.Proofs.Tryz.prog 14 = true := by kernel_rfl
@[go_sem] theorem boolT_14 : boolT Go.Proofs.Tryz.prog 14 = false := by kernel_rfl
@[go_sem] theorem intT_14 : intT Go.Proofs.Tryz.prog 14 = none := by kernel_rfl
@[go_sem] theorem zOk_14 : zOk Go.Proofs.Tryz.prog 14 = true := by kernel_rfl
@[go_sem] theorem zeroT_14 : zeroT Go.Proofs.Tryz.prog 14 = some (.agg [.lit (.string ⟨#[]⟩), .lit (.int .u64 0)]) := by kernel_rfl
@[go_sem] theorem szT_15 : szT Go.Proofs.Tryz.prog 15 = 1 := by kernel_rfl
@[go_sem] theorem aggT_15 : aggT Go.Proofs.Tryz.prog 15 = some false := by kernel_rfl
@[go_sem] theorem elemT_15 : elemT Go.Proofs.Tryz.prog 15 = none := by kernel_rfl
@[go_sem] theorem arrT_15 : arrT Go.Proofs.Tryz.prog 15 = none := by kernel_rfl
@[go_sem] theorem byT_15 : byT Go.Proofs.Tryz.prog 15 = 8 := by kernel_rfl
@[go_sem] theorem strT_15 : strT Go.Proofs.Tryz.prog 15 = false := by kernel_rfl
@[go_sem] theorem boolT_15 : boolT Go.Proofs.Tryz.prog 15 = false := by kernel_rfl
@[go_sem] theorem intT_15 : intT Go.Proofs.Tryz.prog 15 = none := by kernel_rfl
@[go_sem] theorem zOk_15 : zOk Go.Proofs.Tryz.prog 15 = true := by kernel_rfl
@[go_sem] theorem zeroT_15 : zeroT Go.Proofs.Tryz.prog 15 = some (.lit (.pointer none)) := by kernel_rfl
@[go_sem] theorem szT_16 : szT Go.Proofs.Tryz.prog 16 = 1 := by kernel_rfl
@[go_sem] theorem aggT_16 : aggT Go.Proofs.Tryz.prog 16 = some false := by kernel_rfl
@[go_sem] theorem elemT_16 : elemT Go.Proofs.Tryz.prog 16 = none := by kernel_rfl
@[go_sem] theorem arrT_16 : arrT Go.Proofs.Tryz.prog 16 = none := by kernel_rfl
@[go_sem] theorem byT_16 : byT Go.Proofs.Tryz.prog 16 = 8 := by kernel_rfl
@[go_sem] theorem strT_16 : strT Go.Proofs.Tryz.prog 16 = false := by kernel_rfl
@[go_sem] theorem boolT_16 : boolT Go.Proofs.Tryz.prog 16 = false := by kernel_rfl
@[go_sem] theorem intT_16 : intT Go.Proofs.Tryz.prog 16 = none := by kernel_rfl
@[go_sem] theorem zOk_16 : zOk Go.Proofs.Tryz.prog 16 = true := by kernel_rfl
@[go_sem] theorem zeroT_16 : zeroT Go.Proofs.Tryz.prog 16 = some (.lit (.pointer none)) := by kernel_rfl
@[go_sem] theorem szT_17 : szT Go.Proofs.Tryz.prog 17 = 1 := by kernel_rfl
@[go_sem] theorem aggT_17 : aggT Go.Proofs.Tryz.prog 17 = some false := by kernel_rfl
@[go_sem] theorem elemT_17 : elemT Go.Proofs.Tryz.prog 17 = none := by kernel_rfl
@[go_sem] theorem arrT_17 : arrT Go.Proofs.Tryz.prog 17 = none := by kernel_rfl
@[go_sem] theorem byT_17 : byT Go.Proofs.Tryz.prog 17 = 8 := by kernel_rfl
@[go_sem] theorem strT_17 : strT Go.Proofs.Tryz.prog 17 = false := by kernel_rfl
@[go_sem] theorem boolT_17 : boolT Go.Proofs.Tryz.prog 17 = false := by kernel_rfl
@[go_sem] theorem intT_17 : intT Go.Proofs.Tryz.prog 17 = none := by kernel_rfl
@[go_sem] theorem zOk_17 : zOk Go.Proofs.Tryz.prog 17 = true := by kernel_rfl
@[go_sem] theorem zeroT_17 : zeroT Go.Proofs.Tryz.prog 17 = some (.lit (.pointer none)) := by kernel_rfl
@[go_sem] theorem szT_18 : szT Go.Proofs.Tryz.prog 18 = 1 := by kernel_rfl
@[go_sem] theorem aggT_18 : aggT Go.Proofs.Tryz.prog 18 = some true := by kernel_rfl
@[go_sem] theorem fldT_18_0 : fldT Go.Proofs.Tryz.prog 18 0 = some (0, 1) := by kernel_rfl
@[go_sem] theorem elemT_18 : elemT Go.Proofs.Tryz.prog 18 = none := by kernel_rfl
@[go_sem] theorem arrT_18 : arrT Go.Proofs.Tryz.prog 18 = none := by kernel_rfl
@[go_sem] theorem byT_18 : byT Go.Proofs.Tryz.prog 18 = 8 := by kernel_rfl
@[go_sem] theorem strT_18 : strT Go.Proofs.Tryz.prog 18 = false := by kernel_rfl
@[go_sem] theorem fldsT_18 : fldsT Go.Proofs.Tryz.prog 18 = true := by kernel_rfl
@[go_sem] theorem boolT_18 : boolT Go.Proofs.Tryz.prog 18 = false := by kernel_rfl
@[go_sem] theorem intT_18 : intT Go.Proofs.Tryz.prog 18 = none := by kernel_rfl
@[go_sem] theorem zOk_18 : zOk Go.Proofs.Tryz.prog 18 = true := by kernel_rfl
@[go_sem] theorem zeroT_18 : zeroT Go.Proofs.Tryz.prog 18 = some (.agg [.lit (.pointer none)]) := by kernel_rfl
@[go_sem] theorem szT_19 : szT Go.Proofs.Tryz.prog 19 = 1 := by kernel_rfl
@[go_sem] theorem aggT_19 : aggT Go.Proofs.Tryz.prog 19 = some true := by kernel_rfl
@[go_sem] theorem fldT_19_0 : fldT Go.Proofs.Tryz.prog 19 0 = some (0, 1) := by kernel_rfl
@[go_sem] theorem elemT_19 : elemT Go.Proofs.Tryz.prog 19 = none := by kernel_rfl
@[go_sem] theorem arrT_19 : arrT Go.Proofs.Tryz.prog 19 = none := by kernel_rfl
@[go_sem] theorem byT_19 : byT Go.Proofs.Tryz.prog 19 = 8 := by kernel_rfl
@[go_sem] theorem strT_19 : strT Go.Proofs.Tryz.prog 19 = false := by kernel_rfl
@[go_sem] theorem fldsT_19 : fldsT Go.Proofs.Tryz.prog 19 = true := by kernel_rfl
@[go_sem] theorem boolT_19 : boolT Go.Proofs.Tryz.prog 19 = false := by kernel_rfl
@[go_sem] theorem intT_19 : intT Go.Proofs.Tryz.prog 19 = none := by kernel_rfl
@[go_sem] theorem zOk_19 : zOk Go.Proofs.Tryz.prog 19 = true := by kernel_rfl
@[go_sem] theorem zeroT_19 : zeroT Go.Proofs.Tryz.prog 19 = some (.agg [.lit (.pointer none)]) := by kernel_rfl
@[go_sem] theorem szT_21 : szT Go.Proofs.Tryz.prog 21 = 1 := by kernel_rfl
@[go_sem] theorem aggT_21 : aggT Go.Proofs.Tryz.prog 21 = some false := by kernel_rfl
@[go_sem] theorem elemT_21 : elemT Go.Proofs.Tryz.prog 21 = none := by kernel_rfl
@[go_sem] theorem arrT_21 : arrT Go.Proofs.Tryz.prog 21 = none := by kernel_rfl
@[go_sem] theorem byT_21 : byT Go.Proofs.Tryz.prog 21 = 4 := by kernel_rfl
@[go_sem] theorem strT_21 : strT Go.Proofs.Tryz.prog 21 = false := by kernel_rfl
@[go_sem] theorem boolT_21 : boolT Go.Proofs.Tryz.prog 21 = false := by kernel_rfl
@[go_sem] theorem intT_21 : intT Go.Proofs.Tryz.prog 21 = some .i32 := by kernel_rfl
@[go_sem] theorem zOk_21 : zOk Go.Proofs.Tryz.prog 21 = true := by kernel_rfl
@[go_sem] theorem zeroT_21 : zeroT Go.Proofs.Tryz.prog 21 = some (.lit (.int .i32 0)) := by kernel_rfl
@[go_sem] theorem szT_22 : szT Go.Proofs.Tryz.prog 22 = 1 := by kernel_rfl
@[go_sem] theorem aggT_22 : aggT Go.Proofs.Tryz.prog 22 = some false := by kernel_rfl
@[go_sem] theorem elemT_22 : elemT Go.Proofs.Tryz.prog 22 = none := by kernel_rfl
@[go_sem] theorem arrT_22 : arrT Go.Proofs.Tryz.prog 22 = none := by kernel_rfl
@[go_sem] theorem byT_22 : byT Go.Proofs.Tryz.prog 22 = 8 := by kernel_rfl
@[go_sem] theorem strT_22 : strT Go.Proofs.Tryz.prog 22 = false := by kernel_rfl
@[go_sem] theorem boolT_22 : boolT Go.Proofs.Tryz.prog 22 = false := by kernel_rfl
@[go_sem] theorem intT_22 : intT Go.Proofs.Tryz.prog 22 = none := by kernel_rfl
@[go_sem] theorem zOk_22 : zOk Go.Proofs.Tryz.prog 22 = true := by kernel_rfl
@[go_sem] theorem zeroT_22 : zeroT Go.Proofs.Tryz.prog 22 = some (.lit .nilFunc) := by kernel_rfl
@[go_sem] theorem szT_23 : szT Go.Proofs.Tryz.prog 23 = 1 := by kernel_rfl
@[go_sem] theorem aggT_23 : aggT Go.Proofs.Tryz.prog 23 = some false := by kernel_rfl
@[go_sem] theorem elemT_23 : elemT Go.Proofs.Tryz.prog 23 = none := by kernel_rfl
@[go_sem] theorem arrT_23 : arrT Go.Proofs.Tryz.prog 23 = none := by kernel_rfl
@[go_sem] theorem byT_23 : byT Go.Proofs.Tryz.prog 23 = 8 := by kernel_rfl
@[go_sem] theorem strT_23 : strT Go.Proofs.Tryz.prog 23 = false := by kernel_rfl
@[go_sem] theorem boolT_23 : boolT Go.Proofs.Tryz.prog 23 = false := by kernel_rfl
@[go_sem] theorem intT_23 : intT Go.Proofs.Tryz.prog 23 = none := by kernel_rfl
@[go_sem] theorem zOk_23 : zOk Go.Proofs.Tryz.prog 23 = true := by kernel_rfl
@[go_sem] theorem zeroT_23 : zeroT Go.Proofs.Tryz.prog 23 = some (.lit .nilFunc) := by kernel_rfl
@[go_sem] theorem szT_24 : szT Go.Proofs.Tryz.prog 24 = 1 := by kernel_rfl
@[go_sem] theorem aggT_24 : aggT Go.Proofs.Tryz.prog 24 = some false := by kernel_rfl
@[go_sem] theorem elemT_24 : elemT Go.Proofs.Tryz.prog 24 = some 3 := by kernel_rfl
@[go_sem] theorem arrT_24 : arrT Go.Proofs.Tryz.prog 24 = none := by kernel_rfl
@[go_sem] theorem byT_24 : byT Go.Proofs.Tryz.prog 24 = 24 := by kernel_rfl
@[go_sem] theorem strT_24 : strT Go.Proofs.Tryz.prog 24 = false := by kernel_rfl
@[go_sem] theorem boolT_24 : boolT Go.Proofs.Tryz.prog 24 = false := by kernel_rfl
@[go_sem] theorem intT_24 : intT Go.Proofs.Tryz.prog 24 = none := by kernel_rfl
@[go_sem] theorem zOk_24 : zOk Go.Proofs.Tryz.prog 24 = true := by kernel_rfl
@[go_sem] theorem zeroT_24 : zeroT Go.Proofs.Tryz.prog 24 = some (.sl .own []) := by kernel_rfl
@[go_sem] theorem szT_25 : szT Go.Proofs.Tryz.prog 25 = 3 := by kernel_rfl
@[go_sem] theorem aggT_25 : aggT Go.Proofs.Tryz.prog 25 = some true := by kernel_rfl
@[go_sem] theorem fldT_25_0 : fldT Go.Proofs.Tryz.prog 25 0 = some (0, 1) := by kernel_rfl
@[go_sem] theorem fldT_25_1 : fldT Go.Proofs.Tryz.prog 25 1 = some (1, 1) := by kernel_rfl
@[go_sem] theorem fldT_25_2 : fldT Go.Proofs.Tryz.prog 25 2 = some (2, 1) := by kernel_rfl
@[go_sem] theorem elemT_25 : elemT Go.Proofs.Tryz.prog 25 = none := by kernel_rfl
@[go_sem] theorem arrT_25 : arrT Go.Proofs.Tryz.prog 25 = none := by kernel_rfl
@[go_sem] theorem byT_25 : byT Go.Proofs.Tryz.prog 25 = 32 := by kernel_rfl
@[go_sem] theorem strT_25 : strT Go.Proofs.Tryz.prog 25 = false := by kernel_rfl
@[go_sem] theorem fldsT_25 : fldsT Go.Proofs.Tryz.prog 25 = true := by kernel_rfl
@[go_sem] theorem boolT_25 : boolT Go.Proofs.Tryz.prog 25 = false := by kernel_rfl
@[go_sem] theorem eqT_25 : eqT Go.Proofs.Tryz.prog 25 = some [.int, .int, .str] := by kernel_rfl
@[go_sem] theorem intT_25 : intT Go.Proofs.Tryz.prog 25 = none := by kernel_rfl
@[go_sem] theorem zOk_25 : zOk Go.Proofs.Tryz.prog 25 = true := by kernel_rfl
@[go_sem] theorem zeroT_25 : zeroT Go.Proofs.Tryz.prog 25 = some (.agg [.lit (.int .i64 0), .lit (.int .i64 0), .lit (.string ⟨#[]⟩)]) := by kernel_rfl
@[go_sem] theorem szT_26 : szT Go.Proofs.Tryz.prog 26 = 3 := by kernel_rfl
@[go_sem] theorem aggT_26 : aggT Go.Proofs.Tryz.prog 26 = some true := by kernel_rfl
@[go_sem] theorem fldT_26_0 : fldT Go.Proofs.Tryz.prog 26 0 = some (0, 1) := by kernel_rfl
@[go_sem] theorem fldT_26_1 : fldT Go.Proofs.Tryz.prog 26 1 = some (1, 1) := by kernel_rfl
@[go_sem] theorem fldT_26_2 : fldT Go.Proofs.Tryz.prog 26 2 = some (2, 1) := by kernel_rfl
@[go_sem] theorem elemT_26 : elemT Go.Proofs.Tryz.prog 26 = none := by kernel_rfl
@[go_sem] theorem arrT_26 : arrT Go.Proofs.Tryz.prog 26 = none := by kernel_rfl
@[go_sem] theorem byT_26 : byT Go.Proofs.Tryz.prog 26 = 32 := by kernel_rfl
@[go_sem] theorem strT_26 : strT Go.Proofs.Tryz.prog 26 = false := by kernel_rfl
@[go_sem] theorem fldsT_26 : fldsT Go.Proofs.Tryz.prog 26 = true := by kernel_rfl
@[go_sem] theorem boolT_26 : boolT Go.Proofs.Tryz.prog 26 = false := by kernel_rfl
@[go_sem] theorem eqT_26 : eqT Go.Proofs.Tryz.prog 26 = some [.int, .int, .str] := by kernel_rfl
@[go_sem] theorem intT_26 : intT Go.Proofs.Tryz.prog 26 = none := by kernel_rfl
@[go_sem] theorem zOk_26 : zOk Go.Proofs.Tryz.prog 26 = true := by kernel_rfl
@[go_sem] theorem zeroT_26 : zeroT Go.Proofs.Tryz.prog 26 = some (.agg [.lit (.int .i64 0), .lit (.int .i64 0), .lit (.string ⟨#[]⟩)]) := by kernel_rfl
@[go_sem] theorem szT_28 : szT Go.Proofs.Tryz.prog 28 = 1 := by kernel_rfl
@[go_sem] theorem aggT_28 : aggT Go.Proofs.Tryz.prog 28 = some false := by kernel_rfl
@[go_sem] theorem elemT_28 : elemT Go.Proofs.Tryz.prog 28 = some 184 := by kernel_rfl
@[go_sem] theorem arrT_28 : arrT Go.Proofs.Tryz.prog 28 = none := by kernel_rfl
@[go_sem] theorem byT_28 : byT Go.Proofs.Tryz.prog 28 = 24 := by kernel_rfl
@[go_sem] theorem strT_28 : strT Go.Proofs.Tryz.prog 28 = false := by kernel_rfl
@[go_sem] theorem boolT_28 : boolT Go.Proofs.Tryz.prog 28 = false := by kernel_rfl
@[go_sem] theorem intT_28 : intT Go.Proofs.Tryz.prog 28 = none := by kernel_rfl
@[go_sem] theorem zOk_28 : zOk Go.Proofs.Tryz.prog 28 = true := by kernel_rfl
@[go_sem] theorem zeroT_28 : zeroT Go.Proofs.Tryz.prog 28 = some (.sl .own []) := by kernel_rfl
@[go_sem] theorem szT_29 : szT Go.Proofs.Tryz.prog 29 = 1 := by kernel_rfl
@[go_sem] theorem aggT_29 : aggT Go.Proofs.Tryz.prog 29 = some false := by kernel_rfl
@[go_sem] theorem elemT_29 : elemT Go.Proofs.Tryz.prog 29 = some 184 := by kernel_rfl
@[go_sem] theorem arrT_29 : arrT Go.Proofs.Tryz.prog 29 = none := by kernel_rfl
@[go_sem] theorem byT_29 : byT Go.Proofs.Tryz.prog 29 = 24 := by kernel_rfl
@[go_sem] theorem strT_29 : strT Go.Proofs.Tryz.prog 29 = false := by kernel_rfl
@[go_sem] theorem boolT_29 : boolT Go.Proofs.Tryz.prog 29 = false := by kernel_rfl
@[go_sem] theorem intT_29 : intT Go.Proofs.Tryz.prog 29 = none := by kernel_rfl
@[go_sem] theorem zOk_29 : zOk Go.Proofs.Tryz.prog 29 = true := by kernel_rfl
@[go_sem] theorem zeroT_29 : zeroT Go.Proofs.Tryz.prog 29 = some (.sl .own []) := by kernel_rfl
@[go_sem] theorem szT_30 : szT Go.Proofs.Tryz.prog 30 = 1 := by kernel_rfl
@[go_sem] theorem aggT_30 : aggT Go.Proofs.Tryz.prog 30 = some false := by kernel_rfl
@[go_sem] theorem elemT_30 : elemT Go.Proofs.Tryz.prog 30 = some 9 := by kernel_rfl
@[go_sem] theorem arrT_30 : arrT Go.Proofs.Tryz.prog 30 = none := by kernel_rfl
@[go_sem] theorem byT_30 : byT Go.Proofs.Tryz.prog 30 = 24 := by kernel_rfl
@[go_sem] theorem strT_30 : strT Go.Proofs.Tryz.prog 30 = false := by kernel_rfl
@[go_sem] theorem boolT_30 : boolT Go.Proofs.Tryz.prog 30 = false := by kernel_rfl
@[go_sem] theorem intT_30 : intT Go.Proofs.Tryz.prog 30 = none := by kernel_rfl
@[go_sem] theorem zOk_30 : zOk Go.Proofs.Tryz.prog 30 = true := by kernel_rfl
@[go_sem] theorem zeroT_30 : zeroT Go.Proofs.Tryz.prog 30 = some (.sl .own []) := by kernel_rfl
@[go_sem] theorem szT_35 : szT Go.Proofs.Tryz.prog 35 = 1 := by kernel_rfl
@[go_sem] theorem aggT_35 : aggT Go.Proofs.Tryz.prog 35 = some false := by kernel_rfl
@[go_sem] theorem elemT_35 : elemT Go.Proofs.Tryz.prog 35 = none := by kernel_rfl
@[go_sem] theorem arrT_35 : arrT Go.Proofs.Tryz.prog 35 = none := by kernel_rfl
@[go_sem] theorem byT_35 : byT Go.Proofs.Tryz.prog 35 = 8 := by kernel_rfl
@[go_sem] theorem strT_35 : strT Go.Proofs.Tryz.prog 35 = false := by kernel_rfl
@[go_sem] theorem boolT_35 : boolT Go.Proofs.Tryz.prog 35 = false := by kernel_rfl
@[go_sem] theorem intT_35 : intT Go.Proofs.Tryz.prog 35 = some .i64 := by kernel_rfl
@[go_sem] theorem zOk_35 : zOk Go.Proofs.Tryz.prog 35 = true := by kernel_rfl
@[go_sem] theorem zeroT_35 : zeroT Go.Proofs.Tryz.prog 35 = some (.lit (.int .i64 0)) := by kernel_rfl
@[go_sem] theorem szT_66 : szT Go.Proofs.Tryz.prog 66 = 5 := by kernel_rfl
@[go_sem] theorem aggT_66 : aggT Go.Proofs.Tryz.prog 66 = some true := by kernel_rfl
@[go_sem] theorem fldT_66_0 : fldT Go.Proofs.Tryz.prog 66 0 = some (0, 1) := by kernel_rfl
@[go_sem] theorem fldT_66_1 : fldT Go.Proofs.Tryz.prog 66 1 = some (1, 1) := by kernel_rfl
@[go_sem] theorem fldT_66_2 : fldT Go.Proofs.Tryz.prog 66 2 = some (2, 1) := by kernel_rfl
@[go_sem] theorem fldT_66_3 : fldT Go.Proofs.Tryz.prog 66 3 = some (3, 1) := by kernel_rfl
@[go_sem] theorem fldT_66_4 : fldT Go.Proofs.Tryz.prog 66 4 = some (4, 1) := by kernel_rfl
@[go_sem] theorem elemT_66 : elemT Go.Proofs.Tryz.prog 66 = none := by kernel_rfl
@[go_sem] theorem arrT_66 : arrT Go.Proofs.Tryz.prog 66 = none := by kernel_rfl
@[go_sem] theorem byT_66 : byT Go.Proofs.Tryz.prog 66 = 64 := by kernel_rfl
@[go_sem] theorem strT_66 : strT Go.Proofs.Tryz.prog 66 = false := by kernel_rfl
@[go_sem] theorem fldsT_66 : fldsT Go.Proofs.Tryz.prog 66 = true := by kernel_rfl
@[go_sem] theorem boolT_66 : boolT Go.Proofs.Tryz.prog 66 = false := by kernel_rfl
@[go_sem] theorem intT_66 : intT Go.Proofs.Tryz.prog 66 = none := by kernel_rfl
@[go_sem] theorem zOk_66 : zOk Go.Proofs.Tryz.prog 66 = true := by kernel_rfl
@[go_sem] theorem zeroT_66 : zeroT Go.Proofs.Tryz.prog 66 = some (.agg [.lit (.int .i64 0), .lit (.string ⟨#[]⟩), .lit (.int .i64 0), .sl .own [], .lit (.bool false)]) := by kernel_rfl
@[go_sem] theorem szT_67 : szT Go.Proofs.Tryz.prog 67 = 5 := by kernel_rfl
@[go_sem] theorem aggT_67 : aggT Go.Proofs.Tryz.prog 67 = some true := by kernel_rfl
@[go_sem] theorem fldT_67_0 : fldT Go.Proofs.Tryz.prog 67 0 = some (0, 1) := by kernel_rfl
@[go_sem] theorem fldT_67_1 : fldT Go.Proofs.Tryz.prog 67 1 = some (1, 1) := by kernel_rfl
@[go_sem] theorem fldT_67_2 : fldT Go.Proofs.Tryz.prog 67 2 = some (2, 1) := by kernel_rfl
@[go_sem] theorem fldT_67_3 : fldT Go.Proofs.Tryz.prog 67 3 = some (3, 1) := by kernel_rfl
@[go_sem] theorem fldT_67_4 : fldT Go.Proofs.Tryz.prog 67 4 = some (4, 1) := by kernel_rfl
@[go_sem] theorem elemT_67 : elemT Go.Proofs.Tryz.prog 67 = none := by kernel_rfl
@[go_sem] theorem arrT_67 : arrT Go.Proofs.Tryz.prog 67 = none := by kernel_rfl
@[go_sem] theorem byT_67 : byT Go.Proofs.Tryz.prog 67 = 64 := by kernel_rfl
@[go_sem] theorem strT_67 : strT Go.Proofs.Tryz.prog 67 = false := by kernel_rfl
@[go_sem] theorem fldsT_67 : fldsT Go.Proofs.Tryz.prog 67 = true := by kernel_rfl
@[go_sem] theorem boolT_67 : boolT Go.Proofs.Tryz.prog 67 = false := by kernel_rfl
@[go_sem] theorem intT_67 : intT Go.Proofs.Tryz.prog 67 = none := by kernel_rfl
@[go_sem] theorem zOk_67 : zOk Go.Proofs.Tryz.prog 67 = true := by kernel_rfl
@[go_sem] theorem zeroT_67 : zeroT Go.Proofs.Tryz.prog 67 = some (.agg [.lit (.int .i64 0), .lit (.string ⟨#[]⟩), .lit (.int .i64 0), .sl .own [], .lit (.bool false)]) := by kernel_rfl
@[go_sem] theorem szT_68 : szT Go.Proofs.Tryz.prog 68 = 9 := by kernel_rfl
@[go_sem] theorem aggT_68 : aggT Go.Proofs.Tryz.prog 68 = some true := by kernel_rfl
@[go_sem] theorem fldT_68_0 : fldT Go.Proofs.Tryz.prog 68 0 = some (0, 1) := by kernel_rfl
@[go_sem] theorem fldT_68_1 : fldT Go.Proofs.Tryz.prog 68 1 = some (1, 1) := by kernel_rfl
@[go_sem] theorem fldT_68_2 : fldT Go.Proofs.Tryz.prog 68 2 = some (2, 1) := by kernel_rfl
@[go_sem] theorem fldT_68_3 : fldT Go.Proofs.Tryz.prog 68 3 = some (3, 5) := by kernel_rfl
@[go_sem] theorem fldT_68_4 : fldT Go.Proofs.Tryz.prog 68 4 = some (8, 1) := by kernel_rfl
@[go_sem] theorem elemT_68 : elemT Go.Proofs.Tryz.prog 68 = none := by kernel_rfl
@[go_sem] theorem arrT_68 : arrT Go.Proofs.Tryz.prog 68 = none := by kernel_rfl
@[go_sem] theorem byT_68 : byT Go.Proofs.Tryz.prog 68 = 136 := by kernel_rfl
@[go_sem] theorem strT_68 : strT Go.Proofs.Tryz.prog 68 = false := by kernel_rfl
@[go_sem] theorem fldsT_68 : fldsT Go.Proofs.Tryz.prog 68 = true := by kernel_rfl
@[go_sem] theorem boolT_68 : boolT Go.Proofs.Tryz.prog 68 = false := by kernel_rfl
@[go_sem] theorem intT_68 : intT Go.Proofs.Tryz.prog 68 = none := by kernel_rfl
@[go_sem] theorem zOk_68 : zOk Go.Proofs.Tryz.prog 68 = true := by kernel_rfl
@[go_sem] theorem zeroT_68 : zeroT Go.Proofs.Tryz.prog 68 = some (.agg [.lit (.int .i64 0), .sl .own [], .lit (.string ⟨#[]⟩), .lit (.int .i64 0), .lit (.string ⟨#[]⟩), .lit (.int .i64 0), .sl .own [], .lit (.bool false), .sl .own []]) := by kernel_rfl
@[go_sem] theorem szT_69 : szT Go.Proofs.Tryz.prog 69 = 9 := by kernel_rfl
@[go_sem] theorem aggT_69 : aggT Go.Proofs.Tryz.prog 69 = some true := by kernel_rfl
@[go_sem] theorem fldT_69_0 : fldT Go.Proofs.Tryz.prog 69 0 = some (0, 1) := by kernel_rfl
@[go_sem] theorem fldT_69_1 : fldT Go.Proofs.Tryz.prog 69 1 = some (1, 1) := by kernel_rfl
@[go_sem] theorem fldT_69_2 : fldT Go.Proofs.Tryz.prog 69 2 = some (2, 1) := by kernel_rfl
@[go_sem] theorem fldT_69_3 : fldT Go.Proofs.Tryz.prog 69 3 = some (3, 5) := by kernel_rfl
@[go_sem] theorem fldT_69_4 : fldT Go.Proofs.Tryz.prog 69 4 = some (8, 1) := by kernel_rfl
@[go_sem] theorem elemT_69 : elemT Go.Proofs.Tryz.prog 69 = none := by kernel_rfl
@[go_sem] theorem arrT_69 : arrT Go.Proofs.Tryz.prog 69 = none := by kernel_rfl
@[go_sem] theorem byT_69 : byT Go.Proofs.Tryz.prog 69 = 136 := by kernel_rfl
@[go_sem] theorem strT_69 : strT Go.Proofs.Tryz.prog 69 = false := by kernel_rfl
@[go_sem] theorem fldsT_69 : fldsT Go.Proofs.Tryz.prog 69 = true := by kernel_rfl
@[go_sem] theorem boolT_69 : boolT Go.Proofs.Tryz.prog 69 = false := by kernel_rfl
@[go_sem] theorem intT_69 : intT Go.Proofs.Tryz.prog 69 = none := by kernel_rfl
@[go_sem] theorem zOk_69 : zOk Go.Proofs.Tryz.prog 69 = true := by kernel_rfl
@[go_sem] theorem zeroT_69 : zeroT Go.Proofs.Tryz.prog 69 = some (.agg [.lit (.int .i64 0), .sl .own [], .lit (.string ⟨#[]⟩), .lit (.int .i64 0), .lit (.string ⟨#[]⟩), .lit (.int .i64 0), .sl .own [], .lit (.bool false), .sl .own []]) := by kernel_rfl
@[go_sem] theorem szT_72 : szT Go.Proofs.Tryz.prog 72 = 26 := by kernel_rfl
@[go_sem] theorem aggT_72 : aggT Go.Proofs.Tryz.prog 72 = some true := by kernel_rfl
@[go_sem] theorem elemT_72 : elemT Go.Proofs.Tryz.prog 72 = none := by kernel_rfl
@[go_sem] theorem arrT_72 : arrT Go.Proofs.Tryz.prog 72 = some (26, 9) := by kernel_rfl
@[go_sem] theorem byT_72 : byT Go.Proofs.Tryz.prog 72 = 416 := by kernel_rfl
@[go_sem] theorem strT_72 : strT Go.Proofs.Tryz.prog 72 = false := by kernel_rfl
@[go_sem] theorem fldsT_72 : fldsT Go.Proofs.Tryz.prog 72 = true := by kernel_rfl
@[go_sem] theorem boolT_72 : boolT Go.Proofs.Tryz.prog 72 = false := by kernel_rfl
@[go_sem] theorem intT_72 : intT Go.Proofs.Tryz.prog 72 = none := by kernel_rfl
@[go_sem] theorem zOk_72 : zOk Go.Proofs.Tryz.prog 72 = true := by kernel_rfl
@[go_sem] theorem zeroT_72 : zeroT Go.Proofs.Tryz.prog 72 = some (.agg [.lit (.string ⟨#[]⟩), .lit (.string ⟨#[]⟩), .lit (.string ⟨#[]⟩), .lit (.string ⟨#[]⟩), .lit (.string ⟨#[]⟩), .lit (.string ⟨#[]⟩), .lit (.string ⟨#[]⟩), .lit (.string ⟨#[]⟩), .lit (.string ⟨#[]⟩), .lit (.string ⟨#[]⟩), .lit (.string ⟨#[]⟩), .lit (.string ⟨#[]⟩), .lit (.string ⟨#[]⟩), .lit (.string ⟨#[]⟩), .lit (.string ⟨#[]⟩), .lit (.string ⟨#[]⟩), .lit (.string ⟨#[]⟩), .lit (.string ⟨#[]⟩), .lit (.string ⟨#[]⟩), .lit (.string ⟨#[]⟩), .lit (.string ⟨#[]⟩), .lit (.string ⟨#[]⟩), .lit (.string ⟨#[]⟩), .lit (.string ⟨#[]⟩), .lit (.string ⟨#[]⟩), .lit (.string ⟨#[]⟩)]) := by kernel_rfl
@[go_sem] theorem szT_81 : szT Go.Proofs.Tryz.prog 81 = 4 := by kernel_rfl
@[go_sem] theorem aggT_81 : aggT Go.Proofs.Tryz.prog 81 = some true := by kernel_rfl
@[go_sem] theorem fldT_81_0 : fldT Go.Proofs.Tryz.prog 81 0 = some (0, 1) := by kernel_rfl
@[go_sem] theorem fldT_81_1 : fldT Go.Proofs.Tryz.prog 81 1 = some (1, 1) := by kernel_rfl
@[go_sem] theorem fldT_81_2 : fldT Go.Proofs.Tryz.prog 81 2 = some (2, 1) := by kernel_rfl
@[go_sem] theorem fldT_81_3 : fldT Go.Proofs.Tryz.prog 81 3 = some (3, 1) := by kernel_rfl
@[go_sem] theorem elemT_81 : elemT Go.Proofs.Tryz.prog 81 = none := by kernel_rfl
@[go_sem] theorem arrT_81 : arrT Go.Proofs.Tryz.prog 81 = none := by kernel_rfl
@[go_sem] theorem byT_81 : byT Go.Proofs.Tryz.prog 81 = 40 := by kernel_rfl
@[go_sem] theorem strT_81 : strT Go.Proofs.Tryz.prog 81 = false := by kernel_rfl
@[go_sem] theorem fldsT_81 : fldsT Go.Proofs.Tryz.prog 81 = true := by kernel_rfl
@[go_sem] theorem boolT_81 : boolT Go.Proofs.Tryz.prog 81 = false := by kernel_rfl
@[go_sem] theorem eqT_81 : eqT Go.Proofs.Tryz.prog 81 = some [.int, .str, .int, .int] := by kernel_rfl
@[go_sem] theorem intT_81 : intT Go.Proofs.Tryz.prog 81 = none := by kernel_rfl
@[go_sem] theorem zOk_81 : zOk Go.Proofs.Tryz.prog 81 = true := by kernel_rfl
@[go_sem] theorem zeroT_81 : zeroT Go.Proofs.Tryz.prog 81 = some (.agg [.lit (.int .i64 0), .lit (.string ⟨#[]⟩), .lit (.int .i64 0), .lit (.int .i64 0)]) := by kernel_rfl
@[go_sem] theorem szT_83 : szT Go.Proofs.Tryz.prog 83 = 1 := by kernel_rfl
@[go_sem] theorem aggT_83 : aggT Go.Proofs.Tryz.prog 83 = some false := by kernel_rfl
@[go_sem] theorem elemT_83 : elemT Go.Proofs.Tryz.prog 83 = some 86 := by kernel_rfl
@[go_sem] theorem arrT_83 : arrT Go.Proofs.Tryz.prog 83 = none := by kernel_rfl
@[go_sem] theorem byT_83 : byT Go.Proofs.Tryz.prog 83 = 24 := by kernel_rfl
@[go_sem] theorem strT_83 : strT Go.Proofs.Tryz.prog 83 = false := by kernel_rfl
@[go_sem] theorem boolT_83 : boolT Go.Proofs.Tryz.prog 83 = false := by kernel_rfl
@[go_sem] theorem intT_83 : intT Go.Proofs.Tryz.prog 83 = none := by kernel_rfl
@[go_sem] theorem zOk_83 : zOk Go.Proofs.Tryz.prog 83 = true := by kernel_rfl
@[go_sem] theorem zeroT_83 : zeroT Go.Proofs.Tryz.prog 83 = some (.sl .own []) := by kernel_rfl
@[go_sem] theorem szT_86 : szT Go.Proofs.Tryz.prog 86 = 4 := by kernel_rfl
@[go_sem] theorem aggT_86 : aggT Go.Proofs.Tryz.prog 86 = some true := by kernel_rfl
@[go_sem] theorem fldT_86_0 : fldT Go.Proofs.Tryz.prog 86 0 = some (0, 1) := by kernel_rfl
@[go_sem] theorem fldT_86_1 : fldT Go.Proofs.Tryz.prog 86 1 = some (1, 1) := by kernel_rfl
@[go_sem] theorem fldT_86_2 : fldT Go.Proofs.Tryz.prog 86 2 = some (2, 1) := by kernel_rfl
@[go_sem] theorem fldT_86_3 : fldT Go.Proofs.Tryz.prog 86 3 = some (3, 1) := by kernel_rfl
@[go_sem] theorem elemT_86 : elemT Go.Proofs.Tryz.prog 86 = none := by kernel_rfl
@[go_sem] theorem arrT_86 : arrT Go.Proofs.Tryz.prog 86 = none := by kernel_rfl
@[go_sem] theorem byT_86 : byT Go.Proofs.Tryz.prog 86 = 40 := by kernel_rfl
@[go_sem] theorem strT_86 : strT Go.Proofs.Tryz.prog 86 = false := by kernel_rfl
@[go_sem] theorem fldsT_86 : fldsT Go.Proofs.Tryz.prog 86 = true := by kernel_rfl
@[go_sem] theorem boolT_86 : boolT Go.Proofs.Tryz.prog 86 = false := by kernel_rfl
@[go_sem] theorem eqT_86 : eqT Go.Proofs.Tryz.prog 86 = some [.int, .str, .int, .int] := by kernel_rfl
@[go_sem] theorem intT_86 : intT Go.Proofs.Tryz.prog 86 = none := by kernel_rfl
@[go_sem] theorem zOk_86 : zOk Go.Proofs.Tryz.prog 86 = true := by kernel_rfl
@[go_sem] theorem zeroT_86 : zeroT Go.Proofs.Tryz.prog 86 = some (.agg [.lit (.int .i64 0), .lit (.string ⟨#[]⟩), .lit (.int .i64 0), .lit (.int .i64 0)]) := by kernel_rfl
@[go_sem] theorem szT_117 : szT Go.Proofs.Tryz.prog 117 = 1 := by kernel_rfl
@[go_sem] theorem aggT_117 : aggT Go.Proofs.Tryz.prog 117 = some false := by kernel_rfl
@[go_sem] theorem elemT_117 : elemT Go.Proofs.Tryz.prog 117 = some 5 := by kernel_rfl
@[go_sem] theorem arrT_117 : arrT Go.Proofs.Tryz.prog 117 = none := by kernel_rfl
@[go_sem] theorem byT_117 : byT Go.Proofs.Tryz.prog 117 = 24 := by kernel_rfl
@[go_sem] theorem strT_117 : strT Go.Proofs.Tryz.prog 117 = false := by kernel_rfl
@[go_sem] theorem boolT_117 : boolT Go.Proofs.Tryz.prog 117 = false := by kernel_rfl
@[go_sem] theorem intT_117 : intT Go.Proofs.Tryz.prog 117 = none := by kernel_rfl
@[go_sem] theorem zOk_117 : zOk Go.Proofs.Tryz.prog 117 = true := by kernel_rfl
@[go_sem] theorem zeroT_117 : zeroT Go.Proofs.Tryz.prog 117 = some (.sl .own []) := by kernel_rfl
@[go_sem] theorem szT_122 : szT Go.Proofs.Tryz.prog 122 = 1 := by kernel_rfl
@[go_sem] theorem aggT_122 : aggT Go.Proofs.Tryz.prog 122 = some false := by kernel_rfl
@[go_sem] theorem elemT_122 : elemT Go.Proofs.Tryz.prog 122 = none := by kernel_rfl
@[go_sem] theorem arrT_122 : arrT Go.Proofs.Tryz.prog 122 = none := by kernel_rfl
@[go_sem] theorem byT_122 : byT Go.Proofs.Tryz.prog 122 = 8 := by kernel_rfl
@[go_sem] theorem strT_122 : strT Go.Proofs.Tryz.prog 122 = false := by kernel_rfl
@[go_sem] theorem boolT_122 : boolT Go.Proofs.Tryz.prog 122 = false := by kernel_rfl
@[go_sem] theorem intT_122 : intT Go.Proofs.Tryz.prog 122 = none := by kernel_rfl
@[go_sem] theorem zOk_122 : zOk Go.Proofs.Tryz.prog 122 = true := by kernel_rfl
@[go_sem] theorem zeroT_122 : zeroT Go.Proofs.Tryz.prog 122 = some (.lit (.pointer none)) := by kernel_rfl
@[go_sem] theorem szT_123 : szT Go.Proofs.Tryz.prog 123 = 2 := by kernel_rfl
@[go_sem] theorem aggT_123 : aggT Go.Proofs.Tryz.prog 123 = some true := by kernel_rfl
@[go_sem] theorem fldT_123_0 : fldT Go.Proofs.Tryz.prog 123 0 = some (0, 1) := by kernel_rfl
@[go_sem] theorem fldT_123_1 : fldT Go.Proofs.Tryz.prog 123 1 = some (1, 1) := by kernel_rfl
@[go_sem] theorem elemT_123 : elemT Go.Proofs.Tryz.prog 123 = none := by kernel_rfl
@[go_sem] theorem arrT_123 : arrT Go.Proofs.Tryz.prog 123 = none := by kernel_rfl
@[go_sem] theorem byT_123 : byT Go.Proofs.Tryz.prog 123 = 24 := by kernel_rfl
@[go_sem] theorem strT_123 : strT Go.Proofs.Tryz.prog 123 = false := by kernel_rfl
@[go_sem] theorem fldsT_123 : fldsT Go.Proofs.Tryz.prog 123 = true := by kernel_rfl
@[go_sem] theorem boolT_123 : boolT Go.Proofs.Tryz.prog 123 = false := by kernel_rfl
@[go_sem] theorem eqT_123 : eqT Go.Proofs.Tryz.prog 123 = some [.str, .int] := by kernel_rfl
@[go_sem] theorem intT_123 : intT Go.Proofs.Tryz.prog 123 = none := by kernel_rfl
@[go_sem] theorem zOk_123 : zOk Go.Proofs.Tryz.prog 123 = true := by kernel_rfl
@[go_sem] theorem zeroT_123 : zeroT Go.Proofs.Tryz.prog 123 = some (.agg [.lit (.string ⟨#[]⟩), .lit (.int .i64 0)]) := by kernel_rfl
@[go_sem] theorem szT_124 : szT Go.Proofs.Tryz.prog 124 = 2 := by kernel_rfl
@[go_sem] theorem aggT_124 : aggT Go.Proofs.Tryz.prog 124 = some true := by kernel_rfl
@[go_sem] theorem fldT_124_0 : fldT Go.Proofs.Tryz.prog 124 0 = some (0, 1) := by kernel_rfl
@[go_sem] theorem fldT_124_1 : fldT Go.Proofs.Tryz.prog 124 1 = some (1, 1) := by kernel_rfl
@[go_sem] theorem elemT_124 : elemT Go.Proofs.Tryz.prog 124 = none := by kernel_rfl
@[go_sem] theorem arrT_124 : arrT Go.Proofs.Tryz.prog 124 = none := by kernel_rfl
@[go_sem] theorem byT_124 : byT Go.Proofs.Tryz.prog 124 = 24 := by kernel_rfl
@[go_sem] theorem strT_124 : strT Go.Proofs.Tryz.prog 124 = false := by kernel_rfl
@[go_sem] theorem fldsT_124 : fldsT Go.Proofs.Tryz.prog 124 = true := by kernel_rfl
@[go_sem] theorem boolT_124 : boolT Go.Proofs.Tryz.prog 124 = false := by kernel_rfl
@[go_sem] theorem eqT_124 : eqT Go.Proofs.Tryz.prog 124 = some [.str, .int] := by kernel_rfl
@[go_sem] theorem intT_124 : intT Go.Proofs.Tryz.prog 124 = none := by kernel_rfl
@[go_sem] theorem zOk_124 : zOk Go.Proofs.Tryz.prog 124 = true := by kernel_rfl
@[go_sem] theorem zeroT_124 : zeroT Go.Proofs.Tryz.prog 124 = some (.agg [.lit (.string ⟨#[]⟩), .lit (.int .i64 0)]) := by kernel_rfl
@[go_sem] theorem szT_126 : szT Go.Proofs.Tryz.prog 126 = 1 := by kernel_rfl
@[go_sem] theorem aggT_126 : aggT Go.Proofs.Tryz.prog 126 = some false := by kernel_rfl
@[go_sem] theorem elemT_126 : elemT Go.Proofs.Tryz.prog 126 = none := by kernel_rfl
@[go_sem] theorem arrT_126 : arrT Go.Proofs.Tryz.prog 126 = none := by kernel_rfl
@[go_sem] theorem byT_126 : byT Go.Proofs.Tryz.prog 126 = 8 := by kernel_rfl
@[go_sem] theorem strT_126 : strT Go.Proofs.Tryz.prog 126 = false := by kernel_rfl
@[go_sem] theorem boolT_126 : boolT Go.Proofs.Tryz.prog 126 = false := by kernel_rfl
@[go_sem] theorem intT_126 : intT Go.Proofs.Tryz.prog 126 = none := by kernel_rfl
@[go_sem] theorem zOk_126 : zOk Go.Proofs.Tryz.prog 126 = true := by kernel_rfl
@[go_sem] theorem zeroT_126 : zeroT Go.Proofs.Tryz.prog 126 = some (.lit .nilFunc) := by kernel_rfl
@[go_sem] theorem szT_146 : szT Go.Proofs.Tryz.prog 146 = 1 := by kernel_rfl
@[go_sem] theorem aggT_146 : aggT Go.Proofs.Tryz.prog 146 = some false := by kernel_rfl
@[go_sem] theorem elemT_146 : elemT Go.Proofs.Tryz.prog 146 = none := by kernel_rfl
@[go_sem] theorem arrT_146 : arrT Go.Proofs.Tryz.prog 146 = none := by kernel_rfl
@[go_sem] theorem byT_146 : byT Go.Proofs.Tryz.prog 146 = 8 := by kernel_rfl
@[go_sem] theorem strT_146 : strT Go.Proofs.Tryz.prog 146 = false := by kernel_rfl
@[go_sem] theorem boolT_146 : boolT Go.Proofs.Tryz.prog 146 = false := by kernel_rfl
@[go_sem] theorem intT_146 : intT Go.Proofs.Tryz.prog 146 = none := by kernel_rfl
@[go_sem] theorem zOk_146 : zOk Go.Proofs.Tryz.prog 146 = true := by kernel_rfl
@[go_sem] theorem zeroT_146 : zeroT Go.Proofs.Tryz.prog 146 = some (.lit (.pointer none)) := by kernel_rfl
@[go_sem] theorem szT_151 : szT Go.Proofs.Tryz.prog 151 = 4 := by kernel_rfl
@[go_sem] theorem aggT_151 : aggT Go.Proofs.Tryz.prog 151 = some true := by kernel_rfl
@[go_sem] theorem fldT_151_0 : fldT Go.Proofs.Tryz.prog 151 0 = some (0, 1) := by kernel_rfl
@[go_sem] theorem fldT_151_1 : fldT Go.Proofs.Tryz.prog 151 1 = some (1, 1) := by kernel_rfl
@[go_sem] theorem fldT_151_2 : fldT Go.Proofs.Tryz.prog 151 2 = some (2, 1) := by kernel_rfl
@[go_sem] theorem fldT_151_3 : fldT Go.Proofs.Tryz.prog 151 3 = some (3, 1) := by kernel_rfl
@[go_sem] theorem elemT_151 : elemT Go.Proofs.Tryz.prog 151 = none := by kernel_rfl
@[go_sem] theorem arrT_151 : arrT Go.Proofs.Tryz.prog 151 = none := by kernel_rfl
@[go_sem] theorem byT_151 : byT Go.Proofs.Tryz.prog 151 = 32 := by kernel_rfl
@[go_sem] theorem strT_151 : strT Go.Proofs.Tryz.prog 151 = false := by kernel_rfl
@[go_sem] theorem fldsT_151 : fldsT Go.Proofs.Tryz.prog 151 = true := by kernel_rfl
@[go_sem] theorem boolT_151 : boolT Go.Proofs.Tryz.prog 151 = false := by kernel_rfl
@[go_sem] theorem eqT_151 : eqT Go.Proofs.Tryz.prog 151 = some [.int, .int, .int, .int] := by kernel_rfl
@[go_sem] theorem intT_151 : intT Go.Proofs.Tryz.prog 151 = none := by kernel_rfl
@[go_sem] theorem zOk_151 : zOk Go.Proofs.Tryz.prog 151 = true := by kernel_rfl
@[go_sem] theorem zeroT_151 : zeroT Go.Proofs.Tryz.prog 151 = some (.agg [.lit (.int .i64 0), .lit (.int .i64 0), .lit (.int .i64 0), .lit (.int .i64 0)]) := by kernel_rfl
@[go_sem] theorem szT_152 : szT Go.Proofs.Tryz.prog 152 = 4 := by kernel_rfl
@[go_sem] theorem aggT_152 : aggT Go.Proofs.Tryz.prog 152 = some true := by kernel_rfl
@[go_sem] theorem fldT_152_0 : fldT Go.Proofs.Tryz.prog 152 0 = some (0, 1) := by kernel_rfl
@[go_sem] theorem fldT_152_1 : fldT Go.Proofs.Tryz.prog 152 1 = some (1, 1) := by kernel_rfl
@[go_sem] theorem fldT_152_2 : fldT Go.Proofs.Tryz.prog 152 2 = some (2, 1) := by kernel_rfl
@[go_sem] theorem fldT_152_3 : fldT Go.Proofs.Tryz.prog 152 3 = some (3, 1) := by kernel_rfl
@[go_sem] theorem elemT_152 : elemT Go.Proofs.Tryz.prog 152 = none := by kernel_rfl
@[go_sem] theorem arrT_152 : arrT Go.Proofs.Tryz.prog 152 = none := by kernel_rfl
@[go_sem] theorem byT_152 : byT Go.Proofs.Tryz.prog 152 = 32 := by kernel_rfl
@[go_sem] theorem strT_152 : strT Go.Proofs.Tryz.prog 152 = false := by kernel_rfl
@[go_sem] theorem fldsT_152 : fldsT Go.Proofs.Tryz.prog 152 = true := by kernel_rfl
@[go_sem] theorem boolT_152 : boolT Go.Proofs.Tryz.prog 152 = false := by kernel_rfl
@[go_sem] theorem eqT_152 : eqT Go.Proofs.Tryz.prog 152 = some [.int, .int, .int, .int] := by kernel_rfl
@[go_sem] theorem intT_152 : intT Go.Proofs.Tryz.prog 152 = none := by kernel_rfl
@[go_sem] theorem zOk_152 : zOk Go.Proofs.Tryz.prog 152 = true := by kernel_rfl
@[go_sem] theorem zeroT_152 : zeroT Go.Proofs.Tryz.prog 152 = some (.agg [.lit (.int .i64 0), .lit (.int .i64 0), .lit (.int .i64 0), .lit (.int .i64 0)]) := by kernel_rfl
@[go_sem] theorem szT_183 : szT Go.Proofs.Tryz.prog 183 = 7 := by kernel_rfl
@[go_sem] theorem aggT_183 : aggT Go.Proofs.Tryz.prog 183 = some true := by kernel_rfl
@[go_sem] theorem fldT_183_0 : fldT Go.Proofs.Tryz.prog 183 0 = some (0, 1) := by kernel_rfl
@[go_sem] theorem fldT_183_1 : fldT Go.Proofs.Tryz.prog 183 1 = some (1, 3) := by kernel_rfl
@[go_sem] theorem fldT_183_2 : fldT Go.Proofs.Tryz.prog 183 2 = some (4, 1) := by kernel_rfl
@[go_sem] theorem fldT_183_3 : fldT Go.Proofs.Tryz.prog 183 3 = some (5, 1) := by kernel_rfl
@[go_sem] theorem fldT_183_4 : fldT Go.Proofs.Tryz.prog 183 4 = some (6, 1) := by kernel_rfl
@[go_sem] theorem elemT_183 : elemT Go.Proofs.Tryz.prog 183 = none := by kernel_rfl
@[go_sem] theorem arrT_183 : arrT Go.Proofs.Tryz.prog 183 = none := by kernel_rfl
@[go_sem] theorem byT_183 : byT Go.Proofs.Tryz.prog 183 = 72 := by kernel_rfl
@[go_sem] theorem strT_183 : strT Go.Proofs.Tryz.prog 183 = false := by kernel_rfl
@[go_sem] theorem fldsT_183 : fldsT Go.Proofs.Tryz.prog 183 = true := by kernel_rfl
@[go_sem] theorem boolT_183 : boolT Go.Proofs.Tryz.prog 183 = false := by kernel_rfl
@[go_sem] theorem eqT_183 : eqT Go.Proofs.Tryz.prog 183 = some [.int, .int, .int, .str, .str, .int, .int] := by kernel_rfl
@[go_sem] theorem intT_183 : intT Go.Proofs.Tryz.prog 183 = none := by kernel_rfl
@[go_sem] theorem zOk_183 : zOk Go.Proofs.Tryz.prog 183 = true := by kernel_rfl
@[go_sem] theorem zeroT_183 : zeroT Go.Proofs.Tryz.prog 183 = some (.agg [.lit (.int .i64 0), .lit (.int .i64 0), .lit (.int .i64 0), .lit (.string ⟨#[]⟩), .lit (.string ⟨#[]⟩), .lit (.int .i64 0), .lit (.int .i64 0)]) := by kernel_rfl
@[go_sem] theorem szT_184 : szT Go.Proofs.Tryz.prog 184 = 7 := by kernel_rfl
@[go_sem] theorem aggT_184 : aggT Go.Proofs.Tryz.prog 184 = some true := by kernel_rfl
@[go_sem] theorem fldT_184_0 : fldT Go.Proofs.Tryz.prog 184 0 = some (0, 1) := by kernel_rfl
@[go_sem] theorem fldT_184_1 : fldT Go.Proofs.Tryz.prog 184 1 = some (1, 3) := by kernel_rfl
@[go_sem] theorem fldT_184_2 : fldT Go.Proofs.Tryz.prog 184 2 = some (4, 1) := by kernel_rfl
@[go_sem] theorem fldT_184_3 : fldT Go.Proofs.Tryz.prog 184 3 = some (5, 1) := by kernel_rfl
@[go_sem] theorem fldT_184_4 : fldT Go.Proofs.Tryz.prog 184 4 = some (6, 1) := by kernel_rfl
@[go_sem] theorem elemT_184 : elemT Go.Proofs.Tryz.prog 184 = none := by kernel_rfl
@[go_sem] theorem arrT_184 : arrT Go.Proofs.Tryz.prog 184 = none := by kernel_rfl
@[go_sem] theorem byT_184 : byT Go.Proofs.Tryz.prog 184 = 72 := by kernel_rfl
@[go_sem] theorem strT_184 : strT Go.Proofs.Tryz.prog 184 = false := by kernel_rfl
@[go_sem] theorem fldsT_184 : fldsT Go.Proofs.Tryz.prog 184 = true := by kernel_rfl
@[go_sem] theorem boolT_184 : boolT Go.Proofs.Tryz.prog 184 = false := by kernel_rfl
@[go_sem] theorem eqT_184 : eqT Go.Proofs.Tryz.prog 184 = some [.int, .int, .int, .str, .str, .int, .int] := by kernel_rfl
@[go_sem] theorem intT_184 : intT Go.Proofs.Tryz.prog 184 = none := by kernel_rfl
@[go_sem] theorem zOk_184 : zOk Go.Proofs.Tryz.prog 184 = true := by kernel_rfl
@[go_sem] theorem zeroT_184 : zeroT Go.Proofs.Tryz.prog 184 = some (.agg [.lit (.int .i64 0), .lit (.int .i64 0), .lit (.int .i64 0), .lit (.string ⟨#[]⟩), .lit (.string ⟨#[]⟩), .lit (.int .i64 0), .lit (.int .i64 0)]) := by kernel_rfl
@[go_sem] theorem szT_185 : szT Go.Proofs.Tryz.prog 185 = 4 := by kernel_rfl
@[go_sem] theorem aggT_185 : aggT Go.Proofs.Tryz.prog 185 = some true := by kernel_rfl
@[go_sem] theorem elemT_185 : elemT Go.Proofs.Tryz.prog 185 = none := by kernel_rfl
@[go_sem] theorem arrT_185 : arrT Go.Proofs.Tryz.prog 185 = some (4, 9) := by kernel_rfl
@[go_sem] theorem byT_185 : byT Go.Proofs.Tryz.prog 185 = 64 := by kernel_rfl
@[go_sem] theorem strT_185 : strT Go.Proofs.Tryz.prog 185 = false := by kernel_rfl
@[go_sem] theorem fldsT_185 : fldsT Go.Proofs.Tryz.prog 185 = true := by kernel_rfl
@[go_sem] theorem boolT_185 : boolT Go.Proofs.Tryz.prog 185 = false := by kernel_rfl
@[go_sem] theorem intT_185 : intT Go.Proofs.Tryz.prog 185 = none := by kernel_rfl
@[go_sem] theorem zOk_185 : zOk Go.Proofs.Tryz.prog 185 = true := by kernel_rfl
@[go_sem] theorem zeroT_185 : zeroT Go.Proofs.Tryz.prog 185 = some (.agg [.lit (.string ⟨#[]⟩), .lit (.string ⟨#[]⟩), .lit (.string ⟨#[]⟩), .lit (.string ⟨#[]⟩)]) := by kernel_rfl
@[go_sem] theorem szT_186 : szT Go.Proofs.Tryz.prog 186 = 1 := by kernel_rfl
@[go_sem] theorem aggT_186 : aggT Go.Proofs.Tryz.prog 186 = some false := by kernel_rfl
@[go_sem] theorem elemT_186 : elemT Go.Proofs.Tryz.prog 186 = none := by kernel_rfl
@[go_sem] theorem arrT_186 : arrT Go.Proofs.Tryz.prog 186 = none := by kernel_rfl
@[go_sem] theorem byT_186 : byT Go.Proofs.Tryz.prog 186 = 8 := by kernel_rfl
@[go_sem] theorem strT_186 : strT Go.Proofs.Tryz.prog 186 = false := by kernel_rfl
@[go_sem] theorem boolT_186 : boolT Go.Proofs.Tryz.prog 186 = false := by kernel_rfl
@[go_sem] theorem intT_186 : intT Go.Proofs.Tryz.prog 186 = none := by kernel_rfl
@[go_sem] theorem zOk_186 : zOk Go.Proofs.Tryz.prog 186 = true := by kernel_rfl
@[go_sem] theorem zeroT_186 : zeroT Go.Proofs.Tryz.prog 186 = some (.lit (.pointer none)) := by kernel_rfl
@[go_sem] theorem szT_187 : szT Go.Proofs.Tryz.prog 187 = 2 := by kernel_rfl
@[go_sem] theorem aggT_187 : aggT Go.Proofs.Tryz.prog 187 = some true := by kernel_rfl
@[go_sem] theorem fldT_187_0 : fldT Go.Proofs.Tryz.prog 187 0 = some (0, 1) := by kernel_rfl
@[go_sem] theorem fldT_187_1 : fldT Go.Proofs.Tryz.prog 187 1 = some (1, 1) := by kernel_rfl
@[go_sem] theorem elemT_187 : elemT Go.Proofs.Tryz.prog 187 = none := by kernel_rfl
@[go_sem] theorem arrT_187 : arrT Go.Proofs.Tryz.prog 187 = none := by kernel_rfl
@[go_sem] theorem byT_187 : byT Go.Proofs.Tryz.prog 187 = 32 := by kernel_rfl
@[go_sem] theorem strT_187 : strT Go.Proofs.Tryz.prog 187 = false := by kernel_rfl
@[go_sem] theorem fldsT_187 : fldsT Go.Proofs.Tryz.prog 187 = true := by kernel_rfl
@[go_sem] theorem boolT_187 : boolT Go.Proofs.Tryz.prog 187 = false := by kernel_rfl
@[go_sem] theorem intT_187 : intT Go.Proofs.Tryz.prog 187 = none := by kernel_rfl
@[go_sem] theorem zOk_187 : zOk Go.Proofs.Tryz.prog 187 = true := by kernel_rfl
@[go_sem] theorem zeroT_187 : zeroT Go.Proofs.Tryz.prog 187 = some (.agg [.lit (.pointer none), .sl .own []]) := by kernel_rfl
@[go_sem] theorem szT_188 : szT Go.Proofs.Tryz.prog 188 = 2 := by kernel_rfl
@[go_sem] theorem aggT_188 : aggT Go.Proofs.Tryz.prog 188 = some true := by kernel_rfl
@[go_sem] theorem fldT_188_0 : fldT Go.Proofs.Tryz.prog 188 0 = some (0, 1) := by kernel_rfl
@[go_sem] theorem fldT_188_1 : fldT Go.Proofs.Tryz.prog 188 1 = some (1, 1) := by kernel_rfl
@[go_sem] theorem elemT_188 : elemT Go.Proofs.Tryz.prog 188 = none := by kernel_rfl
@[go_sem] theorem arrT_188 : arrT Go.Proofs.Tryz.prog 188 = none := by kernel_rfl
@[go_sem] theorem byT_188 : byT Go.Proofs.Tryz.prog 188 = 32 := by kernel_rfl
@[go_sem] theorem strT_188 : strT Go.Proofs.Tryz.prog 188 = false := by kernel_rfl
@[go_sem] theorem fldsT_188 : fldsT Go.Proofs.Tryz.prog 188 = true := by kernel_rfl
@[go_sem] theorem boolT_188 : boolT Go.Proofs.Tryz.prog 188 = false := by kernel_rfl
@[go_sem] theorem intT_188 : intT Go.Proofs.Tryz.prog 188 = none := by kernel_rfl
@[go_sem] theorem zOk_188 : zOk Go.Proofs.Tryz.prog 188 = true := by kernel_rfl
@[go_sem] theorem zeroT_188 : zeroT Go.Proofs.Tryz.prog 188 = some (.agg [.lit (.pointer none), .sl .own []]) := by kernel_rfl
@[go_sem] theorem szT_196 : szT Go.Proofs.Tryz.prog 196 = 15 := by kernel_rfl
@[go_sem] theorem aggT_196 : aggT Go.Proofs.Tryz.prog 196 = some true := by kernel_rfl
@[go_sem] theorem elemT_196 : elemT Go.Proofs.Tryz.prog 196 = none := by kernel_rfl
@[go_sem] theorem arrT_196 : arrT Go.Proofs.Tryz.prog 196 = some (15, 9) := by kernel_rfl
@[go_sem] theorem byT_196 : byT Go.Proofs.Tryz.prog 196 = 240 := by kernel_rfl
@[go_sem] theorem strT_196 : strT Go.Proofs.Tryz.prog 196 = false := by kernel_rfl
@[go_sem] theorem fldsT_196 : fldsT Go.Proofs.Tryz.prog 196 = true := by kernel_rfl
@[go_sem] theorem boolT_196 : boolT Go.Proofs.Tryz.prog 196 = false := by kernel_rfl
@[go_sem] theorem intT_196 : intT Go.Proofs.Tryz.prog 196 = none := by kernel_rfl
@[go_sem] theorem zOk_196 : zOk Go.Proofs.Tryz.prog 196 = true := by kernel_rfl
@[go_sem] theorem zeroT_196 : zeroT Go.Proofs.Tryz.prog 196 = some (.agg [.lit (.string ⟨#[]⟩), .lit (.string ⟨#[]⟩), .lit (.string ⟨#[]⟩), .lit (.string ⟨#[]⟩), .lit (.string ⟨#[]⟩), .lit (.string ⟨#[]⟩), .lit (.string ⟨#[]⟩), .lit (.string ⟨#[]⟩), .lit (.string ⟨#[]⟩), .lit (.string ⟨#[]⟩), .lit (.string ⟨#[]⟩), .lit (.string ⟨#[]⟩), .lit (.string ⟨#[]⟩), .lit (.string ⟨#[]⟩), .lit (.string ⟨#[]⟩)]) := by kernel_rfl
@[go_sem] theorem szT_201 : szT Go.Proofs.Tryz.prog 201 = 1 := by kernel_rfl
@[go_sem] theorem aggT_201 : aggT Go.Proofs.Tryz.prog 201 = some false := by kernel_rfl
@[go_sem] theorem elemT_201 : elemT Go.Proofs.Tryz.prog 201 = none := by kernel_rfl
@[go_sem] theorem arrT_201 : arrT Go.Proofs.Tryz.prog 201 = none := by kernel_rfl
@[go_sem] theorem byT_201 : byT Go.Proofs.Tryz.prog 201 = 8 := by kernel_rfl
@[go_sem] theorem strT_201 : strT Go.Proofs.Tryz.prog 201 = false := by kernel_rfl
@[go_sem] theorem boolT_201 : boolT Go.Proofs.Tryz.prog 201 = false := by kernel_rfl
@[go_sem] theorem intT_201 : intT Go.Proofs.Tryz.prog 201 = none := by kernel_rfl
@[go_sem] theorem zOk_201 : zOk Go.Proofs.Tryz.prog 201 = true := by kernel_rfl
@[go_sem] theorem zeroT_201 : zeroT Go.Proofs.Tryz.prog 201 = some (.lit (.pointer none)) := by kernel_rfl
@[go_sem] theorem szT_202 : szT Go.Proofs.Tryz.prog 202 = 3 := by kernel_rfl
@[go_sem] theorem aggT_202 : aggT Go.Proofs.Tryz.prog 202 = some true := by kernel_rfl
@[go_sem] theorem fldT_202_0 : fldT Go.Proofs.Tryz.prog 202 0 = some (0, 1) := by kernel_rfl
@[go_sem] theorem fldT_202_1 : fldT Go.Proofs.Tryz.prog 202 1 = some (1, 1) := by kernel_rfl
@[go_sem] theorem fldT_202_2 : fldT Go.Proofs.Tryz.prog 202 2 = some (2, 1) := by kernel_rfl
@[go_sem] theorem elemT_202 : elemT Go.Proofs.Tryz.prog 202 = none := by kernel_rfl
@[go_sem] theorem arrT_202 : arrT Go.Proofs.Tryz.prog 202 = none := by kernel_rfl
@[go_sem] theorem byT_202 : byT Go.Proofs.Tryz.prog 202 = 56 := by kernel_rfl
@[go_sem] theorem strT_202 : strT Go.Proofs.Tryz.prog 202 = false := by kernel_rfl
@[go_sem] theorem fldsT_202 : fldsT Go.Proofs.Tryz.prog 202 = true := by kernel_rfl
@[go_sem] theorem boolT_202 : boolT Go.Proofs.Tryz.prog 202 = false := by kernel_rfl
@[go_sem] theorem intT_202 : intT Go.Proofs.Tryz.prog 202 = none := by kernel_rfl
@[go_sem] theorem zOk_202 : zOk Go.Proofs.Tryz.prog 202 = true := by kernel_rfl
@[go_sem] theorem zeroT_202 : zeroT Go.Proofs.Tryz.prog 202 = some (.agg [.sl .own [], .lit (.int .i64 0), .sl .own []]) := by kernel_rfl
@[go_sem] theorem szT_203 : szT Go.Proofs.Tryz.prog 203 = 3 := by kernel_rfl
@[go_sem] theorem aggT_203 : aggT Go.Proofs.Tryz.prog 203 = some true := by kernel_rfl
@[go_sem] theorem fldT_203_0 : fldT Go.Proofs.Tryz.prog 203 0 = some (0, 1) := by kernel_rfl
@[go_sem] theorem fldT_203_1 : fldT Go.Proofs.Tryz.prog 203 1 = some (1, 1) := by kernel_rfl
@[go_sem] theorem fldT_203_2 : fldT Go.Proofs.Tryz.prog 203 2 = some (2, 1) := by kernel_rfl
@[go_sem] theorem elemT_203 : elemT Go.Proofs.Tryz.prog 203 = none := by kernel_rfl
@[go_sem] theorem arrT_203 : arrT Go.Proofs.Tryz.prog 203 = none := by kernel_rfl
@[go_sem] theorem byT_203 : byT Go.Proofs.Tryz.prog 203 = 56 := by kernel_rfl
@[go_sem] theorem strT_203 : strT Go.Proofs.Tryz.prog 203 = false := by kernel_rfl
@[go_sem] theorem fldsT_203 : fldsT Go.Proofs.Tryz.prog 203 = true := by kernel_rfl
@[go_sem] theorem boolT_203 : boolT Go.Proofs.Tryz.prog 203 = false := by kernel_rfl
@[go_sem] theorem intT_203 : intT Go.Proofs.Tryz.prog 203 = none := by kernel_rfl
@[go_sem] theorem zOk_203 : zOk Go.Proofs.Tryz.prog 203 = true := by kernel_rfl
@[go_sem] theorem zeroT_203 : zeroT Go.Proofs.Tryz.prog 203 = some (.agg [.sl .own [], .lit (.int .i64 0), .sl .own []]) := by kernel_rfl
@[go_sem] theorem szT_212 : szT Go.Proofs.Tryz.prog 212 = 1 := by kernel_rfl
@[go_sem] theorem aggT_212 : aggT Go.Proofs.Tryz.prog 212 = some false := by kernel_rfl
@[go_sem] theorem elemT_212 : elemT Go.Proofs.Tryz.prog 212 = none := by kernel_rfl
@[go_sem] theorem arrT_212 : arrT Go.Proofs.Tryz.prog 212 = none := by kernel_rfl
@[go_sem] theorem byT_212 : byT Go.Proofs.Tryz.prog 212 = 8 := by kernel_rfl
@[go_sem] theorem strT_212 : strT Go.Proofs.Tryz.prog 212 = false := by kernel_rfl
@[go_sem] theorem boolT_212 : boolT Go.Proofs.Tryz.prog 212 = false := by kernel_rfl
@[go_sem] theorem intT_212 : intT Go.Proofs.Tryz.prog 212 = none := by kernel_rfl
@[go_sem] theorem zOk_212 : zOk Go.Proofs.Tryz.prog 212 = true := by kernel_rfl
@[go_sem] theorem zeroT_212 : zeroT Go.Proofs.Tryz.prog 212 = some (.lit (.pointer none)) := by kernel_rfl
@[go_sem] theorem szT_213 : szT Go.Proofs.Tryz.prog 213 = 1 := by kernel_rfl
@[go_sem] theorem aggT_213 : aggT Go.Proofs.Tryz.prog 213 = some false := by kernel_rfl
@[go_sem] theorem elemT_213 : elemT Go.Proofs.Tryz.prog 213 = none := by kernel_rfl
@[go_sem] theorem arrT_213 : arrT Go.Proofs.Tryz.prog 213 = none := by kernel_rfl
@[go_sem] theorem byT_213 : byT Go.Proofs.Tryz.prog 213 = 8 := by kernel_rfl
@[go_sem] theorem strT_213 : strT Go.Proofs.Tryz.prog 213 = false := by kernel_rfl
@[go_sem] theorem boolT_213 : boolT Go.Proofs.Tryz.prog 213 = false := by kernel_rfl
@[go_sem] theorem intT_213 : intT Go.Proofs.Tryz.prog 213 = some .u64 := by kernel_rfl
@[go_sem] theorem zOk_213 : zOk Go.Proofs.Tryz.prog 213 = true := by kernel_rfl
@[go_sem] theorem zeroT_213 : zeroT Go.Proofs.Tryz.prog 213 = some (.lit (.int .u64 0)) := by kernel_rfl
@[go_sem] theorem szT_215 : szT Go.Proofs.Tryz.prog 215 = 24 := by kernel_rfl
@[go_sem] theorem aggT_215 : aggT Go.Proofs.Tryz.prog 215 = some true := by kernel_rfl
@[go_sem] theorem elemT_215 : elemT Go.Proofs.Tryz.prog 215 = none := by kernel_rfl
@[go_sem] theorem arrT_215 : arrT Go.Proofs.Tryz.prog 215 = some (24, 5) := by kernel_rfl
@[go_sem] theorem byT_215 : byT Go.Proofs.Tryz.prog 215 = 24 := by kernel_rfl
@[go_sem] theorem strT_215 : strT Go.Proofs.Tryz.prog 215 = false := by kernel_rfl
@[go_sem] theorem fldsT_215 : fldsT Go.Proofs.Tryz.prog 215 = true := by kernel_rfl
@[go_sem] theorem boolT_215 : boolT Go.Proofs.Tryz.prog 215 = false := by kernel_rfl
@[go_sem] theorem intT_215 : intT Go.Proofs.Tryz.prog 215 = none := by kernel_rfl
@[go_sem] theorem zOk_215 : zOk Go.Proofs.Tryz.prog 215 = true := by kernel_rfl
@[go_sem] theorem zeroT_215 : zeroT Go.Proofs.Tryz.prog 215 = some (.agg [.lit (.int .u8 0), .lit (.int .u8 0), .lit (.int .u8 0), .lit (.int .u8 0), .lit (.int .u8 0), .lit (.int .u8 0), .lit (.int .u8 0), .lit (.int .u8 0), .lit (.int .u8 0), .lit (.int .u8 0), .lit (.int .u8 0), .lit (.int .u8 0), .lit (.int .u8 0), .lit (.int .u8 0), .lit (.int .u8 0), .lit (.int .u8 0), .lit (.int .u8 0), .lit (.int .u8 0), .lit (.int .u8 0), .lit (.int .u8 0), .lit (.int .u8 0), .lit (.int .u8 0), .lit (.int .u8 0), .lit (.int .u8 0)]) := by kernel_rfl
@[go_sem] theorem szT_216 : szT Go.Proofs.Tryz.prog 216 = 1 := by kernel_rfl
@[go_sem] theorem aggT_216 : aggT Go.Proofs.Tryz.prog 216 = some false := by kernel_rfl
@[go_sem] theorem elemT_216 : elemT Go.Proofs.Tryz.prog 216 = none := by kernel_rfl
@[go_sem] theorem arrT_216 : arrT Go.Proofs.Tryz.prog 216 = none := by kernel_rfl
@[go_sem] theorem byT_216 : byT Go.Proofs.Tryz.prog 216 = 8 := by kernel_rfl
@[go_sem] theorem strT_216 : strT Go.Proofs.Tryz.prog 216 = false := by kernel_rfl
@[go_sem] theorem boolT_216 : boolT Go.Proofs.Tryz.prog 216 = false := by kernel_rfl
@[go_sem] theorem intT_216 : intT Go.Proofs.Tryz.prog 216 = some .u64 := by kernel_rfl
@[go_sem] theorem zOk_216 : zOk Go.Proofs.Tryz.prog 216 = true := by kernel_rfl
@[go_sem] theorem zeroT_216 : zeroT Go.Proofs.Tryz.prog 216 = some (.lit (.int .u64 0)) := by kernel_rfl
@[go_sem] theorem szT_223 : szT Go.Proofs.Tryz.prog 223 = 1 := by kernel_rfl
@[go_sem] theorem aggT_223 : aggT Go.Proofs.Tryz.prog 223 = some false := by kernel_rfl
@[go_sem] theorem elemT_223 : elemT Go.Proofs.Tryz.prog 223 = some 227 := by kernel_rfl
@[go_sem] theorem arrT_223 : arrT Go.Proofs.Tryz.prog 223 = none := by kernel_rfl
@[go_sem] theorem byT_223 : byT Go.Proofs.Tryz.prog 223 = 24 := by kernel_rfl
@[go_sem] theorem strT_223 : strT Go.Proofs.Tryz.prog 223 = false := by kernel_rfl
@[go_sem] theorem boolT_223 : boolT Go.Proofs.Tryz.prog 223 = false := by kernel_rfl
@[go_sem] theorem intT_223 : intT Go.Proofs.Tryz.prog 223 = none := by kernel_rfl
@[go_sem] theorem zOk_223 : zOk Go.Proofs.Tryz.prog 223 = true := by kernel_rfl
@[go_sem] theorem zeroT_223 : zeroT Go.Proofs.Tryz.prog 223 = some (.sl .own []) := by kernel_rfl
@[go_sem] theorem szT_226 : szT Go.Proofs.Tryz.prog 226 = 3 := by kernel_rfl
@[go_sem] theorem aggT_226 : aggT Go.Proofs.Tryz.prog 226 = some true := by kernel_rfl
@[go_sem] theorem fldT_226_0 : fldT Go.Proofs.Tryz.prog 226 0 = some (0, 1) := by kernel_rfl
@[go_sem] theorem fldT_226_1 : fldT Go.Proofs.Tryz.prog 226 1 = some (1, 1) := by kernel_rfl
@[go_sem] theorem fldT_226_2 : fldT Go.Proofs.Tryz.prog 226 2 = some (2, 1) := by kernel_rfl
@[go_sem] theorem elemT_226 : elemT Go.Proofs.Tryz.prog 226 = none := by kernel_rfl
@[go_sem] theorem arrT_226 : arrT Go.Proofs.Tryz.prog 226 = none := by kernel_rfl
@[go_sem] theorem byT_226 : byT Go.Proofs.Tryz.prog 226 = 56 := by kernel_rfl
@[go_sem] theorem strT_226 : strT Go.Proofs.Tryz.prog 226 = false := by kernel_rfl
@[go_sem] theorem fldsT_226 : fldsT Go.Proofs.Tryz.prog 226 = true := by kernel_rfl
@[go_sem] theorem boolT_226 : boolT Go.Proofs.Tryz.prog 226 = false := by kernel_rfl
@[go_sem] theorem intT_226 : intT Go.Proofs.Tryz.prog 226 = none := by kernel_rfl
@[go_sem] theorem zOk_226 : zOk Go.Proofs.Tryz.prog 226 = true := by kernel_rfl
@[go_sem] theorem zeroT_226 : zeroT Go.Proofs.Tryz.prog 226 = some (.agg [.sl .own [], .sl .own [], .lit (.bool false)]) := by kernel_rfl
@[go_sem] theorem szT_227 : szT Go.Proofs.Tryz.prog 227 = 3 := by kernel_rfl
@[go_sem] theorem aggT_227 : aggT Go.Proofs.Tryz.prog 227 = some true := by kernel_rfl
@[go_sem] theorem fldT_227_0 : fldT Go.Proofs.Tryz.prog 227 0 = some (0, 1) := by kernel_rfl
@[go_sem] theorem fldT_227_1 : fldT Go.Proofs.Tryz.prog 227 1 = some (1, 1) := by kernel_rfl
@[go_sem] theorem fldT_227_2 : fldT Go.Proofs.Tryz.prog 227 2 = some (2, 1) := by kernel_rfl
@[go_sem] theorem elemT_227 : elemT Go.Proofs.Tryz.prog 227 = none := by kernel_rfl
@[go_sem] theorem arrT_227 : arrT Go.Proofs.Tryz.prog 227 = none := by kernel_rfl
@[go_sem] theorem byT_227 : byT Go.Proofs.Tryz.prog 227 = 56 := by kernel_rfl
@[go_sem] theorem strT_227 : strT Go.Proofs.Tryz.prog 227 = false := by kernel_rfl
@[go_sem] theorem fldsT_227 : fldsT Go.Proofs.Tryz.prog 227 = true := by kernel_rfl
@[go_sem] theorem boolT_227 : boolT Go.Proofs.Tryz.prog 227 = false := by kernel_rfl
@[go_sem] theorem intT_227 : intT Go.Proofs.Tryz.prog 227 = none := by kernel_rfl
@[go_sem] theorem zOk_227 : zOk Go.Proofs.Tryz.prog 227 = true := by kernel_rfl
@[go_sem] theorem zeroT_227 : zeroT Go.Proofs.Tryz.prog 227 = some (.agg [.sl .own [], .sl .own [], .lit (.bool false)]) := by kernel_rfl
@[go_sem] theorem szT_234 : szT Go.Proofs.Tryz.prog 234 = 1 := by kernel_rfl
@[go_sem] theorem aggT_234 : aggT Go.Proofs.Tryz.prog 234 = some false := by kernel_rfl
@[go_sem] theorem elemT_234 : elemT Go.Proofs.Tryz.prog 234 = none := by kernel_rfl
@[go_sem] theorem arrT_234 : arrT Go.Proofs.Tryz.prog 234 = none := by kernel_rfl
@[go_sem] theorem byT_234 : byT Go.Proofs.Tryz.prog 234 = 4 := by kernel_rfl
@[go_sem] theorem strT_234 : strT Go.Proofs.Tryz.prog 234 = false := by kernel_rfl
@[go_sem] theorem boolT_234 : boolT Go.Proofs.Tryz.prog 234 = false := by kernel_rfl
@[go_sem] theorem intT_234 : intT Go.Proofs.Tryz.prog 234 = some .u32 := by kernel_rfl
@[go_sem] theorem zOk_234 : zOk Go.Proofs.Tryz.prog 234 = true := by kernel_rfl
@[go_sem] theorem zeroT_234 : zeroT Go.Proofs.Tryz.prog 234 = some (.lit (.int .u32 0)) := by kernel_rfl
@[go_sem] theorem szT_250 : szT Go.Proofs.Tryz.prog 250 = 4 := by kernel_rfl
@[go_sem] theorem aggT_250 : aggT Go.Proofs.Tryz.prog 250 = some true := by kernel_rfl
@[go_sem] theorem fldT_250_0 : fldT Go.Proofs.Tryz.prog 250 0 = some (0, 1) := by kernel_rfl
@[go_sem] theorem fldT_250_1 : fldT Go.Proofs.Tryz.prog 250 1 = some (1, 1) := by kernel_rfl
@[go_sem] theorem fldT_250_2 : fldT Go.Proofs.Tryz.prog 250 2 = some (2, 1) := by kernel_rfl
@[go_sem] theorem fldT_250_3 : fldT Go.Proofs.Tryz.prog 250 3 = some (3, 1) := by kernel_rfl
@[go_sem] theorem elemT_250 : elemT Go.Proofs.Tryz.prog 250 = none := by kernel_rfl
@[go_sem] theorem arrT_250 : arrT Go.Proofs.Tryz.prog 250 = none := by kernel_rfl
@[go_sem] theorem byT_250 : byT Go.Proofs.Tryz.prog 250 = 40 := by kernel_rfl
@[go_sem] theorem strT_250 : strT Go.Proofs.Tryz.prog 250 = false := by kernel_rfl
@[go_sem] theorem fldsT_250 : fldsT Go.Proofs.Tryz.prog 250 = true := by kernel_rfl
@[go_sem] theorem boolT_250 : boolT Go.Proofs.Tryz.prog 250 = false := by kernel_rfl
@[go_sem] theorem intT_250 : intT Go.Proofs.Tryz.prog 250 = none := by kernel_rfl
@[go_sem] theorem zOk_250 : zOk Go.Proofs.Tryz.prog 250 = true := by kernel_rfl
@[go_sem] theorem zeroT_250 : zeroT Go.Proofs.Tryz.prog 250 = some (.agg [.lit (.pointer none), .lit (.pointer none), .lit (.pointer none), .lit (.string ⟨#[]⟩)]) := by kernel_rfl
@[go_sem] theorem szT_251 : szT Go.Proofs.Tryz.prog 251 = 4 := by kernel_rfl
@[go_sem] theorem aggT_251 : aggT Go.Proofs.Tryz.prog 251 = some true := by kernel_rfl
@[go_sem] theorem fldT_251_0 : fldT Go.Proofs.Tryz.prog 251 0 = some (0, 1) := by kernel_rfl
@[go_sem] theorem fldT_251_1 : fldT Go.Proofs.Tryz.prog 251 1 = some (1, 1) := by kernel_rfl
@[go_sem] theorem fldT_251_2 : fldT Go.Proofs.Tryz.prog 251 2 = some (2, 1) := by kernel_rfl
@[go_sem] theorem fldT_251_3 : fldT Go.Proofs.Tryz.prog 251 3 = some (3, 1) := by kernel_rfl
@[go_sem] theorem elemT_251 : elemT Go.Proofs.Tryz.prog 251 = none := by kernel_rfl
@[go_sem] theorem arrT_251 : arrT Go.Proofs.Tryz.prog 251 = none := by kernel_rfl
@[go_sem] theorem byT_251 : byT Go.Proofs.Tryz.prog 251 = 40 := by kernel_rfl
@[go_sem] theorem strT_251 : strT Go.Proofs.Tryz.prog 251 = false := by kernel_rfl
@[go_sem] theorem fldsT_251 : fldsT Go.Proofs.Tryz.prog 251 = true := by kernel_rfl
@[go_sem] theorem boolT_251 : boolT Go.Proofs.Tryz.prog 251 = false := by kernel_rfl
@[go_sem] theorem intT_251 : intT Go.Proofs.Tryz.prog 251 = none := by kernel_rfl
@[go_sem] theorem zOk_251 : zOk Go.Proofs.Tryz.prog 251 = true := by kernel_rfl
@[go_sem] theorem zeroT_251 : zeroT Go.Proofs.Tryz.prog 251 = some (.agg [.lit (.pointer none), .lit (.pointer none), .lit (.pointer none), .lit (.string ⟨#[]⟩)]) := by kernel_rfl
@[go_sem] theorem szT_252 : szT Go.Proofs.Tryz.prog 252 = 0 := by kernel_rfl
@[go_sem] theorem aggT_252 : aggT Go.Proofs.Tryz.prog 252 = some true := by kernel_rfl
@[go_sem] theorem elemT_252 : elemT Go.Proofs.Tryz.prog 252 = none := by kernel_rfl
@[go_sem] theorem arrT_252 : arrT Go.Proofs.Tryz.prog 252 = some (0, 16) := by kernel_rfl
@[go_sem] theorem byT_252 : byT Go.Proofs.Tryz.prog 252 = 0 := by kernel_rfl
@[go_sem] theorem strT_252 : strT Go.Proofs.Tryz.prog 252 = false := by kernel_rfl
@[go_sem] theorem fldsT_252 : fldsT Go.Proofs.Tryz.prog 252 = true := by kernel_rfl
@[go_sem] theorem boolT_252 : boolT Go.Proofs.Tryz.prog 252 = false := by kernel_rfl
@[go_sem] theorem intT_252 : intT Go.Proofs.Tryz.prog 252 = none := by kernel_rfl
@[go_sem] theorem zOk_252 : zOk Go.Proofs.Tryz.prog 252 = true := by kernel_rfl
@[go_sem] theorem zeroT_252 : zeroT Go.Proofs.Tryz.prog 252 = some (.agg []) := by kernel_rfl
@[go_sem] theorem szT_253 : szT Go.Proofs.Tryz.prog 253 = 0 := by kernel_rfl
@[go_sem] theorem aggT_253 : aggT Go.Proofs.Tryz.prog 253 = some true := by kernel_rfl
@[go_sem] theorem fldT_253_0 : fldT Go.Proofs.Tryz.prog 253 0 = none := by kernel_rfl
@[go_sem] theorem elemT_253 : elemT Go.Proofs.Tryz.prog 253 = none := by kernel_rfl
@[go_sem] theorem arrT_253 : arrT Go.Proofs.Tryz.prog 253 = none := by kernel_rfl
@[go_sem] theorem byT_253 : byT Go.Proofs.Tryz.prog 253 = 0 := by kernel_rfl
@[go_sem] theorem strT_253 : strT Go.Proofs.Tryz.prog 253 = false := by kernel_rfl
@[go_sem] theorem fldsT_253 : fldsT Go.Proofs.Tryz.prog 253 = true := by kernel_rfl
@[go_sem] theorem boolT_253 : boolT Go.Proofs.Tryz.prog 253 = false := by kernel_rfl
@[go_sem] theorem intT_253 : intT Go.Proofs.Tryz.prog 253 = none := by kernel_rfl
@[go_sem] theorem zOk_253 : zOk Go.Proofs.Tryz.prog 253 = true := by kernel_rfl
@[go_sem] theorem zeroT_253 : zeroT Go.Proofs.Tryz.prog 253 = some (.agg []) := by kernel_rfl
@[go_sem] theorem szT_254 : szT Go.Proofs.Tryz.prog 254 = 0 := by kernel_rfl
@[go_sem] theorem aggT_254 : aggT Go.Proofs.Tryz.prog 254 = some true := by kernel_rfl
@[go_sem] theorem fldT_254_0 : fldT Go.Proofs.Tryz.prog 254 0 = none := by kernel_rfl
@[go_sem] theorem elemT_254 : elemT Go.Proofs.Tryz.prog 254 = none := by kernel_rfl
@[go_sem] theorem arrT_254 : arrT Go.Proofs.Tryz.prog 254 = none := by kernel_rfl
@[go_sem] theorem byT_254 : byT Go.Proofs.Tryz.prog 254 = 0 := by kernel_rfl
@[go_sem] theorem strT_254 : strT Go.Proofs.Tryz.prog 254 = false := by kernel_rfl
@[go_sem] theorem fldsT_254 : fldsT Go.Proofs.Tryz.prog 254 = true := by kernel_rfl
@[go_sem] theorem boolT_254 : boolT Go.Proofs.Tryz.prog 254 = false := by kernel_rfl
@[go_sem] theorem intT_254 : intT Go.Proofs.Tryz.prog 254 = none := by kernel_rfl
@[go_sem] theorem zOk_254 : zOk Go.Proofs.Tryz.prog 254 = true := by kernel_rfl
@[go_sem] theorem zeroT_254 : zeroT Go.Proofs.Tryz.prog 254 = some (.agg []) := by kernel_rfl
@[go_sem] theorem szT_256 : szT Go.Proofs.Tryz.prog 256 = 1 := by kernel_rfl
@[go_sem] theorem aggT_256 : aggT Go.Proofs.Tryz.prog 256 = some false := by kernel_rfl
@[go_sem] theorem elemT_256 : elemT Go.Proofs.Tryz.prog 256 = none := by kernel_rfl
@[go_sem] theorem arrT_256 : arrT Go.Proofs.Tryz.prog 256 = none := by kernel_rfl
@[go_sem] theorem byT_256 : byT Go.Proofs.Tryz.prog 256 = 1 := by kernel_rfl
@[go_sem] theorem strT_256 : strT Go.Proofs.Tryz.prog 256 = false := by kernel_rfl
@[go_sem] theorem boolT_256 : boolT Go.Proofs.Tryz.prog 256 = false := by kernel_rfl
@[go_sem] theorem intT_256 : intT Go.Proofs.Tryz.prog 256 = some .u8 := by kernel_rfl
@[go_sem] theorem zOk_256 : zOk Go.Proofs.Tryz.prog 256 = true := by kernel_rfl
@[go_sem] theorem zeroT_256 : zeroT Go.Proofs.Tryz.prog 256 = some (.lit (.int .u8 0)) := by kernel_rfl
@[go_sem] theorem szT_257 : szT Go.Proofs.Tryz.prog 257 = 1 := by kernel_rfl
@[go_sem] theorem aggT_257 : aggT Go.Proofs.Tryz.prog 257 = some false := by kernel_rfl
@[go_sem] theorem elemT_257 : elemT Go.Proofs.Tryz.prog 257 = none := by kernel_rfl
@[go_sem] theorem arrT_257 : arrT Go.Proofs.Tryz.prog 257 = none := by kernel_rfl
@[go_sem] theorem byT_257 : byT Go.Proofs.Tryz.prog 257 = 1 := by kernel_rfl
@[go_sem] theorem strT_257 : strT Go.Proofs.Tryz.prog 257 = false := by kernel_rfl
@[go_sem] theorem boolT_257 : boolT Go.Proofs.Tryz.prog 257 = false := by kernel_rfl
@[go_sem] theorem intT_257 : intT Go.Proofs.Tryz.prog 257 = some .u8 := by kernel_rfl
@[go_sem] theorem zOk_257 : zOk Go.Proofs.Tryz.prog 257 = true := by kernel_rfl
@[go_sem] theorem zeroT_257 : zeroT Go.Proofs.Tryz.prog 257 = some (.lit (.int .u8 0)) := by kernel_rfl
@[go_sem] theorem szT_258 : szT Go.Proofs.Tryz.prog 258 = 1 := by kernel_rfl
@[go_sem] theorem aggT_258 : aggT Go.Proofs.Tryz.prog 258 = some false := by kernel_rfl
@[go_sem] theorem elemT_258 : elemT Go.Proofs.Tryz.prog 258 = none := by kernel_rfl
@[go_sem] theorem arrT_258 : arrT Go.Proofs.Tryz.prog 258 = none := by kernel_rfl
@[go_sem] theorem byT_258 : byT Go.Proofs.Tryz.prog 258 = 8 := by kernel_rfl
@[go_sem] theorem strT_258 : strT Go.Proofs.Tryz.prog 258 = false := by kernel_rfl
@[go_sem] theorem boolT_258 : boolT Go.Proofs.Tryz.prog 258 = false := by kernel_rfl
@[go_sem] theorem intT_258 : intT Go.Proofs.Tryz.prog 258 = none := by kernel_rfl
@[go_sem] theorem zOk_258 : zOk Go.Proofs.Tryz.prog 258 = true := by kernel_rfl
@[go_sem] theorem zeroT_258 : zeroT Go.Proofs.Tryz.prog 258 = some (.lit .nilFunc) := by kernel_rfl
@[go_sem] theorem szT_259 : szT Go.Proofs.Tryz.prog 259 = 1 := by kernel_rfl
@[go_sem] theorem aggT_259 : aggT Go.Proofs.Tryz.prog 259 = some false := by kernel_rfl
@[go_sem] theorem elemT_259 : elemT Go.Proofs.Tryz.prog 259 = none := by kernel_rfl
@[go_sem] theorem arrT_259 : arrT Go.Proofs.Tryz.prog 259 = none := by kernel_rfl
@[go_sem] theorem byT_259 : byT Go.Proofs.Tryz.prog 259 = 4 := by kernel_rfl
@[go_sem] theorem strT_259 : strT Go.Proofs.Tryz.prog 259 = false := by kernel_rfl
@[go_sem] theorem boolT_259 : boolT Go.Proofs.Tryz.prog 259 = false := by kernel_rfl
@[go_sem] theorem intT_259 : intT Go.Proofs.Tryz.prog 259 = some .i32 := by kernel_rfl
@[go_sem] theorem zOk_259 : zOk Go.Proofs.Tryz.prog 259 = true := by kernel_rfl
@[go_sem] theorem zeroT_259 : zeroT Go.Proofs.Tryz.prog 259 = some (.lit (.int .i32 0)) := by kernel_rfl
@[go_sem] theorem szT_260 : szT Go.Proofs.Tryz.prog 260 = 1 := by kernel_rfl
@[go_sem] theorem aggT_260 : aggT Go.Proofs.Tryz.prog 260 = some false := by kernel_rfl
@[go_sem] theorem elemT_260 : elemT Go.Proofs.Tryz.prog 260 = none := by kernel_rfl
@[go_sem] theorem arrT_260 : arrT Go.Proofs.Tryz.prog 260 = none := by kernel_rfl
@[go_sem] theorem byT_260 : byT Go.Proofs.Tryz.prog 260 = 4 := by kernel_rfl
@[go_sem] theorem strT_260 : strT Go.Proofs.Tryz.prog 260 = false := by kernel_rfl
@[go_sem] theorem boolT_260 : boolT Go.Proofs.Tryz.prog 260 = false := by kernel_rfl
@[go_sem] theorem intT_260 : intT Go.Proofs.Tryz.prog 260 = some .i32 := by kernel_rfl
@[go_sem] theorem zOk_260 : zOk Go.Proofs.Tryz.prog 260 = true := by kernel_rfl
@[go_sem] theorem zeroT_260 : zeroT Go.Proofs.Tryz.prog 260 = some (.lit (.int .i32 0)) := by kernel_rfl
@[go_sem] theorem szT_261 : szT Go.Proofs.Tryz.prog 261 = 11 := by kernel_rfl
@[go_sem] theorem aggT_261 : aggT Go.Proofs.Tryz.prog 261 = some true := by kernel_rfl
@[go_sem] theorem fldT_261_0 : fldT Go.Proofs.Tryz.prog 261 0 = some (0, 1) := by kernel_rfl
@[go_sem] theorem fldT_261_1 : fldT Go.Proofs.Tryz.prog 261 1 = some (1, 1) := by kernel_rfl
@[go_sem] theorem fldT_261_2 : fldT Go.Proofs.Tryz.prog 261 2 = some (2, 1) := by kernel_rfl
@[go_sem] theorem fldT_261_3 : fldT Go.Proofs.Tryz.prog 261 3 = some (3, 1) := by kernel_rfl
@[go_sem] theorem fldT_261_4 : fldT Go.Proofs.Tryz.prog 261 4 = some (4, 1) := by kernel_rfl
@[go_sem] theorem fldT_261_5 : fldT Go.Proofs.Tryz.prog 261 5 = some (5, 1) := by kernel_rfl
@[go_sem] theorem fldT_261_6 : fldT Go.Proofs.Tryz.prog 261 6 = some (6, 1) := by kernel_rfl
@[go_sem] theorem fldT_261_7 : fldT Go.Proofs.Tryz.prog 261 7 = some (7, 1) := by kernel_rfl
@[go_sem] theorem fldT_261_8 : fldT Go.Proofs.Tryz.prog 261 8 = some (8, 1) := by kernel_rfl
@[go_sem] theorem fldT_261_9 : fldT Go.Proofs.Tryz.prog 261 9 = some (9, 1) := by kernel_rfl
@[go_sem] theorem fldT_261_10 : fldT Go.Proofs.Tryz.prog 261 10 = some (10, 1) := by kernel_rfl
@[go_sem] theorem elemT_261 : elemT Go.Proofs.Tryz.prog 261 = none := by kernel_rfl
@[go_sem] theorem arrT_261 : arrT Go.Proofs.Tryz.prog 261 = none := by kernel_rfl
@[go_sem] theorem byT_261 : byT Go.Proofs.Tryz.prog 261 = 48 := by kernel_rfl
@[go_sem] theorem strT_261 : strT Go.Proofs.Tryz.prog 261 = false := by kernel_rfl
@[go_sem] theorem fldsT_261 : fldsT Go.Proofs.Tryz.prog 261 = true := by kernel_rfl
@[go_sem] theorem boolT_261 : boolT Go.Proofs.Tryz.prog 261 = false := by kernel_rfl
@[go_sem] theorem intT_261 : intT Go.Proofs.Tryz.prog 261 = none := by kernel_rfl
@[go_sem] theorem zOk_261 : zOk Go.Proofs.Tryz.prog 261 = true := by kernel_rfl
@[go_sem] theorem zeroT_261 : zeroT Go.Proofs.Tryz.prog 261 = some (.agg [.lit (.int .u64 0), .lit (.int .u64 0), .lit (.int .u32 0), .lit (.int .u8 0), .lit (.int .u8 0), .lit (.int .u8 0), .lit (.int .u8 0), .lit .nilFunc, .lit (.pointer none), .lit (.int .i32 0), .lit (.int .i32 0)]) := by kernel_rfl
@[go_sem] theorem szT_262 : szT Go.Proofs.Tryz.prog 262 = 11 := by kernel_rfl
@[go_sem] theorem aggT_262 : aggT Go.Proofs.Tryz.prog 262 = some true := by kernel_rfl
@[go_sem] theorem fldT_262_0 : fldT Go.Proofs.Tryz.prog 262 0 = some (0, 1) := by kernel_rfl
@[go_sem] theorem fldT_262_1 : fldT Go.Proofs.Tryz.prog 262 1 = some (1, 1) := by kernel_rfl
@[go_sem] theorem fldT_262_2 : fldT Go.Proofs.Tryz.prog 262 2 = some (2, 1) := by kernel_rfl
@[go_sem] theorem fldT_262_3 : fldT Go.Proofs.Tryz.prog 262 3 = some (3, 1) := by kernel_rfl
@[go_sem] theorem fldT_262_4 : fldT Go.Proofs.Tryz.prog 262 4 = some (4, 1) := by kernel_rfl
@[go_sem] theorem fldT_262_5 : fldT Go.Proofs.Tryz.prog 262 5 = some (5, 1) := by kernel_rfl
@[go_sem] theorem fldT_262_6 : fldT Go.Proofs.Tryz.prog 262 6 = some (6, 1) := by kernel_rfl
@[go_sem] theorem fldT_262_7 : fldT Go.Proofs.Tryz.prog 262 7 = some (7, 1) := by kernel_rfl
@[go_sem] theorem fldT_262_8 : fldT Go.Proofs.Tryz.prog 262 8 = some (8, 1) := by kernel_rfl
@[go_sem] theorem fldT_262_9 : fldT Go.Proofs.Tryz.prog 262 9 = some (9, 1) := by kernel_rfl
@[go_sem] theorem fldT_262_10 : fldT Go.Proofs.Tryz.prog 262 10 = some (10, 1) := by kernel_rfl
@[go_sem] theorem elemT_262 : elemT Go.Proofs.Tryz.prog 262 = none := by kernel_rfl
@[go_sem] theorem arrT_262 : arrT Go.Proofs.Tryz.prog 262 = none := by kernel_rfl
@[go_sem] theorem byT_262 : byT Go.Proofs.Tryz.prog 262 = 48 := by kernel_rfl
@[go_sem] theorem strT_262 : strT Go.Proofs.Tryz.prog 262 = false := by kernel_rfl
@[go_sem] theorem fldsT_262 : fldsT Go.Proofs.Tryz.prog 262 = true := by kernel_rfl
@[go_sem] theorem boolT_262 : boolT Go.Proofs.Tryz.prog 262 = false := by kernel_rfl
@[go_sem] theorem intT_262 : intT Go.Proofs.Tryz.prog 262 = none := by kernel_rfl
@[go_sem] theorem zOk_262 : zOk Go.Proofs.Tryz.prog 262 = true := by kernel_rfl
@[go_sem] theorem zeroT_262 : zeroT Go.Proofs.Tryz.prog 262 = some (.agg [.lit (.int .u64 0), .lit (.int .u64 0), .lit (.int .u32 0), .lit (.int .u8 0), .lit (.int .u8 0), .lit (.int .u8 0), .lit (.int .u8 0), .lit .nilFunc, .lit (.pointer none), .lit (.int .i32 0), .lit (.int .i32 0)]) := by kernel_rfl
end Go.Proofs.YtilmjbljkkbakaaGreatDoor
