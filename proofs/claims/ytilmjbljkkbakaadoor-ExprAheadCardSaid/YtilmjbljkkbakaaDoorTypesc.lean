/-
  A part of the proof: lemmas.
-/
import Derived.Attr
import Derived.Test.YtilmjbljkkbakaaDoorV2
import Derived.Test.YtilmjbljkkbakaaDoorProg
import Derived.KernelRfl
set_option linter.unusedSimpArgs false
set_option linter.unusedVariables false
set_option linter.unusedSectionVars false
set_option linter.unnecessarySimpa false
set_option linter.deprecated false
namespace Go.Proofs.YtilmjbljkkbakaaDoor
open Go.Wv
@[go_sem] theorem szT_1 : szT Go.Proofs.Tryd.prog 1 = 1 := by kernel_rfl
@[go_sem] theorem aggT_1 : aggT Go.Proofs.Tryd.prog 1 = some false := by kernel_rfl
@[go_sem] theorem elemT_1 : elemT Go.Proofs.Tryd.prog 1 = none := by kernel_rfl
@[go_sem] theorem arrT_1 : arrT Go.Proofs.Tryd.prog 1 = none := by kernel_rfl
@[go_sem] theorem byT_1 : byT Go.Proofs.Tryd.prog 1 = 8 := by kernel_rfl
@[go_sem] theorem strT_1 : strT Go.Proofs.Tryd.prog 1 = false := by kernel_rfl
@[go_sem] theorem boolT_1 : boolT Go.Proofs.Tryd.prog 1 = false := by kernel_rfl
@[go_sem] theorem intT_1 : intT Go.Proofs.Tryd.prog 1 = none := by kernel_rfl
@[go_sem] theorem zOk_1 : zOk Go.Proofs.Tryd.prog 1 = true := by kernel_rfl
@[go_sem] theorem zeroT_1 : zeroT Go.Proofs.Tryd.prog 1 = some (.lit .nilFunc) := by kernel_rfl
@[go_sem] theorem szT_2 : szT Go.Proofs.Tryd.prog 2 = 1 := by kernel_rfl
@[go_sem] theorem aggT_2 : aggT Go.Proofs.Tryd.prog 2 = some false := by kernel_rfl
@[go_sem] theorem elemT_2 : elemT Go.Proofs.Tryd.prog 2 = none := by kernel_rfl
@[go_sem] theorem arrT_2 : arrT Go.Proofs.Tryd.prog 2 = none := by kernel_rfl
@[go_sem] theorem byT_2 : byT Go.Proofs.Tryd.prog 2 = 8 := by kernel_rfl
@[go_sem] theorem strT_2 : strT Go.Proofs.Tryd.prog 2 = false := by kernel_rfl
@[go_sem] theorem boolT_2 : boolT Go.Proofs.Tryd.prog 2 = false := by kernel_rfl
@[go_sem] theorem intT_2 : intT Go.Proofs.Tryd.prog 2 = some .i64 := by kernel_rfl
@[go_sem] theorem zOk_2 : zOk Go.Proofs.Tryd.prog 2 = true := by kernel_rfl
@[go_sem] theorem zeroT_2 : zeroT Go.Proofs.Tryd.prog 2 = some (.lit (.int .i64 0)) := by kernel_rfl
@[go_sem] theorem szT_3 : szT Go.Proofs.Tryd.prog 3 = 1 := by kernel_rfl
@[go_sem] theorem aggT_3 : aggT Go.Proofs.Tryd.prog 3 = some false := by kernel_rfl
@[go_sem] theorem elemT_3 : elemT Go.Proofs.Tryd.prog 3 = none := by kernel_rfl
@[go_sem] theorem arrT_3 : arrT Go.Proofs.Tryd.prog 3 = none := by kernel_rfl
@[go_sem] theorem byT_3 : byT Go.Proofs.Tryd.prog 3 = 8 := by kernel_rfl
@[go_sem] theorem strT_3 : strT Go.Proofs.Tryd.prog 3 = false := by kernel_rfl
@[go_sem] theorem boolT_3 : boolT Go.Proofs.Tryd.prog 3 = false := by kernel_rfl
@[go_sem] theorem intT_3 : intT Go.Proofs.Tryd.prog 3 = some .i64 := by kernel_rfl
@[go_sem] theorem zOk_3 : zOk Go.Proofs.Tryd.prog 3 = true := by kernel_rfl
@[go_sem] theorem zeroT_3 : zeroT Go.Proofs.Tryd.prog 3 = some (.lit (.int .i64 0)) := by kernel_rfl
@[go_sem] theorem szT_4 : szT Go.Proofs.Tryd.prog 4 = 1 := by kernel_rfl
@[go_sem] theorem aggT_4 : aggT Go.Proofs.Tryd.prog 4 = some false := by kernel_rfl
@[go_sem] theorem elemT_4 : elemT Go.Proofs.Tryd.prog 4 = none := by kernel_rfl
@[go_sem] theorem arrT_4 : arrT Go.Proofs.Tryd.prog 4 = none := by kernel_rfl
@[go_sem] theorem byT_4 : byT Go.Proofs.Tryd.prog 4 = 1 := by kernel_rfl
@[go_sem] theorem strT_4 : strT Go.Proofs.Tryd.prog 4 = false := by kernel_rfl
@[go_sem] theorem boolT_4 : boolT Go.Proofs.Tryd.prog 4 = true := by kernel_rfl
@[go_sem] theorem intT_4 : intT Go.Proofs.Tryd.prog 4 = none := by kernel_rfl
@[go_sem] theorem zOk_4 : zOk Go.Proofs.Tryd.prog 4 = true := by kernel_rfl
@[go_sem] theorem zeroT_4 : zeroT Go.Proofs.Tryd.prog 4 = some (.lit (.bool false)) := by kernel_rfl
@[go_sem] theorem szT_5 : szT Go.Proofs.Tryd.prog 5 = 1 := by kernel_rfl
@[go_sem] theorem aggT_5 : aggT Go.Proofs.Tryd.prog 5 = some false := by kernel_rfl
@[go_sem] theorem elemT_5 : elemT Go.Proofs.Tryd.prog 5 = none := by kernel_rfl
@[go_sem] theorem arrT_5 : arrT Go.Proofs.Tryd.prog 5 = none := by kernel_rfl
@[go_sem] theorem byT_5 : byT Go.Proofs.Tryd.prog 5 = 1 := by kernel_rfl
@[go_sem] theorem strT_5 : strT Go.Proofs.Tryd.prog 5 = false := by kernel_rfl
@[go_sem] theorem boolT_5 : boolT Go.Proofs.Tryd.prog 5 = false := by kernel_rfl
@[go_sem] theorem intT_5 : intT Go.Proofs.Tryd.prog 5 = some .u8 := by kernel_rfl
@[go_sem] theorem zOk_5 : zOk Go.Proofs.Tryd.prog 5 = true := by kernel_rfl
@[go_sem] theorem zeroT_5 : zeroT Go.Proofs.Tryd.prog 5 = some (.lit (.int .u8 0)) := by kernel_rfl
@[go_sem] theorem szT_6 : szT Go.Proofs.Tryd.prog 6 = 1 := by kernel_rfl
@[go_sem] theorem aggT_6 : aggT Go.Proofs.Tryd.prog 6 = some false := by kernel_rfl
@[go_sem] theorem elemT_6 : elemT Go.Proofs.Tryd.prog 6 = none := by kernel_rfl
@[go_sem] theorem arrT_6 : arrT Go.Proofs.Tryd.prog 6 = none := by kernel_rfl
@[go_sem] theorem byT_6 : byT Go.Proofs.Tryd.prog 6 = 1 := by kernel_rfl
@[go_sem] theorem strT_6 : strT Go.Proofs.Tryd.prog 6 = false := by kernel_rfl
@[go_sem] theorem boolT_6 : boolT Go.Proofs.Tryd.prog 6 = false := by kernel_rfl
@[go_sem] theorem intT_6 : intT Go.Proofs.Tryd.prog 6 = some .u8 := by kernel_rfl
@[go_sem] theorem zOk_6 : zOk Go.Proofs.Tryd.prog 6 = true := by kernel_rfl
@[go_sem] theorem zeroT_6 : zeroT Go.Proofs.Tryd.prog 6 = some (.lit (.int .u8 0)) := by kernel_rfl
@[go_sem] theorem szT_7 : szT Go.Proofs.Tryd.prog 7 = 4 := by kernel_rfl
@[go_sem] theorem aggT_7 : aggT Go.Proofs.Tryd.prog 7 = some true := by kernel_rfl
@[go_sem] theorem fldT_7_0 : fldT Go.Proofs.Tryd.prog 7 0 = some (0, 1) := by kernel_rfl
@[go_sem] theorem fldT_7_1 : fldT Go.Proofs.Tryd.prog 7 1 = some (1, 1) := by kernel_rfl
@[go_sem] theorem fldT_7_2 : fldT Go.Proofs.Tryd.prog 7 2 = some (2, 1) := by kernel_rfl
@[go_sem] theorem fldT_7_3 : fldT Go.Proofs.Tryd.prog 7 3 = some (3, 1) := by kernel_rfl
@[go_sem] theorem elemT_7 : elemT Go.Proofs.Tryd.prog 7 = none := by kernel_rfl
@[go_sem] theorem arrT_7 : arrT Go.Proofs.Tryd.prog 7 = none := by kernel_rfl
@[go_sem] theorem byT_7 : byT Go.Proofs.Tryd.prog 7 = 24 := by kernel_rfl
@[go_sem] theorem strT_7 : strT Go.Proofs.Tryd.prog 7 = false := by kernel_rfl
@[go_sem] theorem fldsT_7 : fldsT Go.Proofs.Tryd.prog 7 = true := by kernel_rfl
@[go_sem] theorem boolT_7 : boolT Go.Proofs.Tryd.prog 7 = false := by kernel_rfl
@[go_sem] theorem intT_7 : intT Go.Proofs.Tryd.prog 7 = none := by kernel_rfl
@[go_sem] theorem zOk_7 : zOk Go.Proofs.Tryd.prog 7 = true := by kernel_rfl
@[go_sem] theorem zeroT_7 : zeroT Go.Proofs.Tryd.prog 7 = some (.agg [.lit (.int .i64 0), .lit (.int .i64 0), .lit (.bool false), .lit (.int .u8 0)]) := by kernel_rfl
@[go_sem] theorem szT_8 : szT Go.Proofs.Tryd.prog 8 = 4 := by kernel_rfl
@[go_sem] theorem aggT_8 : aggT Go.Proofs.Tryd.prog 8 = some true := by kernel_rfl
@[go_sem] theorem fldT_8_0 : fldT Go.Proofs.Tryd.prog 8 0 = some (0, 1) := by kernel_rfl
@[go_sem] theorem fldT_8_1 : fldT Go.Proofs.Tryd.prog 8 1 = some (1, 1) := by kernel_rfl
@[go_sem] theorem fldT_8_2 : fldT Go.Proofs.Tryd.prog 8 2 = some (2, 1) := by kernel_rfl
@[go_sem] theorem fldT_8_3 : fldT Go.Proofs.Tryd.prog 8 3 = some (3, 1) := by kernel_rfl
@[go_sem] theorem elemT_8 : elemT Go.Proofs.Tryd.prog 8 = none := by kernel_rfl
@[go_sem] theorem arrT_8 : arrT Go.Proofs.Tryd.prog 8 = none := by kernel_rfl
@[go_sem] theorem byT_8 : byT Go.Proofs.Tryd.prog 8 = 24 := by kernel_rfl
@[go_sem] theorem strT_8 : strT Go.Proofs.Tryd.prog 8 = false := by kernel_rfl
@[go_sem] theorem fldsT_8 : fldsT Go.Proofs.Tryd.prog 8 = true := by kernel_rfl
@[go_sem] theorem boolT_8 : boolT Go.Proofs.Tryd.prog 8 = false := by kernel_rfl
@[go_sem] theorem intT_8 : intT Go.Proofs.Tryd.prog 8 = none := by kernel_rfl
@[go_sem] theorem zOk_8 : zOk Go.Proofs.Tryd.prog 8 = true := by kernel_rfl
@[go_sem] theorem zeroT_8 : zeroT Go.Proofs.Tryd.prog 8 = some (.agg [.lit (.int .i64 0), .lit (.int .i64 0), .lit (.bool false), .lit (.int .u8 0)]) := by kernel_rfl
@[go_sem] theorem szT_9 : szT Go.Proofs.Tryd.prog 9 = 1 := by kernel_rfl
@[go_sem] theorem aggT_9 : aggT Go.Proofs.Tryd.prog 9 = some false := by kernel_rfl
@[go_sem] theorem elemT_9 : elemT Go.Proofs.Tryd.prog 9 = none := by kernel_rfl
@[go_sem] theorem arrT_9 : arrT Go.Proofs.Tryd.prog 9 = none := by kernel_rfl
@[go_sem] theorem byT_9 : byT Go.Proofs.Tryd.prog 9 = 16 := by kernel_rfl
@[go_sem] theorem strT_9 : strT Go.Proofs.Tryd.prog 9 = true := by kernel_rfl
@[go_sem] theorem boolT_9 : boolT Go.Proofs.Tryd.prog 9 = false := by kernel_rfl
@[go_sem] theorem intT_9 : intT Go.Proofs.Tryd.prog 9 = none := by kernel_rfl
@[go_sem] theorem zOk_9 : zOk Go.Proofs.Tryd.prog 9 = true := by kernel_rfl
@[go_sem] theorem zeroT_9 : zeroT Go.Proofs.Tryd.prog 9 = some (.lit (.string ⟨#[]⟩)) := by kernel_rfl
@[go_sem] theorem szT_10 : szT Go.Proofs.Tryd.prog 10 = 1 := by kernel_rfl
@[go_sem] theorem aggT_10 : aggT Go.Proofs.Tryd.prog 10 = some false := by kernel_rfl
@[go_sem] theorem elemT_10 : elemT Go.Proofs.Tryd.prog 10 = none := by kernel_rfl
@[go_sem] theorem arrT_10 : arrT Go.Proofs.Tryd.prog 10 = none := by kernel_rfl
@[go_sem] theorem byT_10 : byT Go.Proofs.Tryd.prog 10 = 16 := by kernel_rfl
@[go_sem] theorem strT_10 : strT Go.Proofs.Tryd.prog 10 = true := by kernel_rfl
@[go_sem] theorem boolT_10 : boolT Go.Proofs.Tryd.prog 10 = false := by kernel_rfl
@[go_sem] theorem intT_10 : intT Go.Proofs.Tryd.prog 10 = none := by kernel_rfl
@[go_sem] theorem zOk_10 : zOk Go.Proofs.Tryd.prog 10 = true := by kernel_rfl
@[go_sem] theorem zeroT_10 : zeroT Go.Proofs.Tryd.prog 10 = some (.lit (.string ⟨#[]⟩)) := by kernel_rfl
@[go_sem] theorem szT_11 : szT Go.Proofs.Tryd.prog 11 = 1 := by kernel_rfl
@[go_sem] theorem aggT_11 : aggT Go.Proofs.Tryd.prog 11 = some false := by kernel_rfl
@[go_sem] theorem elemT_11 : elemT Go.Proofs.Tryd.prog 11 = none := by kernel_rfl
@[go_sem] theorem arrT_11 : arrT Go.Proofs.Tryd.prog 11 = none := by kernel_rfl
@[go_sem] theorem byT_11 : byT Go.Proofs.Tryd.prog 11 = 16 := by kernel_rfl
@[go_sem] theorem strT_11 : strT Go.Proofs.Tryd.prog 11 = true := by kernel_rfl
@[go_sem] theorem boolT_11 : boolT Go.Proofs.Tryd.prog 11 = false := by kernel_rfl
@[go_sem] theorem intT_11 : intT Go.Proofs.Tryd.prog 11 = none := by kernel_rfl
@[go_sem] theorem zOk_11 : zOk Go.Proofs.Tryd.prog 11 = true := by kernel_rfl
@[go_sem] theorem zeroT_11 : zeroT Go.Proofs.Tryd.prog 11 = some (.lit (.string ⟨#[]⟩)) := by kernel_rfl
@[go_sem] theorem szT_12 : szT Go.Proofs.Tryd.prog 12 = 1 := by kernel_rfl
@[go_sem] theorem aggT_12 : aggT Go.Proofs.Tryd.prog 12 = some false := by kernel_rfl
@[go_sem] theorem elemT_12 : elemT Go.Proofs.Tryd.prog 12 = none := by kernel_rfl
@[go_sem] theorem arrT_12 : arrT Go.Proofs.Tryd.prog 12 = none := by kernel_rfl
@[go_sem] theorem byT_12 : byT Go.Proofs.Tryd.prog 12 = 8 := by kernel_rfl
@[go_sem] theorem strT_12 : strT Go.Proofs.Tryd.prog 12 = false := by kernel_rfl
@[go_sem] theorem boolT_12 : boolT Go.Proofs.Tryd.prog 12 = false := by kernel_rfl
@[go_sem] theorem intT_12 : intT Go.Proofs.Tryd.prog 12 = some .u64 := by kernel_rfl
@[go_sem] theorem zOk_12 : zOk Go.Proofs.Tryd.prog 12 = true := by kernel_rfl
@[go_sem] theorem zeroT_12 : zeroT Go.Proofs.Tryd.prog 12 = some (.lit (.int .u64 0)) := by kernel_rfl
@[go_sem] theorem szT_13 : szT Go.Proofs.Tryd.prog 13 = 2 := by kernel_rfl
@[go_sem] theorem aggT_13 : aggT Go.Proofs.Tryd.prog 13 = some true := by kernel_rfl
@[go_sem] theorem fldT_13_0 : fldT Go.Proofs.Tryd.prog 13 0 = some (0, 1) := by kernel_rfl
@[go_sem] theorem fldT_13_1 : fldT Go.Proofs.Tryd.prog 13 1 = some (1, 1) := by kernel_rfl
@[go_sem] theorem elemT_13 : elemT Go.Proofs.Tryd.prog 13 = none := by kernel_rfl
@[go_sem] theorem arrT_13 : arrT Go.Proofs.Tryd.prog 13 = none := by kernel_rfl
@[go_sem] theorem byT_13 : byT Go.Proofs.Tryd.prog 13 = 24 := by kernel_rfl
@[go_sem] theorem strT_13 : strT Go.Proofs.Tryd.prog 13 = false := by kernel_rfl
@[go_sem] theorem fldsT_13 : fldsT Go.Proofs.Tryd.prog 13 = true := by kernel_rfl
@[go_sem] theorem boolT_13 : boolT Go.Proofs.Tryd.prog 13 = false := by kernel_rfl
@[go_sem] theorem intT_13 : intT Go.Proofs.Tryd.prog 13 = none := by kernel_rfl
@[go_sem] theorem zOk_13 : zOk Go.Proofs.Tryd.prog 13 = true := by kernel_rfl
@[go_sem] theorem zeroT_13 : zeroT Go.Proofs.Tryd.prog 13 = some (.agg [.lit (.string ⟨#[]⟩), .lit (.int .u64 0)]) := by kernel_rfl
@[go_sem] theorem szT_14 : szT Go.Proofs.Tryd.prog 14 = 2 := by kernel_rfl
@[go_sem] theorem aggT_14 : aggT Go.Proofs.Tryd.prog 14 = some true := by kernel_rfl
@[go_sem] theorem fldT_14_0 : fldT Go.Proofs.Tryd.prog 14 0 = some (0, 1) := by kernel_rfl
@[go_sem] theorem fldT_14_1 : fldT Go.Proofs.Tryd.prog 14 1 = some (1, 1) := by kernel_rfl
@[go_sem] theorem elemT_14 : elemT Go.Proofs.Tryd.prog 14 = none := by kernel_rfl
@[go_sem] theorem arrT_14 : arrT Go.Proofs.Tryd.prog 14 = none := by kernel_rfl
@[go_sem] theorem byT_14 : byT Go.Proofs.Tryd.prog 14 = 24 := by kernel_rfl
@[go_sem] theorem strT_14 : strT Go.Proofs.Tryd.prog 14 = false := by kernel_rfl
@[go_sem] theorem fldsT_14 : fldsT Go.Proofs.Tryd.prog 14 = true := by kernel_rfl
@[go_sem] theorem boolT_14 : boolT Go.Proofs.Tryd.prog 14 = false := by kernel_rfl
@[go_sem] theorem intT_14 : intT Go.Proofs.Tryd.prog 14 = none := by kernel_rfl
@[go_sem] theorem zOk_14 : zOk Go.Proofs.Tryd.prog 14 = true := by kernel_rfl
@[go_sem] theorem zeroT_14 : zeroT Go.Proofs.Tryd.prog 14 = some (.agg [.lit (.string ⟨#[]⟩), .lit (.int .u64 0)]) := by kernel_rfl
@[go_sem] theorem szT_15 : szT Go.Proofs.Tryd.prog 15 = 1 := by kernel_rfl
@[go_sem] theorem aggT_15 : aggT Go.Proofs.Tryd.prog 15 = some false := by kernel_rfl
@[go_sem] theorem elemT_15 : elemT Go.Proofs.Tryd.prog 15 = none := by kernel_rfl
@[go_sem] theorem arrT_15 : arrT Go.Proofs.Tryd.prog 15 = none := by kernel_rfl
@[go_sem] theorem byT_15 : byT Go.Proofs.Tryd.prog 15 = 8 := by kernel_rfl
@[go_sem] theorem strT_15 : strT Go.Proofs.Tryd.prog 15 = false := by kernel_rfl
@[go_sem] theorem boolT_15 : boolT Go.Proofs.Tryd.prog 15 = false := by kernel_rfl
@[go_sem] theorem intT_15 : intT Go.Proofs.Tryd.prog 15 = none := by kernel_rfl
@[go_sem] theorem zOk_15 : zOk Go.Proofs.Tryd.prog 15 = true := by kernel_rfl
@[go_sem] theorem zeroT_15 : zeroT Go.Proofs.Tryd.prog 15 = some (.lit (.pointer none)) := by kernel_rfl
@[go_sem] theorem szT_16 : szT Go.Proofs.Tryd.prog 16 = 1 := by kernel_rfl
@[go_sem] theorem aggT_16 : aggT Go.Proofs.Tryd.prog 16 = some false := by kernel_rfl
@[go_sem] theorem elemT_16 : elemT Go.Proofs.Tryd.prog 16 = none := by kernel_rfl
@[go_sem] theorem arrT_16 : arrT Go.Proofs.Tryd.prog 16 = none := by kernel_rfl
@[go_sem] theorem byT_16 : byT Go.Proofs.Tryd.prog 16 = 8 := by kernel_rfl
@[go_sem] theorem strT_16 : strT Go.Proofs.Tryd.prog 16 = false := by kernel_rfl
@[go_sem] theorem boolT_16 : boolT Go.Proofs.Tryd.prog 16 = false := by kernel_rfl
@[go_sem] theorem intT_16 : intT Go.Proofs.Tryd.prog 16 = none := by kernel_rfl
@[go_sem] theorem zOk_16 : zOk Go.Proofs.Tryd.prog 16 = true := by kernel_rfl
@[go_sem] theorem zeroT_16 : zeroT Go.Proofs.Tryd.prog 16 = some (.lit (.pointer none)) := by kernel_rfl
@[go_sem] theorem szT_17 : szT Go.Proofs.Tryd.prog 17 = 1 := by kernel_rfl
@[go_sem] theorem aggT_17 : aggT Go.Proofs.Tryd.prog 17 = some false := by kernel_rfl
@[go_sem] theorem elemT_17 : elemT Go.Proofs.Tryd.prog 17 = none := by kernel_rfl
@[go_sem] theorem arrT_17 : arrT Go.Proofs.Tryd.prog 17 = none := by kernel_rfl
@[go_sem] theorem byT_17 : byT Go.Proofs.Tryd.prog 17 = 8 := by kernel_rfl
@[go_sem] theorem strT_17 : strT Go.Proofs.Tryd.prog 17 = false := by kernel_rfl
@[go_sem] theorem boolT_17 : boolT Go.Proofs.Tryd.prog 17 = false := by kernel_rfl
@[go_sem] theorem intT_17 : intT Go.Proofs.Tryd.prog 17 = none := by kernel_rfl
@[go_sem] theorem zOk_17 : zOk Go.Proofs.Tryd.prog 17 = true := by kernel_rfl
@[go_sem] theorem zeroT_17 : zeroT Go.Proofs.Tryd.prog 17 = some (.lit (.pointer none)) := by kernel_rfl
@[go_sem] theorem szT_18 : szT Go.Proofs.Tryd.prog 18 = 1 := by kernel_rfl
@[go_sem] theorem aggT_18 : aggT Go.Proofs.Tryd.prog 18 = some true := by kernel_rfl
@[go_sem] theorem fldT_18_0 : fldT Go.Proofs.Tryd.prog 18 0 = some (0, 1) := by kernel_rfl
@[go_sem] theorem elemT_18 : elemT Go.Proofs.Tryd.prog 18 = none := by kernel_rfl
@[go_sem] theorem arrT_18 : arrT Go.Proofs.Tryd.prog 18 = none := by kernel_rfl
@[go_sem] theorem byT_18 : byT Go.Proofs.Tryd.prog 18 = 8 := by kernel_rfl
@[go_sem] theorem strT_18 : strT Go.Proofs.Tryd.prog 18 = false := by kernel_rfl
@[go_sem] theorem fldsT_18 : fldsT Go.Proofs.Tryd.prog 18 = true := by kernel_rfl
@[go_sem] theorem boolT_18 : boolT Go.Proofs.Tryd.prog 18 = false := by kernel_rfl
@[go_sem] theorem intT_18 : intT Go.Proofs.Tryd.prog 18 = none := by kernel_rfl
@[go_sem] theorem zOk_18 : zOk Go.Proofs.Tryd.prog 18 = true := by kernel_rfl
@[go_sem] theorem zeroT_18 : zeroT Go.Proofs.Tryd.prog 18 = some (.agg [.lit (.pointer none)]) := by kernel_rfl
@[go_sem] theorem szT_19 : szT Go.Proofs.Tryd.prog 19 = 1 := by kernel_rfl
@[go_sem] theorem aggT_19 : aggT Go.Proofs.Tryd.prog 19 = some true := by kernel_rfl
@[go_sem] theorem fldT_19_0 : fldT Go.Proofs.Tryd.prog 19 0 = some (0, 1) := by kernel_rfl
@[go_sem] theorem elemT_19 : elemT Go.Proofs.Tryd.prog 19 = none := by kernel_rfl
@[go_sem] theorem arrT_19 : arrT Go.Proofs.Tryd.prog 19 = none := by kernel_rfl
@[go_sem] theorem byT_19 : byT Go.Proofs.Tryd.prog 19 = 8 := by kernel_rfl
@[go_sem] theorem strT_19 : strT Go.Proofs.Tryd.prog 19 = false := by kernel_rfl
@[go_sem] theorem fldsT_19 : fldsT Go.Proofs.Tryd.prog 19 = true := by kernel_rfl
@[go_sem] theorem boolT_19 : boolT Go.Proofs.Tryd.prog 19 = false := by kernel_rfl
@[go_sem] theorem intT_19 : intT Go.Proofs.Tryd.prog 19 = none := by kernel_rfl
@[go_sem] theorem zOk_19 : zOk Go.Proofs.Tryd.prog 19 = true := by kernel_rfl
@[go_sem] theorem zeroT_19 : zeroT Go.Proofs.Tryd.prog 19 = some (.agg [.lit (.pointer none)]) := by kernel_rfl
@[go_sem] theorem szT_21 : szT Go.Proofs.Tryd.prog 21 = 1 := by kernel_rfl
@[go_sem] theorem aggT_21 : aggT Go.Proofs.Tryd.prog 21 = some false := by kernel_rfl
@[go_sem] theorem elemT_21 : elemT Go.Proofs.Tryd.prog 21 = none := by kernel_rfl
@[go_sem] theorem arrT_21 : arrT Go.Proofs.Tryd.prog 21 = none := by kernel_rfl
@[go_sem] theorem byT_21 : byT Go.Proofs.Tryd.prog 21 = 4 := by kernel_rfl
@[go_sem] theorem strT_21 : strT Go.Proofs.Tryd.prog 21 = false := by kernel_rfl
@[go_sem] theorem boolT_21 : boolT Go.Proofs.Tryd.prog 21 = false := by kernel_rfl
@[go_sem] theorem intT_21 : intT Go.Proofs.Tryd.prog 21 = some .i32 := by kernel_rfl
@[go_sem] theorem zOk_21 : zOk Go.Proofs.Tryd.prog 21 = true := by kernel_rfl
@[go_sem] theorem zeroT_21 : zeroT Go.Proofs.Tryd.prog 21 = some (.lit (.int .i32 0)) := by kernel_rfl
@[go_sem] theorem szT_22 : szT Go.Proofs.Tryd.prog 22 = 1 := by kernel_rfl
@[go_sem] theorem aggT_22 : aggT Go.Proofs.Tryd.prog 22 = some false := by kernel_rfl
@[go_sem] theorem elemT_22 : elemT Go.Proofs.Tryd.prog 22 = none := by kernel_rfl
@[go_sem] theorem arrT_22 : arrT Go.Proofs.Tryd.prog 22 = none := by kernel_rfl
@[go_sem] theorem byT_22 : byT Go.Proofs.Tryd.prog 22 = 8 := by kernel_rfl
@[go_sem] theorem strT_22 : strT Go.Proofs.Tryd.prog 22 = false := by kernel_rfl
@[go_sem] theorem boolT_22 : boolT Go.Proofs.Tryd.prog 22 = false := by kernel_rfl
@[go_sem] theorem intT_22 : intT Go.Proofs.Tryd.prog 22 = none := by kernel_rfl
@[go_sem] theorem zOk_22 : zOk Go.Proofs.Tryd.prog 22 = true := by kernel_rfl
@[go_sem] theorem zeroT_22 : zeroT Go.Proofs.Tryd.prog 22 = some (.lit .nilFunc) := by kernel_rfl
@[go_sem] theorem szT_23 : szT Go.Proofs.Tryd.prog 23 = 1 := by kernel_rfl
@[go_sem] theorem aggT_23 : aggT Go.Proofs.Tryd.prog 23 = some false := by kernel_rfl
@[go_sem] theorem elemT_23 : elemT Go.Proofs.Tryd.prog 23 = some 50 := by kernel_rfl
@[go_sem] theorem arrT_23 : arrT Go.Proofs.Tryd.prog 23 = none := by kernel_rfl
@[go_sem] theorem byT_23 : byT Go.Proofs.Tryd.prog 23 = 24 := by kernel_rfl
@[go_sem] theorem strT_23 : strT Go.Proofs.Tryd.prog 23 = false := by kernel_rfl
@[go_sem] theorem boolT_23 : boolT Go.Proofs.Tryd.prog 23 = false := by kernel_rfl
@[go_sem] theorem intT_23 : intT Go.Proofs.Tryd.prog 23 = none := by kernel_rfl
@[go_sem] theorem zOk_23 : zOk Go.Proofs.Tryd.prog 23 = true := by kernel_rfl
@[go_sem] theorem zeroT_23 : zeroT Go.Proofs.Tryd.prog 23 = some (.sl .own []) := by kernel_rfl
@[go_sem] theorem szT_24 : szT Go.Proofs.Tryd.prog 24 = 1 := by kernel_rfl
@[go_sem] theorem aggT_24 : aggT Go.Proofs.Tryd.prog 24 = some false := by kernel_rfl
@[go_sem] theorem elemT_24 : elemT Go.Proofs.Tryd.prog 24 = none := by kernel_rfl
@[go_sem] theorem arrT_24 : arrT Go.Proofs.Tryd.prog 24 = none := by kernel_rfl
@[go_sem] theorem byT_24 : byT Go.Proofs.Tryd.prog 24 = 8 := by kernel_rfl
@[go_sem] theorem strT_24 : strT Go.Proofs.Tryd.prog 24 = false := by kernel_rfl
@[go_sem] theorem boolT_24 : boolT Go.Proofs.Tryd.prog 24 = false := by kernel_rfl
@[go_sem] theorem intT_24 : intT Go.Proofs.Tryd.prog 24 = some .i64 := by kernel_rfl
@[go_sem] theorem zOk_24 : zOk Go.Proofs.Tryd.prog 24 = true := by kernel_rfl
@[go_sem] theorem zeroT_24 : zeroT Go.Proofs.Tryd.prog 24 = some (.lit (.int .i64 0)) := by kernel_rfl
@[go_sem] theorem szT_26 : szT Go.Proofs.Tryd.prog 26 = 1 := by kernel_rfl
@[go_sem] theorem aggT_26 : aggT Go.Proofs.Tryd.prog 26 = some false := by kernel_rfl
@[go_sem] theorem elemT_26 : elemT Go.Proofs.Tryd.prog 26 = none := by kernel_rfl
@[go_sem] theorem arrT_26 : arrT Go.Proofs.Tryd.prog 26 = none := by kernel_rfl
@[go_sem] theorem byT_26 : byT Go.Proofs.Tryd.prog 26 = 8 := by kernel_rfl
@[go_sem] theorem strT_26 : strT Go.Proofs.Tryd.prog 26 = false := by kernel_rfl
@[go_sem] theorem boolT_26 : boolT Go.Proofs.Tryd.prog 26 = false := by kernel_rfl
@[go_sem] theorem intT_26 : intT Go.Proofs.Tryd.prog 26 = none := by kernel_rfl
@[go_sem] theorem zOk_26 : zOk Go.Proofs.Tryd.prog 26 = true := by kernel_rfl
@[go_sem] theorem zeroT_26 : zeroT Go.Proofs.Tryd.prog 26 = some (.lit .nilFunc) := by kernel_rfl
@[go_sem] theorem szT_27 : szT Go.Proofs.Tryd.prog 27 = 1 := by kernel_rfl
@[go_sem] theorem aggT_27 : aggT Go.Proofs.Tryd.prog 27 = some false := by kernel_rfl
@[go_sem] theorem elemT_27 : elemT Go.Proofs.Tryd.prog 27 = some 64 := by kernel_rfl
@[go_sem] theorem arrT_27 : arrT Go.Proofs.Tryd.prog 27 = none := by kernel_rfl
@[go_sem] theorem byT_27 : byT Go.Proofs.Tryd.prog 27 = 24 := by kernel_rfl
@[go_sem] theorem strT_27 : strT Go.Proofs.Tryd.prog 27 = false := by kernel_rfl
@[go_sem] theorem boolT_27 : boolT Go.Proofs.Tryd.prog 27 = false := by kernel_rfl
@[go_sem] theorem intT_27 : intT Go.Proofs.Tryd.prog 27 = none := by kernel_rfl
@[go_sem] theorem zOk_27 : zOk Go.Proofs.Tryd.prog 27 = true := by kernel_rfl
@[go_sem] theorem zeroT_27 : zeroT Go.Proofs.Tryd.prog 27 = some (.sl .own []) := by kernel_rfl
@[go_sem] theorem szT_28 : szT Go.Proofs.Tryd.prog 28 = 1 := by kernel_rfl
@[go_sem] theorem aggT_28 : aggT Go.Proofs.Tryd.prog 28 = some false := by kernel_rfl
@[go_sem] theorem elemT_28 : elemT Go.Proofs.Tryd.prog 28 = some 64 := by kernel_rfl
@[go_sem] theorem arrT_28 : arrT Go.Proofs.Tryd.prog 28 = none := by kernel_rfl
@[go_sem] theorem byT_28 : byT Go.Proofs.Tryd.prog 28 = 24 := by kernel_rfl
@[go_sem] theorem strT_28 : strT Go.Proofs.Tryd.prog 28 = false := by kernel_rfl
@[go_sem] theorem boolT_28 : boolT Go.Proofs.Tryd.prog 28 = false := by kernel_rfl
@[go_sem] theorem intT_28 : intT Go.Proofs.Tryd.prog 28 = none := by kernel_rfl
@[go_sem] theorem zOk_28 : zOk Go.Proofs.Tryd.prog 28 = true := by kernel_rfl
@[go_sem] theorem zeroT_28 : zeroT Go.Proofs.Tryd.prog 28 = some (.sl .own []) := by kernel_rfl
@[go_sem] theorem szT_30 : szT Go.Proofs.Tryd.prog 30 = 1 := by kernel_rfl
@[go_sem] theorem aggT_30 : aggT Go.Proofs.Tryd.prog 30 = some false := by kernel_rfl
@[go_sem] theorem elemT_30 : elemT Go.Proofs.Tryd.prog 30 = none := by kernel_rfl
@[go_sem] theorem arrT_30 : arrT Go.Proofs.Tryd.prog 30 = none := by kernel_rfl
@[go_sem] theorem byT_30 : byT Go.Proofs.Tryd.prog 30 = 8 := by kernel_rfl
@[go_sem] theorem strT_30 : strT Go.Proofs.Tryd.prog 30 = false := by kernel_rfl
@[go_sem] theorem boolT_30 : boolT Go.Proofs.Tryd.prog 30 = false := by kernel_rfl
@[go_sem] theorem intT_30 : intT Go.Proofs.Tryd.prog 30 = none := by kernel_rfl
@[go_sem] theorem zOk_30 : zOk Go.Proofs.Tryd.prog 30 = true := by kernel_rfl
@[go_sem] theorem zeroT_30 : zeroT Go.Proofs.Tryd.prog 30 = some (.lit .nilFunc) := by kernel_rfl
@[go_sem] theorem szT_31 : szT Go.Proofs.Tryd.prog 31 = 1 := by kernel_rfl
@[go_sem] theorem aggT_31 : aggT Go.Proofs.Tryd.prog 31 = some false := by kernel_rfl
@[go_sem] theorem elemT_31 : elemT Go.Proofs.Tryd.prog 31 = none := by kernel_rfl
@[go_sem] theorem arrT_31 : arrT Go.Proofs.Tryd.prog 31 = none := by kernel_rfl
@[go_sem] theorem byT_31 : byT Go.Proofs.Tryd.prog 31 = 8 := by kernel_rfl
@[go_sem] theorem strT_31 : strT Go.Proofs.Tryd.prog 31 = false := by kernel_rfl
@[go_sem] theorem boolT_31 : boolT Go.Proofs.Tryd.prog 31 = false := by kernel_rfl
@[go_sem] theorem intT_31 : intT Go.Proofs.Tryd.prog 31 = none := by kernel_rfl
@[go_sem] theorem zOk_31 : zOk Go.Proofs.Tryd.prog 31 = true := by kernel_rfl
@[go_sem] theorem zeroT_31 : zeroT Go.Proofs.Tryd.prog 31 = some (.lit .nilFunc) := by kernel_rfl
@[go_sem] theorem szT_32 : szT Go.Proofs.Tryd.prog 32 = 1 := by kernel_rfl
@[go_sem] theorem aggT_32 : aggT Go.Proofs.Tryd.prog 32 = some false := by kernel_rfl
@[go_sem] theorem elemT_32 : elemT Go.Proofs.Tryd.prog 32 = some 61 := by kernel_rfl
@[go_sem] theorem arrT_32 : arrT Go.Proofs.Tryd.prog 32 = none := by kernel_rfl
@[go_sem] theorem byT_32 : byT Go.Proofs.Tryd.prog 32 = 24 := by kernel_rfl
@[go_sem] theorem strT_32 : strT Go.Proofs.Tryd.prog 32 = false := by kernel_rfl
@[go_sem] theorem boolT_32 : boolT Go.Proofs.Tryd.prog 32 = false := by kernel_rfl
@[go_sem] theorem intT_32 : intT Go.Proofs.Tryd.prog 32 = none := by kernel_rfl
@[go_sem] theorem zOk_32 : zOk Go.Proofs.Tryd.prog 32 = true := by kernel_rfl
@[go_sem] theorem zeroT_32 : zeroT Go.Proofs.Tryd.prog 32 = some (.sl .own []) := by kernel_rfl
@[go_sem] theorem szT_33 : szT Go.Proofs.Tryd.prog 33 = 1 := by kernel_rfl
@[go_sem] theorem aggT_33 : aggT Go.Proofs.Tryd.prog 33 = some false := by kernel_rfl
@[go_sem] theorem elemT_33 : elemT Go.Proofs.Tryd.prog 33 = none := by kernel_rfl
@[go_sem] theorem arrT_33 : arrT Go.Proofs.Tryd.prog 33 = none := by kernel_rfl
@[go_sem] theorem byT_33 : byT Go.Proofs.Tryd.prog 33 = 8 := by kernel_rfl
@[go_sem] theorem strT_33 : strT Go.Proofs.Tryd.prog 33 = false := by kernel_rfl
@[go_sem] theorem boolT_33 : boolT Go.Proofs.Tryd.prog 33 = false := by kernel_rfl
@[go_sem] theorem intT_33 : intT Go.Proofs.Tryd.prog 33 = none := by kernel_rfl
@[go_sem] theorem zOk_33 : zOk Go.Proofs.Tryd.prog 33 = true := by kernel_rfl
@[go_sem] theorem zeroT_33 : zeroT Go.Proofs.Tryd.prog 33 = some (.lit .nilFunc) := by kernel_rfl
@[go_sem] theorem szT_34 : szT Go.Proofs.Tryd.prog 34 = 1 := by kernel_rfl
@[go_sem] theorem aggT_34 : aggT Go.Proofs.Tryd.prog 34 = some false := by kernel_rfl
@[go_sem] theorem elemT_34 : elemT Go.Proofs.Tryd.prog 34 = none := by kernel_rfl
@[go_sem] theorem arrT_34 : arrT Go.Proofs.Tryd.prog 34 = none := by kernel_rfl
@[go_sem] theorem byT_34 : byT Go.Proofs.Tryd.prog 34 = 8 := by kernel_rfl
@[go_sem] theorem strT_34 : strT Go.Proofs.Tryd.prog 34 = false := by kernel_rfl
@[go_sem] theorem boolT_34 : boolT Go.Proofs.Tryd.prog 34 = false := by kernel_rfl
@[go_sem] theorem intT_34 : intT Go.Proofs.Tryd.prog 34 = none := by kernel_rfl
@[go_sem] theorem zOk_34 : zOk Go.Proofs.Tryd.prog 34 = true := by kernel_rfl
@[go_sem] theorem zeroT_34 : zeroT Go.Proofs.Tryd.prog 34 = some (.lit .nilFunc) := by kernel_rfl
@[go_sem] theorem szT_35 : szT Go.Proofs.Tryd.prog 35 = 1 := by kernel_rfl
@[go_sem] theorem aggT_35 : aggT Go.Proofs.Tryd.prog 35 = some false := by kernel_rfl
@[go_sem] theorem elemT_35 : elemT Go.Proofs.Tryd.prog 35 = some 67 := by kernel_rfl
@[go_sem] theorem arrT_35 : arrT Go.Proofs.Tryd.prog 35 = none := by kernel_rfl
@[go_sem] theorem byT_35 : byT Go.Proofs.Tryd.prog 35 = 24 := by kernel_rfl
@[go_sem] theorem strT_35 : strT Go.Proofs.Tryd.prog 35 = false := by kernel_rfl
@[go_sem] theorem boolT_35 : boolT Go.Proofs.Tryd.prog 35 = false := by kernel_rfl
@[go_sem] theorem intT_35 : intT Go.Proofs.Tryd.prog 35 = none := by kernel_rfl
@[go_sem] theorem zOk_35 : zOk Go.Proofs.Tryd.prog 35 = true := by kernel_rfl
@[go_sem] theorem zeroT_35 : zeroT Go.Proofs.Tryd.prog 35 = some (.sl .own []) := by kernel_rfl
@[go_sem] theorem szT_37 : szT Go.Proofs.Tryd.prog 37 = 1 := by kernel_rfl
@[go_sem] theorem aggT_37 : aggT Go.Proofs.Tryd.prog 37 = some false := by kernel_rfl
@[go_sem] theorem elemT_37 : elemT Go.Proofs.Tryd.prog 37 = none := by kernel_rfl
@[go_sem] theorem arrT_37 : arrT Go.Proofs.Tryd.prog 37 = none := by kernel_rfl
@[go_sem] theorem byT_37 : byT Go.Proofs.Tryd.prog 37 = 8 := by kernel_rfl
@[go_sem] theorem strT_37 : strT Go.Proofs.Tryd.prog 37 = false := by kernel_rfl
@[go_sem] theorem boolT_37 : boolT Go.Proofs.Tryd.prog 37 = false := by kernel_rfl
@[go_sem] theorem intT_37 : intT Go.Proofs.Tryd.prog 37 = none := by kernel_rfl
@[go_sem] theorem zOk_37 : zOk Go.Proofs.Tryd.prog 37 = true := by kernel_rfl
@[go_sem] theorem zeroT_37 : zeroT Go.Proofs.Tryd.prog 37 = some (.lit .nilFunc) := by kernel_rfl
@[go_sem] theorem szT_38 : szT Go.Proofs.Tryd.prog 38 = 1 := by kernel_rfl
@[go_sem] theorem aggT_38 : aggT Go.Proofs.Tryd.prog 38 = some false := by kernel_rfl
@[go_sem] theorem elemT_38 : elemT Go.Proofs.Tryd.prog 38 = none := by kernel_rfl
@[go_sem] theorem arrT_38 : arrT Go.Proofs.Tryd.prog 38 = none := by kernel_rfl
@[go_sem] theorem byT_38 : byT Go.Proofs.Tryd.prog 38 = 8 := by kernel_rfl
@[go_sem] theorem strT_38 : strT Go.Proofs.Tryd.prog 38 = false := by kernel_rfl
@[go_sem] theorem boolT_38 : boolT Go.Proofs.Tryd.prog 38 = false := by kernel_rfl
@[go_sem] theorem intT_38 : intT Go.Proofs.Tryd.prog 38 = none := by kernel_rfl
@[go_sem] theorem zOk_38 : zOk Go.Proofs.Tryd.prog 38 = true := by kernel_rfl
@[go_sem] theorem zeroT_38 : zeroT Go.Proofs.Tryd.prog 38 = some (.lit .nilFunc) := by kernel_rfl
@[go_sem] theorem szT_39 : szT Go.Proofs.Tryd.prog 39 = 1 := by kernel_rfl
@[go_sem] theorem aggT_39 : aggT Go.Proofs.Tryd.prog 39 = some false := by kernel_rfl
@[go_sem] theorem elemT_39 : elemT Go.Proofs.Tryd.prog 39 = some 74 := by kernel_rfl
@[go_sem] theorem arrT_39 : arrT Go.Proofs.Tryd.prog 39 = none := by kernel_rfl
@[go_sem] theorem byT_39 : byT Go.Proofs.Tryd.prog 39 = 24 := by kernel_rfl
@[go_sem] theorem strT_39 : strT Go.Proofs.Tryd.prog 39 = false := by kernel_rfl
@[go_sem] theorem boolT_39 : boolT Go.Proofs.Tryd.prog 39 = false := by kernel_rfl
@[go_sem] theorem intT_39 : intT Go.Proofs.Tryd.prog 39 = none := by kernel_rfl
@[go_sem] theorem zOk_39 : zOk Go.Proofs.Tryd.prog 39 = true := by kernel_rfl
@[go_sem] theorem zeroT_39 : zeroT Go.Proofs.Tryd.prog 39 = some (.sl .own []) := by kernel_rfl
@[go_sem] theorem szT_40 : szT Go.Proofs.Tryd.prog 40 = 1 := by kernel_rfl
@[go_sem] theorem aggT_40 : aggT Go.Proofs.Tryd.prog 40 = some false := by kernel_rfl
@[go_sem] theorem elemT_40 : elemT Go.Proofs.Tryd.prog 40 = none := by kernel_rfl
@[go_sem] theorem arrT_40 : arrT Go.Proofs.Tryd.prog 40 = none := by kernel_rfl
@[go_sem] theorem byT_40 : byT Go.Proofs.Tryd.prog 40 = 8 := by kernel_rfl
@[go_sem] theorem strT_40 : strT Go.Proofs.Tryd.prog 40 = false := by kernel_rfl
@[go_sem] theorem boolT_40 : boolT Go.Proofs.Tryd.prog 40 = false := by kernel_rfl
@[go_sem] theorem intT_40 : intT Go.Proofs.Tryd.prog 40 = none := by kernel_rfl
@[go_sem] theorem zOk_40 : zOk Go.Proofs.Tryd.prog 40 = true := by kernel_rfl
@[go_sem] theorem zeroT_40 : zeroT Go.Proofs.Tryd.prog 40 = some (.lit .nilFunc) := by kernel_rfl
@[go_sem] theorem szT_42 : szT Go.Proofs.Tryd.prog 42 = 1 := by kernel_rfl
@[go_sem] theorem aggT_42 : aggT Go.Proofs.Tryd.prog 42 = some false := by kernel_rfl
@[go_sem] theorem elemT_42 : elemT Go.Proofs.Tryd.prog 42 = none := by kernel_rfl
@[go_sem] theorem arrT_42 : arrT Go.Proofs.Tryd.prog 42 = none := by kernel_rfl
@[go_sem] theorem byT_42 : byT Go.Proofs.Tryd.prog 42 = 8 := by kernel_rfl
@[go_sem] theorem strT_42 : strT Go.Proofs.Tryd.prog 42 = false := by kernel_rfl
@[go_sem] theorem boolT_42 : boolT Go.Proofs.Tryd.prog 42 = false := by kernel_rfl
@[go_sem] theorem intT_42 : intT Go.Proofs.Tryd.prog 42 = none := by kernel_rfl
@[go_sem] theorem zOk_42 : zOk Go.Proofs.Tryd.prog 42 = true := by kernel_rfl
@[go_sem] theorem zeroT_42 : zeroT Go.Proofs.Tryd.prog 42 = some (.lit .nilFunc) := by kernel_rfl
@[go_sem] theorem szT_43 : szT Go.Proofs.Tryd.prog 43 = 1 := by kernel_rfl
@[go_sem] theorem aggT_43 : aggT Go.Proofs.Tryd.prog 43 = some false := by kernel_rfl
@[go_sem] theorem elemT_43 : elemT Go.Proofs.Tryd.prog 43 = none := by kernel_rfl
@[go_sem] theorem arrT_43 : arrT Go.Proofs.Tryd.prog 43 = none := by kernel_rfl
@[go_sem] theorem byT_43 : byT Go.Proofs.Tryd.prog 43 = 8 := by kernel_rfl
@[go_sem] theorem strT_43 : strT Go.Proofs.Tryd.prog 43 = false := by kernel_rfl
@[go_sem] theorem boolT_43 : boolT Go.Proofs.Tryd.prog 43 = false := by kernel_rfl
@[go_sem] theorem intT_43 : intT Go.Proofs.Tryd.prog 43 = none := by kernel_rfl
@[go_sem] theorem zOk_43 : zOk Go.Proofs.Tryd.prog 43 = true := by kernel_rfl
@[go_sem] theorem zeroT_43 : zeroT Go.Proofs.Tryd.prog 43 = some (.lit .nilFunc) := by kernel_rfl
@[go_sem] theorem szT_44 : szT Go.Proofs.Tryd.prog 44 = 1 := by kernel_rfl
@[go_sem] theorem aggT_44 : aggT Go.Proofs.Tryd.prog 44 = some false := by kernel_rfl
@[go_sem] theorem elemT_44 : elemT Go.Proofs.Tryd.prog 44 = none := by kernel_rfl
@[go_sem] theorem arrT_44 : arrT Go.Proofs.Tryd.prog 44 = none := by kernel_rfl
@[go_sem] theorem byT_44 : byT Go.Proofs.Tryd.prog 44 = 8 := by kernel_rfl
@[go_sem] theorem strT_44 : strT Go.Proofs.Tryd.prog 44 = false := by kernel_rfl
@[go_sem] theorem boolT_44 : boolT Go.Proofs.Tryd.prog 44 = false := by kernel_rfl
@[go_sem] theorem intT_44 : intT Go.Proofs.Tryd.prog 44 = none := by kernel_rfl
@[go_sem] theorem zOk_44 : zOk Go.Proofs.Tryd.prog 44 = true := by kernel_rfl
@[go_sem] theorem zeroT_44 : zeroT Go.Proofs.Tryd.prog 44 = some (.lit (.pointer none)) := by kernel_rfl
@[go_sem] theorem szT_45 : szT Go.Proofs.Tryd.prog 45 = 2 := by kernel_rfl
@[go_sem] theorem aggT_45 : aggT Go.Proofs.Tryd.prog 45 = some true := by kernel_rfl
@[go_sem] theorem fldT_45_0 : fldT Go.Proofs.Tryd.prog 45 0 = some (0, 1) := by kernel_rfl
@[go_sem] theorem fldT_45_1 : fldT Go.Proofs.Tryd.prog 45 1 = some (1, 1) := by kernel_rfl
@[go_sem] theorem elemT_45 : elemT Go.Proofs.Tryd.prog 45 = none := by kernel_rfl
@[go_sem] theorem arrT_45 : arrT Go.Proofs.Tryd.prog 45 = none := by kernel_rfl
@[go_sem] theorem byT_45 : byT Go.Proofs.Tryd.prog 45 = 24 := by kernel_rfl
@[go_sem] theorem strT_45 : strT Go.Proofs.Tryd.prog 45 = false := by kernel_rfl
@[go_sem] theorem fldsT_45 : fldsT Go.Proofs.Tryd.prog 45 = true := by kernel_rfl
@[go_sem] theorem boolT_45 : boolT Go.Proofs.Tryd.prog 45 = false := by kernel_rfl
@[go_sem] theorem eqT_45 : eqT Go.Proofs.Tryd.prog 45 = some [.str, .int] := by kernel_rfl
@[go_sem] theorem intT_45 : intT Go.Proofs.Tryd.prog 45 = none := by kernel_rfl
@[go_sem] theorem zOk_45 : zOk Go.Proofs.Tryd.prog 45 = true := by kernel_rfl
@[go_sem] theorem zeroT_45 : zeroT Go.Proofs.Tryd.prog 45 = some (.agg [.lit (.string ⟨#[]⟩), .lit (.int .i64 0)]) := by kernel_rfl
@[go_sem] theorem szT_46 : szT Go.Proofs.Tryd.prog 46 = 2 := by kernel_rfl
@[go_sem] theorem aggT_46 : aggT Go.Proofs.Tryd.prog 46 = some true := by kernel_rfl
@[go_sem] theorem fldT_46_0 : fldT Go.Proofs.Tryd.prog 46 0 = some (0, 1) := by kernel_rfl
@[go_sem] theorem fldT_46_1 : fldT Go.Proofs.Tryd.prog 46 1 = some (1, 1) := by kernel_rfl
@[go_sem] theorem elemT_46 : elemT Go.Proofs.Tryd.prog 46 = none := by kernel_rfl
@[go_sem] theorem arrT_46 : arrT Go.Proofs.Tryd.prog 46 = none := by kernel_rfl
@[go_sem] theorem byT_46 : byT Go.Proofs.Tryd.prog 46 = 24 := by kernel_rfl
@[go_sem] theorem strT_46 : strT Go.Proofs.Tryd.prog 46 = false := by kernel_rfl
@[go_sem] theorem fldsT_46 : fldsT Go.Proofs.Tryd.prog 46 = true := by kernel_rfl
@[go_sem] theorem boolT_46 : boolT Go.Proofs.Tryd.prog 46 = false := by kernel_rfl
@[go_sem] theorem eqT_46 : eqT Go.Proofs.Tryd.prog 46 = some [.str, .int] := by kernel_rfl
@[go_sem] theorem intT_46 : intT Go.Proofs.Tryd.prog 46 = none := by kernel_rfl
@[go_sem] theorem zOk_46 : zOk Go.Proofs.Tryd.prog 46 = true := by kernel_rfl
@[go_sem] theorem zeroT_46 : zeroT Go.Proofs.Tryd.prog 46 = some (.agg [.lit (.string ⟨#[]⟩), .lit (.int .i64 0)]) := by kernel_rfl
@[go_sem] theorem szT_47 : szT Go.Proofs.Tryd.prog 47 = 1 := by kernel_rfl
@[go_sem] theorem aggT_47 : aggT Go.Proofs.Tryd.prog 47 = some false := by kernel_rfl
@[go_sem] theorem elemT_47 : elemT Go.Proofs.Tryd.prog 47 = none := by kernel_rfl
@[go_sem] theorem arrT_47 : arrT Go.Proofs.Tryd.prog 47 = none := by kernel_rfl
@[go_sem] theorem byT_47 : byT Go.Proofs.Tryd.prog 47 = 8 := by kernel_rfl
@[go_sem] theorem strT_47 : strT Go.Proofs.Tryd.prog 47 = false := by kernel_rfl
@[go_sem] theorem boolT_47 : boolT Go.Proofs.Tryd.prog 47 = false := by kernel_rfl
@[go_sem] theorem intT_47 : intT Go.Proofs.Tryd.prog 47 = none := by kernel_rfl
@[go_sem] theorem zOk_47 : zOk Go.Proofs.Tryd.prog 47 = true := by kernel_rfl
@[go_sem] theorem zeroT_47 : zeroT Go.Proofs.Tryd.prog 47 = some (.lit .nilFunc) := by kernel_rfl
@[go_sem] theorem szT_48 : szT Go.Proofs.Tryd.prog 48 = 1 := by kernel_rfl
@[go_sem] theorem aggT_48 : aggT Go.Proofs.Tryd.prog 48 = some false := by kernel_rfl
@[go_sem] theorem elemT_48 : elemT Go.Proofs.Tryd.prog 48 = none := by kernel_rfl
@[go_sem] theorem arrT_48 : arrT Go.Proofs.Tryd.prog 48 = none := by kernel_rfl
@[go_sem] theorem byT_48 : byT Go.Proofs.Tryd.prog 48 = 8 := by kernel_rfl
@[go_sem] theorem strT_48 : strT Go.Proofs.Tryd.prog 48 = false := by kernel_rfl
@[go_sem] theorem boolT_48 : boolT Go.Proofs.Tryd.prog 48 = false := by kernel_rfl
@[go_sem] theorem intT_48 : intT Go.Proofs.Tryd.prog 48 = none := by kernel_rfl
@[go_sem] theorem zOk_48 : zOk Go.Proofs.Tryd.prog 48 = true := by kernel_rfl
@[go_sem] theorem zeroT_48 : zeroT Go.Proofs.Tryd.prog 48 = some (.lit .nilFunc) := by kernel_rfl
@[go_sem] theorem szT_49 : szT Go.Proofs.Tryd.prog 49 = 4 := by kernel_rfl
@[go_sem] theorem aggT_49 : aggT Go.Proofs.Tryd.prog 49 = some true := by kernel_rfl
@[go_sem] theorem fldT_49_0 : fldT Go.Proofs.Tryd.prog 49 0 = some (0, 1) := by kernel_rfl
@[go_sem] theorem fldT_49_1 : fldT Go.Proofs.Tryd.prog 49 1 = some (1, 1) := by kernel_rfl
@[go_sem] theorem fldT_49_2 : fldT Go.Proofs.Tryd.prog 49 2 = some (2, 1) := by kernel_rfl
@[go_sem] theorem fldT_49_3 : fldT Go.Proofs.Tryd.prog 49 3 = some (3, 1) := by kernel_rfl
@[go_sem] theorem elemT_49 : elemT Go.Proofs.Tryd.prog 49 = none := by kernel_rfl
@[go_sem] theorem arrT_49 : arrT Go.Proofs.Tryd.prog 49 = none := by kernel_rfl
@[go_sem] theorem byT_49 : byT Go.Proofs.Tryd.prog 49 = 40 := by kernel_rfl
@[go_sem] theorem strT_49 : strT Go.Proofs.Tryd.prog 49 = false := by kernel_rfl
@[go_sem] theorem fldsT_49 : fldsT Go.Proofs.Tryd.prog 49 = true := by kernel_rfl
@[go_sem] theorem boolT_49 : boolT Go.Proofs.Tryd.prog 49 = false := by kernel_rfl
@[go_sem] theorem eqT_49 : eqT Go.Proofs.Tryd.prog 49 = some [.int, .str, .int, .int] := by kernel_rfl
@[go_sem] theorem intT_49 : intT Go.Proofs.Tryd.prog 49 = none := by kernel_rfl
@[go_sem] theorem zOk_49 : zOk Go.Proofs.Tryd.prog 49 = true := by kernel_rfl
@[go_sem] theorem zeroT_49 : zeroT Go.Proofs.Tryd.prog 49 = some (.agg [.lit (.int .i64 0), .lit (.string ⟨#[]⟩), .lit (.int .i64 0), .lit (.int .i64 0)]) := by kernel_rfl
@[go_sem] theorem szT_50 : szT Go.Proofs.Tryd.prog 50 = 4 := by kernel_rfl
@[go_sem] theorem aggT_50 : aggT Go.Proofs.Tryd.prog 50 = some true := by kernel_rfl
@[go_sem] theorem fldT_50_0 : fldT Go.Proofs.Tryd.prog 50 0 = some (0, 1) := by kernel_rfl
@[go_sem] theorem fldT_50_1 : fldT Go.Proofs.Tryd.prog 50 1 = some (1, 1) := by kernel_rfl
@[go_sem] theorem fldT_50_2 : fldT Go.Proofs.Tryd.prog 50 2 = some (2, 1) := by kernel_rfl
@[go_sem] theorem fldT_50_3 : fldT Go.Proofs.Tryd.prog 50 3 = some (3, 1) := by kernel_rfl
@[go_sem] theorem elemT_50 : elemT Go.Proofs.Tryd.prog 50 = none := by kernel_rfl
@[go_sem] theorem arrT_50 : arrT Go.Proofs.Tryd.prog 50 = none := by kernel_rfl
@[go_sem] theorem byT_50 : byT Go.Proofs.Tryd.prog 50 = 40 := by kernel_rfl
@[go_sem] theorem strT_50 : strT Go.Proofs.Tryd.prog 50 = false := by kernel_rfl
@[go_sem] theorem fldsT_50 : fldsT Go.Proofs.Tryd.prog 50 = true := by kernel_rfl
@[go_sem] theorem boolT_50 : boolT Go.Proofs.Tryd.prog 50 = false := by kernel_rfl
@[go_sem] theorem eqT_50 : eqT Go.Proofs.Tryd.prog 50 = some [.int, .str, .int, .int] := by kernel_rfl
@[go_sem] theorem intT_50 : intT Go.Proofs.Tryd.prog 50 = none := by kernel_rfl
@[go_sem] theorem zOk_50 : zOk Go.Proofs.Tryd.prog 50 = true := by kernel_rfl
@[go_sem] theorem zeroT_50 : zeroT Go.Proofs.Tryd.prog 50 = some (.agg [.lit (.int .i64 0), .lit (.string ⟨#[]⟩), .lit (.int .i64 0), .lit (.int .i64 0)]) := by kernel_rfl
@[go_sem] theorem szT_52 : szT Go.Proofs.Tryd.prog 52 = 1 := by kernel_rfl
@[go_sem] theorem aggT_52 : aggT Go.Proofs.Tryd.prog 52 = some false := by kernel_rfl
@[go_sem] theorem elemT_52 : elemT Go.Proofs.Tryd.prog 52 = none := by kernel_rfl
@[go_sem] theorem arrT_52 : arrT Go.Proofs.Tryd.prog 52 = none := by kernel_rfl
@[go_sem] theorem byT_52 : byT Go.Proofs.Tryd.prog 52 = 8 := by kernel_rfl
@[go_sem] theorem strT_52 : strT Go.Proofs.Tryd.prog 52 = false := by kernel_rfl
@[go_sem] theorem boolT_52 : boolT Go.Proofs.Tryd.prog 52 = false := by kernel_rfl
@[go_sem] theorem intT_52 : intT Go.Proofs.Tryd.prog 52 = none := by kernel_rfl
@[go_sem] theorem zOk_52 : zOk Go.Proofs.Tryd.prog 52 = true := by kernel_rfl
@[go_sem] theorem zeroT_52 : zeroT Go.Proofs.Tryd.prog 52 = some (.lit .nilFunc) := by kernel_rfl
@[go_sem] theorem szT_53 : szT Go.Proofs.Tryd.prog 53 = 1 := by kernel_rfl
@[go_sem] theorem aggT_53 : aggT Go.Proofs.Tryd.prog 53 = some false := by kernel_rfl
@[go_sem] theorem elemT_53 : elemT Go.Proofs.Tryd.prog 53 = none := by kernel_rfl
@[go_sem] theorem arrT_53 : arrT Go.Proofs.Tryd.prog 53 = none := by kernel_rfl
@[go_sem] theorem byT_53 : byT Go.Proofs.Tryd.prog 53 = 8 := by kernel_rfl
@[go_sem] theorem strT_53 : strT Go.Proofs.Tryd.prog 53 = false := by kernel_rfl
@[go_sem] theorem boolT_53 : boolT Go.Proofs.Tryd.prog 53 = false := by kernel_rfl
@[go_sem] theorem intT_53 : intT Go.Proofs.Tryd.prog 53 = none := by kernel_rfl
@[go_sem] theorem zOk_53 : zOk Go.Proofs.Tryd.prog 53 = true := by kernel_rfl
@[go_sem] theorem zeroT_53 : zeroT Go.Proofs.Tryd.prog 53 = some (.lit (.pointer none)) := by kernel_rfl
@[go_sem] theorem szT_54 : szT Go.Proofs.Tryd.prog 54 = 3 := by kernel_rfl
@[go_sem] theorem aggT_54 : aggT Go.Proofs.Tryd.prog 54 = some true := by kernel_rfl
@[go_sem] theorem fldT_54_0 : fldT Go.Proofs.Tryd.prog 54 0 = some (0, 1) := by kernel_rfl
@[go_sem] theorem fldT_54_1 : fldT Go.Proofs.Tryd.prog 54 1 = some (1, 1) := by kernel_rfl
@[go_sem] theorem fldT_54_2 : fldT Go.Proofs.Tryd.prog 54 2 = some (2, 1) := by kernel_rfl
@[go_sem] theorem elemT_54 : elemT Go.Proofs.Tryd.prog 54 = none := by kernel_rfl
@[go_sem] theorem arrT_54 : arrT Go.Proofs.Tryd.prog 54 = none := by kernel_rfl
@[go_sem] theorem byT_54 : byT Go.Proofs.Tryd.prog 54 = 56 := by kernel_rfl
@[go_sem] theorem strT_54 : strT Go.Proofs.Tryd.prog 54 = false := by kernel_rfl
@[go_sem] theorem fldsT_54 : fldsT Go.Proofs.Tryd.prog 54 = true := by kernel_rfl
@[go_sem] theorem boolT_54 : boolT Go.Proofs.Tryd.prog 54 = false := by kernel_rfl
@[go_sem] theorem intT_54 : intT Go.Proofs.Tryd.prog 54 = none := by kernel_rfl
@[go_sem] theorem zOk_54 : zOk Go.Proofs.Tryd.prog 54 = true := by kernel_rfl
@[go_sem] theorem zeroT_54 : zeroT Go.Proofs.Tryd.prog 54 = some (.agg [.sl .own [], .lit (.int .i64 0), .sl .own []]) := by kernel_rfl
@[go_sem] theorem szT_55 : szT Go.Proofs.Tryd.prog 55 = 3 := by kernel_rfl
@[go_sem] theorem aggT_55 : aggT Go.Proofs.Tryd.prog 55 = some true := by kernel_rfl
@[go_sem] theorem fldT_55_0 : fldT Go.Proofs.Tryd.prog 55 0 = some (0, 1) := by kernel_rfl
@[go_sem] theorem fldT_55_1 : fldT Go.Proofs.Tryd.prog 55 1 = some (1, 1) := by kernel_rfl
@[go_sem] theorem fldT_55_2 : fldT Go.Proofs.Tryd.prog 55 2 = some (2, 1) := by kernel_rfl
@[go_sem] theorem elemT_55 : elemT Go.Proofs.Tryd.prog 55 = none := by kernel_rfl
@[go_sem] theorem arrT_55 : arrT Go.Proofs.Tryd.prog 55 = none := by kernel_rfl
@[go_sem] theorem byT_55 : byT Go.Proofs.Tryd.prog 55 = 56 := by kernel_rfl
@[go_sem] theorem strT_55 : strT Go.Proofs.Tryd.prog 55 = false := by kernel_rfl
@[go_sem] theorem fldsT_55 : fldsT Go.Proofs.Tryd.prog 55 = true := by kernel_rfl
@[go_sem] theorem boolT_55 : boolT Go.Proofs.Tryd.prog 55 = false := by kernel_rfl
@[go_sem] theorem intT_55 : intT Go.Proofs.Tryd.prog 55 = none := by kernel_rfl
@[go_sem] theorem zOk_55 : zOk Go.Proofs.Tryd.prog 55 = true := by kernel_rfl
@[go_sem] theorem zeroT_55 : zeroT Go.Proofs.Tryd.prog 55 = some (.agg [.sl .own [], .lit (.int .i64 0), .sl .own []]) := by kernel_rfl
@[go_sem] theorem szT_56 : szT Go.Proofs.Tryd.prog 56 = 1 := by kernel_rfl
@[go_sem] theorem aggT_56 : aggT Go.Proofs.Tryd.prog 56 = some false := by kernel_rfl
@[go_sem] theorem elemT_56 : elemT Go.Proofs.Tryd.prog 56 = none := by kernel_rfl
@[go_sem] theorem arrT_56 : arrT Go.Proofs.Tryd.prog 56 = none := by kernel_rfl
@[go_sem] theorem byT_56 : byT Go.Proofs.Tryd.prog 56 = 8 := by kernel_rfl
@[go_sem] theorem strT_56 : strT Go.Proofs.Tryd.prog 56 = false := by kernel_rfl
@[go_sem] theorem boolT_56 : boolT Go.Proofs.Tryd.prog 56 = false := by kernel_rfl
@[go_sem] theorem intT_56 : intT Go.Proofs.Tryd.prog 56 = none := by kernel_rfl
@[go_sem] theorem zOk_56 : zOk Go.Proofs.Tryd.prog 56 = true := by kernel_rfl
@[go_sem] theorem zeroT_56 : zeroT Go.Proofs.Tryd.prog 56 = some (.lit .nilFunc) := by kernel_rfl
@[go_sem] theorem szT_57 : szT Go.Proofs.Tryd.prog 57 = 1 := by kernel_rfl
@[go_sem] theorem aggT_57 : aggT Go.Proofs.Tryd.prog 57 = some false := by kernel_rfl
@[go_sem] theorem elemT_57 : elemT Go.Proofs.Tryd.prog 57 = none := by kernel_rfl
@[go_sem] theorem arrT_57 : arrT Go.Proofs.Tryd.prog 57 = none := by kernel_rfl
@[go_sem] theorem byT_57 : byT Go.Proofs.Tryd.prog 57 = 8 := by kernel_rfl
@[go_sem] theorem strT_57 : strT Go.Proofs.Tryd.prog 57 = false := by kernel_rfl
@[go_sem] theorem boolT_57 : boolT Go.Proofs.Tryd.prog 57 = false := by kernel_rfl
@[go_sem] theorem intT_57 : intT Go.Proofs.Tryd.prog 57 = none := by kernel_rfl
@[go_sem] theorem zOk_57 : zOk Go.Proofs.Tryd.prog 57 = true := by kernel_rfl
@[go_sem] theorem zeroT_57 : zeroT Go.Proofs.Tryd.prog 57 = some (.lit .nilFunc) := by kernel_rfl
@[go_sem] theorem szT_58 : szT Go.Proofs.Tryd.prog 58 = 3 := by kernel_rfl
@[go_sem] theorem aggT_58 : aggT Go.Proofs.Tryd.prog 58 = some true := by kernel_rfl
@[go_sem] theorem fldT_58_0 : fldT Go.Proofs.Tryd.prog 58 0 = some (0, 1) := by kernel_rfl
@[go_sem] theorem fldT_58_1 : fldT Go.Proofs.Tryd.prog 58 1 = some (1, 1) := by kernel_rfl
@[go_sem] theorem fldT_58_2 : fldT Go.Proofs.Tryd.prog 58 2 = some (2, 1) := by kernel_rfl
@[go_sem] theorem elemT_58 : elemT Go.Proofs.Tryd.prog 58 = none := by kernel_rfl
@[go_sem] theorem arrT_58 : arrT Go.Proofs.Tryd.prog 58 = none := by kernel_rfl
@[go_sem] theorem byT_58 : byT Go.Proofs.Tryd.prog 58 = 32 := by kernel_rfl
@[go_sem] theorem strT_58 : strT Go.Proofs.Tryd.prog 58 = false := by kernel_rfl
@[go_sem] theorem fldsT_58 : fldsT Go.Proofs.Tryd.prog 58 = true := by kernel_rfl
@[go_sem] theorem boolT_58 : boolT Go.Proofs.Tryd.prog 58 = false := by kernel_rfl
@[go_sem] theorem eqT_58 : eqT Go.Proofs.Tryd.prog 58 = some [.int, .int, .str] := by kernel_rfl
@[go_sem] theorem intT_58 : intT Go.Proofs.Tryd.prog 58 = none := by kernel_rfl
@[go_sem] theorem zOk_58 : zOk Go.Proofs.Tryd.prog 58 = true := by kernel_rfl
@[go_sem] theorem zeroT_58 : zeroT Go.Proofs.Tryd.prog 58 = some (.agg [.lit (.int .i64 0), .lit (.int .i64 0), .lit (.string ⟨#[]⟩)]) := by kernel_rfl
@[go_sem] theorem szT_59 : szT Go.Proofs.Tryd.prog 59 = 3 := by kernel_rfl
@[go_sem] theorem aggT_59 : aggT Go.Proofs.Tryd.prog 59 = some true := by kernel_rfl
@[go_sem] theorem fldT_59_0 : fldT Go.Proofs.Tryd.prog 59 0 = some (0, 1) := by kernel_rfl
@[go_sem] theorem fldT_59_1 : fldT Go.Proofs.Tryd.prog 59 1 = some (1, 1) := by kernel_rfl
@[go_sem] theorem fldT_59_2 : fldT Go.Proofs.Tryd.prog 59 2 = some (2, 1) := by kernel_rfl
@[go_sem] theorem elemT_59 : elemT Go.Proofs.Tryd.prog 59 = none := by kernel_rfl
@[go_sem] theorem arrT_59 : arrT Go.Proofs.Tryd.prog 59 = none := by kernel_rfl
@[go_sem] theorem byT_59 : byT Go.Proofs.Tryd.prog 59 = 32 := by kernel_rfl
@[go_sem] theorem strT_59 : strT Go.Proofs.Tryd.prog 59 = false := by kernel_rfl
@[go_sem] theorem fldsT_59 : fldsT Go.Proofs.Tryd.prog 59 = true := by kernel_rfl
@[go_sem] theorem boolT_59 : boolT Go.Proofs.Tryd.prog 59 = false := by kernel_rfl
@[go_sem] theorem eqT_59 : eqT Go.Proofs.Tryd.prog 59 = some [.int, .int, .str] := by kernel_rfl
@[go_sem] theorem intT_59 : intT Go.Proofs.Tryd.prog 59 = none := by kernel_rfl
@[go_sem] theorem zOk_59 : zOk Go.Proofs.Tryd.prog 59 = true := by kernel_rfl
@[go_sem] theorem zeroT_59 : zeroT Go.Proofs.Tryd.prog 59 = some (.agg [.lit (.int .i64 0), .lit (.int .i64 0), .lit (.string ⟨#[]⟩)]) := by kernel_rfl
@[go_sem] theorem szT_60 : szT Go.Proofs.Tryd.prog 60 = 7 := by kernel_rfl
@[go_sem] theorem aggT_60 : aggT Go.Proofs.Tryd.prog 60 = some true := by kernel_rfl
@[go_sem] theorem fldT_60_0 : fldT Go.Proofs.Tryd.prog 60 0 = some (0, 1) := by kernel_rfl
@[go_sem] theorem fldT_60_1 : fldT Go.Proofs.Tryd.prog 60 1 = some (1, 3) := by kernel_rfl
@[go_sem] theorem fldT_60_2 : fldT Go.Proofs.Tryd.prog 60 2 = some (4, 1) := by kernel_rfl
@[go_sem] theorem fldT_60_3 : fldT Go.Proofs.Tryd.prog 60 3 = some (5, 1) := by kernel_rfl
@[go_sem] theorem fldT_60_4 : fldT Go.Proofs.Tryd.prog 60 4 = some (6, 1) := by kernel_rfl
@[go_sem] theorem elemT_60 : elemT Go.Proofs.Tryd.prog 60 = none := by kernel_rfl
@[go_sem] theorem arrT_60 : arrT Go.Proofs.Tryd.prog 60 = none := by kernel_rfl
@[go_sem] theorem byT_60 : byT Go.Proofs.Tryd.prog 60 = 72 := by kernel_rfl
@[go_sem] theorem strT_60 : strT Go.Proofs.Tryd.prog 60 = false := by kernel_rfl
@[go_sem] theorem fldsT_60 : fldsT Go.Proofs.Tryd.prog 60 = true := by kernel_rfl
@[go_sem] theorem boolT_60 : boolT Go.Proofs.Tryd.prog 60 = false := by kernel_rfl
@[go_sem] theorem eqT_60 : eqT Go.Proofs.Tryd.prog 60 = some [.int, .int, .int, .str, .str, .int, .int] := by kernel_rfl
@[go_sem] theorem intT_60 : intT Go.Proofs.Tryd.prog 60 = none := by kernel_rfl
@[go_sem] theorem zOk_60 : zOk Go.Proofs.Tryd.prog 60 = true := by kernel_rfl
@[go_sem] theorem zeroT_60 : zeroT Go.Proofs.Tryd.prog 60 = some (.agg [.lit (.int .i64 0), .lit (.int .i64 0), .lit (.int .i64 0), .lit (.string ⟨#[]⟩), .lit (.string ⟨#[]⟩), .lit (.int .i64 0), .lit (.int .i64 0)]) := by kernel_rfl
@[go_sem] theorem szT_61 : szT Go.Proofs.Tryd.prog 61 = 7 := by kernel_rfl
@[go_sem] theorem aggT_61 : aggT Go.Proofs.Tryd.prog 61 = some true := by kernel_rfl
@[go_sem] theorem fldT_61_0 : fldT Go.Proofs.Tryd.prog 61 0 = some (0, 1) := by kernel_rfl
@[go_sem] theorem fldT_61_1 : fldT Go.Proofs.Tryd.prog 61 1 = some (1, 3) := by kernel_rfl
@[go_sem] theorem fldT_61_2 : fldT Go.Proofs.Tryd.prog 61 2 = some (4, 1) := by kernel_rfl
@[go_sem] theorem fldT_61_3 : fldT Go.Proofs.Tryd.prog 61 3 = some (5, 1) := by kernel_rfl
@[go_sem] theorem fldT_61_4 : fldT Go.Proofs.Tryd.prog 61 4 = some (6, 1) := by kernel_rfl
@[go_sem] theorem elemT_61 : elemT Go.Proofs.Tryd.prog 61 = none := by kernel_rfl
@[go_sem] theorem arrT_61 : arrT Go.Proofs.Tryd.prog 61 = none := by kernel_rfl
@[go_sem] theorem byT_61 : byT Go.Proofs.Tryd.prog 61 = 72 := by kernel_rfl
@[go_sem] theorem strT_61 : strT Go.Proofs.Tryd.prog 61 = false := by kernel_rfl
@[go_sem] theorem fldsT_61 : fldsT Go.Proofs.Tryd.prog 61 = true := by kernel_rfl
@[go_sem] theorem boolT_61 : boolT Go.Proofs.Tryd.prog 61 = false := by kernel_rfl
@[go_sem] theorem eqT_61 : eqT Go.Proofs.Tryd.prog 61 = some [.int, .int, .int, .str, .str, .int, .int] := by kernel_rfl
@[go_sem] theorem intT_61 : intT Go.Proofs.Tryd.prog 61 = none := by kernel_rfl
@[go_sem] theorem zOk_61 : zOk Go.Proofs.Tryd.prog 61 = true := by kernel_rfl
@[go_sem] theorem zeroT_61 : zeroT Go.Proofs.Tryd.prog 61 = some (.agg [.lit (.int .i64 0), .lit (.int .i64 0), .lit (.int .i64 0), .lit (.string ⟨#[]⟩), .lit (.string ⟨#[]⟩), .lit (.int .i64 0), .lit (.int .i64 0)]) := by kernel_rfl
@[go_sem] theorem szT_62 : szT Go.Proofs.Tryd.prog 62 = 3 := by kernel_rfl
@[go_sem] theorem aggT_62 : aggT Go.Proofs.Tryd.prog 62 = some true := by kernel_rfl
@[go_sem] theorem fldT_62_0 : fldT Go.Proofs.Tryd.prog 62 0 = some (0, 1) := by kernel_rfl
@[go_sem] theorem fldT_62_1 : fldT Go.Proofs.Tryd.prog 62 1 = some (1, 1) := by kernel_rfl
@[go_sem] theorem fldT_62_2 : fldT Go.Proofs.Tryd.prog 62 2 = some (2, 1) := by kernel_rfl
@[go_sem] theorem elemT_62 : elemT Go.Proofs.Tryd.prog 62 = none := by kernel_rfl
@[go_sem] theorem arrT_62 : arrT Go.Proofs.Tryd.prog 62 = none := by kernel_rfl
@[go_sem] theorem byT_62 : byT Go.Proofs.Tryd.prog 62 = 32 := by kernel_rfl
@[go_sem] theorem strT_62 : strT Go.Proofs.Tryd.prog 62 = false := by kernel_rfl
@[go_sem] theorem fldsT_62 : fldsT Go.Proofs.Tryd.prog 62 = true := by kernel_rfl
@[go_sem] theorem boolT_62 : boolT Go.Proofs.Tryd.prog 62 = false := by kernel_rfl
@[go_sem] theorem eqT_62 : eqT Go.Proofs.Tryd.prog 62 = some [.int, .int, .str] := by kernel_rfl
@[go_sem] theorem intT_62 : intT Go.Proofs.Tryd.prog 62 = none := by kernel_rfl
@[go_sem] theorem zOk_62 : zOk Go.Proofs.Tryd.prog 62 = true := by kernel_rfl
@[go_sem] theorem zeroT_62 : zeroT Go.Proofs.Tryd.prog 62 = some (.agg [.lit (.int .i64 0), .lit (.int .i64 0), .lit (.string ⟨#[]⟩)]) := by kernel_rfl
@[go_sem] theorem szT_63 : szT Go.Proofs.Tryd.prog 63 = 7 := by kernel_rfl
@[go_sem] theorem aggT_63 : aggT Go.Proofs.Tryd.prog 63 = some true := by kernel_rfl
@[go_sem] theorem fldT_63_0 : fldT Go.Proofs.Tryd.prog 63 0 = some (0, 1) := by kernel_rfl
@[go_sem] theorem fldT_63_1 : fldT Go.Proofs.Tryd.prog 63 1 = some (1, 3) := by kernel_rfl
@[go_sem] theorem fldT_63_2 : fldT Go.Proofs.Tryd.prog 63 2 = some (4, 1) := by kernel_rfl
@[go_sem] theorem fldT_63_3 : fldT Go.Proofs.Tryd.prog 63 3 = some (5, 1) := by kernel_rfl
@[go_sem] theorem fldT_63_4 : fldT Go.Proofs.Tryd.prog 63 4 = some (6, 1) := by kernel_rfl
@[go_sem] theorem elemT_63 : elemT Go.Proofs.Tryd.prog 63 = none := by kernel_rfl
@[go_sem] theorem arrT_63 : arrT Go.Proofs.Tryd.prog 63 = none := by kernel_rfl
@[go_sem] theorem byT_63 : byT Go.Proofs.Tryd.prog 63 = 72 := by kernel_rfl
@[go_sem] theorem strT_63 : strT Go.Proofs.Tryd.prog 63 = false := by kernel_rfl
@[go_sem] theorem fldsT_63 : fldsT Go.Proofs.Tryd.prog 63 = true := by kernel_rfl
@[go_sem] theorem boolT_63 : boolT Go.Proofs.Tryd.prog 63 = false := by kernel_rfl
@[go_sem] theorem eqT_63 : eqT Go.Proofs.Tryd.prog 63 = some [.int, .int, .int, .str, .str, .int, .int] := by kernel_rfl
@[go_sem] theorem intT_63 : intT Go.Proofs.Tryd.prog 63 = none := by kernel_rfl
@[go_sem] theorem zOk_63 : zOk Go.Proofs.Tryd.prog 63 = true := by kernel_rfl
@[go_sem] theorem zeroT_63 : zeroT Go.Proofs.Tryd.prog 63 = some (.agg [.lit (.int .i64 0), .lit (.int .i64 0), .lit (.int .i64 0), .lit (.string ⟨#[]⟩), .lit (.string ⟨#[]⟩), .lit (.int .i64 0), .lit (.int .i64 0)]) := by kernel_rfl
@[go_sem] theorem szT_64 : szT Go.Proofs.Tryd.prog 64 = 7 := by kernel_rfl
@[go_sem] theorem aggT_64 : aggT Go.Proofs.Tryd.prog 64 = some true := by kernel_rfl
@[go_sem] theorem fldT_64_0 : fldT Go.Proofs.Tryd.prog 64 0 = some (0, 1) := by kernel_rfl
@[go_sem] theorem fldT_64_1 : fldT Go.Proofs.Tryd.prog 64 1 = some (1, 3) := by kernel_rfl
@[go_sem] theorem fldT_64_2 : fldT Go.Proofs.Tryd.prog 64 2 = some (4, 1) := by kernel_rfl
@[go_sem] theorem fldT_64_3 : fldT Go.Proofs.Tryd.prog 64 3 = some (5, 1) := by kernel_rfl
@[go_sem] theorem fldT_64_4 : fldT Go.Proofs.Tryd.prog 64 4 = some (6, 1) := by kernel_rfl
@[go_sem] theorem elemT_64 : elemT Go.Proofs.Tryd.prog 64 = none := by kernel_rfl
@[go_sem] theorem arrT_64 : arrT Go.Proofs.Tryd.prog 64 = none := by kernel_rfl
@[go_sem] theorem byT_64 : byT Go.Proofs.Tryd.prog 64 = 72 := by kernel_rfl
@[go_sem] theorem strT_64 : strT Go.Proofs.Tryd.prog 64 = false := by kernel_rfl
@[go_sem] theorem fldsT_64 : fldsT Go.Proofs.Tryd.prog 64 = true := by kernel_rfl
@[go_sem] theorem boolT_64 : boolT Go.Proofs.Tryd.prog 64 = false := by kernel_rfl
@[go_sem] theorem eqT_64 : eqT Go.Proofs.Tryd.prog 64 = some [.int, .int, .int, .str, .str, .int, .int] := by kernel_rfl
@[go_sem] theorem intT_64 : intT Go.Proofs.Tryd.prog 64 = none := by kernel_rfl
@[go_sem] theorem zOk_64 : zOk Go.Proofs.Tryd.prog 64 = true := by kernel_rfl
@[go_sem] theorem zeroT_64 : zeroT Go.Proofs.Tryd.prog 64 = some (.agg [.lit (.int .i64 0), .lit (.int .i64 0), .lit (.int .i64 0), .lit (.string ⟨#[]⟩), .lit (.string ⟨#[]⟩), .lit (.int .i64 0), .lit (.int .i64 0)]) := by kernel_rfl
@[go_sem] theorem szT_65 : szT Go.Proofs.Tryd.prog 65 = 1 := by kernel_rfl
@[go_sem] theorem aggT_65 : aggT Go.Proofs.Tryd.prog 65 = some false := by kernel_rfl
@[go_sem] theorem elemT_65 : elemT Go.Proofs.Tryd.prog 65 = none := by kernel_rfl
@[go_sem] theorem arrT_65 : arrT Go.Proofs.Tryd.prog 65 = none := by kernel_rfl
@[go_sem] theorem byT_65 : byT Go.Proofs.Tryd.prog 65 = 8 := by kernel_rfl
@[go_sem] theorem strT_65 : strT Go.Proofs.Tryd.prog 65 = false := by kernel_rfl
@[go_sem] theorem boolT_65 : boolT Go.Proofs.Tryd.prog 65 = false := by kernel_rfl
@[go_sem] theorem intT_65 : intT Go.Proofs.Tryd.prog 65 = none := by kernel_rfl
@[go_sem] theorem zOk_65 : zOk Go.Proofs.Tryd.prog 65 = true := by kernel_rfl
@[go_sem] theorem zeroT_65 : zeroT Go.Proofs.Tryd.prog 65 = some (.lit .nilFunc) := by kernel_rfl
@[go_sem] theorem szT_66 : szT Go.Proofs.Tryd.prog 66 = 5 := by kernel_rfl
@[go_sem] theorem aggT_66 : aggT Go.Proofs.Tryd.prog 66 = some true := by kernel_rfl
@[go_sem] theorem fldT_66_0 : fldT Go.Proofs.Tryd.prog 66 0 = some (0, 1) := by kernel_rfl
@[go_sem] theorem fldT_66_1 : fldT Go.Proofs.Tryd.prog 66 1 = some (1, 1) := by kernel_rfl
@[go_sem] theorem fldT_66_2 : fldT Go.Proofs.Tryd.prog 66 2 = some (2, 1) := by kernel_rfl
@[go_sem] theorem fldT_66_3 : fldT Go.Proofs.Tryd.prog 66 3 = some (3, 1) := by kernel_rfl
@[go_sem] theorem fldT_66_4 : fldT Go.Proofs.Tryd.prog 66 4 = some (4, 1) := by kernel_rfl
@[go_sem] theorem elemT_66 : elemT Go.Proofs.Tryd.prog 66 = none := by kernel_rfl
@[go_sem] theorem arrT_66 : arrT Go.Proofs.Tryd.prog 66 = none := by kernel_rfl
@[go_sem] theorem byT_66 : byT Go.Proofs.Tryd.prog 66 = 80 := by kernel_rfl
@[go_sem] theorem strT_66 : strT Go.Proofs.Tryd.prog 66 = false := by kernel_rfl
@[go_sem] theorem fldsT_66 : fldsT Go.Proofs.Tryd.prog 66 = true := by kernel_rfl
@[go_sem] theorem boolT_66 : boolT Go.Proofs.Tryd.prog 66 = false := by kernel_rfl
@[go_sem] theorem intT_66 : intT Go.Proofs.Tryd.prog 66 = none := by kernel_rfl
@[go_sem] theorem zOk_66 : zOk Go.Proofs.Tryd.prog 66 = true := by kernel_rfl
@[go_sem] theorem zeroT_66 : zeroT Go.Proofs.Tryd.prog 66 = some (.agg [.lit (.int .i64 0), .sl .own [], .lit (.string ⟨#[]⟩), .sl .own [], .lit (.int .i64 0)]) := by kernel_rfl
@[go_sem] theorem szT_67 : szT Go.Proofs.Tryd.prog 67 = 5 := by kernel_rfl
@[go_sem] theorem aggT_67 : aggT Go.Proofs.Tryd.prog 67 = some true := by kernel_rfl
@[go_sem] theorem fldT_67_0 : fldT Go.Proofs.Tryd.prog 67 0 = some (0, 1) := by kernel_rfl
@[go_sem] theorem fldT_67_1 : fldT Go.Proofs.Tryd.prog 67 1 = some (1, 1) := by kernel_rfl
@[go_sem] theorem fldT_67_2 : fldT Go.Proofs.Tryd.prog 67 2 = some (2, 1) := by kernel_rfl
@[go_sem] theorem fldT_67_3 : fldT Go.Proofs.Tryd.prog 67 3 = some (3, 1) := by kernel_rfl
@[go_sem] theorem fldT_67_4 : fldT Go.Proofs.Tryd.prog 67 4 = some (4, 1) := by kernel_rfl
@[go_sem] theorem elemT_67 : elemT Go.Proofs.Tryd.prog 67 = none := by kernel_rfl
@[go_sem] theorem arrT_67 : arrT Go.Proofs.Tryd.prog 67 = none := by kernel_rfl
@[go_sem] theorem byT_67 : byT Go.Proofs.Tryd.prog 67 = 80 := by kernel_rfl
@[go_sem] theorem strT_67 : strT Go.Proofs.Tryd.prog 67 = false := by kernel_rfl
@[go_sem] theorem fldsT_67 : fldsT Go.Proofs.Tryd.prog 67 = true := by kernel_rfl
@[go_sem] theorem boolT_67 : boolT Go.Proofs.Tryd.prog 67 = false := by kernel_rfl
@[go_sem] theorem intT_67 : intT Go.Proofs.Tryd.prog 67 = none := by kernel_rfl
@[go_sem] theorem zOk_67 : zOk Go.Proofs.Tryd.prog 67 = true := by kernel_rfl
@[go_sem] theorem zeroT_67 : zeroT Go.Proofs.Tryd.prog 67 = some (.agg [.lit (.int .i64 0), .sl .own [], .lit (.string ⟨#[]⟩), .sl .own [], .lit (.int .i64 0)]) := by kernel_rfl
@[go_sem] theorem szT_68 : szT Go.Proofs.Tryd.prog 68 = 1 := by kernel_rfl
@[go_sem] theorem aggT_68 : aggT Go.Proofs.Tryd.prog 68 = some false := by kernel_rfl
@[go_sem] theorem elemT_68 : elemT Go.Proofs.Tryd.prog 68 = none := by kernel_rfl
@[go_sem] theorem arrT_68 : arrT Go.Proofs.Tryd.prog 68 = none := by kernel_rfl
@[go_sem] theorem byT_68 : byT Go.Proofs.Tryd.prog 68 = 8 := by kernel_rfl
@[go_sem] theorem strT_68 : strT Go.Proofs.Tryd.prog 68 = false := by kernel_rfl
@[go_sem] theorem boolT_68 : boolT Go.Proofs.Tryd.prog 68 = false := by kernel_rfl
@[go_sem] theorem intT_68 : intT Go.Proofs.Tryd.prog 68 = none := by kernel_rfl
@[go_sem] theorem zOk_68 : zOk Go.Proofs.Tryd.prog 68 = true := by kernel_rfl
@[go_sem] theorem zeroT_68 : zeroT Go.Proofs.Tryd.prog 68 = some (.lit (.pointer none)) := by kernel_rfl
@[go_sem] theorem szT_69 : szT Go.Proofs.Tryd.prog 69 = 3 := by kernel_rfl
@[go_sem] theorem aggT_69 : aggT Go.Proofs.Tryd.prog 69 = some true := by kernel_rfl
@[go_sem] theorem fldT_69_0 : fldT Go.Proofs.Tryd.prog 69 0 = some (0, 1) := by kernel_rfl
@[go_sem] theorem fldT_69_1 : fldT Go.Proofs.Tryd.prog 69 1 = some (1, 1) := by kernel_rfl
@[go_sem] theorem fldT_69_2 : fldT Go.Proofs.Tryd.prog 69 2 = some (2, 1) := by kernel_rfl
@[go_sem] theorem elemT_69 : elemT Go.Proofs.Tryd.prog 69 = none := by kernel_rfl
@[go_sem] theorem arrT_69 : arrT Go.Proofs.Tryd.prog 69 = none := by kernel_rfl
@[go_sem] theorem byT_69 : byT Go.Proofs.Tryd.prog 69 = 40 := by kernel_rfl
@[go_sem] theorem strT_69 : strT Go.Proofs.Tryd.prog 69 = false := by kernel_rfl
@[go_sem] theorem fldsT_69 : fldsT Go.Proofs.Tryd.prog 69 = true := by kernel_rfl
@[go_sem] theorem boolT_69 : boolT Go.Proofs.Tryd.prog 69 = false := by kernel_rfl
@[go_sem] theorem intT_69 : intT Go.Proofs.Tryd.prog 69 = none := by kernel_rfl
@[go_sem] theorem zOk_69 : zOk Go.Proofs.Tryd.prog 69 = true := by kernel_rfl
@[go_sem] theorem zeroT_69 : zeroT Go.Proofs.Tryd.prog 69 = some (.agg [.sl .own [], .lit (.int .i64 0), .lit (.int .i64 0)]) := by kernel_rfl
@[go_sem] theorem szT_70 : szT Go.Proofs.Tryd.prog 70 = 3 := by kernel_rfl
@[go_sem] theorem aggT_70 : aggT Go.Proofs.Tryd.prog 70 = some true := by kernel_rfl
@[go_sem] theorem fldT_70_0 : fldT Go.Proofs.Tryd.prog 70 0 = some (0, 1) := by kernel_rfl
@[go_sem] theorem fldT_70_1 : fldT Go.Proofs.Tryd.prog 70 1 = some (1, 1) := by kernel_rfl
@[go_sem] theorem fldT_70_2 : fldT Go.Proofs.Tryd.prog 70 2 = some (2, 1) := by kernel_rfl
@[go_sem] theorem elemT_70 : elemT Go.Proofs.Tryd.prog 70 = none := by kernel_rfl
@[go_sem] theorem arrT_70 : arrT Go.Proofs.Tryd.prog 70 = none := by kernel_rfl
@[go_sem] theorem byT_70 : byT Go.Proofs.Tryd.prog 70 = 40 := by kernel_rfl
@[go_sem] theorem strT_70 : strT Go.Proofs.Tryd.prog 70 = false := by kernel_rfl
@[go_sem] theorem fldsT_70 : fldsT Go.Proofs.Tryd.prog 70 = true := by kernel_rfl
@[go_sem] theorem boolT_70 : boolT Go.Proofs.Tryd.prog 70 = false := by kernel_rfl
@[go_sem] theorem intT_70 : intT Go.Proofs.Tryd.prog 70 = none := by kernel_rfl
@[go_sem] theorem zOk_70 : zOk Go.Proofs.Tryd.prog 70 = true := by kernel_rfl
@[go_sem] theorem zeroT_70 : zeroT Go.Proofs.Tryd.prog 70 = some (.agg [.sl .own [], .lit (.int .i64 0), .lit (.int .i64 0)]) := by kernel_rfl
@[go_sem] theorem szT_71 : szT Go.Proofs.Tryd.prog 71 = 1 := by kernel_rfl
@[go_sem] theorem aggT_71 : aggT Go.Proofs.Tryd.prog 71 = some false := by kernel_rfl
@[go_sem] theorem elemT_71 : elemT Go.Proofs.Tryd.prog 71 = none := by kernel_rfl
@[go_sem] theorem arrT_71 : arrT Go.Proofs.Tryd.prog 71 = none := by kernel_rfl
@[go_sem] theorem byT_71 : byT Go.Proofs.Tryd.prog 71 = 8 := by kernel_rfl
@[go_sem] theorem strT_71 : strT Go.Proofs.Tryd.prog 71 = false := by kernel_rfl
@[go_sem] theorem boolT_71 : boolT Go.Proofs.Tryd.prog 71 = false := by kernel_rfl
@[go_sem] theorem intT_71 : intT Go.Proofs.Tryd.prog 71 = none := by kernel_rfl
@[go_sem] theorem zOk_71 : zOk Go.Proofs.Tryd.prog 71 = true := by kernel_rfl
@[go_sem] theorem zeroT_71 : zeroT Go.Proofs.Tryd.prog 71 = some (.lit .nilFunc) := by kernel_rfl
@[go_sem] theorem szT_72 : szT Go.Proofs.Tryd.prog 72 = 1 := by kernel_rfl
@[go_sem] theorem aggT_72 : aggT Go.Proofs.Tryd.prog 72 = some false := by kernel_rfl
@[go_sem] theorem elemT_72 : elemT Go.Proofs.Tryd.prog 72 = none := by kernel_rfl
@[go_sem] theorem arrT_72 : arrT Go.Proofs.Tryd.prog 72 = none := by kernel_rfl
@[go_sem] theorem byT_72 : byT Go.Proofs.Tryd.prog 72 = 8 := by kernel_rfl
@[go_sem] theorem strT_72 : strT Go.Proofs.Tryd.prog 72 = false := by kernel_rfl
@[go_sem] theorem boolT_72 : boolT Go.Proofs.Tryd.prog 72 = false := by kernel_rfl
@[go_sem] theorem intT_72 : intT Go.Proofs.Tryd.prog 72 = none := by kernel_rfl
@[go_sem] theorem zOk_72 : zOk Go.Proofs.Tryd.prog 72 = true := by kernel_rfl
@[go_sem] theorem zeroT_72 : zeroT Go.Proofs.Tryd.prog 72 = some (.lit .nilFunc) := by kernel_rfl
@[go_sem] theorem szT_73 : szT Go.Proofs.Tryd.prog 73 = 5 := by kernel_rfl
@[go_sem] theorem aggT_73 : aggT Go.Proofs.Tryd.prog 73 = some true := by kernel_rfl
@[go_sem] theorem fldT_73_0 : fldT Go.Proofs.Tryd.prog 73 0 = some (0, 1) := by kernel_rfl
@[go_sem] theorem fldT_73_1 : fldT Go.Proofs.Tryd.prog 73 1 = some (1, 1) := by kernel_rfl
@[go_sem] theorem fldT_73_2 : fldT Go.Proofs.Tryd.prog 73 2 = some (2, 1) := by kernel_rfl
@[go_sem] theorem fldT_73_3 : fldT Go.Proofs.Tryd.prog 73 3 = some (3, 1) := by kernel_rfl
@[go_sem] theorem fldT_73_4 : fldT Go.Proofs.Tryd.prog 73 4 = some (4, 1) := by kernel_rfl
@[go_sem] theorem elemT_73 : elemT Go.Proofs.Tryd.prog 73 = none := by kernel_rfl
@[go_sem] theorem arrT_73 : arrT Go.Proofs.Tryd.prog 73 = none := by kernel_rfl
@[go_sem] theorem byT_73 : byT Go.Proofs.Tryd.prog 73 = 80 := by kernel_rfl
@[go_sem] theorem strT_73 : strT Go.Proofs.Tryd.prog 73 = false := by kernel_rfl
@[go_sem] theorem fldsT_73 : fldsT Go.Proofs.Tryd.prog 73 = true := by kernel_rfl
@[go_sem] theorem boolT_73 : boolT Go.Proofs.Tryd.prog 73 = false := by kernel_rfl
@[go_sem] theorem intT_73 : intT Go.Proofs.Tryd.prog 73 = none := by kernel_rfl
@[go_sem] theorem zOk_73 : zOk Go.Proofs.Tryd.prog 73 = true := by kernel_rfl
@[go_sem] theorem zeroT_73 : zeroT Go.Proofs.Tryd.prog 73 = some (.agg [.lit (.int .i64 0), .sl .own [], .lit (.string ⟨#[]⟩), .sl .own [], .lit (.int .i64 0)]) := by kernel_rfl
@[go_sem] theorem szT_74 : szT Go.Proofs.Tryd.prog 74 = 5 := by kernel_rfl
@[go_sem] theorem aggT_74 : aggT Go.Proofs.Tryd.prog 74 = some true := by kernel_rfl
@[go_sem] theorem fldT_74_0 : fldT Go.Proofs.Tryd.prog 74 0 = some (0, 1) := by kernel_rfl
@[go_sem] theorem fldT_74_1 : fldT Go.Proofs.Tryd.prog 74 1 = some (1, 1) := by kernel_rfl
@[go_sem] theorem fldT_74_2 : fldT Go.Proofs.Tryd.prog 74 2 = some (2, 1) := by kernel_rfl
@[go_sem] theorem fldT_74_3 : fldT Go.Proofs.Tryd.prog 74 3 = some (3, 1) := by kernel_rfl
@[go_sem] theorem fldT_74_4 : fldT Go.Proofs.Tryd.prog 74 4 = some (4, 1) := by kernel_rfl
@[go_sem] theorem elemT_74 : elemT Go.Proofs.Tryd.prog 74 = none := by kernel_rfl
@[go_sem] theorem arrT_74 : arrT Go.Proofs.Tryd.prog 74 = none := by kernel_rfl
@[go_sem] theorem byT_74 : byT Go.Proofs.Tryd.prog 74 = 80 := by kernel_rfl
@[go_sem] theorem strT_74 : strT Go.Proofs.Tryd.prog 74 = false := by kernel_rfl
@[go_sem] theorem fldsT_74 : fldsT Go.Proofs.Tryd.prog 74 = true := by kernel_rfl
@[go_sem] theorem boolT_74 : boolT Go.Proofs.Tryd.prog 74 = false := by kernel_rfl
@[go_sem] theorem intT_74 : intT Go.Proofs.Tryd.prog 74 = none := by kernel_rfl
@[go_sem] theorem zOk_74 : zOk Go.Proofs.Tryd.prog 74 = true := by kernel_rfl
@[go_sem] theorem zeroT_74 : zeroT Go.Proofs.Tryd.prog 74 = some (.agg [.lit (.int .i64 0), .sl .own [], .lit (.string ⟨#[]⟩), .sl .own [], .lit (.int .i64 0)]) := by kernel_rfl
@[go_sem] theorem szT_75 : szT Go.Proofs.Tryd.prog 75 = 1 := by kernel_rfl
@[go_sem] theorem aggT_75 : aggT Go.Proofs.Tryd.prog 75 = some false := by kernel_rfl
@[go_sem] theorem elemT_75 : elemT Go.Proofs.Tryd.prog 75 = none := by kernel_rfl
@[go_sem] theorem arrT_75 : arrT Go.Proofs.Tryd.prog 75 = none := by kernel_rfl
@[go_sem] theorem byT_75 : byT Go.Proofs.Tryd.prog 75 = 8 := by kernel_rfl
@[go_sem] theorem strT_75 : strT Go.Proofs.Tryd.prog 75 = false := by kernel_rfl
@[go_sem] theorem boolT_75 : boolT Go.Proofs.Tryd.prog 75 = false := by kernel_rfl
@[go_sem] theorem intT_75 : intT Go.Proofs.Tryd.prog 75 = none := by kernel_rfl
@[go_sem] theorem zOk_75 : zOk Go.Proofs.Tryd.prog 75 = true := by kernel_rfl
@[go_sem] theorem zeroT_75 : zeroT Go.Proofs.Tryd.prog 75 = some (.lit .nilFunc) := by kernel_rfl
@[go_sem] theorem szT_76 : szT Go.Proofs.Tryd.prog 76 = 1 := by kernel_rfl
@[go_sem] theorem aggT_76 : aggT Go.Proofs.Tryd.prog 76 = some false := by kernel_rfl
@[go_sem] theorem elemT_76 : elemT Go.Proofs.Tryd.prog 76 = none := by kernel_rfl
@[go_sem] theorem arrT_76 : arrT Go.Proofs.Tryd.prog 76 = none := by kernel_rfl
@[go_sem] theorem byT_76 : byT Go.Proofs.Tryd.prog 76 = 8 := by kernel_rfl
@[go_sem] theorem strT_76 : strT Go.Proofs.Tryd.prog 76 = false := by kernel_rfl
@[go_sem] theorem boolT_76 : boolT Go.Proofs.Tryd.prog 76 = false := by kernel_rfl
@[go_sem] theorem intT_76 : intT Go.Proofs.Tryd.prog 76 = none := by kernel_rfl
@[go_sem] theorem zOk_76 : zOk Go.Proofs.Tryd.prog 76 = true := by kernel_rfl
@[go_sem] theorem zeroT_76 : zeroT Go.Proofs.Tryd.prog 76 = some (.lit .nilFunc) := by kernel_rfl
@[go_sem] theorem szT_77 : szT Go.Proofs.Tryd.prog 77 = 1 := by kernel_rfl
@[go_sem] theorem aggT_77 : aggT Go.Proofs.Tryd.prog 77 = some false := by kernel_rfl
@[go_sem] theorem elemT_77 : elemT Go.Proofs.Tryd.prog 77 = none := by kernel_rfl
@[go_sem] theorem arrT_77 : arrT Go.Proofs.Tryd.prog 77 = none := by kernel_rfl
@[go_sem] theorem byT_77 : byT Go.Proofs.Tryd.prog 77 = 8 := by kernel_rfl
@[go_sem] theorem strT_77 : strT Go.Proofs.Tryd.prog 77 = false := by kernel_rfl
@[go_sem] theorem boolT_77 : boolT Go.Proofs.Tryd.prog 77 = false := by kernel_rfl
@[go_sem] theorem intT_77 : intT Go.Proofs.Tryd.prog 77 = none := by kernel_rfl
@[go_sem] theorem zOk_77 : zOk Go.Proofs.Tryd.prog 77 = true := by kernel_rfl
@[go_sem] theorem zeroT_77 : zeroT Go.Proofs.Tryd.prog 77 = some (.lit .nilFunc) := by kernel_rfl
@[go_sem] theorem szT_78 : szT Go.Proofs.Tryd.prog 78 = 1 := by kernel_rfl
@[go_sem] theorem aggT_78 : aggT Go.Proofs.Tryd.prog 78 = some false := by kernel_rfl
@[go_sem] theorem elemT_78 : elemT Go.Proofs.Tryd.prog 78 = some 84 := by kernel_rfl
@[go_sem] theorem arrT_78 : arrT Go.Proofs.Tryd.prog 78 = none := by kernel_rfl
@[go_sem] theorem byT_78 : byT Go.Proofs.Tryd.prog 78 = 24 := by kernel_rfl
@[go_sem] theorem strT_78 : strT Go.Proofs.Tryd.prog 78 = false := by kernel_rfl
@[go_sem] theorem boolT_78 : boolT Go.Proofs.Tryd.prog 78 = false := by kernel_rfl
@[go_sem] theorem intT_78 : intT Go.Proofs.Tryd.prog 78 = none := by kernel_rfl
@[go_sem] theorem zOk_78 : zOk Go.Proofs.Tryd.prog 78 = true := by kernel_rfl
@[go_sem] theorem zeroT_78 : zeroT Go.Proofs.Tryd.prog 78 = some (.sl .own []) := by kernel_rfl
@[go_sem] theorem szT_79 : szT Go.Proofs.Tryd.prog 79 = 1 := by kernel_rfl
@[go_sem] theorem aggT_79 : aggT Go.Proofs.Tryd.prog 79 = some false := by kernel_rfl
@[go_sem] theorem elemT_79 : elemT Go.Proofs.Tryd.prog 79 = none := by kernel_rfl
@[go_sem] theorem arrT_79 : arrT Go.Proofs.Tryd.prog 79 = none := by kernel_rfl
@[go_sem] theorem byT_79 : byT Go.Proofs.Tryd.prog 79 = 8 := by kernel_rfl
@[go_sem] theorem strT_79 : strT Go.Proofs.Tryd.prog 79 = false := by kernel_rfl
@[go_sem] theorem boolT_79 : boolT Go.Proofs.Tryd.prog 79 = false := by kernel_rfl
@[go_sem] theorem intT_79 : intT Go.Proofs.Tryd.prog 79 = none := by kernel_rfl
@[go_sem] theorem zOk_79 : zOk Go.Proofs.Tryd.prog 79 = true := by kernel_rfl
@[go_sem] theorem zeroT_79 : zeroT Go.Proofs.Tryd.prog 79 = some (.lit .nilFunc) := by kernel_rfl
@[go_sem] theorem szT_80 : szT Go.Proofs.Tryd.prog 80 = 1 := by kernel_rfl
@[go_sem] theorem aggT_80 : aggT Go.Proofs.Tryd.prog 80 = some false := by kernel_rfl
@[go_sem] theorem elemT_80 : elemT Go.Proofs.Tryd.prog 80 = none := by kernel_rfl
@[go_sem] theorem arrT_80 : arrT Go.Proofs.Tryd.prog 80 = none := by kernel_rfl
@[go_sem] theorem byT_80 : byT Go.Proofs.Tryd.prog 80 = 8 := by kernel_rfl
@[go_sem] theorem strT_80 : strT Go.Proofs.Tryd.prog 80 = false := by kernel_rfl
@[go_sem] theorem boolT_80 : boolT Go.Proofs.Tryd.prog 80 = false := by kernel_rfl
@[go_sem] theorem intT_80 : intT Go.Proofs.Tryd.prog 80 = none := by kernel_rfl
@[go_sem] theorem zOk_80 : zOk Go.Proofs.Tryd.prog 80 = true := by kernel_rfl
@[go_sem] theorem zeroT_80 : zeroT Go.Proofs.Tryd.prog 80 = some (.lit .nilFunc) := by kernel_rfl
@[go_sem] theorem szT_81 : szT Go.Proofs.Tryd.prog 81 = 1 := by kernel_rfl
@[go_sem] theorem aggT_81 : aggT Go.Proofs.Tryd.prog 81 = some false := by kernel_rfl
@[go_sem] theorem elemT_81 : elemT Go.Proofs.Tryd.prog 81 = some 9 := by kernel_rfl
@[go_sem] theorem arrT_81 : arrT Go.Proofs.Tryd.prog 81 = none := by kernel_rfl
@[go_sem] theorem byT_81 : byT Go.Proofs.Tryd.prog 81 = 24 := by kernel_rfl
@[go_sem] theorem strT_81 : strT Go.Proofs.Tryd.prog 81 = false := by kernel_rfl
@[go_sem] theorem boolT_81 : boolT Go.Proofs.Tryd.prog 81 = false := by kernel_rfl
@[go_sem] theorem intT_81 : intT Go.Proofs.Tryd.prog 81 = none := by kernel_rfl
@[go_sem] theorem zOk_81 : zOk Go.Proofs.Tryd.prog 81 = true := by kernel_rfl
@[go_sem] theorem zeroT_81 : zeroT Go.Proofs.Tryd.prog 81 = some (.sl .own []) := by kernel_rfl
@[go_sem] theorem szT_82 : szT Go.Proofs.Tryd.prog 82 = 1 := by kernel_rfl
@[go_sem] theorem aggT_82 : aggT Go.Proofs.Tryd.prog 82 = some false := by kernel_rfl
@[go_sem] theorem elemT_82 : elemT Go.Proofs.Tryd.prog 82 = some 3 := by kernel_rfl
@[go_sem] theorem arrT_82 : arrT Go.Proofs.Tryd.prog 82 = none := by kernel_rfl
@[go_sem] theorem byT_82 : byT Go.Proofs.Tryd.prog 82 = 24 := by kernel_rfl
@[go_sem] theorem strT_82 : strT Go.Proofs.Tryd.prog 82 = false := by kernel_rfl
@[go_sem] theorem boolT_82 : boolT Go.Proofs.Tryd.prog 82 = false := by kernel_rfl
@[go_sem] theorem intT_82 : intT Go.Proofs.Tryd.prog 82 = none := by kernel_rfl
@[go_sem] theorem zOk_82 : zOk Go.Proofs.Tryd.prog 82 = true := by kernel_rfl
@[go_sem] theorem zeroT_82 : zeroT Go.Proofs.Tryd.prog 82 = some (.sl .own []) := by kernel_rfl
@[go_sem] theorem szT_83 : szT Go.Proofs.Tryd.prog 83 = 3 := by kernel_rfl
@[go_sem] theorem aggT_83 : aggT Go.Proofs.Tryd.prog 83 = some true := by kernel_rfl
@[go_sem] theorem fldT_83_0 : fldT Go.Proofs.Tryd.prog 83 0 = some (0, 1) := by kernel_rfl
@[go_sem] theorem fldT_83_1 : fldT Go.Proofs.Tryd.prog 83 1 = some (1, 1) := by kernel_rfl
@[go_sem] theorem fldT_83_2 : fldT Go.Proofs.Tryd.prog 83 2 = some (2, 1) := by kernel_rfl
@[go_sem] theorem elemT_83 : elemT Go.Proofs.Tryd.prog 83 = none := by kernel_rfl
@[go_sem] theorem arrT_83 : arrT Go.Proofs.Tryd.prog 83 = none := by kernel_rfl
@[go_sem] theorem byT_83 : byT Go.Proofs.Tryd.prog 83 = 56 := by kernel_rfl
@[go_sem] theorem strT_83 : strT Go.Proofs.Tryd.prog 83 = false := by kernel_rfl
@[go_sem] theorem fldsT_83 : fldsT Go.Proofs.Tryd.prog 83 = true := by kernel_rfl
@[go_sem] theorem boolT_83 : boolT Go.Proofs.Tryd.prog 83 = false := by kernel_rfl
@[go_sem] theorem intT_83 : intT Go.Proofs.Tryd.prog 83 = none := by kernel_rfl
@[go_sem] theorem zOk_83 : zOk Go.Proofs.Tryd.prog 83 = true := by kernel_rfl
@[go_sem] theorem zeroT_83 : zeroT Go.Proofs.Tryd.prog 83 = some (.agg [.sl .own [], .sl .own [], .lit (.bool false)]) := by kernel_rfl
@[go_sem] theorem szT_84 : szT Go.Proofs.Tryd.prog 84 = 3 := by kernel_rfl
@[go_sem] theorem aggT_84 : aggT Go.Proofs.Tryd.prog 84 = some true := by kernel_rfl
@[go_sem] theorem fldT_84_0 : fldT Go.Proofs.Tryd.prog 84 0 = some (0, 1) := by kernel_rfl
@[go_sem] theorem fldT_84_1 : fldT Go.Proofs.Tryd.prog 84 1 = some (1, 1) := by kernel_rfl
@[go_sem] theorem fldT_84_2 : fldT Go.Proofs.Tryd.prog 84 2 = some (2, 1) := by kernel_rfl
@[go_sem] theorem elemT_84 : elemT Go.Proofs.Tryd.prog 84 = none := by kernel_rfl
@[go_sem] theorem arrT_84 : arrT Go.Proofs.Tryd.prog 84 = none := by kernel_rfl
@[go_sem] theorem byT_84 : byT Go.Proofs.Tryd.prog 84 = 56 := by kernel_rfl
@[go_sem] theorem strT_84 : strT Go.Proofs.Tryd.prog 84 = false := by kernel_rfl
@[go_sem] theorem fldsT_84 : fldsT Go.Proofs.Tryd.prog 84 = true := by kernel_rfl
@[go_sem] theorem boolT_84 : boolT Go.Proofs.Tryd.prog 84 = false := by kernel_rfl
@[go_sem] theorem intT_84 : intT Go.Proofs.Tryd.prog 84 = none := by kernel_rfl
@[go_sem] theorem zOk_84 : zOk Go.Proofs.Tryd.prog 84 = true := by kernel_rfl
@[go_sem] theorem zeroT_84 : zeroT Go.Proofs.Tryd.prog 84 = some (.agg [.sl .own [], .sl .own [], .lit (.bool false)]) := by kernel_rfl
@[go_sem] theorem szT_85 : szT Go.Proofs.Tryd.prog 85 = 1 := by kernel_rfl
@[go_sem] theorem aggT_85 : aggT Go.Proofs.Tryd.prog 85 = some false := by kernel_rfl
@[go_sem] theorem elemT_85 : elemT Go.Proofs.Tryd.prog 85 = none := by kernel_rfl
@[go_sem] theorem arrT_85 : arrT Go.Proofs.Tryd.prog 85 = none := by kernel_rfl
@[go_sem] theorem byT_85 : byT Go.Proofs.Tryd.prog 85 = 8 := by kernel_rfl
@[go_sem] theorem strT_85 : strT Go.Proofs.Tryd.prog 85 = false := by kernel_rfl
@[go_sem] theorem boolT_85 : boolT Go.Proofs.Tryd.prog 85 = false := by kernel_rfl
@[go_sem] theorem intT_85 : intT Go.Proofs.Tryd.prog 85 = none := by kernel_rfl
@[go_sem] theorem zOk_85 : zOk Go.Proofs.Tryd.prog 85 = true := by kernel_rfl
@[go_sem] theorem zeroT_85 : zeroT Go.Proofs.Tryd.prog 85 = some (.lit .nilFunc) := by kernel_rfl
@[go_sem] theorem szT_86 : szT Go.Proofs.Tryd.prog 86 = 1 := by kernel_rfl
@[go_sem] theorem aggT_86 : aggT Go.Proofs.Tryd.prog 86 = some false := by kernel_rfl
@[go_sem] theorem elemT_86 : elemT Go.Proofs.Tryd.prog 86 = none := by kernel_rfl
@[go_sem] theorem arrT_86 : arrT Go.Proofs.Tryd.prog 86 = none := by kernel_rfl
@[go_sem] theorem byT_86 : byT Go.Proofs.Tryd.prog 86 = 8 := by kernel_rfl
@[go_sem] theorem strT_86 : strT Go.Proofs.Tryd.prog 86 = false := by kernel_rfl
@[go_sem] theorem boolT_86 : boolT Go.Proofs.Tryd.prog 86 = false := by kernel_rfl
@[go_sem] theorem intT_86 : intT Go.Proofs.Tryd.prog 86 = none := by kernel_rfl
@[go_sem] theorem zOk_86 : zOk Go.Proofs.Tryd.prog 86 = true := by kernel_rfl
@[go_sem] theorem zeroT_86 : zeroT Go.Proofs.Tryd.prog 86 = some (.lit .nilFunc) := by kernel_rfl
@[go_sem] theorem szT_87 : szT Go.Proofs.Tryd.prog 87 = 1 := by kernel_rfl
@[go_sem] theorem aggT_87 : aggT Go.Proofs.Tryd.prog 87 = some false := by kernel_rfl
@[go_sem] theorem elemT_87 : elemT Go.Proofs.Tryd.prog 87 = none := by kernel_rfl
@[go_sem] theorem arrT_87 : arrT Go.Proofs.Tryd.prog 87 = none := by kernel_rfl
@[go_sem] theorem byT_87 : byT Go.Proofs.Tryd.prog 87 = 8 := by kernel_rfl
@[go_sem] theorem strT_87 : strT Go.Proofs.Tryd.prog 87 = false := by kernel_rfl
@[go_sem] theorem boolT_87 : boolT Go.Proofs.Tryd.prog 87 = false := by kernel_rfl
@[go_sem] theorem intT_87 : intT Go.Proofs.Tryd.prog 87 = none := by kernel_rfl
@[go_sem] theorem zOk_87 : zOk Go.Proofs.Tryd.prog 87 = true := by kernel_rfl
@[go_sem] theorem zeroT_87 : zeroT Go.Proofs.Tryd.prog 87 = some (.lit .nilFunc) := by kernel_rfl
@[go_sem] theorem szT_88 : szT Go.Proofs.Tryd.prog 88 = 1 := by kernel_rfl
@[go_sem] theorem aggT_88 : aggT Go.Proofs.Tryd.prog 88 = some false := by kernel_rfl
@[go_sem] theorem elemT_88 : elemT Go.Proofs.Tryd.prog 88 = none := by kernel_rfl
@[go_sem] theorem arrT_88 : arrT Go.Proofs.Tryd.prog 88 = none := by kernel_rfl
@[go_sem] theorem byT_88 : byT Go.Proofs.Tryd.prog 88 = 8 := by kernel_rfl
@[go_sem] theorem strT_88 : strT Go.Proofs.Tryd.prog 88 = false := by kernel_rfl
@[go_sem] theorem boolT_88 : boolT Go.Proofs.Tryd.prog 88 = false := by kernel_rfl
@[go_sem] theorem intT_88 : intT Go.Proofs.Tryd.prog 88 = none := by kernel_rfl
@[go_sem] theorem zOk_88 : zOk Go.Proofs.Tryd.prog 88 = true := by kernel_rfl
@[go_sem] theorem zeroT_88 : zeroT Go.Proofs.Tryd.prog 88 = some (.lit .nilFunc) := by kernel_rfl
@[go_sem] theorem szT_89 : szT Go.Proofs.Tryd.prog 89 = 1 := by kernel_rfl
@[go_sem] theorem aggT_89 : aggT Go.Proofs.Tryd.prog 89 = some false := by kernel_rfl
@[go_sem] theorem elemT_89 : elemT Go.Proofs.Tryd.prog 89 = none := by kernel_rfl
@[go_sem] theorem arrT_89 : arrT Go.Proofs.Tryd.prog 89 = none := by kernel_rfl
@[go_sem] theorem byT_89 : byT Go.Proofs.Tryd.prog 89 = 8 := by kernel_rfl
@[go_sem] theorem strT_89 : strT Go.Proofs.Tryd.prog 89 = false := by kernel_rfl
@[go_sem] theorem boolT_89 : boolT Go.Proofs.Tryd.prog 89 = false := by kernel_rfl
@[go_sem] theorem intT_89 : intT Go.Proofs.Tryd.prog 89 = none := by kernel_rfl
@[go_sem] theorem zOk_89 : zOk Go.Proofs.Tryd.prog 89 = true := by kernel_rfl
@[go_sem] theorem zeroT_89 : zeroT Go.Proofs.Tryd.prog 89 = some (.lit .nilFunc) := by kernel_rfl
@[go_sem] theorem szT_90 : szT Go.Proofs.Tryd.prog 90 = 1 := by kernel_rfl
@[go_sem] theorem aggT_90 : aggT Go.Proofs.Tryd.prog 90 = some false := by kernel_rfl
@[go_sem] theorem elemT_90 : elemT Go.Proofs.Tryd.prog 90 = none := by kernel_rfl
@[go_sem] theorem arrT_90 : arrT Go.Proofs.Tryd.prog 90 = none := by kernel_rfl
@[go_sem] theorem byT_90 : byT Go.Proofs.Tryd.prog 90 = 8 := by kernel_rfl
@[go_sem] theorem strT_90 : strT Go.Proofs.Tryd.prog 90 = false := by kernel_rfl
@[go_sem] theorem boolT_90 : boolT Go.Proofs.Tryd.prog 90 = false := by kernel_rfl
@[go_sem] theorem intT_90 : intT Go.Proofs.Tryd.prog 90 = none := by kernel_rfl
@[go_sem] theorem zOk_90 : zOk Go.Proofs.Tryd.prog 90 = true := by kernel_rfl
@[go_sem] theorem zeroT_90 : zeroT Go.Proofs.Tryd.prog 90 = some (.lit .nilFunc) := by kernel_rfl
@[go_sem] theorem szT_91 : szT Go.Proofs.Tryd.prog 91 = 1 := by kernel_rfl
@[go_sem] theorem aggT_91 : aggT Go.Proofs.Tryd.prog 91 = some false := by kernel_rfl
@[go_sem] theorem elemT_91 : elemT Go.Proofs.Tryd.prog 91 = none := by kernel_rfl
@[go_sem] theorem arrT_91 : arrT Go.Proofs.Tryd.prog 91 = none := by kernel_rfl
@[go_sem] theorem byT_91 : byT Go.Proofs.Tryd.prog 91 = 8 := by kernel_rfl
@[go_sem] theorem strT_91 : strT Go.Proofs.Tryd.prog 91 = false := by kernel_rfl
@[go_sem] theorem boolT_91 : boolT Go.Proofs.Tryd.prog 91 = false := by kernel_rfl
@[go_sem] theorem intT_91 : intT Go.Proofs.Tryd.prog 91 = none := by kernel_rfl
@[go_sem] theorem zOk_91 : zOk Go.Proofs.Tryd.prog 91 = true := by kernel_rfl
@[go_sem] theorem zeroT_91 : zeroT Go.Proofs.Tryd.prog 91 = some (.lit .nilFunc) := by kernel_rfl
@[go_sem] theorem szT_92 : szT Go.Proofs.Tryd.prog 92 = 1 := by kernel_rfl
@[go_sem] theorem aggT_92 : aggT Go.Proofs.Tryd.prog 92 = some false := by kernel_rfl
@[go_sem] theorem elemT_92 : elemT Go.Proofs.Tryd.prog 92 = none := by kernel_rfl
@[go_sem] theorem arrT_92 : arrT Go.Proofs.Tryd.prog 92 = none := by kernel_rfl
@[go_sem] theorem byT_92 : byT Go.Proofs.Tryd.prog 92 = 8 := by kernel_rfl
@[go_sem] theorem strT_92 : strT Go.Proofs.Tryd.prog 92 = false := by kernel_rfl
@[go_sem] theorem boolT_92 : boolT Go.Proofs.Tryd.prog 92 = false := by kernel_rfl
@[go_sem] theorem intT_92 : intT Go.Proofs.Tryd.prog 92 = none := by kernel_rfl
@[go_sem] theorem zOk_92 : zOk Go.Proofs.Tryd.prog 92 = true := by kernel_rfl
@[go_sem] theorem zeroT_92 : zeroT Go.Proofs.Tryd.prog 92 = some (.lit .nilFunc) := by kernel_rfl
@[go_sem] theorem szT_93 : szT Go.Proofs.Tryd.prog 93 = 1 := by kernel_rfl
@[go_sem] theorem aggT_93 : aggT Go.Proofs.Tryd.prog 93 = some false := by kernel_rfl
@[go_sem] theorem elemT_93 : elemT Go.Proofs.Tryd.prog 93 = none := by kernel_rfl
@[go_sem] theorem arrT_93 : arrT Go.Proofs.Tryd.prog 93 = none := by kernel_rfl
@[go_sem] theorem byT_93 : byT Go.Proofs.Tryd.prog 93 = 8 := by kernel_rfl
@[go_sem] theorem strT_93 : strT Go.Proofs.Tryd.prog 93 = false := by kernel_rfl
@[go_sem] theorem boolT_93 : boolT Go.Proofs.Tryd.prog 93 = false := by kernel_rfl
@[go_sem] theorem intT_93 : intT Go.Proofs.Tryd.prog 93 = none := by kernel_rfl
@[go_sem] theorem zOk_93 : zOk Go.Proofs.Tryd.prog 93 = true := by kernel_rfl
@[go_sem] theorem zeroT_93 : zeroT Go.Proofs.Tryd.prog 93 = some (.lit .nilFunc) := by kernel_rfl
@[go_sem] theorem szT_94 : szT Go.Proofs.Tryd.prog 94 = 1 := by kernel_rfl
@[go_sem] theorem aggT_94 : aggT Go.Proofs.Tryd.prog 94 = some false := by kernel_rfl
@[go_sem] theorem elemT_94 : elemT Go.Proofs.Tryd.prog 94 = some 5 := by kernel_rfl
@[go_sem] theorem arrT_94 : arrT Go.Proofs.Tryd.prog 94 = none := by kernel_rfl
@[go_sem] theorem byT_94 : byT Go.Proofs.Tryd.prog 94 = 24 := by kernel_rfl
@[go_sem] theorem strT_94 : strT Go.Proofs.Tryd.prog 94 = false := by kernel_rfl
@[go_sem] theorem boolT_94 : boolT Go.Proofs.Tryd.prog 94 = false := by kernel_rfl
@[go_sem] theorem intT_94 : intT Go.Proofs.Tryd.prog 94 = none := by kernel_rfl
@[go_sem] theorem zOk_94 : zOk Go.Proofs.Tryd.prog 94 = true := by kernel_rfl
@[go_sem] theorem zeroT_94 : zeroT Go.Proofs.Tryd.prog 94 = some (.sl .own []) := by kernel_rfl
@[go_sem] theorem szT_95 : szT Go.Proofs.Tryd.prog 95 = 15 := by kernel_rfl
@[go_sem] theorem aggT_95 : aggT Go.Proofs.Tryd.prog 95 = some true := by kernel_rfl
@[go_sem] theorem elemT_95 : elemT Go.Proofs.Tryd.prog 95 = none := by kernel_rfl
@[go_sem] theorem arrT_95 : arrT Go.Proofs.Tryd.prog 95 = some (15, 9) := by kernel_rfl
@[go_sem] theorem byT_95 : byT Go.Proofs.Tryd.prog 95 = 240 := by kernel_rfl
@[go_sem] theorem strT_95 : strT Go.Proofs.Tryd.prog 95 = false := by kernel_rfl
@[go_sem] theorem fldsT_95 : fldsT Go.Proofs.Tryd.prog 95 = true := by kernel_rfl
@[go_sem] theorem boolT_95 : boolT Go.Proofs.Tryd.prog 95 = false := by kernel_rfl
@[go_sem] theorem intT_95 : intT Go.Proofs.Tryd.prog 95 = none := by kernel_rfl
@[go_sem] theorem zOk_95 : zOk Go.Proofs.Tryd.prog 95 = true := by kernel_rfl
@[go_sem] theorem zeroT_95 : zeroT Go.Proofs.Tryd.prog 95 = some (.agg [.lit (.string ⟨#[]⟩), .lit (.string ⟨#[]⟩), .lit (.string ⟨#[]⟩), .lit (.string ⟨#[]⟩), .lit (.string ⟨#[]⟩), .lit (.string ⟨#[]⟩), .lit (.string ⟨#[]⟩), .lit (.string ⟨#[]⟩), .lit (.string ⟨#[]⟩), .lit (.string ⟨#[]⟩), .lit (.string ⟨#[]⟩), .lit (.string ⟨#[]⟩), .lit (.string ⟨#[]⟩), .lit (.string ⟨#[]⟩), .lit (.string ⟨#[]⟩)]) := by kernel_rfl
@[go_sem] theorem szT_96 : szT Go.Proofs.Tryd.prog 96 = 1 := by kernel_rfl
@[go_sem] theorem aggT_96 : aggT Go.Proofs.Tryd.prog 96 = some false := by kernel_rfl
@[go_sem] theorem elemT_96 : elemT Go.Proofs.Tryd.prog 96 = none := by kernel_rfl
@[go_sem] theorem arrT_96 : arrT Go.Proofs.Tryd.prog 96 = none := by kernel_rfl
@[go_sem] theorem byT_96 : byT Go.Proofs.Tryd.prog 96 = 8 := by kernel_rfl
@[go_sem] theorem strT_96 : strT Go.Proofs.Tryd.prog 96 = false := by kernel_rfl
@[go_sem] theorem boolT_96 : boolT Go.Proofs.Tryd.prog 96 = false := by kernel_rfl
@[go_sem] theorem intT_96 : intT Go.Proofs.Tryd.prog 96 = none := by kernel_rfl
@[go_sem] theorem zOk_96 : zOk Go.Proofs.Tryd.prog 96 = true := by kernel_rfl
@[go_sem] theorem zeroT_96 : zeroT Go.Proofs.Tryd.prog 96 = some (.lit .nilFunc) := by kernel_rfl
@[go_sem] theorem szT_97 : szT Go.Proofs.Tryd.prog 97 = 1 := by kernel_rfl
@[go_sem] theorem aggT_97 : aggT Go.Proofs.Tryd.prog 97 = some false := by kernel_rfl
@[go_sem] theorem elemT_97 : elemT Go.Proofs.Tryd.prog 97 = none := by kernel_rfl
@[go_sem] theorem arrT_97 : arrT Go.Proofs.Tryd.prog 97 = none := by kernel_rfl
@[go_sem] theorem byT_97 : byT Go.Proofs.Tryd.prog 97 = 8 := by kernel_rfl
@[go_sem] theorem strT_97 : strT Go.Proofs.Tryd.prog 97 = false := by kernel_rfl
@[go_sem] theorem boolT_97 : boolT Go.Proofs.Tryd.prog 97 = false := by kernel_rfl
@[go_sem] theorem intT_97 : intT Go.Proofs.Tryd.prog 97 = none := by kernel_rfl
@[go_sem] theorem zOk_97 : zOk Go.Proofs.Tryd.prog 97 = true := by kernel_rfl
@[go_sem] theorem zeroT_97 : zeroT Go.Proofs.Tryd.prog 97 = some (.lit (.pointer none)) := by kernel_rfl
@[go_sem] theorem szT_98 : szT Go.Proofs.Tryd.prog 98 = 2 := by kernel_rfl
@[go_sem] theorem aggT_98 : aggT Go.Proofs.Tryd.prog 98 = some true := by kernel_rfl
@[go_sem] theorem fldT_98_0 : fldT Go.Proofs.Tryd.prog 98 0 = some (0, 1) := by kernel_rfl
@[go_sem] theorem fldT_98_1 : fldT Go.Proofs.Tryd.prog 98 1 = some (1, 1) := by kernel_rfl
@[go_sem] theorem elemT_98 : elemT Go.Proofs.Tryd.prog 98 = none := by kernel_rfl
@[go_sem] theorem arrT_98 : arrT Go.Proofs.Tryd.prog 98 = none := by kernel_rfl
@[go_sem] theorem byT_98 : byT Go.Proofs.Tryd.prog 98 = 32 := by kernel_rfl
@[go_sem] theorem strT_98 : strT Go.Proofs.Tryd.prog 98 = false := by kernel_rfl
@[go_sem] theorem fldsT_98 : fldsT Go.Proofs.Tryd.prog 98 = true := by kernel_rfl
@[go_sem] theorem boolT_98 : boolT Go.Proofs.Tryd.prog 98 = false := by kernel_rfl
@[go_sem] theorem intT_98 : intT Go.Proofs.Tryd.prog 98 = none := by kernel_rfl
@[go_sem] theorem zOk_98 : zOk Go.Proofs.Tryd.prog 98 = true := by kernel_rfl
@[go_sem] theorem zeroT_98 : zeroT Go.Proofs.Tryd.prog 98 = some (.agg [.lit (.pointer none), .sl .own []]) := by kernel_rfl
@[go_sem] theorem szT_99 : szT Go.Proofs.Tryd.prog 99 = 2 := by kernel_rfl
@[go_sem] theorem aggT_99 : aggT Go.Proofs.Tryd.prog 99 = some true := by kernel_rfl
@[go_sem] theorem fldT_99_0 : fldT Go.Proofs.Tryd.prog 99 0 = some (0, 1) := by kernel_rfl
@[go_sem] theorem fldT_99_1 : fldT Go.Proofs.Tryd.prog 99 1 = some (1, 1) := by kernel_rfl
@[go_sem] theorem elemT_99 : elemT Go.Proofs.Tryd.prog 99 = none := by kernel_rfl
@[go_sem] theorem arrT_99 : arrT Go.Proofs.Tryd.prog 99 = none := by kernel_rfl
@[go_sem] theorem byT_99 : byT Go.Proofs.Tryd.prog 99 = 32 := by kernel_rfl
@[go_sem] theorem strT_99 : strT Go.Proofs.Tryd.prog 99 = false := by kernel_rfl
@[go_sem] theorem fldsT_99 : fldsT Go.Proofs.Tryd.prog 99 = true := by kernel_rfl
@[go_sem] theorem boolT_99 : boolT Go.Proofs.Tryd.prog 99 = false := by kernel_rfl
@[go_sem] theorem intT_99 : intT Go.Proofs.Tryd.prog 99 = none := by kernel_rfl
@[go_sem] theorem zOk_99 : zOk Go.Proofs.Tryd.prog 99 = true := by kernel_rfl
@[go_sem] theorem zeroT_99 : zeroT Go.Proofs.Tryd.prog 99 = some (.agg [.lit (.pointer none), .sl .own []]) := by kernel_rfl
@[go_sem] theorem szT_100 : szT Go.Proofs.Tryd.prog 100 = 1 := by kernel_rfl
@[go_sem] theorem aggT_100 : aggT Go.Proofs.Tryd.prog 100 = some false := by kernel_rfl
@[go_sem] theorem elemT_100 : elemT Go.Proofs.Tryd.prog 100 = none := by kernel_rfl
@[go_sem] theorem arrT_100 : arrT Go.Proofs.Tryd.prog 100 = none := by kernel_rfl
@[go_sem] theorem byT_100 : byT Go.Proofs.Tryd.prog 100 = 8 := by kernel_rfl
@[go_sem] theorem strT_100 : strT Go.Proofs.Tryd.prog 100 = false := by kernel_rfl
@[go_sem] theorem boolT_100 : boolT Go.Proofs.Tryd.prog 100 = false := by kernel_rfl
@[go_sem] theorem intT_100 : intT Go.Proofs.Tryd.prog 100 = none := by kernel_rfl
@[go_sem] theorem zOk_100 : zOk Go.Proofs.Tryd.prog 100 = true := by kernel_rfl
@[go_sem] theorem zeroT_100 : zeroT Go.Proofs.Tryd.prog 100 = some (.lit .nilFunc) := by kernel_rfl
@[go_sem] theorem szT_104 : szT Go.Proofs.Tryd.prog 104 = 1 := by kernel_rfl
@[go_sem] theorem aggT_104 : aggT Go.Proofs.Tryd.prog 104 = some false := by kernel_rfl
@[go_sem] theorem elemT_104 : elemT Go.Proofs.Tryd.prog 104 = none := by kernel_rfl
@[go_sem] theorem arrT_104 : arrT Go.Proofs.Tryd.prog 104 = none := by kernel_rfl
@[go_sem] theorem byT_104 : byT Go.Proofs.Tryd.prog 104 = 8 := by kernel_rfl
@[go_sem] theorem strT_104 : strT Go.Proofs.Tryd.prog 104 = false := by kernel_rfl
@[go_sem] theorem boolT_104 : boolT Go.Proofs.Tryd.prog 104 = false := by kernel_rfl
@[go_sem] theorem intT_104 : intT Go.Proofs.Tryd.prog 104 = none := by kernel_rfl
@[go_sem] theorem zOk_104 : zOk Go.Proofs.Tryd.prog 104 = true := by kernel_rfl
@[go_sem] theorem zeroT_104 : zeroT Go.Proofs.Tryd.prog 104 = some (.lit .nilFunc) := by kernel_rfl
@[go_sem] theorem szT_105 : szT Go.Proofs.Tryd.prog 105 = 6 := by kernel_rfl
@[go_sem] theorem aggT_105 : aggT Go.Proofs.Tryd.prog 105 = some true := by kernel_rfl
@[go_sem] theorem elemT_105 : elemT Go.Proofs.Tryd.prog 105 = none := by kernel_rfl
@[go_sem] theorem arrT_105 : arrT Go.Proofs.Tryd.prog 105 = some (6, 9) := by kernel_rfl
@[go_sem] theorem byT_105 : byT Go.Proofs.Tryd.prog 105 = 96 := by kernel_rfl
@[go_sem] theorem strT_105 : strT Go.Proofs.Tryd.prog 105 = false := by kernel_rfl
@[go_sem] theorem fldsT_105 : fldsT Go.Proofs.Tryd.prog 105 = true := by kernel_rfl
@[go_sem] theorem boolT_105 : boolT Go.Proofs.Tryd.prog 105 = false := by kernel_rfl
@[go_sem] theorem intT_105 : intT Go.Proofs.Tryd.prog 105 = none := by kernel_rfl
@[go_sem] theorem zOk_105 : zOk Go.Proofs.Tryd.prog 105 = true := by kernel_rfl
@[go_sem] theorem zeroT_105 : zeroT Go.Proofs.Tryd.prog 105 = some (.agg [.lit (.string ⟨#[]⟩), .lit (.string ⟨#[]⟩), .lit (.string ⟨#[]⟩), .lit (.string ⟨#[]⟩), .lit (.string ⟨#[]⟩), .lit (.string ⟨#[]⟩)]) := by kernel_rfl
@[go_sem] theorem szT_106 : szT Go.Proofs.Tryd.prog 106 = 1 := by kernel_rfl
@[go_sem] theorem aggT_106 : aggT Go.Proofs.Tryd.prog 106 = some false := by kernel_rfl
@[go_sem] theorem elemT_106 : elemT Go.Proofs.Tryd.prog 106 = none := by kernel_rfl
@[go_sem] theorem arrT_106 : arrT Go.Proofs.Tryd.prog 106 = none := by kernel_rfl
@[go_sem] theorem byT_106 : byT Go.Proofs.Tryd.prog 106 = 8 := by kernel_rfl
@[go_sem] theorem strT_106 : strT Go.Proofs.Tryd.prog 106 = false := by kernel_rfl
@[go_sem] theorem boolT_106 : boolT Go.Proofs.Tryd.prog 106 = false := by kernel_rfl
@[go_sem] theorem intT_106 : intT Go.Proofs.Tryd.prog 106 = none := by kernel_rfl
@[go_sem] theorem zOk_106 : zOk Go.Proofs.Tryd.prog 106 = true := by kernel_rfl
@[go_sem] theorem zeroT_106 : zeroT Go.Proofs.Tryd.prog 106 = some (.lit .nilFunc) := by kernel_rfl
@[go_sem] theorem szT_107 : szT Go.Proofs.Tryd.prog 107 = 1 := by kernel_rfl
@[go_sem] theorem aggT_107 : aggT Go.Proofs.Tryd.prog 107 = some false := by kernel_rfl
@[go_sem] theorem elemT_107 : elemT Go.Proofs.Tryd.prog 107 = none := by kernel_rfl
@[go_sem] theorem arrT_107 : arrT Go.Proofs.Tryd.prog 107 = none := by kernel_rfl
@[go_sem] theorem byT_107 : byT Go.Proofs.Tryd.prog 107 = 8 := by kernel_rfl
@[go_sem] theorem strT_107 : strT Go.Proofs.Tryd.prog 107 = false := by kernel_rfl
@[go_sem] theorem boolT_107 : boolT Go.Proofs.Tryd.prog 107 = false := by kernel_rfl
@[go_sem] theorem intT_107 : intT Go.Proofs.Tryd.prog 107 = none := by kernel_rfl
@[go_sem] theorem zOk_107 : zOk Go.Proofs.Tryd.prog 107 = true := by kernel_rfl
@[go_sem] theorem zeroT_107 : zeroT Go.Proofs.Tryd.prog 107 = some (.lit .nilFunc) := by kernel_rfl
@[go_sem] theorem szT_108 : szT Go.Proofs.Tryd.prog 108 = 1 := by kernel_rfl
@[go_sem] theorem aggT_108 : aggT Go.Proofs.Tryd.prog 108 = some false := by kernel_rfl
@[go_sem] theorem elemT_108 : elemT Go.Proofs.Tryd.prog 108 = none := by kernel_rfl
@[go_sem] theorem arrT_108 : arrT Go.Proofs.Tryd.prog 108 = none := by kernel_rfl
@[go_sem] theorem byT_108 : byT Go.Proofs.Tryd.prog 108 = 8 := by kernel_rfl
@[go_sem] theorem strT_108 : strT Go.Proofs.Tryd.prog 108 = false := by kernel_rfl
@[go_sem] theorem boolT_108 : boolT Go.Proofs.Tryd.prog 108 = false := by kernel_rfl
@[go_sem] theorem intT_108 : intT Go.Proofs.Tryd.prog 108 = none := by kernel_rfl
@[go_sem] theorem zOk_108 : zOk Go.Proofs.Tryd.prog 108 = true := by kernel_rfl
@[go_sem] theorem zeroT_108 : zeroT Go.Proofs.Tryd.prog 108 = some (.lit .nilFunc) := by kernel_rfl
@[go_sem] theorem szT_109 : szT Go.Proofs.Tryd.prog 109 = 1 := by kernel_rfl
@[go_sem] theorem aggT_109 : aggT Go.Proofs.Tryd.prog 109 = some false := by kernel_rfl
@[go_sem] theorem elemT_109 : elemT Go.Proofs.Tryd.prog 109 = none := by kernel_rfl
@[go_sem] theorem arrT_109 : arrT Go.Proofs.Tryd.prog 109 = none := by kernel_rfl
@[go_sem] theorem byT_109 : byT Go.Proofs.Tryd.prog 109 = 8 := by kernel_rfl
@[go_sem] theorem strT_109 : strT Go.Proofs.Tryd.prog 109 = false := by kernel_rfl
@[go_sem] theorem boolT_109 : boolT Go.Proofs.Tryd.prog 109 = false := by kernel_rfl
@[go_sem] theorem intT_109 : intT Go.Proofs.Tryd.prog 109 = none := by kernel_rfl
@[go_sem] theorem zOk_109 : zOk Go.Proofs.Tryd.prog 109 = true := by kernel_rfl
@[go_sem] theorem zeroT_109 : zeroT Go.Proofs.Tryd.prog 109 = some (.lit .nilFunc) := by kernel_rfl
@[go_sem] theorem szT_110 : szT Go.Proofs.Tryd.prog 110 = 1 := by kernel_rfl
@[go_sem] theorem aggT_110 : aggT Go.Proofs.Tryd.prog 110 = some false := by kernel_rfl
@[go_sem] theorem elemT_110 : elemT Go.Proofs.Tryd.prog 110 = none := by kernel_rfl
@[go_sem] theorem arrT_110 : arrT Go.Proofs.Tryd.prog 110 = none := by kernel_rfl
@[go_sem] theorem byT_110 : byT Go.Proofs.Tryd.prog 110 = 8 := by kernel_rfl
@[go_sem] theorem strT_110 : strT Go.Proofs.Tryd.prog 110 = false := by kernel_rfl
@[go_sem] theorem boolT_110 : boolT Go.Proofs.Tryd.prog 110 = false := by kernel_rfl
@[go_sem] theorem intT_110 : intT Go.Proofs.Tryd.prog 110 = none := by kernel_rfl
@[go_sem] theorem zOk_110 : zOk Go.Proofs.Tryd.prog 110 = true := by kernel_rfl
@[go_sem] theorem zeroT_110 : zeroT Go.Proofs.Tryd.prog 110 = some (.lit (.pointer none)) := by kernel_rfl
@[go_sem] theorem szT_111 : szT Go.Proofs.Tryd.prog 111 = 24 := by kernel_rfl
@[go_sem] theorem aggT_111 : aggT Go.Proofs.Tryd.prog 111 = some true := by kernel_rfl
@[go_sem] theorem elemT_111 : elemT Go.Proofs.Tryd.prog 111 = none := by kernel_rfl
@[go_sem] theorem arrT_111 : arrT Go.Proofs.Tryd.prog 111 = some (24, 5) := by kernel_rfl
@[go_sem] theorem byT_111 : byT Go.Proofs.Tryd.prog 111 = 24 := by kernel_rfl
@[go_sem] theorem strT_111 : strT Go.Proofs.Tryd.prog 111 = false := by kernel_rfl
@[go_sem] theorem fldsT_111 : fldsT Go.Proofs.Tryd.prog 111 = true := by kernel_rfl
@[go_sem] theorem boolT_111 : boolT Go.Proofs.Tryd.prog 111 = false := by kernel_rfl
@[go_sem] theorem intT_111 : intT Go.Proofs.Tryd.prog 111 = none := by kernel_rfl
@[go_sem] theorem zOk_111 : zOk Go.Proofs.Tryd.prog 111 = true := by kernel_rfl
@[go_sem] theorem zeroT_111 : zeroT Go.Proofs.Tryd.prog 111 = some (.agg [.lit (.int .u8 0), .lit (.int .u8 0), .lit (.int .u8 0), .lit (.int .u8 0), .lit (.int .u8 0), .lit (.int .u8 0), .lit (.int .u8 0), .lit (.int .u8 0), .lit (.int .u8 0), .lit (.int .u8 0), .lit (.int .u8 0), .lit (.int .u8 0), .lit (.int .u8 0), .lit (.int .u8 0), .lit (.int .u8 0), .lit (.int .u8 0), .lit (.int .u8 0), .lit (.int .u8 0), .lit (.int .u8 0), .lit (.int .u8 0), .lit (.int .u8 0), .lit (.int .u8 0), .lit (.int .u8 0), .lit (.int .u8 0)]) := by kernel_rfl
@[go_sem] theorem szT_112 : szT Go.Proofs.Tryd.prog 112 = 1 := by kernel_rfl
@[go_sem] theorem aggT_112 : aggT Go.Proofs.Tryd.prog 112 = some false := by kernel_rfl
@[go_sem] theorem elemT_112 : elemT Go.Proofs.Tryd.prog 112 = none := by kernel_rfl
@[go_sem] theorem arrT_112 : arrT Go.Proofs.Tryd.prog 112 = none := by kernel_rfl
@[go_sem] theorem byT_112 : byT Go.Proofs.Tryd.prog 112 = 8 := by kernel_rfl
@[go_sem] theorem strT_112 : strT Go.Proofs.Tryd.prog 112 = false := by kernel_rfl
@[go_sem] theorem boolT_112 : boolT Go.Proofs.Tryd.prog 112 = false := by kernel_rfl
@[go_sem] theorem intT_112 : intT Go.Proofs.Tryd.prog 112 = some .u64 := by kernel_rfl
@[go_sem] theorem zOk_112 : zOk Go.Proofs.Tryd.prog 112 = true := by kernel_rfl
@[go_sem] theorem zeroT_112 : zeroT Go.Proofs.Tryd.prog 112 = some (.lit (.int .u64 0)) := by kernel_rfl
@[go_sem] theorem szT_113 : szT Go.Proofs.Tryd.prog 113 = 1 := by kernel_rfl
@[go_sem] theorem aggT_113 : aggT Go.Proofs.Tryd.prog 113 = some false := by kernel_rfl
@[go_sem] theorem elemT_113 : elemT Go.Proofs.Tryd.prog 113 = none := by kernel_rfl
@[go_sem] theorem arrT_113 : arrT Go.Proofs.Tryd.prog 113 = none := by kernel_rfl
@[go_sem] theorem byT_113 : byT Go.Proofs.Tryd.prog 113 = 8 := by kernel_rfl
@[go_sem] theorem strT_113 : strT Go.Proofs.Tryd.prog 113 = false := by kernel_rfl
@[go_sem] theorem boolT_113 : boolT Go.Proofs.Tryd.prog 113 = false := by kernel_rfl
@[go_sem] theorem intT_113 : intT Go.Proofs.Tryd.prog 113 = none := by kernel_rfl
@[go_sem] theorem zOk_113 : zOk Go.Proofs.Tryd.prog 113 = true := by kernel_rfl
@[go_sem] theorem zeroT_113 : zeroT Go.Proofs.Tryd.prog 113 = some (.lit .nilFunc) := by kernel_rfl
@[go_sem] theorem szT_114 : szT Go.Proofs.Tryd.prog 114 = 1 := by kernel_rfl
@[go_sem] theorem aggT_114 : aggT Go.Proofs.Tryd.prog 114 = some false := by kernel_rfl
@[go_sem] theorem elemT_114 : elemT Go.Proofs.Tryd.prog 114 = none := by kernel_rfl
@[go_sem] theorem arrT_114 : arrT Go.Proofs.Tryd.prog 114 = none := by kernel_rfl
@[go_sem] theorem byT_114 : byT Go.Proofs.Tryd.prog 114 = 8 := by kernel_rfl
@[go_sem] theorem strT_114 : strT Go.Proofs.Tryd.prog 114 = false := by kernel_rfl
@[go_sem] theorem boolT_114 : boolT Go.Proofs.Tryd.prog 114 = false := by kernel_rfl
@[go_sem] theorem intT_114 : intT Go.Proofs.Tryd.prog 114 = none := by kernel_rfl
@[go_sem] theorem zOk_114 : zOk Go.Proofs.Tryd.prog 114 = true := by kernel_rfl
@[go_sem] theorem zeroT_114 : zeroT Go.Proofs.Tryd.prog 114 = some (.lit .nilFunc) := by kernel_rfl
@[go_sem] theorem szT_116 : szT Go.Proofs.Tryd.prog 116 = 1 := by kernel_rfl
@[go_sem] theorem aggT_116 : aggT Go.Proofs.Tryd.prog 116 = some false := by kernel_rfl
@[go_sem] theorem elemT_116 : elemT Go.Proofs.Tryd.prog 116 = none := by kernel_rfl
@[go_sem] theorem arrT_116 : arrT Go.Proofs.Tryd.prog 116 = none := by kernel_rfl
@[go_sem] theorem byT_116 : byT Go.Proofs.Tryd.prog 116 = 8 := by kernel_rfl
@[go_sem] theorem strT_116 : strT Go.Proofs.Tryd.prog 116 = false := by kernel_rfl
@[go_sem] theorem boolT_116 : boolT Go.Proofs.Tryd.prog 116 = false := by kernel_rfl
@[go_sem] theorem intT_116 : intT Go.Proofs.Tryd.prog 116 = none := by kernel_rfl
@[go_sem] theorem zOk_116 : zOk Go.Proofs.Tryd.prog 116 = true := by kernel_rfl
@[go_sem] theorem zeroT_116 : zeroT Go.Proofs.Tryd.prog 116 = some (.lit .nilFunc) := by kernel_rfl
@[go_sem] theorem szT_118 : szT Go.Proofs.Tryd.prog 118 = 1 := by kernel_rfl
@[go_sem] theorem aggT_118 : aggT Go.Proofs.Tryd.prog 118 = some false := by kernel_rfl
@[go_sem] theorem elemT_118 : elemT Go.Proofs.Tryd.prog 118 = none := by kernel_rfl
@[go_sem] theorem arrT_118 : arrT Go.Proofs.Tryd.prog 118 = none := by kernel_rfl
@[go_sem] theorem byT_118 : byT Go.Proofs.Tryd.prog 118 = 8 := by kernel_rfl
@[go_sem] theorem strT_118 : strT Go.Proofs.Tryd.prog 118 = false := by kernel_rfl
@[go_sem] theorem boolT_118 : boolT Go.Proofs.Tryd.prog 118 = false := by kernel_rfl
@[go_sem] theorem intT_118 : intT Go.Proofs.Tryd.prog 118 = none := by kernel_rfl
@[go_sem] theorem zOk_118 : zOk Go.Proofs.Tryd.prog 118 = true := by kernel_rfl
@[go_sem] theorem zeroT_118 : zeroT Go.Proofs.Tryd.prog 118 = some (.lit .nilFunc) := by kernel_rfl
@[go_sem] theorem szT_119 : szT Go.Proofs.Tryd.prog 119 = 1 := by kernel_rfl
@[go_sem] theorem aggT_119 : aggT Go.Proofs.Tryd.prog 119 = some false := by kernel_rfl
@[go_sem] theorem elemT_119 : elemT Go.Proofs.Tryd.prog 119 = none := by kernel_rfl
@[go_sem] theorem arrT_119 : arrT Go.Proofs.Tryd.prog 119 = none := by kernel_rfl
@[go_sem] theorem byT_119 : byT Go.Proofs.Tryd.prog 119 = 8 := by kernel_rfl
@[go_sem] theorem strT_119 : strT Go.Proofs.Tryd.prog 119 = false := by kernel_rfl
@[go_sem] theorem boolT_119 : boolT Go.Proofs.Tryd.prog 119 = false := by kernel_rfl
@[go_sem] theorem intT_119 : intT Go.Proofs.Tryd.prog 119 = none := by kernel_rfl
@[go_sem] theorem zOk_119 : zOk Go.Proofs.Tryd.prog 119 = true := by kernel_rfl
@[go_sem] theorem zeroT_119 : zeroT Go.Proofs.Tryd.prog 119 = some (.lit .nilFunc) := by kernel_rfl
@[go_sem] theorem szT_120 : szT Go.Proofs.Tryd.prog 120 = 1 := by kernel_rfl
@[go_sem] theorem aggT_120 : aggT Go.Proofs.Tryd.prog 120 = some false := by kernel_rfl
@[go_sem] theorem elemT_120 : elemT Go.Proofs.Tryd.prog 120 = none := by kernel_rfl
@[go_sem] theorem arrT_120 : arrT Go.Proofs.Tryd.prog 120 = none := by kernel_rfl
@[go_sem] theorem byT_120 : byT Go.Proofs.Tryd.prog 120 = 8 := by kernel_rfl
@[go_sem] theorem strT_120 : strT Go.Proofs.Tryd.prog 120 = false := by kernel_rfl
@[go_sem] theorem boolT_120 : boolT Go.Proofs.Tryd.prog 120 = false := by kernel_rfl
@[go_sem] theorem intT_120 : intT Go.Proofs.Tryd.prog 120 = none := by kernel_rfl
@[go_sem] theorem zOk_120 : zOk Go.Proofs.Tryd.prog 120 = true := by kernel_rfl
@[go_sem] theorem zeroT_120 : zeroT Go.Proofs.Tryd.prog 120 = some (.lit .nilFunc) := by kernel_rfl
@[go_sem] theorem szT_121 : szT Go.Proofs.Tryd.prog 121 = 20 := by kernel_rfl
@[go_sem] theorem aggT_121 : aggT Go.Proofs.Tryd.prog 121 = some true := by kernel_rfl
@[go_sem] theorem elemT_121 : elemT Go.Proofs.Tryd.prog 121 = none := by kernel_rfl
@[go_sem] theorem arrT_121 : arrT Go.Proofs.Tryd.prog 121 = some (20, 112) := by kernel_rfl
@[go_sem] theorem byT_121 : byT Go.Proofs.Tryd.prog 121 = 160 := by kernel_rfl
@[go_sem] theorem strT_121 : strT Go.Proofs.Tryd.prog 121 = false := by kernel_rfl
@[go_sem] theorem fldsT_121 : fldsT Go.Proofs.Tryd.prog 121 = true := by kernel_rfl
@[go_sem] theorem boolT_121 : boolT Go.Proofs.Tryd.prog 121 = false := by kernel_rfl
@[go_sem] theorem intT_121 : intT Go.Proofs.Tryd.prog 121 = none := by kernel_rfl
@[go_sem] theorem zOk_121 : zOk Go.Proofs.Tryd.prog 121 = true := by kernel_rfl
@[go_sem] theorem zeroT_121 : zeroT Go.Proofs.Tryd.prog 121 = some (.agg [.lit (.int .u64 0), .lit (.int .u64 0), .lit (.int .u64 0), .lit (.int .u64 0), .lit (.int .u64 0), .lit (.int .u64 0), .lit (.int .u64 0), .lit (.int .u64 0), .lit (.int .u64 0), .lit (.int .u64 0), .lit (.int .u64 0), .lit (.int .u64 0), .lit (.int .u64 0), .lit (.int .u64 0), .lit (.int .u64 0), .lit (.int .u64 0), .lit (.int .u64 0), .lit (.int .u64 0), .lit (.int .u64 0), .lit (.int .u64 0)]) := by kernel_rfl
@[go_sem] theorem szT_122 : szT Go.Proofs.Tryd.prog 122 = 1 := by kernel_rfl
@[go_sem] theorem aggT_122 : aggT Go.Proofs.Tryd.prog 122 = some false := by kernel_rfl
@[go_sem] theorem elemT_122 : elemT Go.Proofs.Tryd.prog 122 = none := by kernel_rfl
@[go_sem] theorem arrT_122 : arrT Go.Proofs.Tryd.prog 122 = none := by kernel_rfl
@[go_sem] theorem byT_122 : byT Go.Proofs.Tryd.prog 122 = 4 := by kernel_rfl
@[go_sem] theorem strT_122 : strT Go.Proofs.Tryd.prog 122 = false := by kernel_rfl
@[go_sem] theorem boolT_122 : boolT Go.Proofs.Tryd.prog 122 = false := by kernel_rfl
@[go_sem] theorem intT_122 : intT Go.Proofs.Tryd.prog 122 = some .u32 := by kernel_rfl
@[go_sem] theorem zOk_122 : zOk Go.Proofs.Tryd.prog 122 = true := by kernel_rfl
@[go_sem] theorem zeroT_122 : zeroT Go.Proofs.Tryd.prog 122 = some (.lit (.int .u32 0)) := by kernel_rfl
@[go_sem] theorem szT_123 : szT Go.Proofs.Tryd.prog 123 = 65 := by kernel_rfl
@[go_sem] theorem aggT_123 : aggT Go.Proofs.Tryd.prog 123 = some true := by kernel_rfl
@[go_sem] theorem elemT_123 : elemT Go.Proofs.Tryd.prog 123 = none := by kernel_rfl
@[go_sem] theorem arrT_123 : arrT Go.Proofs.Tryd.prog 123 = some (65, 5) := by kernel_rfl
@[go_sem] theorem byT_123 : byT Go.Proofs.Tryd.prog 123 = 65 := by kernel_rfl
@[go_sem] theorem strT_123 : strT Go.Proofs.Tryd.prog 123 = false := by kernel_rfl
@[go_sem] theorem fldsT_123 : fldsT Go.Proofs.Tryd.prog 123 = true := by kernel_rfl
@[go_sem] theorem boolT_123 : boolT Go.Proofs.Tryd.prog 123 = false := by kernel_rfl
@[go_sem] theorem intT_123 : intT Go.Proofs.Tryd.prog 123 = none := by kernel_rfl
@[go_sem] theorem zOk_123 : zOk Go.Proofs.Tryd.prog 123 = true := by kernel_rfl
@[go_sem] theorem szT_124 : szT Go.Proofs.Tryd.prog 124 = 1 := by kernel_rfl
@[go_sem] theorem aggT_124 : aggT Go.Proofs.Tryd.prog 124 = some false := by kernel_rfl
@[go_sem] theorem elemT_124 : elemT Go.Proofs.Tryd.prog 124 = none := by kernel_rfl
@[go_sem] theorem arrT_124 : arrT Go.Proofs.Tryd.prog 124 = none := by kernel_rfl
@[go_sem] theorem byT_124 : byT Go.Proofs.Tryd.prog 124 = 8 := by kernel_rfl
@[go_sem] theorem strT_124 : strT Go.Proofs.Tryd.prog 124 = false := by kernel_rfl
@[go_sem] theorem boolT_124 : boolT Go.Proofs.Tryd.prog 124 = false := by kernel_rfl
@[go_sem] theorem intT_124 : intT Go.Proofs.Tryd.prog 124 = some .u64 := by kernel_rfl
@[go_sem] theorem zOk_124 : zOk Go.Proofs.Tryd.prog 124 = true := by kernel_rfl
@[go_sem] theorem zeroT_124 : zeroT Go.Proofs.Tryd.prog 124 = some (.lit (.int .u64 0)) := by kernel_rfl
@[go_sem] theorem szT_125 : szT Go.Proofs.Tryd.prog 125 = 1 := by kernel_rfl
@[go_sem] theorem aggT_125 : aggT Go.Proofs.Tryd.prog 125 = some false := by kernel_rfl
@[go_sem] theorem elemT_125 : elemT Go.Proofs.Tryd.prog 125 = none := by kernel_rfl
@[go_sem] theorem arrT_125 : arrT Go.Proofs.Tryd.prog 125 = none := by kernel_rfl
@[go_sem] theorem byT_125 : byT Go.Proofs.Tryd.prog 125 = 8 := by kernel_rfl
@[go_sem] theorem strT_125 : strT Go.Proofs.Tryd.prog 125 = false := by kernel_rfl
@[go_sem] theorem boolT_125 : boolT Go.Proofs.Tryd.prog 125 = false := by kernel_rfl
@[go_sem] theorem intT_125 : intT Go.Proofs.Tryd.prog 125 = none := by kernel_rfl
@[go_sem] theorem zOk_125 : zOk Go.Proofs.Tryd.prog 125 = true := by kernel_rfl
@[go_sem] theorem zeroT_125 : zeroT Go.Proofs.Tryd.prog 125 = some (.lit .nilFunc) := by kernel_rfl
@[go_sem] theorem szT_126 : szT Go.Proofs.Tryd.prog 126 = 1 := by kernel_rfl
@[go_sem] theorem aggT_126 : aggT Go.Proofs.Tryd.prog 126 = some false := by kernel_rfl
@[go_sem] theorem elemT_126 : elemT Go.Proofs.Tryd.prog 126 = none := by kernel_rfl
@[go_sem] theorem arrT_126 : arrT Go.Proofs.Tryd.prog 126 = none := by kernel_rfl
@[go_sem] theorem byT_126 : byT Go.Proofs.Tryd.prog 126 = 8 := by kernel_rfl
@[go_sem] theorem strT_126 : strT Go.Proofs.Tryd.prog 126 = false := by kernel_rfl
@[go_sem] theorem boolT_126 : boolT Go.Proofs.Tryd.prog 126 = false := by kernel_rfl
@[go_sem] theorem intT_126 : intT Go.Proofs.Tryd.prog 126 = none := by kernel_rfl
@[go_sem] theorem zOk_126 : zOk Go.Proofs.Tryd.prog 126 = true := by kernel_rfl
@[go_sem] theorem zeroT_126 : zeroT Go.Proofs.Tryd.prog 126 = some (.lit .nilFunc) := by kernel_rfl
@[go_sem] theorem szT_127 : szT Go.Proofs.Tryd.prog 127 = 32 := by kernel_rfl
@[go_sem] theorem aggT_127 : aggT Go.Proofs.Tryd.prog 127 = some true := by kernel_rfl
@[go_sem] theorem elemT_127 : elemT Go.Proofs.Tryd.prog 127 = none := by kernel_rfl
@[go_sem] theorem arrT_127 : arrT Go.Proofs.Tryd.prog 127 = some (32, 5) := by kernel_rfl
@[go_sem] theorem byT_127 : byT Go.Proofs.Tryd.prog 127 = 32 := by kernel_rfl
@[go_sem] theorem strT_127 : strT Go.Proofs.Tryd.prog 127 = false := by kernel_rfl
@[go_sem] theorem fldsT_127 : fldsT Go.Proofs.Tryd.prog 127 = true := by kernel_rfl
@[go_sem] theorem boolT_127 : boolT Go.Proofs.Tryd.prog 127 = false := by kernel_rfl
@[go_sem] theorem intT_127 : intT Go.Proofs.Tryd.prog 127 = none := by kernel_rfl
@[go_sem] theorem zOk_127 : zOk Go.Proofs.Tryd.prog 127 = true := by kernel_rfl
@[go_sem] theorem zeroT_127 : zeroT Go.Proofs.Tryd.prog 127 = some (.agg [.lit (.int .u8 0), .lit (.int .u8 0), .lit (.int .u8 0), .lit (.int .u8 0), .lit (.int .u8 0), .lit (.int .u8 0), .lit (.int .u8 0), .lit (.int .u8 0), .lit (.int .u8 0), .lit (.int .u8 0), .lit (.int .u8 0), .lit (.int .u8 0), .lit (.int .u8 0), .lit (.int .u8 0), .lit (.int .u8 0), .lit (.int .u8 0), .lit (.int .u8 0), .lit (.int .u8 0), .lit (.int .u8 0), .lit (.int .u8 0), .lit (.int .u8 0), .lit (.int .u8 0), .lit (.int .u8 0), .lit (.int .u8 0), .lit (.int .u8 0), .lit (.int .u8 0), .lit (.int .u8 0), .lit (.int .u8 0), .lit (.int .u8 0), .lit (.int .u8 0), .lit (.int .u8 0), .lit (.int .u8 0)]) := by kernel_rfl
@[go_sem] theorem szT_128 : szT Go.Proofs.Tryd.prog 128 = 64 := by kernel_rfl
@[go_sem] theorem aggT_128 : aggT Go.Proofs.Tryd.prog 128 = some true := by kernel_rfl
@[go_sem] theorem elemT_128 : elemT Go.Proofs.Tryd.prog 128 = none := by kernel_rfl
@[go_sem] theorem arrT_128 : arrT Go.Proofs.Tryd.prog 128 = some (64, 5) := by kernel_rfl
@[go_sem] theorem byT_128 : byT Go.Proofs.Tryd.prog 128 = 64 := by kernel_rfl
@[go_sem] theorem strT_128 : strT Go.Proofs.Tryd.prog 128 = false := by kernel_rfl
@[go_sem] theorem fldsT_128 : fldsT Go.Proofs.Tryd.prog 128 = true := by kernel_rfl
@[go_sem] theorem boolT_128 : boolT Go.Proofs.Tryd.prog 128 = false := by kernel_rfl
@[go_sem] theorem intT_128 : intT Go.Proofs.Tryd.prog 128 = none := by kernel_rfl
@[go_sem] theorem zOk_128 : zOk Go.Proofs.Tryd.prog 128 = true := by kernel_rfl
@[go_sem] theorem zeroT_128 : zeroT Go.Proofs.Tryd.prog 128 = some (.agg [.lit (.int .u8 0), .lit (.int .u8 0), .lit (.int .u8 0), .lit (.int .u8 0), .lit (.int .u8 0), .lit (.int .u8 0), .lit (.int .u8 0), .lit (.int .u8 0), .lit (.int .u8 0), .lit (.int .u8 0), .lit (.int .u8 0), .lit (.int .u8 0), .lit (.int .u8 0), .lit (.int .u8 0), .lit (.int .u8 0), .lit (.int .u8 0), .lit (.int .u8 0), .lit (.int .u8 0), .lit (.int .u8 0), .lit (.int .u8 0), .lit (.int .u8 0), .lit (.int .u8 0), .lit (.int .u8 0), .lit (.int .u8 0), .lit (.int .u8 0), .lit (.int .u8 0), .lit (.int .u8 0), .lit (.int .u8 0), .lit (.int .u8 0), .lit (.int .u8 0), .lit (.int .u8 0), .lit (.int .u8 0), .lit (.int .u8 0), .lit (.int .u8 0), .lit (.int .u8 0), .lit (.int .u8 0), .lit (.int .u8 0), .lit (.int .u8 0), .lit (.int .u8 0), .lit (.int .u8 0), .lit (.int .u8 0), .lit (.int .u8 0), .lit (.int .u8 0), .lit (.int .u8 0), .lit (.int .u8 0), .lit (.int .u8 0), .lit (.int .u8 0), .lit (.int .u8 0), .lit (.int .u8 0), .lit (.int .u8 0), .lit (.int .u8 0), .lit (.int .u8 0), .lit (.int .u8 0), .lit (.int .u8 0), .lit (.int .u8 0), .lit (.int .u8 0), .lit (.int .u8 0), .lit (.int .u8 0), .lit (.int .u8 0), .lit (.int .u8 0), .lit (.int .u8 0), .lit (.int .u8 0), .lit (.int .u8 0), .lit (.int .u8 0)]) := by kernel_rfl
@[go_sem] theorem szT_129 : szT Go.Proofs.Tryd.prog 129 = 4 := by kernel_rfl
@[go_sem] theorem aggT_129 : aggT Go.Proofs.Tryd.prog 129 = some true := by kernel_rfl
@[go_sem] theorem fldT_129_0 : fldT Go.Proofs.Tryd.prog 129 0 = some (0, 1) := by kernel_rfl
@[go_sem] theorem fldT_129_1 : fldT Go.Proofs.Tryd.prog 129 1 = some (1, 1) := by kernel_rfl
@[go_sem] theorem fldT_129_2 : fldT Go.Proofs.Tryd.prog 129 2 = some (2, 1) := by kernel_rfl
@[go_sem] theorem fldT_129_3 : fldT Go.Proofs.Tryd.prog 129 3 = some (3, 1) := by kernel_rfl
@[go_sem] theorem elemT_129 : elemT Go.Proofs.Tryd.prog 129 = none := by kernel_rfl
@[go_sem] theorem arrT_129 : arrT Go.Proofs.Tryd.prog 129 = none := by kernel_rfl
@[go_sem] theorem byT_129 : byT Go.Proofs.Tryd.prog 129 = 40 := by kernel_rfl
@[go_sem] theorem strT_129 : strT Go.Proofs.Tryd.prog 129 = false := by kernel_rfl
@[go_sem] theorem fldsT_129 : fldsT Go.Proofs.Tryd.prog 129 = true := by kernel_rfl
@[go_sem] theorem boolT_129 : boolT Go.Proofs.Tryd.prog 129 = false := by kernel_rfl
@[go_sem] theorem intT_129 : intT Go.Proofs.Tryd.prog 129 = none := by kernel_rfl
@[go_sem] theorem zOk_129 : zOk Go.Proofs.Tryd.prog 129 = true := by kernel_rfl
@[go_sem] theorem zeroT_129 : zeroT Go.Proofs.Tryd.prog 129 = some (.agg [.lit (.pointer none), .lit (.pointer none), .lit (.pointer none), .lit (.string ⟨#[]⟩)]) := by kernel_rfl
@[go_sem] theorem szT_130 : szT Go.Proofs.Tryd.prog 130 = 4 := by kernel_rfl
@[go_sem] theorem aggT_130 : aggT Go.Proofs.Tryd.prog 130 = some true := by kernel_rfl
@[go_sem] theorem fldT_130_0 : fldT Go.Proofs.Tryd.prog 130 0 = some (0, 1) := by kernel_rfl
@[go_sem] theorem fldT_130_1 : fldT Go.Proofs.Tryd.prog 130 1 = some (1, 1) := by kernel_rfl
@[go_sem] theorem fldT_130_2 : fldT Go.Proofs.Tryd.prog 130 2 = some (2, 1) := by kernel_rfl
@[go_sem] theorem fldT_130_3 : fldT Go.Proofs.Tryd.prog 130 3 = some (3, 1) := by kernel_rfl
@[go_sem] theorem elemT_130 : elemT Go.Proofs.Tryd.prog 130 = none := by kernel_rfl
@[go_sem] theorem arrT_130 : arrT Go.Proofs.Tryd.prog 130 = none := by kernel_rfl
@[go_sem] theorem byT_130 : byT Go.Proofs.Tryd.prog 130 = 40 := by kernel_rfl
@[go_sem] theorem strT_130 : strT Go.Proofs.Tryd.prog 130 = false := by kernel_rfl
@[go_sem] theorem fldsT_130 : fldsT Go.Proofs.Tryd.prog 130 = true := by kernel_rfl
@[go_sem] theorem boolT_130 : boolT Go.Proofs.Tryd.prog 130 = false := by kernel_rfl
@[go_sem] theorem intT_130 : intT Go.Proofs.Tryd.prog 130 = none := by kernel_rfl
@[go_sem] theorem zOk_130 : zOk Go.Proofs.Tryd.prog 130 = true := by kernel_rfl
@[go_sem] theorem zeroT_130 : zeroT Go.Proofs.Tryd.prog 130 = some (.agg [.lit (.pointer none), .lit (.pointer none), .lit (.pointer none), .lit (.string ⟨#[]⟩)]) := by kernel_rfl
@[go_sem] theorem szT_131 : szT Go.Proofs.Tryd.prog 131 = 0 := by kernel_rfl
@[go_sem] theorem aggT_131 : aggT Go.Proofs.Tryd.prog 131 = some true := by kernel_rfl
@[go_sem] theorem elemT_131 : elemT Go.Proofs.Tryd.prog 131 = none := by kernel_rfl
@[go_sem] theorem arrT_131 : arrT Go.Proofs.Tryd.prog 131 = some (0, 16) := by kernel_rfl
@[go_sem] theorem byT_131 : byT Go.Proofs.Tryd.prog 131 = 0 := by kernel_rfl
@[go_sem] theorem strT_131 : strT Go.Proofs.Tryd.prog 131 = false := by kernel_rfl
@[go_sem] theorem fldsT_131 : fldsT Go.Proofs.Tryd.prog 131 = true := by kernel_rfl
@[go_sem] theorem boolT_131 : boolT Go.Proofs.Tryd.prog 131 = false := by kernel_rfl
@[go_sem] theorem intT_131 : intT Go.Proofs.Tryd.prog 131 = none := by kernel_rfl
@[go_sem] theorem zOk_131 : zOk Go.Proofs.Tryd.prog 131 = true := by kernel_rfl
@[go_sem] theorem zeroT_131 : zeroT Go.Proofs.Tryd.prog 131 = some (.agg []) := by kernel_rfl
@[go_sem] theorem szT_132 : szT Go.Proofs.Tryd.prog 132 = 0 := by kernel_rfl
@[go_sem] theorem aggT_132 : aggT Go.Proofs.Tryd.prog 132 = some true := by kernel_rfl
@[go_sem] theorem fldT_132_0 : fldT Go.Proofs.Tryd.prog 132 0 = none := by kernel_rfl
@[go_sem] theorem elemT_132 : elemT Go.Proofs.Tryd.prog 132 = none := by kernel_rfl
@[go_sem] theorem arrT_132 : arrT Go.Proofs.Tryd.prog 132 = none := by kernel_rfl
@[go_sem] theorem byT_132 : byT Go.Proofs.Tryd.prog 132 = 0 := by kernel_rfl
@[go_sem] theorem strT_132 : strT Go.Proofs.Tryd.prog 132 = false := by kernel_rfl
@[go_sem] theorem fldsT_132 : fldsT Go.Proofs.Tryd.prog 132 = true := by kernel_rfl
@[go_sem] theorem boolT_132 : boolT Go.Proofs.Tryd.prog 132 = false := by kernel_rfl
@[go_sem] theorem intT_132 : intT Go.Proofs.Tryd.prog 132 = none := by kernel_rfl
@[go_sem] theorem zOk_132 : zOk Go.Proofs.Tryd.prog 132 = true := by kernel_rfl
@[go_sem] theorem zeroT_132 : zeroT Go.Proofs.Tryd.prog 132 = some (.agg []) := by kernel_rfl
@[go_sem] theorem szT_133 : szT Go.Proofs.Tryd.prog 133 = 0 := by kernel_rfl
@[go_sem] theorem aggT_133 : aggT Go.Proofs.Tryd.prog 133 = some true := by kernel_rfl
@[go_sem] theorem fldT_133_0 : fldT Go.Proofs.Tryd.prog 133 0 = none := by kernel_rfl
@[go_sem] theorem elemT_133 : elemT Go.Proofs.Tryd.prog 133 = none := by kernel_rfl
@[go_sem] theorem arrT_133 : arrT Go.Proofs.Tryd.prog 133 = none := by kernel_rfl
@[go_sem] theorem byT_133 : byT Go.Proofs.Tryd.prog 133 = 0 := by kernel_rfl
@[go_sem] theorem strT_133 : strT Go.Proofs.Tryd.prog 133 = false := by kernel_rfl
@[go_sem] theorem fldsT_133 : fldsT Go.Proofs.Tryd.prog 133 = true := by kernel_rfl
@[go_sem] theorem boolT_133 : boolT Go.Proofs.Tryd.prog 133 = false := by kernel_rfl
@[go_sem] theorem intT_133 : intT Go.Proofs.Tryd.prog 133 = none := by kernel_rfl
@[go_sem] theorem zOk_133 : zOk Go.Proofs.Tryd.prog 133 = true := by kernel_rfl
@[go_sem] theorem zeroT_133 : zeroT Go.Proofs.Tryd.prog 133 = some (.agg []) := by kernel_rfl
@[go_sem] theorem szT_134 : szT Go.Proofs.Tryd.prog 134 = 1 := by kernel_rfl
@[go_sem] theorem aggT_134 : aggT Go.Proofs.Tryd.prog 134 = some false := by kernel_rfl
@[go_sem] theorem elemT_134 : elemT Go.Proofs.Tryd.prog 134 = none := by kernel_rfl
@[go_sem] theorem arrT_134 : arrT Go.Proofs.Tryd.prog 134 = none := by kernel_rfl
@[go_sem] theorem byT_134 : byT Go.Proofs.Tryd.prog 134 = 8 := by kernel_rfl
@[go_sem] theorem strT_134 : strT Go.Proofs.Tryd.prog 134 = false := by kernel_rfl
@[go_sem] theorem boolT_134 : boolT Go.Proofs.Tryd.prog 134 = false := by kernel_rfl
@[go_sem] theorem intT_134 : intT Go.Proofs.Tryd.prog 134 = none := by kernel_rfl
@[go_sem] theorem zOk_134 : zOk Go.Proofs.Tryd.prog 134 = true := by kernel_rfl
@[go_sem] theorem zeroT_134 : zeroT Go.Proofs.Tryd.prog 134 = some (.lit .nilFunc) := by kernel_rfl
@[go_sem] theorem szT_135 : szT Go.Proofs.Tryd.prog 135 = 1 := by kernel_rfl
@[go_sem] theorem aggT_135 : aggT Go.Proofs.Tryd.prog 135 = some false := by kernel_rfl
@[go_sem] theorem elemT_135 : elemT Go.Proofs.Tryd.prog 135 = none := by kernel_rfl
@[go_sem] theorem arrT_135 : arrT Go.Proofs.Tryd.prog 135 = none := by kernel_rfl
@[go_sem] theorem byT_135 : byT Go.Proofs.Tryd.prog 135 = 1 := by kernel_rfl
@[go_sem] theorem strT_135 : strT Go.Proofs.Tryd.prog 135 = false := by kernel_rfl
@[go_sem] theorem boolT_135 : boolT Go.Proofs.Tryd.prog 135 = false := by kernel_rfl
@[go_sem] theorem intT_135 : intT Go.Proofs.Tryd.prog 135 = some .u8 := by kernel_rfl
@[go_sem] theorem zOk_135 : zOk Go.Proofs.Tryd.prog 135 = true := by kernel_rfl
@[go_sem] theorem zeroT_135 : zeroT Go.Proofs.Tryd.prog 135 = some (.lit (.int .u8 0)) := by kernel_rfl
@[go_sem] theorem szT_136 : szT Go.Proofs.Tryd.prog 136 = 1 := by kernel_rfl
@[go_sem] theorem aggT_136 : aggT Go.Proofs.Tryd.prog 136 = some false := by kernel_rfl
@[go_sem] theorem elemT_136 : elemT Go.Proofs.Tryd.prog 136 = none := by kernel_rfl
@[go_sem] theorem arrT_136 : arrT Go.Proofs.Tryd.prog 136 = none := by kernel_rfl
@[go_sem] theorem byT_136 : byT Go.Proofs.Tryd.prog 136 = 1 := by kernel_rfl
@[go_sem] theorem strT_136 : strT Go.Proofs.Tryd.prog 136 = false := by kernel_rfl
@[go_sem] theorem boolT_136 : boolT Go.Proofs.Tryd.prog 136 = false := by kernel_rfl
@[go_sem] theorem intT_136 : intT Go.Proofs.Tryd.prog 136 = some .u8 := by kernel_rfl
@[go_sem] theorem zOk_136 : zOk Go.Proofs.Tryd.prog 136 = true := by kernel_rfl
@[go_sem] theorem zeroT_136 : zeroT Go.Proofs.Tryd.prog 136 = some (.lit (.int .u8 0)) := by kernel_rfl
@[go_sem] theorem szT_137 : szT Go.Proofs.Tryd.prog 137 = 1 := by kernel_rfl
@[go_sem] theorem aggT_137 : aggT Go.Proofs.Tryd.prog 137 = some false := by kernel_rfl
@[go_sem] theorem elemT_137 : elemT Go.Proofs.Tryd.prog 137 = none := by kernel_rfl
@[go_sem] theorem arrT_137 : arrT Go.Proofs.Tryd.prog 137 = none := by kernel_rfl
@[go_sem] theorem byT_137 : byT Go.Proofs.Tryd.prog 137 = 8 := by kernel_rfl
@[go_sem] theorem strT_137 : strT Go.Proofs.Tryd.prog 137 = false := by kernel_rfl
@[go_sem] theorem boolT_137 : boolT Go.Proofs.Tryd.prog 137 = false := by kernel_rfl
@[go_sem] theorem intT_137 : intT Go.Proofs.Tryd.prog 137 = none := by kernel_rfl
@[go_sem] theorem zOk_137 : zOk Go.Proofs.Tryd.prog 137 = true := by kernel_rfl
@[go_sem] theorem zeroT_137 : zeroT Go.Proofs.Tryd.prog 137 = some (.lit .nilFunc) := by kernel_rfl
@[go_sem] theorem szT_138 : szT Go.Proofs.Tryd.prog 138 = 1 := by kernel_rfl
@[go_sem] theorem aggT_138 : aggT Go.Proofs.Tryd.prog 138 = some false := by kernel_rfl
@[go_sem] theorem elemT_138 : elemT Go.Proofs.Tryd.prog 138 = none := by kernel_rfl
@[go_sem] theorem arrT_138 : arrT Go.Proofs.Tryd.prog 138 = none := by kernel_rfl
@[go_sem] theorem byT_138 : byT Go.Proofs.Tryd.prog 138 = 4 := by kernel_rfl
@[go_sem] theorem strT_138 : strT Go.Proofs.Tryd.prog 138 = false := by kernel_rfl
@[go_sem] theorem boolT_138 : boolT Go.Proofs.Tryd.prog 138 = false := by kernel_rfl
@[go_sem] theorem intT_138 : intT Go.Proofs.Tryd.prog 138 = some .i32 := by kernel_rfl
@[go_sem] theorem zOk_138 : zOk Go.Proofs.Tryd.prog 138 = true := by kernel_rfl
@[go_sem] theorem zeroT_138 : zeroT Go.Proofs.Tryd.prog 138 = some (.lit (.int .i32 0)) := by kernel_rfl
@[go_sem] theorem szT_139 : szT Go.Proofs.Tryd.prog 139 = 1 := by kernel_rfl
@[go_sem] theorem aggT_139 : aggT Go.Proofs.Tryd.prog 139 = some false := by kernel_rfl
@[go_sem] theorem elemT_139 : elemT Go.Proofs.Tryd.prog 139 = none := by kernel_rfl
@[go_sem] theorem arrT_139 : arrT Go.Proofs.Tryd.prog 139 = none := by kernel_rfl
@[go_sem] theorem byT_139 : byT Go.Proofs.Tryd.prog 139 = 4 := by kernel_rfl
@[go_sem] theorem strT_139 : strT Go.Proofs.Tryd.prog 139 = false := by kernel_rfl
@[go_sem] theorem boolT_139 : boolT Go.Proofs.Tryd.prog 139 = false := by kernel_rfl
@[go_sem] theorem intT_139 : intT Go.Proofs.Tryd.prog 139 = some .i32 := by kernel_rfl
@[go_sem] theorem zOk_139 : zOk Go.Proofs.Tryd.prog 139 = true := by kernel_rfl
@[go_sem] theorem zeroT_139 : zeroT Go.Proofs.Tryd.prog 139 = some (.lit (.int .i32 0)) := by kernel_rfl
@[go_sem] theorem szT_140 : szT Go.Proofs.Tryd.prog 140 = 11 := by kernel_rfl
@[go_sem] theorem aggT_140 : aggT Go.Proofs.Tryd.prog 140 = some true := by kernel_rfl
@[go_sem] theorem fldT_140_0 : fldT Go.Proofs.Tryd.prog 140 0 = some (0, 1) := by kernel_rfl
@[go_sem] theorem fldT_140_1 : fldT Go.Proofs.Tryd.prog 140 1 = some (1, 1) := by kernel_rfl
@[go_sem] theorem fldT_140_2 : fldT Go.Proofs.Tryd.prog 140 2 = some (2, 1) := by kernel_rfl
@[go_sem] theorem fldT_140_3 : fldT Go.Proofs.Tryd.prog 140 3 = some (3, 1) := by kernel_rfl
@[go_sem] theorem fldT_140_4 : fldT Go.Proofs.Tryd.prog 140 4 = some (4, 1) := by kernel_rfl
@[go_sem] theorem fldT_140_5 : fldT Go.Proofs.Tryd.prog 140 5 = some (5, 1) := by kernel_rfl
@[go_sem] theorem fldT_140_6 : fldT Go.Proofs.Tryd.prog 140 6 = some (6, 1) := by kernel_rfl
@[go_sem] theorem fldT_140_7 : fldT Go.Proofs.Tryd.prog 140 7 = some (7, 1) := by kernel_rfl
@[go_sem] theorem fldT_140_8 : fldT Go.Proofs.Tryd.prog 140 8 = some (8, 1) := by kernel_rfl
@[go_sem] theorem fldT_140_9 : fldT Go.Proofs.Tryd.prog 140 9 = some (9, 1) := by kernel_rfl
@[go_sem] theorem fldT_140_10 : fldT Go.Proofs.Tryd.prog 140 10 = some (10, 1) := by kernel_rfl
@[go_sem] theorem elemT_140 : elemT Go.Proofs.Tryd.prog 140 = none := by kernel_rfl
@[go_sem] theorem arrT_140 : arrT Go.Proofs.Tryd.prog 140 = none := by kernel_rfl
@[go_sem] theorem byT_140 : byT Go.Proofs.Tryd.prog 140 = 48 := by kernel_rfl
@[go_sem] theorem strT_140 : strT Go.Proofs.Tryd.prog 140 = false := by kernel_rfl
@[go_sem] theorem fldsT_140 : fldsT Go.Proofs.Tryd.prog 140 = true := by kernel_rfl
@[go_sem] theorem boolT_140 : boolT Go.Proofs.Tryd.prog 140 = false := by kernel_rfl
@[go_sem] theorem intT_140 : intT Go.Proofs.Tryd.prog 140 = none := by kernel_rfl
@[go_sem] theorem zOk_140 : zOk Go.Proofs.Tryd.prog 140 = true := by kernel_rfl
@[go_sem] theorem zeroT_140 : zeroT Go.Proofs.Tryd.prog 140 = some (.agg [.lit (.int .u64 0), .lit (.int .u64 0), .lit (.int .u32 0), .lit (.int .u8 0), .lit (.int .u8 0), .lit (.int .u8 0), .lit (.int .u8 0), .lit .nilFunc, .lit (.pointer none), .lit (.int .i32 0), .lit (.int .i32 0)]) := by kernel_rfl
@[go_sem] theorem szT_141 : szT Go.Proofs.Tryd.prog 141 = 11 := by kernel_rfl
@[go_sem] theorem aggT_141 : aggT Go.Proofs.Tryd.prog 141 = some true := by kernel_rfl
@[go_sem] theorem fldT_141_0 : fldT Go.Proofs.Tryd.prog 141 0 = some (0, 1) := by kernel_rfl
@[go_sem] theorem fldT_141_1 : fldT Go.Proofs.Tryd.prog 141 1 = some (1, 1) := by kernel_rfl
@[go_sem] theorem fldT_141_2 : fldT Go.Proofs.Tryd.prog 141 2 = some (2, 1) := by kernel_rfl
@[go_sem] theorem fldT_141_3 : fldT Go.Proofs.Tryd.prog 141 3 = some (3, 1) := by kernel_rfl
@[go_sem] theorem fldT_141_4 : fldT Go.Proofs.Tryd.prog 141 4 = some (4, 1) := by kernel_rfl
@[go_sem] theorem fldT_141_5 : fldT Go.Proofs.Tryd.prog 141 5 = some (5, 1) := by kernel_rfl
@[go_sem] theorem fldT_141_6 : fldT Go.Proofs.Tryd.prog 141 6 = some (6, 1) := by kernel_rfl
@[go_sem] theorem fldT_141_7 : fldT Go.Proofs.Tryd.prog 141 7 = some (7, 1) := by kernel_rfl
@[go_sem] theorem fldT_141_8 : fldT Go.Proofs.Tryd.prog 141 8 = some (8, 1) := by kernel_rfl
@[go_sem] theorem fldT_141_9 : fldT Go.Proofs.Tryd.prog 141 9 = some (9, 1) := by kernel_rfl
@[go_sem] theorem fldT_141_10 : fldT Go.Proofs.Tryd.prog 141 10 = some (10, 1) := by kernel_rfl
@[go_sem] theorem elemT_141 : elemT Go.Proofs.Tryd.prog 141 = none := by kernel_rfl
@[go_sem] theorem arrT_141 : arrT Go.Proofs.Tryd.prog 141 = none := by kernel_rfl
@[go_sem] theorem byT_141 : byT Go.Proofs.Tryd.prog 141 = 48 := by kernel_rfl
@[go_sem] theorem strT_141 : strT Go.Proofs.Tryd.prog 141 = false := by kernel_rfl
@[go_sem] theorem fldsT_141 : fldsT Go.Proofs.Tryd.prog 141 = true := by kernel_rfl
@[go_sem] theorem boolT_141 : boolT Go.Proofs.Tryd.prog 141 = false := by kernel_rfl
@[go_sem] theorem intT_141 : intT Go.Proofs.Tryd.prog 141 = none := by kernel_rfl
@[go_sem] theorem zOk_141 : zOk Go.Proofs.Tryd.prog 141 = true := by kernel_rfl
@[go_sem] theorem zeroT_141 : zeroT Go.Proofs.Tryd.prog 141 = some (.agg [.lit (.int .u64 0), .lit (.int .u64 0), .lit (.int .u32 0), .lit (.int .u8 0), .lit (.int .u8 0), .lit (.int .u8 0), .lit (.int .u8 0), .lit .nilFunc, .lit (.pointer none), .lit (.int .i32 0), .lit (.int .i32 0)]) := by kernel_rfl
end Go.Proofs.YtilmjbljkkbakaaDoor
