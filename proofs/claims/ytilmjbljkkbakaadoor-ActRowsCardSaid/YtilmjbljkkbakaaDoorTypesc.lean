/-
  A part of the proof: lemmas.
-/
import Derived.Attr
import Derived.Test.YtilmjbljkkbakaaDoorV2
import Derived.Test.YtilmjbljkkbakaaDoorProg
import Derived.KernelRfl
set_option linter.unusedSimpArgs false
set_option linter.unusedVariables false
set_option linter.unusedSectionVars false
set_option linter.unnecessarySimpa false
set_option linter.deprecated false
namespace Go.Proofs.YtilmjbljkkbakaaDoor
open Go.Wv
@[go_sem] theorem szT_1 : szT Go.Proofs.Tryd.prog 1 = 1 := by kernel_rfl
@[go_sem] theorem aggT_1 : aggT Go.Proofs.Tryd.prog 1 = some false := by kernel_rfl
@[go_sem] theorem elemT_1 : elemT Go.Proofs.Tryd.prog 1 = none := by kernel_rfl
@[go_sem] theorem arrT_1 : arrT Go.Proofs.Tryd.prog 1 = none := by kernel_rfl
@[go_sem] theorem byT_1 : byT Go.Proofs.Tryd.prog 1 = 8 := by kernel_rfl
@[go_sem] theorem strT_1 : strT Go.Proofs.Tryd.prog 1 = false := by kernel_rfl
@[go_sem] theorem boolT_1 : boolT Go.Proofs.Tryd.prog 1 = false := by kernel_rfl
@[go_sem] theorem intT_1 : intT Go.Proofs.Tryd.prog 1 = none := by kernel_rfl
@[go_sem] theorem zOk_1 : zOk Go.Proofs.Tryd.prog 1 = true := by kernel_rfl
@[go_sem] theorem zeroT_1 : zeroT Go.Proofs.Tryd.prog 1 = some (.lit .nilFunc) := by kernel_rfl
@[go_sem] theorem szT_2 : szT Go.Proofs.Tryd.prog 2 = 1 := by kernel_rfl
@[go_sem] theorem aggT_2 : aggT Go.Proofs.Tryd.prog 2 = some false := by kernel_rfl
@[go_sem] theorem elemT_2 : elemT Go.Proofs.Tryd.prog 2 = none := by kernel_rfl
@[go_sem] theorem arrT_2 : arrT Go.Proofs.Tryd.prog 2 = none := by kernel_rfl
@[go_sem] theorem byT_2 : byT Go.Proofs.Tryd.prog 2 = 8 := by kernel_rfl
@[go_sem] theorem strT_2 : strT Go.Proofs.Tryd.prog 2 = false := by kernel_rfl
@[go_sem] theorem boolT_2 : boolT Go.Proofs.Tryd.prog 2 = false := by kernel_rfl
@[go_sem] theorem intT_2 : intT Go.Proofs.Tryd.prog 2 = some .i64 := by kernel_rfl
@[go_sem] theorem zOk_2 : zOk Go.Proofs.Tryd.prog 2 = true := by kernel_rfl
@[go_sem] theorem zeroT_2 : zeroT Go.Proofs.Tryd.prog 2 = some (.lit (.int .i64 0)) := by kernel_rfl
@[go_sem] theorem szT_3 : szT Go.Proofs.Tryd.prog 3 = 1 := by kernel_rfl
@[go_sem] theorem aggT_3 : aggT Go.Proofs.Tryd.prog 3 = some false := by kernel_rfl
@[go_sem] theorem elemT_3 : elemT Go.Proofs.Tryd.prog 3 = none := by kernel_rfl
@[go_sem] theorem arrT_3 : arrT Go.Proofs.Tryd.prog 3 = none := by kernel_rfl
@[go_sem] theorem byT_3 : byT Go.Proofs.Tryd.prog 3 = 8 := by kernel_rfl
@[go_sem] theorem strT_3 : strT Go.Proofs.Tryd.prog 3 = false := by kernel_rfl
@[go_sem] theorem boolT_3 : boolT Go.Proofs.Tryd.prog 3 = false := by kernel_rfl
@[go_sem] theorem intT_3 : intT Go.Proofs.Tryd.prog 3 = some .i64 := by kernel_rfl
@[go_sem] theorem zOk_3 : zOk Go.Proofs.Tryd.prog 3 = true := by kernel_rfl
@[go_sem] theorem zeroT_3 : zeroT Go.Proofs.Tryd.prog 3 = some (.lit (.int .i64 0)) := by kernel_rfl
@[go_sem] theorem szT_4 : szT Go.Proofs.Tryd.prog 4 = 1 := by kernel_rfl
@[go_sem] theorem aggT_4 : aggT Go.Proofs.Tryd.prog 4 = some false := by kernel_rfl
@[go_sem] theorem elemT_4 : elemT Go.Proofs.Tryd.prog 4 = none := by kernel_rfl
@[go_sem] theorem arrT_4 : arrT Go.Proofs.Tryd.prog 4 = none := by kernel_rfl
@[go_sem] theorem byT_4 : byT Go.Proofs.Tryd.prog 4 = 1 := by kernel_rfl
@[go_sem] theorem strT_4 : strT Go.Proofs.Tryd.prog 4 = false := by kernel_rfl
@[go_sem] theorem boolT_4 : boolT Go.Proofs.Tryd.prog 4 = true := by kernel_rfl
@[go_sem] theorem intT_4 : intT Go.Proofs.Tryd.prog 4 = none := by kernel_rfl
@[go_sem] theorem zOk_4 : zOk Go.Proofs.Tryd.prog 4 = true := by kernel_rfl
@[go_sem] theorem zeroT_4 : zeroT Go.Proofs.Tryd.prog 4 = some (.lit (.bool false)) := by kernel_rfl
@[go_sem] theorem szT_5 : szT Go.Proofs.Tryd.prog 5 = 1 := by kernel_rfl
@[go_sem] theorem aggT_5 : aggT Go.Proofs.Tryd.prog 5 = some false := by kernel_rfl
@[go_sem] theorem elemT_5 : elemT Go.Proofs.Tryd.prog 5 = none := by kernel_rfl
@[go_sem] theorem arrT_5 : arrT Go.Proofs.Tryd.prog 5 = none := by kernel_rfl
@[go_sem] theorem byT_5 : byT Go.Proofs.Tryd.prog 5 = 1 := by kernel_rfl
@[go_sem] theorem strT_5 : strT Go.Proofs.Tryd.prog 5 = false := by kernel_rfl
@[go_sem] theorem boolT_5 : boolT Go.Proofs.Tryd.prog 5 = false := by kernel_rfl
@[go_sem] theorem intT_5 : intT Go.Proofs.Tryd.prog 5 = some .u8 := by kernel_rfl
@[go_sem] theorem zOk_5 : zOk Go.Proofs.Tryd.prog 5 = true := by kernel_rfl
@[go_sem] theorem zeroT_5 : zeroT Go.Proofs.Tryd.prog 5 = some (.lit (.int .u8 0)) := by kernel_rfl
@[go_sem] theorem szT_6 : szT Go.Proofs.Tryd.prog 6 = 1 := by kernel_rfl
@[go_sem] theorem aggT_6 : aggT Go.Proofs.Tryd.prog 6 = some false := by kernel_rfl
@[go_sem] theorem elemT_6 : elemT Go.Proofs.Tryd.prog 6 = none := by kernel_rfl
@[go_sem] theorem arrT_6 : arrT Go.Proofs.Tryd.prog 6 = none := by kernel_rfl
@[go_sem] theorem byT_6 : byT Go.Proofs.Tryd.prog 6 = 1 := by kernel_rfl
@[go_sem] theorem strT_6 : strT Go.Proofs.Tryd.prog 6 = false := by kernel_rfl
@[go_sem] theorem boolT_6 : boolT Go.Proofs.Tryd.prog 6 = false := by kernel_rfl
@[go_sem] theorem intT_6 : intT Go.Proofs.Tryd.prog 6 = some .u8 := by kernel_rfl
@[go_sem] theorem zOk_6 : zOk Go.Proofs.Tryd.prog 6 = true := by kernel_rfl
@[go_sem] theorem zeroT_6 : zeroT Go.Proofs.Tryd.prog 6 = some (.lit (.int .u8 0)) := by kernel_rfl
@[go_sem] theorem szT_9 : szT Go.Proofs.Tryd.prog 9 = 1 := by kernel_rfl
@[go_sem] theorem aggT_9 : aggT Go.Proofs.Tryd.prog 9 = some false := by kernel_rfl
@[go_sem] theorem elemT_9 : elemT Go.Proofs.Tryd.prog 9 = none := by kernel_rfl
@[go_sem] theorem arrT_9 : arrT Go.Proofs.Tryd.prog 9 = none := by kernel_rfl
@[go_sem] theorem byT_9 : byT Go.Proofs.Tryd.prog 9 = 16 := by kernel_rfl
@[go_sem] theorem strT_9 : strT Go.Proofs.Tryd.prog 9 = true := by kernel_rfl
@[go_sem] theorem boolT_9 : boolT Go.Proofs.Tryd.prog 9 = false := by kernel_rfl
@[go_sem] theorem intT_9 : intT Go.Proofs.Tryd.prog 9 = none := by kernel_rfl
@[go_sem] theorem zOk_9 : zOk Go.Proofs.Tryd.prog 9 = true := by kernel_rfl
@[go_sem] theorem zeroT_9 : zeroT Go.Proofs.Tryd.prog 9 = some (.lit (.string ⟨#[]⟩)) := by kernel_rfl
@[go_sem] theorem szT_23 : szT Go.Proofs.Tryd.prog 23 = 1 := by kernel_rfl
@[go_sem] theorem aggT_23 : aggT Go.Proofs.Tryd.prog 23 = some false := by kernel_rfl
@[go_sem] theorem elemT_23 : elemT Go.Proofs.Tryd.prog 23 = some 50 := by kernel_rfl
@[go_sem] theorem arrT_23 : arrT Go.Proofs.Tryd.prog 23 = none := by kernel_rfl
@[go_sem] theorem byT_23 : byT Go.Proofs.Tryd.prog 23 = 24 := by kernel_rfl
@[go_sem] theorem strT_23 : strT Go.Proofs.Tryd.prog 23 = false := by kernel_rfl
@[go_sem] theorem boolT_23 : boolT Go.Proofs.Tryd.prog 23 = false := by kernel_rfl
@[go_sem] theorem intT_23 : intT Go.Proofs.Tryd.prog 23 = none := by kernel_rfl
@[go_sem] theorem zOk_23 : zOk Go.Proofs.Tryd.prog 23 = true := by kernel_rfl
@[go_sem] theorem zeroT_23 : zeroT Go.Proofs.Tryd.prog 23 = some (.sl .own []) := by kernel_rfl
@[go_sem] theorem szT_24 : szT Go.Proofs.Tryd.prog 24 = 1 := by kernel_rfl
@[go_sem] theorem aggT_24 : aggT Go.Proofs.Tryd.prog 24 = some false := by kernel_rfl
@[go_sem] theorem elemT_24 : elemT Go.Proofs.Tryd.prog 24 = none := by kernel_rfl
@[go_sem] theorem arrT_24 : arrT Go.Proofs.Tryd.prog 24 = none := by kernel_rfl
@[go_sem] theorem byT_24 : byT Go.Proofs.Tryd.prog 24 = 8 := by kernel_rfl
@[go_sem] theorem strT_24 : strT Go.Proofs.Tryd.prog 24 = false := by kernel_rfl
@[go_sem] theorem boolT_24 : boolT Go.Proofs.Tryd.prog 24 = false := by kernel_rfl
@[go_sem] theorem intT_24 : intT Go.Proofs.Tryd.prog 24 = some .i64 := by kernel_rfl
@[go_sem] theorem zOk_24 : zOk Go.Proofs.Tryd.prog 24 = true := by kernel_rfl
@[go_sem] theorem zeroT_24 : zeroT Go.Proofs.Tryd.prog 24 = some (.lit (.int .i64 0)) := by kernel_rfl
@[go_sem] theorem szT_27 : szT Go.Proofs.Tryd.prog 27 = 1 := by kernel_rfl
@[go_sem] theorem aggT_27 : aggT Go.Proofs.Tryd.prog 27 = some false := by kernel_rfl
@[go_sem] theorem elemT_27 : elemT Go.Proofs.Tryd.prog 27 = some 64 := by kernel_rfl
@[go_sem] theorem arrT_27 : arrT Go.Proofs.Tryd.prog 27 = none := by kernel_rfl
@[go_sem] theorem byT_27 : byT Go.Proofs.Tryd.prog 27 = 24 := by kernel_rfl
@[go_sem] theorem strT_27 : strT Go.Proofs.Tryd.prog 27 = false := by kernel_rfl
@[go_sem] theorem boolT_27 : boolT Go.Proofs.Tryd.prog 27 = false := by kernel_rfl
@[go_sem] theorem intT_27 : intT Go.Proofs.Tryd.prog 27 = none := by kernel_rfl
@[go_sem] theorem zOk_27 : zOk Go.Proofs.Tryd.prog 27 = true := by kernel_rfl
@[go_sem] theorem zeroT_27 : zeroT Go.Proofs.Tryd.prog 27 = some (.sl .own []) := by kernel_rfl
@[go_sem] theorem szT_28 : szT Go.Proofs.Tryd.prog 28 = 1 := by kernel_rfl
@[go_sem] theorem aggT_28 : aggT Go.Proofs.Tryd.prog 28 = some false := by kernel_rfl
@[go_sem] theorem elemT_28 : elemT Go.Proofs.Tryd.prog 28 = some 64 := by kernel_rfl
@[go_sem] theorem arrT_28 : arrT Go.Proofs.Tryd.prog 28 = none := by kernel_rfl
@[go_sem] theorem byT_28 : byT Go.Proofs.Tryd.prog 28 = 24 := by kernel_rfl
@[go_sem] theorem strT_28 : strT Go.Proofs.Tryd.prog 28 = false := by kernel_rfl
@[go_sem] theorem boolT_28 : boolT Go.Proofs.Tryd.prog 28 = false := by kernel_rfl
@[go_sem] theorem intT_28 : intT Go.Proofs.Tryd.prog 28 = none := by kernel_rfl
@[go_sem] theorem zOk_28 : zOk Go.Proofs.Tryd.prog 28 = true := by kernel_rfl
@[go_sem] theorem zeroT_28 : zeroT Go.Proofs.Tryd.prog 28 = some (.sl .own []) := by kernel_rfl
@[go_sem] theorem szT_32 : szT Go.Proofs.Tryd.prog 32 = 1 := by kernel_rfl
@[go_sem] theorem aggT_32 : aggT Go.Proofs.Tryd.prog 32 = some false := by kernel_rfl
@[go_sem] theorem elemT_32 : elemT Go.Proofs.Tryd.prog 32 = some 61 := by kernel_rfl
@[go_sem] theorem arrT_32 : arrT Go.Proofs.Tryd.prog 32 = none := by kernel_rfl
@[go_sem] theorem byT_32 : byT Go.Proofs.Tryd.prog 32 = 24 := by kernel_rfl
@[go_sem] theorem strT_32 : strT Go.Proofs.Tryd.prog 32 = false := by kernel_rfl
@[go_sem] theorem boolT_32 : boolT Go.Proofs.Tryd.prog 32 = false := by kernel_rfl
@[go_sem] theorem intT_32 : intT Go.Proofs.Tryd.prog 32 = none := by kernel_rfl
@[go_sem] theorem zOk_32 : zOk Go.Proofs.Tryd.prog 32 = true := by kernel_rfl
@[go_sem] theorem zeroT_32 : zeroT Go.Proofs.Tryd.prog 32 = some (.sl .own []) := by kernel_rfl
@[go_sem] theorem szT_35 : szT Go.Proofs.Tryd.prog 35 = 1 := by kernel_rfl
@[go_sem] theorem aggT_35 : aggT Go.Proofs.Tryd.prog 35 = some false := by kernel_rfl
@[go_sem] theorem elemT_35 : elemT Go.Proofs.Tryd.prog 35 = some 67 := by kernel_rfl
@[go_sem] theorem arrT_35 : arrT Go.Proofs.Tryd.prog 35 = none := by kernel_rfl
@[go_sem] theorem byT_35 : byT Go.Proofs.Tryd.prog 35 = 24 := by kernel_rfl
@[go_sem] theorem strT_35 : strT Go.Proofs.Tryd.prog 35 = false := by kernel_rfl
@[go_sem] theorem boolT_35 : boolT Go.Proofs.Tryd.prog 35 = false := by kernel_rfl
@[go_sem] theorem intT_35 : intT Go.Proofs.Tryd.prog 35 = none := by kernel_rfl
@[go_sem] theorem zOk_35 : zOk Go.Proofs.Tryd.prog 35 = true := by kernel_rfl
@[go_sem] theorem zeroT_35 : zeroT Go.Proofs.Tryd.prog 35 = some (.sl .own []) := by kernel_rfl
@[go_sem] theorem szT_39 : szT Go.Proofs.Tryd.prog 39 = 1 := by kernel_rfl
@[go_sem] theorem aggT_39 : aggT Go.Proofs.Tryd.prog 39 = some false := by kernel_rfl
@[go_sem] theorem elemT_39 : elemT Go.Proofs.Tryd.prog 39 = some 74 := by kernel_rfl
@[go_sem] theorem arrT_39 : arrT Go.Proofs.Tryd.prog 39 = none := by kernel_rfl
@[go_sem] theorem byT_39 : byT Go.Proofs.Tryd.prog 39 = 24 := by kernel_rfl
@[go_sem] theorem strT_39 : strT Go.Proofs.Tryd.prog 39 = false := by kernel_rfl
@[go_sem] theorem boolT_39 : boolT Go.Proofs.Tryd.prog 39 = false := by kernel_rfl
@[go_sem] theorem intT_39 : intT Go.Proofs.Tryd.prog 39 = none := by kernel_rfl
@[go_sem] theorem zOk_39 : zOk Go.Proofs.Tryd.prog 39 = true := by kernel_rfl
@[go_sem] theorem zeroT_39 : zeroT Go.Proofs.Tryd.prog 39 = some (.sl .own []) := by kernel_rfl
@[go_sem] theorem szT_44 : szT Go.Proofs.Tryd.prog 44 = 1 := by kernel_rfl
@[go_sem] theorem aggT_44 : aggT Go.Proofs.Tryd.prog 44 = some false := by kernel_rfl
@[go_sem] theorem elemT_44 : elemT Go.Proofs.Tryd.prog 44 = none := by kernel_rfl
@[go_sem] theorem arrT_44 : arrT Go.Proofs.Tryd.prog 44 = none := by kernel_rfl
@[go_sem] theorem byT_44 : byT Go.Proofs.Tryd.prog 44 = 8 := by kernel_rfl
@[go_sem] theorem strT_44 : strT Go.Proofs.Tryd.prog 44 = false := by kernel_rfl
@[go_sem] theorem boolT_44 : boolT Go.Proofs.Tryd.prog 44 = false := by kernel_rfl
@[go_sem] theorem intT_44 : intT Go.Proofs.Tryd.prog 44 = none := by kernel_rfl
@[go_sem] theorem zOk_44 : zOk Go.Proofs.Tryd.prog 44 = true := by kernel_rfl
@[go_sem] theorem zeroT_44 : zeroT Go.Proofs.Tryd.prog 44 = some (.lit (.pointer none)) := by kernel_rfl
@[go_sem] theorem szT_45 : szT Go.Proofs.Tryd.prog 45 = 2 := by kernel_rfl
@[go_sem] theorem aggT_45 : aggT Go.Proofs.Tryd.prog 45 = some true := by kernel_rfl
@[go_sem] theorem fldT_45_0 : fldT Go.Proofs.Tryd.prog 45 0 = some (0, 1) := by kernel_rfl
@[go_sem] theorem fldT_45_1 : fldT Go.Proofs.Tryd.prog 45 1 = some (1, 1) := by kernel_rfl
@[go_sem] theorem elemT_45 : elemT Go.Proofs.Tryd.prog 45 = none := by kernel_rfl
@[go_sem] theorem arrT_45 : arrT Go.Proofs.Tryd.prog 45 = none := by kernel_rfl
@[go_sem] theorem byT_45 : byT Go.Proofs.Tryd.prog 45 = 24 := by kernel_rfl
@[go_sem] theorem strT_45 : strT Go.Proofs.Tryd.prog 45 = false := by kernel_rfl
@[go_sem] theorem fldsT_45 : fldsT Go.Proofs.Tryd.prog 45 = true := by kernel_rfl
@[go_sem] theorem boolT_45 : boolT Go.Proofs.Tryd.prog 45 = false := by kernel_rfl
@[go_sem] theorem eqT_45 : eqT Go.Proofs.Tryd.prog 45 = some [.str, .int] := by kernel_rfl
@[go_sem] theorem intT_45 : intT Go.Proofs.Tryd.prog 45 = none := by kernel_rfl
@[go_sem] theorem zOk_45 : zOk Go.Proofs.Tryd.prog 45 = true := by kernel_rfl
@[go_sem] theorem zeroT_45 : zeroT Go.Proofs.Tryd.prog 45 = some (.agg [.lit (.string ⟨#[]⟩), .lit (.int .i64 0)]) := by kernel_rfl
@[go_sem] theorem szT_46 : szT Go.Proofs.Tryd.prog 46 = 2 := by kernel_rfl
@[go_sem] theorem aggT_46 : aggT Go.Proofs.Tryd.prog 46 = some true := by kernel_rfl
@[go_sem] theorem fldT_46_0 : fldT Go.Proofs.Tryd.prog 46 0 = some (0, 1) := by kernel_rfl
@[go_sem] theorem fldT_46_1 : fldT Go.Proofs.Tryd.prog 46 1 = some (1, 1) := by kernel_rfl
@[go_sem] theorem elemT_46 : elemT Go.Proofs.Tryd.prog 46 = none := by kernel_rfl
@[go_sem] theorem arrT_46 : arrT Go.Proofs.Tryd.prog 46 = none := by kernel_rfl
@[go_sem] theorem byT_46 : byT Go.Proofs.Tryd.prog 46 = 24 := by kernel_rfl
@[go_sem] theorem strT_46 : strT Go.Proofs.Tryd.prog 46 = false := by kernel_rfl
@[go_sem] theorem fldsT_46 : fldsT Go.Proofs.Tryd.prog 46 = true := by kernel_rfl
@[go_sem] theorem boolT_46 : boolT Go.Proofs.Tryd.prog 46 = false := by kernel_rfl
@[go_sem] theorem eqT_46 : eqT Go.Proofs.Tryd.prog 46 = some [.str, .int] := by kernel_rfl
@[go_sem] theorem intT_46 : intT Go.Proofs.Tryd.prog 46 = none := by kernel_rfl
@[go_sem] theorem zOk_46 : zOk Go.Proofs.Tryd.prog 46 = true := by kernel_rfl
@[go_sem] theorem zeroT_46 : zeroT Go.Proofs.Tryd.prog 46 = some (.agg [.lit (.string ⟨#[]⟩), .lit (.int .i64 0)]) := by kernel_rfl
@[go_sem] theorem szT_48 : szT Go.Proofs.Tryd.prog 48 = 1 := by kernel_rfl
@[go_sem] theorem aggT_48 : aggT Go.Proofs.Tryd.prog 48 = some false := by kernel_rfl
@[go_sem] theorem elemT_48 : elemT Go.Proofs.Tryd.prog 48 = none := by kernel_rfl
@[go_sem] theorem arrT_48 : arrT Go.Proofs.Tryd.prog 48 = none := by kernel_rfl
@[go_sem] theorem byT_48 : byT Go.Proofs.Tryd.prog 48 = 8 := by kernel_rfl
@[go_sem] theorem strT_48 : strT Go.Proofs.Tryd.prog 48 = false := by kernel_rfl
@[go_sem] theorem boolT_48 : boolT Go.Proofs.Tryd.prog 48 = false := by kernel_rfl
@[go_sem] theorem intT_48 : intT Go.Proofs.Tryd.prog 48 = none := by kernel_rfl
@[go_sem] theorem zOk_48 : zOk Go.Proofs.Tryd.prog 48 = true := by kernel_rfl
@[go_sem] theorem zeroT_48 : zeroT Go.Proofs.Tryd.prog 48 = some (.lit .nilFunc) := by kernel_rfl
@[go_sem] theorem szT_49 : szT Go.Proofs.Tryd.prog 49 = 4 := by kernel_rfl
@[go_sem] theorem aggT_49 : aggT Go.Proofs.Tryd.prog 49 = some true := by kernel_rfl
@[go_sem] theorem fldT_49_0 : fldT Go.Proofs.Tryd.prog 49 0 = some (0, 1) := by kernel_rfl
@[go_sem] theorem fldT_49_1 : fldT Go.Proofs.Tryd.prog 49 1 = some (1, 1) := by kernel_rfl
@[go_sem] theorem fldT_49_2 : fldT Go.Proofs.Tryd.prog 49 2 = some (2, 1) := by kernel_rfl
@[go_sem] theorem fldT_49_3 : fldT Go.Proofs.Tryd.prog 49 3 = some (3, 1) := by kernel_rfl
@[go_sem] theorem elemT_49 : elemT Go.Proofs.Tryd.prog 49 = none := by kernel_rfl
@[go_sem] theorem arrT_49 : arrT Go.Proofs.Tryd.prog 49 = none := by kernel_rfl
@[go_sem] theorem byT_49 : byT Go.Proofs.Tryd.prog 49 = 40 := by kernel_rfl
@[go_sem] theorem strT_49 : strT Go.Proofs.Tryd.prog 49 = false := by kernel_rfl
@[go_sem] theorem fldsT_49 : fldsT Go.Proofs.Tryd.prog 49 = true := by kernel_rfl
@[go_sem] theorem boolT_49 : boolT Go.Proofs.Tryd.prog 49 = false := by kernel_rfl
@[go_sem] theorem eqT_49 : eqT Go.Proofs.Tryd.prog 49 = some [.int, .str, .int, .int] := by kernel_rfl
@[go_sem] theorem intT_49 : intT Go.Proofs.Tryd.prog 49 = none := by kernel_rfl
@[go_sem] theorem zOk_49 : zOk Go.Proofs.Tryd.prog 49 = true := by kernel_rfl
@[go_sem] theorem zeroT_49 : zeroT Go.Proofs.Tryd.prog 49 = some (.agg [.lit (.int .i64 0), .lit (.string ⟨#[]⟩), .lit (.int .i64 0), .lit (.int .i64 0)]) := by kernel_rfl
@[go_sem] theorem szT_50 : szT Go.Proofs.Tryd.prog 50 = 4 := by kernel_rfl
@[go_sem] theorem aggT_50 : aggT Go.Proofs.Tryd.prog 50 = some true := by kernel_rfl
@[go_sem] theorem fldT_50_0 : fldT Go.Proofs.Tryd.prog 50 0 = some (0, 1) := by kernel_rfl
@[go_sem] theorem fldT_50_1 : fldT Go.Proofs.Tryd.prog 50 1 = some (1, 1) := by kernel_rfl
@[go_sem] theorem fldT_50_2 : fldT Go.Proofs.Tryd.prog 50 2 = some (2, 1) := by kernel_rfl
@[go_sem] theorem fldT_50_3 : fldT Go.Proofs.Tryd.prog 50 3 = some (3, 1) := by kernel_rfl
@[go_sem] theorem elemT_50 : elemT Go.Proofs.Tryd.prog 50 = none := by kernel_rfl
@[go_sem] theorem arrT_50 : arrT Go.Proofs.Tryd.prog 50 = none := by kernel_rfl
@[go_sem] theorem byT_50 : byT Go.Proofs.Tryd.prog 50 = 40 := by kernel_rfl
@[go_sem] theorem strT_50 : strT Go.Proofs.Tryd.prog 50 = false := by kernel_rfl
@[go_sem] theorem fldsT_50 : fldsT Go.Proofs.Tryd.prog 50 = true := by kernel_rfl
@[go_sem] theorem boolT_50 : boolT Go.Proofs.Tryd.prog 50 = false := by kernel_rfl
@[go_sem] theorem eqT_50 : eqT Go.Proofs.Tryd.prog 50 = some [.int, .str, .int, .int] := by kernel_rfl
@[go_sem] theorem intT_50 : intT Go.Proofs.Tryd.prog 50 = none := by kernel_rfl
@[go_sem] theorem zOk_50 : zOk Go.Proofs.Tryd.prog 50 = true := by kernel_rfl
@[go_sem] theorem zeroT_50 : zeroT Go.Proofs.Tryd.prog 50 = some (.agg [.lit (.int .i64 0), .lit (.string ⟨#[]⟩), .lit (.int .i64 0), .lit (.int .i64 0)]) := by kernel_rfl
@[go_sem] theorem szT_53 : szT Go.Proofs.Tryd.prog 53 = 1 := by kernel_rfl
@[go_sem] theorem aggT_53 : aggT Go.Proofs.Tryd.prog 53 = some false := by kernel_rfl
@[go_sem] theorem elemT_53 : elemT Go.Proofs.Tryd.prog 53 = none := by kernel_rfl
@[go_sem] theorem arrT_53 : arrT Go.Proofs.Tryd.prog 53 = none := by kernel_rfl
@[go_sem] theorem byT_53 : byT Go.Proofs.Tryd.prog 53 = 8 := by kernel_rfl
@[go_sem] theorem strT_53 : strT Go.Proofs.Tryd.prog 53 = false := by kernel_rfl
@[go_sem] theorem boolT_53 : boolT Go.Proofs.Tryd.prog 53 = false := by kernel_rfl
@[go_sem] theorem intT_53 : intT Go.Proofs.Tryd.prog 53 = none := by kernel_rfl
@[go_sem] theorem zOk_53 : zOk Go.Proofs.Tryd.prog 53 = true := by kernel_rfl
@[go_sem] theorem zeroT_53 : zeroT Go.Proofs.Tryd.prog 53 = some (.lit (.pointer none)) := by kernel_rfl
@[go_sem] theorem szT_54 : szT Go.Proofs.Tryd.prog 54 = 3 := by kernel_rfl
@[go_sem] theorem aggT_54 : aggT Go.Proofs.Tryd.prog 54 = some true := by kernel_rfl
@[go_sem] theorem fldT_54_0 : fldT Go.Proofs.Tryd.prog 54 0 = some (0, 1) := by kernel_rfl
@[go_sem] theorem fldT_54_1 : fldT Go.Proofs.Tryd.prog 54 1 = some (1, 1) := by kernel_rfl
@[go_sem] theorem fldT_54_2 : fldT Go.Proofs.Tryd.prog 54 2 = some (2, 1) := by kernel_rfl
@[go_sem] theorem elemT_54 : elemT Go.Proofs.Tryd.prog 54 = none := by kernel_rfl
@[go_sem] theorem arrT_54 : arrT Go.Proofs.Tryd.prog 54 = none := by kernel_rfl
@[go_sem] theorem byT_54 : byT Go.Proofs.Tryd.prog 54 = 56 := by kernel_rfl
@[go_sem] theorem strT_54 : strT Go.Proofs.Tryd.prog 54 = false := by kernel_rfl
@[go_sem] theorem fldsT_54 : fldsT Go.Proofs.Tryd.prog 54 = true := by kernel_rfl
@[go_sem] theorem boolT_54 : boolT Go.Proofs.Tryd.prog 54 = false := by kernel_rfl
@[go_sem] theorem intT_54 : intT Go.Proofs.Tryd.prog 54 = none := by kernel_rfl
@[go_sem] theorem zOk_54 : zOk Go.Proofs.Tryd.prog 54 = true := by kernel_rfl
@[go_sem] theorem zeroT_54 : zeroT Go.Proofs.Tryd.prog 54 = some (.agg [.sl .own [], .lit (.int .i64 0), .sl .own []]) := by kernel_rfl
@[go_sem] theorem szT_55 : szT Go.Proofs.Tryd.prog 55 = 3 := by kernel_rfl
@[go_sem] theorem aggT_55 : aggT Go.Proofs.Tryd.prog 55 = some true := by kernel_rfl
@[go_sem] theorem fldT_55_0 : fldT Go.Proofs.Tryd.prog 55 0 = some (0, 1) := by kernel_rfl
@[go_sem] theorem fldT_55_1 : fldT Go.Proofs.Tryd.prog 55 1 = some (1, 1) := by kernel_rfl
@[go_sem] theorem fldT_55_2 : fldT Go.Proofs.Tryd.prog 55 2 = some (2, 1) := by kernel_rfl
@[go_sem] theorem elemT_55 : elemT Go.Proofs.Tryd.prog 55 = none := by kernel_rfl
@[go_sem] theorem arrT_55 : arrT Go.Proofs.Tryd.prog 55 = none := by kernel_rfl
@[go_sem] theorem byT_55 : byT Go.Proofs.Tryd.prog 55 = 56 := by kernel_rfl
@[go_sem] theorem strT_55 : strT Go.Proofs.Tryd.prog 55 = false := by kernel_rfl
@[go_sem] theorem fldsT_55 : fldsT Go.Proofs.Tryd.prog 55 = true := by kernel_rfl
@[go_sem] theorem boolT_55 : boolT Go.Proofs.Tryd.prog 55 = false := by kernel_rfl
@[go_sem] theorem intT_55 : intT Go.Proofs.Tryd.prog 55 = none := by kernel_rfl
@[go_sem] theorem zOk_55 : zOk Go.Proofs.Tryd.prog 55 = true := by kernel_rfl
@[go_sem] theorem zeroT_55 : zeroT Go.Proofs.Tryd.prog 55 = some (.agg [.sl .own [], .lit (.int .i64 0), .sl .own []]) := by kernel_rfl
@[go_sem] theorem szT_58 : szT Go.Proofs.Tryd.prog 58 = 3 := by kernel_rfl
@[go_sem] theorem aggT_58 : aggT Go.Proofs.Tryd.prog 58 = some true := by kernel_rfl
@[go_sem] theorem fldT_58_0 : fldT Go.Proofs.Tryd.prog 58 0 = some (0, 1) := by kernel_rfl
@[go_sem] theorem fldT_58_1 : fldT Go.Proofs.Tryd.prog 58 1 = some (1, 1) := by kernel_rfl
@[go_sem] theorem fldT_58_2 : fldT Go.Proofs.Tryd.prog 58 2 = some (2, 1) := by kernel_rfl
@[go_sem] theorem elemT_58 : elemT Go.Proofs.Tryd.prog 58 = none := by kernel_rfl
@[go_sem] theorem arrT_58 : arrT Go.Proofs.Tryd.prog 58 = none := by kernel_rfl
@[go_sem] theorem byT_58 : byT Go.Proofs.Tryd.prog 58 = 32 := by kernel_rfl
@[go_sem] theorem strT_58 : strT Go.Proofs.Tryd.prog 58 = false := by kernel_rfl
@[go_sem] theorem fldsT_58 : fldsT Go.Proofs.Tryd.prog 58 = true := by kernel_rfl
@[go_sem] theorem boolT_58 : boolT Go.Proofs.Tryd.prog 58 = false := by kernel_rfl
@[go_sem] theorem eqT_58 : eqT Go.Proofs.Tryd.prog 58 = some [.int, .int, .str] := by kernel_rfl
@[go_sem] theorem intT_58 : intT Go.Proofs.Tryd.prog 58 = none := by kernel_rfl
@[go_sem] theorem zOk_58 : zOk Go.Proofs.Tryd.prog 58 = true := by kernel_rfl
@[go_sem] theorem zeroT_58 : zeroT Go.Proofs.Tryd.prog 58 = some (.agg [.lit (.int .i64 0), .lit (.int .i64 0), .lit (.string ⟨#[]⟩)]) := by kernel_rfl
@[go_sem] theorem szT_59 : szT Go.Proofs.Tryd.prog 59 = 3 := by kernel_rfl
@[go_sem] theorem aggT_59 : aggT Go.Proofs.Tryd.prog 59 = some true := by kernel_rfl
@[go_sem] theorem fldT_59_0 : fldT Go.Proofs.Tryd.prog 59 0 = some (0, 1) := by kernel_rfl
@[go_sem] theorem fldT_59_1 : fldT Go.Proofs.Tryd.prog 59 1 = some (1, 1) := by kernel_rfl
@[go_sem] theorem fldT_59_2 : fldT Go.Proofs.Tryd.prog 59 2 = some (2, 1) := by kernel_rfl
@[go_sem] theorem elemT_59 : elemT Go.Proofs.Tryd.prog 59 = none := by kernel_rfl
@[go_sem] theorem arrT_59 : arrT Go.Proofs.Tryd.prog 59 = none := by kernel_rfl
@[go_sem] theorem byT_59 : byT Go.Proofs.Tryd.prog 59 = 32 := by kernel_rfl
@[go_sem] theorem strT_59 : strT Go.Proofs.Tryd.prog 59 = false := by kernel_rfl
@[go_sem] theorem fldsT_59 : fldsT Go.Proofs.Tryd.prog 59 = true := by kernel_rfl
@[go_sem] theorem boolT_59 : boolT Go.Proofs.Tryd.prog 59 = false := by kernel_rfl
@[go_sem] theorem eqT_59 : eqT Go.Proofs.Tryd.prog 59 = some [.int, .int, .str] := by kernel_rfl
@[go_sem] theorem intT_59 : intT Go.Proofs.Tryd.prog 59 = none := by kernel_rfl
@[go_sem] theorem zOk_59 : zOk Go.Proofs.Tryd.prog 59 = true := by kernel_rfl
@[go_sem] theorem zeroT_59 : zeroT Go.Proofs.Tryd.prog 59 = some (.agg [.lit (.int .i64 0), .lit (.int .i64 0), .lit (.string ⟨#[]⟩)]) := by kernel_rfl
@[go_sem] theorem szT_60 : szT Go.Proofs.Tryd.prog 60 = 7 := by kernel_rfl
@[go_sem] theorem aggT_60 : aggT Go.Proofs.Tryd.prog 60 = some true := by kernel_rfl
@[go_sem] theorem fldT_60_0 : fldT Go.Proofs.Tryd.prog 60 0 = some (0, 1) := by kernel_rfl
@[go_sem] theorem fldT_60_1 : fldT Go.Proofs.Tryd.prog 60 1 = some (1, 3) := by kernel_rfl
@[go_sem] theorem fldT_60_2 : fldT Go.Proofs.Tryd.prog 60 2 = some (4, 1) := by kernel_rfl
@[go_sem] theorem fldT_60_3 : fldT Go.Proofs.Tryd.prog 60 3 = some (5, 1) := by kernel_rfl
@[go_sem] theorem fldT_60_4 : fldT Go.Proofs.Tryd.prog 60 4 = some (6, 1) := by kernel_rfl
@[go_sem] theorem elemT_60 : elemT Go.Proofs.Tryd.prog 60 = none := by kernel_rfl
@[go_sem] theorem arrT_60 : arrT Go.Proofs.Tryd.prog 60 = none := by kernel_rfl
@[go_sem] theorem byT_60 : byT Go.Proofs.Tryd.prog 60 = 72 := by kernel_rfl
@[go_sem] theorem strT_60 : strT Go.Proofs.Tryd.prog 60 = false := by kernel_rfl
@[go_sem] theorem fldsT_60 : fldsT Go.Proofs.Tryd.prog 60 = true := by kernel_rfl
@[go_sem] theorem boolT_60 : boolT Go.Proofs.Tryd.prog 60 = false := by kernel_rfl
@[go_sem] theorem eqT_60 : eqT Go.Proofs.Tryd.prog 60 = some [.int, .int, .int, .str, .str, .int, .int] := by kernel_rfl
@[go_sem] theorem intT_60 : intT Go.Proofs.Tryd.prog 60 = none := by kernel_rfl
@[go_sem] theorem zOk_60 : zOk Go.Proofs.Tryd.prog 60 = true := by kernel_rfl
@[go_sem] theorem zeroT_60 : zeroT Go.Proofs.Tryd.prog 60 = some (.agg [.lit (.int .i64 0), .lit (.int .i64 0), .lit (.int .i64 0), .lit (.string ⟨#[]⟩), .lit (.string ⟨#[]⟩), .lit (.int .i64 0), .lit (.int .i64 0)]) := by kernel_rfl
@[go_sem] theorem szT_61 : szT Go.Proofs.Tryd.prog 61 = 7 := by kernel_rfl
@[go_sem] theorem aggT_61 : aggT Go.Proofs.Tryd.prog 61 = some true := by kernel_rfl
@[go_sem] theorem fldT_61_0 : fldT Go.Proofs.Tryd.prog 61 0 = some (0, 1) := by kernel_rfl
@[go_sem] theorem fldT_61_1 : fldT Go.Proofs.Tryd.prog 61 1 = some (1, 3) := by kernel_rfl
@[go_sem] theorem fldT_61_2 : fldT Go.Proofs.Tryd.prog 61 2 = some (4, 1) := by kernel_rfl
@[go_sem] theorem fldT_61_3 : fldT Go.Proofs.Tryd.prog 61 3 = some (5, 1) := by kernel_rfl
@[go_sem] theorem fldT_61_4 : fldT Go.Proofs.Tryd.prog 61 4 = some (6, 1) := by kernel_rfl
@[go_sem] theorem elemT_61 : elemT Go.Proofs.Tryd.prog 61 = none := by kernel_rfl
@[go_sem] theorem arrT_61 : arrT Go.Proofs.Tryd.prog 61 = none := by kernel_rfl
@[go_sem] theorem byT_61 : byT Go.Proofs.Tryd.prog 61 = 72 := by kernel_rfl
@[go_sem] theorem strT_61 : strT Go.Proofs.Tryd.prog 61 = false := by kernel_rfl
@[go_sem] theorem fldsT_61 : fldsT Go.Proofs.Tryd.prog 61 = true := by kernel_rfl
@[go_sem] theorem boolT_61 : boolT Go.Proofs.Tryd.prog 61 = false := by kernel_rfl
@[go_sem] theorem eqT_61 : eqT Go.Proofs.Tryd.prog 61 = some [.int, .int, .int, .str, .str, .int, .int] := by kernel_rfl
@[go_sem] theorem intT_61 : intT Go.Proofs.Tryd.prog 61 = none := by kernel_rfl
@[go_sem] theorem zOk_61 : zOk Go.Proofs.Tryd.prog 61 = true := by kernel_rfl
@[go_sem] theorem zeroT_61 : zeroT Go.Proofs.Tryd.prog 61 = some (.agg [.lit (.int .i64 0), .lit (.int .i64 0), .lit (.int .i64 0), .lit (.string ⟨#[]⟩), .lit (.string ⟨#[]⟩), .lit (.int .i64 0), .lit (.int .i64 0)]) := by kernel_rfl
@[go_sem] theorem szT_62 : szT Go.Proofs.Tryd.prog 62 = 3 := by kernel_rfl
@[go_sem] theorem aggT_62 : aggT Go.Proofs.Tryd.prog 62 = some true := by kernel_rfl
@[go_sem] theorem fldT_62_0 : fldT Go.Proofs.Tryd.prog 62 0 = some (0, 1) := by kernel_rfl
@[go_sem] theorem fldT_62_1 : fldT Go.Proofs.Tryd.prog 62 1 = some (1, 1) := by kernel_rfl
@[go_sem] theorem fldT_62_2 : fldT Go.Proofs.Tryd.prog 62 2 = some (2, 1) := by kernel_rfl
@[go_sem] theorem elemT_62 : elemT Go.Proofs.Tryd.prog 62 = none := by kernel_rfl
@[go_sem] theorem arrT_62 : arrT Go.Proofs.Tryd.prog 62 = none := by kernel_rfl
@[go_sem] theorem byT_62 : byT Go.Proofs.Tryd.prog 62 = 32 := by kernel_rfl
@[go_sem] theorem strT_62 : strT Go.Proofs.Tryd.prog 62 = false := by kernel_rfl
@[go_sem] theorem fldsT_62 : fldsT Go.Proofs.Tryd.prog 62 = true := by kernel_rfl
@[go_sem] theorem boolT_62 : boolT Go.Proofs.Tryd.prog 62 = false := by kernel_rfl
@[go_sem] theorem eqT_62 : eqT Go.Proofs.Tryd.prog 62 = some [.int, .int, .str] := by kernel_rfl
@[go_sem] theorem intT_62 : intT Go.Proofs.Tryd.prog 62 = none := by kernel_rfl
@[go_sem] theorem zOk_62 : zOk Go.Proofs.Tryd.prog 62 = true := by kernel_rfl
@[go_sem] theorem zeroT_62 : zeroT Go.Proofs.Tryd.prog 62 = some (.agg [.lit (.int .i64 0), .lit (.int .i64 0), .lit (.string ⟨#[]⟩)]) := by kernel_rfl
@[go_sem] theorem szT_63 : szT Go.Proofs.Tryd.prog 63 = 7 := by kernel_rfl
@[go_sem] theorem aggT_63 : aggT Go.Proofs.Tryd.prog 63 = some true := by kernel_rfl
@[go_sem] theorem fldT_63_0 : fldT Go.Proofs.Tryd.prog 63 0 = some (0, 1) := by kernel_rfl
@[go_sem] theorem fldT_63_1 : fldT Go.Proofs.Tryd.prog 63 1 = some (1, 3) := by kernel_rfl
@[go_sem] theorem fldT_63_2 : fldT Go.Proofs.Tryd.prog 63 2 = some (4, 1) := by kernel_rfl
@[go_sem] theorem fldT_63_3 : fldT Go.Proofs.Tryd.prog 63 3 = some (5, 1) := by kernel_rfl
@[go_sem] theorem fldT_63_4 : fldT Go.Proofs.Tryd.prog 63 4 = some (6, 1) := by kernel_rfl
@[go_sem] theorem elemT_63 : elemT Go.Proofs.Tryd.prog 63 = none := by kernel_rfl
@[go_sem] theorem arrT_63 : arrT Go.Proofs.Tryd.prog 63 = none := by kernel_rfl
@[go_sem] theorem byT_63 : byT Go.Proofs.Tryd.prog 63 = 72 := by kernel_rfl
@[go_sem] theorem strT_63 : strT Go.Proofs.Tryd.prog 63 = false := by kernel_rfl
@[go_sem] theorem fldsT_63 : fldsT Go.Proofs.Tryd.prog 63 = true := by kernel_rfl
@[go_sem] theorem boolT_63 : boolT Go.Proofs.Tryd.prog 63 = false := by kernel_rfl
@[go_sem] theorem eqT_63 : eqT Go.Proofs.Tryd.prog 63 = some [.int, .int, .int, .str, .str, .int, .int] := by kernel_rfl
@[go_sem] theorem intT_63 : intT Go.Proofs.Tryd.prog 63 = none := by kernel_rfl
@[go_sem] theorem zOk_63 : zOk Go.Proofs.Tryd.prog 63 = true := by kernel_rfl
@[go_sem] theorem zeroT_63 : zeroT Go.Proofs.Tryd.prog 63 = some (.agg [.lit (.int .i64 0), .lit (.int .i64 0), .lit (.int .i64 0), .lit (.string ⟨#[]⟩), .lit (.string ⟨#[]⟩), .lit (.int .i64 0), .lit (.int .i64 0)]) := by kernel_rfl
@[go_sem] theorem szT_64 : szT Go.Proofs.Tryd.prog 64 = 7 := by kernel_rfl
@[go_sem] theorem aggT_64 : aggT Go.Proofs.Tryd.prog 64 = some true := by kernel_rfl
@[go_sem] theorem fldT_64_0 : fldT Go.Proofs.Tryd.prog 64 0 = some (0, 1) := by kernel_rfl
@[go_sem] theorem fldT_64_1 : fldT Go.Proofs.Tryd.prog 64 1 = some (1, 3) := by kernel_rfl
@[go_sem] theorem fldT_64_2 : fldT Go.Proofs.Tryd.prog 64 2 = some (4, 1) := by kernel_rfl
@[go_sem] theorem fldT_64_3 : fldT Go.Proofs.Tryd.prog 64 3 = some (5, 1) := by kernel_rfl
@[go_sem] theorem fldT_64_4 : fldT Go.Proofs.Tryd.prog 64 4 = some (6, 1) := by kernel_rfl
@[go_sem] theorem elemT_64 : elemT Go.Proofs.Tryd.prog 64 = none := by kernel_rfl
@[go_sem] theorem arrT_64 : arrT Go.Proofs.Tryd.prog 64 = none := by kernel_rfl
@[go_sem] theorem byT_64 : byT Go.Proofs.Tryd.prog 64 = 72 := by kernel_rfl
@[go_sem] theorem strT_64 : strT Go.Proofs.Tryd.prog 64 = false := by kernel_rfl
@[go_sem] theorem fldsT_64 : fldsT Go.Proofs.Tryd.prog 64 = true := by kernel_rfl
@[go_sem] theorem boolT_64 : boolT Go.Proofs.Tryd.prog 64 = false := by kernel_rfl
@[go_sem] theorem eqT_64 : eqT Go.Proofs.Tryd.prog 64 = some [.int, .int, .int, .str, .str, .int, .int] := by kernel_rfl
@[go_sem] theorem intT_64 : intT Go.Proofs.Tryd.prog 64 = none := by kernel_rfl
@[go_sem] theorem zOk_64 : zOk Go.Proofs.Tryd.prog 64 = true := by kernel_rfl
@[go_sem] theorem zeroT_64 : zeroT Go.Proofs.Tryd.prog 64 = some (.agg [.lit (.int .i64 0), .lit (.int .i64 0), .lit (.int .i64 0), .lit (.string ⟨#[]⟩), .lit (.string ⟨#[]⟩), .lit (.int .i64 0), .lit (.int .i64 0)]) := by kernel_rfl
@[go_sem] theorem szT_66 : szT Go.Proofs.Tryd.prog 66 = 5 := by kernel_rfl
@[go_sem] theorem aggT_66 : aggT Go.Proofs.Tryd.prog 66 = some true := by kernel_rfl
@[go_sem] theorem fldT_66_0 : fldT Go.Proofs.Tryd.prog 66 0 = some (0, 1) := by kernel_rfl
@[go_sem] theorem fldT_66_1 : fldT Go.Proofs.Tryd.prog 66 1 = some (1, 1) := by kernel_rfl
@[go_sem] theorem fldT_66_2 : fldT Go.Proofs.Tryd.prog 66 2 = some (2, 1) := by kernel_rfl
@[go_sem] theorem fldT_66_3 : fldT Go.Proofs.Tryd.prog 66 3 = some (3, 1) := by kernel_rfl
@[go_sem] theorem fldT_66_4 : fldT Go.Proofs.Tryd.prog 66 4 = some (4, 1) := by kernel_rfl
@[go_sem] theorem elemT_66 : elemT Go.Proofs.Tryd.prog 66 = none := by kernel_rfl
@[go_sem] theorem arrT_66 : arrT Go.Proofs.Tryd.prog 66 = none := by kernel_rfl
@[go_sem] theorem byT_66 : byT Go.Proofs.Tryd.prog 66 = 80 := by kernel_rfl
@[go_sem] theorem strT_66 : strT Go.Proofs.Tryd.prog 66 = false := by kernel_rfl
@[go_sem] theorem fldsT_66 : fldsT Go.Proofs.Tryd.prog 66 = true := by kernel_rfl
@[go_sem] theorem boolT_66 : boolT Go.Proofs.Tryd.prog 66 = false := by kernel_rfl
@[go_sem] theorem intT_66 : intT Go.Proofs.Tryd.prog 66 = none := by kernel_rfl
@[go_sem] theorem zOk_66 : zOk Go.Proofs.Tryd.prog 66 = true := by kernel_rfl
@[go_sem] theorem zeroT_66 : zeroT Go.Proofs.Tryd.prog 66 = some (.agg [.lit (.int .i64 0), .sl .own [], .lit (.string ⟨#[]⟩), .sl .own [], .lit (.int .i64 0)]) := by kernel_rfl
@[go_sem] theorem szT_67 : szT Go.Proofs.Tryd.prog 67 = 5 := by kernel_rfl
@[go_sem] theorem aggT_67 : aggT Go.Proofs.Tryd.prog 67 = some true := by kernel_rfl
@[go_sem] theorem fldT_67_0 : fldT Go.Proofs.Tryd.prog 67 0 = some (0, 1) := by kernel_rfl
@[go_sem] theorem fldT_67_1 : fldT Go.Proofs.Tryd.prog 67 1 = some (1, 1) := by kernel_rfl
@[go_sem] theorem fldT_67_2 : fldT Go.Proofs.Tryd.prog 67 2 = some (2, 1) := by kernel_rfl
@[go_sem] theorem fldT_67_3 : fldT Go.Proofs.Tryd.prog 67 3 = some (3, 1) := by kernel_rfl
@[go_sem] theorem fldT_67_4 : fldT Go.Proofs.Tryd.prog 67 4 = some (4, 1) := by kernel_rfl
@[go_sem] theorem elemT_67 : elemT Go.Proofs.Tryd.prog 67 = none := by kernel_rfl
@[go_sem] theorem arrT_67 : arrT Go.Proofs.Tryd.prog 67 = none := by kernel_rfl
@[go_sem] theorem byT_67 : byT Go.Proofs.Tryd.prog 67 = 80 := by kernel_rfl
@[go_sem] theorem strT_67 : strT Go.Proofs.Tryd.prog 67 = false := by kernel_rfl
@[go_sem] theorem fldsT_67 : fldsT Go.Proofs.Tryd.prog 67 = true := by kernel_rfl
@[go_sem] theorem boolT_67 : boolT Go.Proofs.Tryd.prog 67 = false := by kernel_rfl
@[go_sem] theorem intT_67 : intT Go.Proofs.Tryd.prog 67 = none := by kernel_rfl
@[go_sem] theorem zOk_67 : zOk Go.Proofs.Tryd.prog 67 = true := by kernel_rfl
@[go_sem] theorem zeroT_67 : zeroT Go.Proofs.Tryd.prog 67 = some (.agg [.lit (.int .i64 0), .sl .own [], .lit (.string ⟨#[]⟩), .sl .own [], .lit (.int .i64 0)]) := by kernel_rfl
@[go_sem] theorem szT_68 : szT Go.Proofs.Tryd.prog 68 = 1 := by kernel_rfl
@[go_sem] theorem aggT_68 : aggT Go.Proofs.Tryd.prog 68 = some false := by kernel_rfl
@[go_sem] theorem elemT_68 : elemT Go.Proofs.Tryd.prog 68 = none := by kernel_rfl
@[go_sem] theorem arrT_68 : arrT Go.Proofs.Tryd.prog 68 = none := by kernel_rfl
@[go_sem] theorem byT_68 : byT Go.Proofs.Tryd.prog 68 = 8 := by kernel_rfl
@[go_sem] theorem strT_68 : strT Go.Proofs.Tryd.prog 68 = false := by kernel_rfl
@[go_sem] theorem boolT_68 : boolT Go.Proofs.Tryd.prog 68 = false := by kernel_rfl
@[go_sem] theorem intT_68 : intT Go.Proofs.Tryd.prog 68 = none := by kernel_rfl
@[go_sem] theorem zOk_68 : zOk Go.Proofs.Tryd.prog 68 = true := by kernel_rfl
@[go_sem] theorem zeroT_68 : zeroT Go.Proofs.Tryd.prog 68 = some (.lit (.pointer none)) := by kernel_rfl
@[go_sem] theorem szT_69 : szT Go.Proofs.Tryd.prog 69 = 3 := by kernel_rfl
@[go_sem] theorem aggT_69 : aggT Go.Proofs.Tryd.prog 69 = some true := by kernel_rfl
@[go_sem] theorem fldT_69_0 : fldT Go.Proofs.Tryd.prog 69 0 = some (0, 1) := by kernel_rfl
@[go_sem] theorem fldT_69_1 : fldT Go.Proofs.Tryd.prog 69 1 = some (1, 1) := by kernel_rfl
@[go_sem] theorem fldT_69_2 : fldT Go.Proofs.Tryd.prog 69 2 = some (2, 1) := by kernel_rfl
@[go_sem] theorem elemT_69 : elemT Go.Proofs.Tryd.prog 69 = none := by kernel_rfl
@[go_sem] theorem arrT_69 : arrT Go.Proofs.Tryd.prog 69 = none := by kernel_rfl
@[go_sem] theorem byT_69 : byT Go.Proofs.Tryd.prog 69 = 40 := by kernel_rfl
@[go_sem] theorem strT_69 : strT Go.Proofs.Tryd.prog 69 = false := by kernel_rfl
@[go_sem] theorem fldsT_69 : fldsT Go.Proofs.Tryd.prog 69 = true := by kernel_rfl
@[go_sem] theorem boolT_69 : boolT Go.Proofs.Tryd.prog 69 = false := by kernel_rfl
@[go_sem] theorem intT_69 : intT Go.Proofs.Tryd.prog 69 = none := by kernel_rfl
@[go_sem] theorem zOk_69 : zOk Go.Proofs.Tryd.prog 69 = true := by kernel_rfl
@[go_sem] theorem zeroT_69 : zeroT Go.Proofs.Tryd.prog 69 = some (.agg [.sl .own [], .lit (.int .i64 0), .lit (.int .i64 0)]) := by kernel_rfl
@[go_sem] theorem szT_70 : szT Go.Proofs.Tryd.prog 70 = 3 := by kernel_rfl
@[go_sem] theorem aggT_70 : aggT Go.Proofs.Tryd.prog 70 = some true := by kernel_rfl
@[go_sem] theorem fldT_70_0 : fldT Go.Proofs.Tryd.prog 70 0 = some (0, 1) := by kernel_rfl
@[go_sem] theorem fldT_70_1 : fldT Go.Proofs.Tryd.prog 70 1 = some (1, 1) := by kernel_rfl
@[go_sem] theorem fldT_70_2 : fldT Go.Proofs.Tryd.prog 70 2 = some (2, 1) := by kernel_rfl
@[go_sem] theorem elemT_70 : elemT Go.Proofs.Tryd.prog 70 = none := by kernel_rfl
@[go_sem] theorem arrT_70 : arrT Go.Proofs.Tryd.prog 70 = none := by kernel_rfl
@[go_sem] theorem byT_70 : byT Go.Proofs.Tryd.prog 70 = 40 := by kernel_rfl
@[go_sem] theorem strT_70 : strT Go.Proofs.Tryd.prog 70 = false := by kernel_rfl
@[go_sem] theorem fldsT_70 : fldsT Go.Proofs.Tryd.prog 70 = true := by kernel_rfl
@[go_sem] theorem boolT_70 : boolT Go.Proofs.Tryd.prog 70 = false := by kernel_rfl
@[go_sem] theorem intT_70 : intT Go.Proofs.Tryd.prog 70 = none := by kernel_rfl
@[go_sem] theorem zOk_70 : zOk Go.Proofs.Tryd.prog 70 = true := by kernel_rfl
@[go_sem] theorem zeroT_70 : zeroT Go.Proofs.Tryd.prog 70 = some (.agg [.sl .own [], .lit (.int .i64 0), .lit (.int .i64 0)]) := by kernel_rfl
@[go_sem] theorem szT_73 : szT Go.Proofs.Tryd.prog 73 = 5 := by kernel_rfl
@[go_sem] theorem aggT_73 : aggT Go.Proofs.Tryd.prog 73 = some true := by kernel_rfl
@[go_sem] theorem fldT_73_0 : fldT Go.Proofs.Tryd.prog 73 0 = some (0, 1) := by kernel_rfl
@[go_sem] theorem fldT_73_1 : fldT Go.Proofs.Tryd.prog 73 1 = some (1, 1) := by kernel_rfl
@[go_sem] theorem fldT_73_2 : fldT Go.Proofs.Tryd.prog 73 2 = some (2, 1) := by kernel_rfl
@[go_sem] theorem fldT_73_3 : fldT Go.Proofs.Tryd.prog 73 3 = some (3, 1) := by kernel_rfl
@[go_sem] theorem fldT_73_4 : fldT Go.Proofs.Tryd.prog 73 4 = some (4, 1) := by kernel_rfl
@[go_sem] theorem elemT_73 : elemT Go.Proofs.Tryd.prog 73 = none := by kernel_rfl
@[go_sem] theorem arrT_73 : arrT Go.Proofs.Tryd.prog 73 = none := by kernel_rfl
@[go_sem] theorem byT_73 : byT Go.Proofs.Tryd.prog 73 = 80 := by kernel_rfl
@[go_sem] theorem strT_73 : strT Go.Proofs.Tryd.prog 73 = false := by kernel_rfl
@[go_sem] theorem fldsT_73 : fldsT Go.Proofs.Tryd.prog 73 = true := by kernel_rfl
@[go_sem] theorem boolT_73 : boolT Go.Proofs.Tryd.prog 73 = false := by kernel_rfl
@[go_sem] theorem intT_73 : intT Go.Proofs.Tryd.prog 73 = none := by kernel_rfl
@[go_sem] theorem zOk_73 : zOk Go.Proofs.Tryd.prog 73 = true := by kernel_rfl
@[go_sem] theorem zeroT_73 : zeroT Go.Proofs.Tryd.prog 73 = some (.agg [.lit (.int .i64 0), .sl .own [], .lit (.string ⟨#[]⟩), .sl .own [], .lit (.int .i64 0)]) := by kernel_rfl
@[go_sem] theorem szT_74 : szT Go.Proofs.Tryd.prog 74 = 5 := by kernel_rfl
@[go_sem] theorem aggT_74 : aggT Go.Proofs.Tryd.prog 74 = some true := by kernel_rfl
@[go_sem] theorem fldT_74_0 : fldT Go.Proofs.Tryd.prog 74 0 = some (0, 1) := by kernel_rfl
@[go_sem] theorem fldT_74_1 : fldT Go.Proofs.Tryd.prog 74 1 = some (1, 1) := by kernel_rfl
@[go_sem] theorem fldT_74_2 : fldT Go.Proofs.Tryd.prog 74 2 = some (2, 1) := by kernel_rfl
@[go_sem] theorem fldT_74_3 : fldT Go.Proofs.Tryd.prog 74 3 = some (3, 1) := by kernel_rfl
@[go_sem] theorem fldT_74_4 : fldT Go.Proofs.Tryd.prog 74 4 = some (4, 1) := by kernel_rfl
@[go_sem] theorem elemT_74 : elemT Go.Proofs.Tryd.prog 74 = none := by kernel_rfl
@[go_sem] theorem arrT_74 : arrT Go.Proofs.Tryd.prog 74 = none := by kernel_rfl
@[go_sem] theorem byT_74 : byT Go.Proofs.Tryd.prog 74 = 80 := by kernel_rfl
@[go_sem] theorem strT_74 : strT Go.Proofs.Tryd.prog 74 = false := by kernel_rfl
@[go_sem] theorem fldsT_74 : fldsT Go.Proofs.Tryd.prog 74 = true := by kernel_rfl
@[go_sem] theorem boolT_74 : boolT Go.Proofs.Tryd.prog 74 = false := by kernel_rfl
@[go_sem] theorem intT_74 : intT Go.Proofs.Tryd.prog 74 = none := by kernel_rfl
@[go_sem] theorem zOk_74 : zOk Go.Proofs.Tryd.prog 74 = true := by kernel_rfl
@[go_sem] theorem zeroT_74 : zeroT Go.Proofs.Tryd.prog 74 = some (.agg [.lit (.int .i64 0), .sl .own [], .lit (.string ⟨#[]⟩), .sl .own [], .lit (.int .i64 0)]) := by kernel_rfl
@[go_sem] theorem szT_78 : szT Go.Proofs.Tryd.prog 78 = 1 := by kernel_rfl
@[go_sem] theorem aggT_78 : aggT Go.Proofs.Tryd.prog 78 = some false := by kernel_rfl
@[go_sem] theorem elemT_78 : elemT Go.Proofs.Tryd.prog 78 = some 84 := by kernel_rfl
@[go_sem] theorem arrT_78 : arrT Go.Proofs.Tryd.prog 78 = none := by kernel_rfl
@[go_sem] theorem byT_78 : byT Go.Proofs.Tryd.prog 78 = 24 := by kernel_rfl
@[go_sem] theorem strT_78 : strT Go.Proofs.Tryd.prog 78 = false := by kernel_rfl
@[go_sem] theorem boolT_78 : boolT Go.Proofs.Tryd.prog 78 = false := by kernel_rfl
@[go_sem] theorem intT_78 : intT Go.Proofs.Tryd.prog 78 = none := by kernel_rfl
@[go_sem] theorem zOk_78 : zOk Go.Proofs.Tryd.prog 78 = true := by kernel_rfl
@[go_sem] theorem zeroT_78 : zeroT Go.Proofs.Tryd.prog 78 = some (.sl .own []) := by kernel_rfl
@[go_sem] theorem szT_81 : szT Go.Proofs.Tryd.prog 81 = 1 := by kernel_rfl
@[go_sem] theorem aggT_81 : aggT Go.Proofs.Tryd.prog 81 = some false := by kernel_rfl
@[go_sem] theorem elemT_81 : elemT Go.Proofs.Tryd.prog 81 = some 9 := by kernel_rfl
@[go_sem] theorem arrT_81 : arrT Go.Proofs.Tryd.prog 81 = none := by kernel_rfl
@[go_sem] theorem byT_81 : byT Go.Proofs.Tryd.prog 81 = 24 := by kernel_rfl
@[go_sem] theorem strT_81 : strT Go.Proofs.Tryd.prog 81 = false := by kernel_rfl
@[go_sem] theorem boolT_81 : boolT Go.Proofs.Tryd.prog 81 = false := by kernel_rfl
@[go_sem] theorem intT_81 : intT Go.Proofs.Tryd.prog 81 = none := by kernel_rfl
@[go_sem] theorem zOk_81 : zOk Go.Proofs.Tryd.prog 81 = true := by kernel_rfl
@[go_sem] theorem zeroT_81 : zeroT Go.Proofs.Tryd.prog 81 = some (.sl .own []) := by kernel_rfl
@[go_sem] theorem szT_82 : szT Go.Proofs.Tryd.prog 82 = 1 := by kernel_rfl
@[go_sem] theorem aggT_82 : aggT Go.Proofs.Tryd.prog 82 = some false := by kernel_rfl
@[go_sem] theorem elemT_82 : elemT Go.Proofs.Tryd.prog 82 = some 3 := by kernel_rfl
@[go_sem] theorem arrT_82 : arrT Go.Proofs.Tryd.prog 82 = none := by kernel_rfl
@[go_sem] theorem byT_82 : byT Go.Proofs.Tryd.prog 82 = 24 := by kernel_rfl
@[go_sem] theorem strT_82 : strT Go.Proofs.Tryd.prog 82 = false := by kernel_rfl
@[go_sem] theorem boolT_82 : boolT Go.Proofs.Tryd.prog 82 = false := by kernel_rfl
@[go_sem] theorem intT_82 : intT Go.Proofs.Tryd.prog 82 = none := by kernel_rfl
@[go_sem] theorem zOk_82 : zOk Go.Proofs.Tryd.prog 82 = true := by kernel_rfl
@[go_sem] theorem zeroT_82 : zeroT Go.Proofs.Tryd.prog 82 = some (.sl .own []) := by kernel_rfl
@[go_sem] theorem szT_83 : szT Go.Proofs.Tryd.prog 83 = 3 := by kernel_rfl
@[go_sem] theorem aggT_83 : aggT Go.Proofs.Tryd.prog 83 = some true := by kernel_rfl
@[go_sem] theorem fldT_83_0 : fldT Go.Proofs.Tryd.prog 83 0 = some (0, 1) := by kernel_rfl
@[go_sem] theorem fldT_83_1 : fldT Go.Proofs.Tryd.prog 83 1 = some (1, 1) := by kernel_rfl
@[go_sem] theorem fldT_83_2 : fldT Go.Proofs.Tryd.prog 83 2 = some (2, 1) := by kernel_rfl
@[go_sem] theorem elemT_83 : elemT Go.Proofs.Tryd.prog 83 = none := by kernel_rfl
@[go_sem] theorem arrT_83 : arrT Go.Proofs.Tryd.prog 83 = none := by kernel_rfl
@[go_sem] theorem byT_83 : byT Go.Proofs.Tryd.prog 83 = 56 := by kernel_rfl
@[go_sem] theorem strT_83 : strT Go.Proofs.Tryd.prog 83 = false := by kernel_rfl
@[go_sem] theorem fldsT_83 : fldsT Go.Proofs.Tryd.prog 83 = true := by kernel_rfl
@[go_sem] theorem boolT_83 : boolT Go.Proofs.Tryd.prog 83 = false := by kernel_rfl
@[go_sem] theorem intT_83 : intT Go.Proofs.Tryd.prog 83 = none := by kernel_rfl
@[go_sem] theorem zOk_83 : zOk Go.Proofs.Tryd.prog 83 = true := by kernel_rfl
@[go_sem] theorem zeroT_83 : zeroT Go.Proofs.Tryd.prog 83 = some (.agg [.sl .own [], .sl .own [], .lit (.bool false)]) := by kernel_rfl
@[go_sem] theorem szT_84 : szT Go.Proofs.Tryd.prog 84 = 3 := by kernel_rfl
@[go_sem] theorem aggT_84 : aggT Go.Proofs.Tryd.prog 84 = some true := by kernel_rfl
@[go_sem] theorem fldT_84_0 : fldT Go.Proofs.Tryd.prog 84 0 = some (0, 1) := by kernel_rfl
@[go_sem] theorem fldT_84_1 : fldT Go.Proofs.Tryd.prog 84 1 = some (1, 1) := by kernel_rfl
@[go_sem] theorem fldT_84_2 : fldT Go.Proofs.Tryd.prog 84 2 = some (2, 1) := by kernel_rfl
@[go_sem] theorem elemT_84 : elemT Go.Proofs.Tryd.prog 84 = none := by kernel_rfl
@[go_sem] theorem arrT_84 : arrT Go.Proofs.Tryd.prog 84 = none := by kernel_rfl
@[go_sem] theorem byT_84 : byT Go.Proofs.Tryd.prog 84 = 56 := by kernel_rfl
@[go_sem] theorem strT_84 : strT Go.Proofs.Tryd.prog 84 = false := by kernel_rfl
@[go_sem] theorem fldsT_84 : fldsT Go.Proofs.Tryd.prog 84 = true := by kernel_rfl
@[go_sem] theorem boolT_84 : boolT Go.Proofs.Tryd.prog 84 = false := by kernel_rfl
@[go_sem] theorem intT_84 : intT Go.Proofs.Tryd.prog 84 = none := by kernel_rfl
@[go_sem] theorem zOk_84 : zOk Go.Proofs.Tryd.prog 84 = true := by kernel_rfl
@[go_sem] theorem zeroT_84 : zeroT Go.Proofs.Tryd.prog 84 = some (.agg [.sl .own [], .sl .own [], .lit (.bool false)]) := by kernel_rfl
@[go_sem] theorem szT_94 : szT Go.Proofs.Tryd.prog 94 = 1 := by kernel_rfl
@[go_sem] theorem aggT_94 : aggT Go.Proofs.Tryd.prog 94 = some false := by kernel_rfl
@[go_sem] theorem elemT_94 : elemT Go.Proofs.Tryd.prog 94 = some 5 := by kernel_rfl
@[go_sem] theorem arrT_94 : arrT Go.Proofs.Tryd.prog 94 = none := by kernel_rfl
@[go_sem] theorem byT_94 : byT Go.Proofs.Tryd.prog 94 = 24 := by kernel_rfl
@[go_sem] theorem strT_94 : strT Go.Proofs.Tryd.prog 94 = false := by kernel_rfl
@[go_sem] theorem boolT_94 : boolT Go.Proofs.Tryd.prog 94 = false := by kernel_rfl
@[go_sem] theorem intT_94 : intT Go.Proofs.Tryd.prog 94 = none := by kernel_rfl
@[go_sem] theorem zOk_94 : zOk Go.Proofs.Tryd.prog 94 = true := by kernel_rfl
@[go_sem] theorem zeroT_94 : zeroT Go.Proofs.Tryd.prog 94 = some (.sl .own []) := by kernel_rfl
@[go_sem] theorem szT_95 : szT Go.Proofs.Tryd.prog 95 = 15 := by kernel_rfl
@[go_sem] theorem aggT_95 : aggT Go.Proofs.Tryd.prog 95 = some true := by kernel_rfl
@[go_sem] theorem elemT_95 : elemT Go.Proofs.Tryd.prog 95 = none := by kernel_rfl
@[go_sem] theorem arrT_95 : arrT Go.Proofs.Tryd.prog 95 = some (15, 9) := by kernel_rfl
@[go_sem] theorem byT_95 : byT Go.Proofs.Tryd.prog 95 = 240 := by kernel_rfl
@[go_sem] theorem strT_95 : strT Go.Proofs.Tryd.prog 95 = false := by kernel_rfl
@[go_sem] theorem fldsT_95 : fldsT Go.Proofs.Tryd.prog 95 = true := by kernel_rfl
@[go_sem] theorem boolT_95 : boolT Go.Proofs.Tryd.prog 95 = false := by kernel_rfl
@[go_sem] theorem intT_95 : intT Go.Proofs.Tryd.prog 95 = none := by kernel_rfl
@[go_sem] theorem zOk_95 : zOk Go.Proofs.Tryd.prog 95 = true := by kernel_rfl
@[go_sem] theorem zeroT_95 : zeroT Go.Proofs.Tryd.prog 95 = some (.agg [.lit (.string ⟨#[]⟩), .lit (.string ⟨#[]⟩), .lit (.string ⟨#[]⟩), .lit (.string ⟨#[]⟩), .lit (.string ⟨#[]⟩), .lit (.string ⟨#[]⟩), .lit (.string ⟨#[]⟩), .lit (.string ⟨#[]⟩), .lit (.string ⟨#[]⟩), .lit (.string ⟨#[]⟩), .lit (.string ⟨#[]⟩), .lit (.string ⟨#[]⟩), .lit (.string ⟨#[]⟩), .lit (.string ⟨#[]⟩), .lit (.string ⟨#[]⟩)]) := by kernel_rfl
@[go_sem] theorem szT_97 : szT Go.Proofs.Tryd.prog 97 = 1 := by kernel_rfl
@[go_sem] theorem aggT_97 : aggT Go.Proofs.Tryd.prog 97 = some false := by kernel_rfl
@[go_sem] theorem elemT_97 : elemT Go.Proofs.Tryd.prog 97 = none := by kernel_rfl
@[go_sem] theorem arrT_97 : arrT Go.Proofs.Tryd.prog 97 = none := by kernel_rfl
@[go_sem] theorem byT_97 : byT Go.Proofs.Tryd.prog 97 = 8 := by kernel_rfl
@[go_sem] theorem strT_97 : strT Go.Proofs.Tryd.prog 97 = false := by kernel_rfl
@[go_sem] theorem boolT_97 : boolT Go.Proofs.Tryd.prog 97 = false := by kernel_rfl
@[go_sem] theorem intT_97 : intT Go.Proofs.Tryd.prog 97 = none := by kernel_rfl
@[go_sem] theorem zOk_97 : zOk Go.Proofs.Tryd.prog 97 = true := by kernel_rfl
@[go_sem] theorem zeroT_97 : zeroT Go.Proofs.Tryd.prog 97 = some (.lit (.pointer none)) := by kernel_rfl
@[go_sem] theorem szT_98 : szT Go.Proofs.Tryd.prog 98 = 2 := by kernel_rfl
@[go_sem] theorem aggT_98 : aggT Go.Proofs.Tryd.prog 98 = some true := by kernel_rfl
@[go_sem] theorem fldT_98_0 : fldT Go.Proofs.Tryd.prog 98 0 = some (0, 1) := by kernel_rfl
@[go_sem] theorem fldT_98_1 : fldT Go.Proofs.Tryd.prog 98 1 = some (1, 1) := by kernel_rfl
@[go_sem] theorem elemT_98 : elemT Go.Proofs.Tryd.prog 98 = none := by kernel_rfl
@[go_sem] theorem arrT_98 : arrT Go.Proofs.Tryd.prog 98 = none := by kernel_rfl
@[go_sem] theorem byT_98 : byT Go.Proofs.Tryd.prog 98 = 32 := by kernel_rfl
@[go_sem] theorem strT_98 : strT Go.Proofs.Tryd.prog 98 = false := by kernel_rfl
@[go_sem] theorem fldsT_98 : fldsT Go.Proofs.Tryd.prog 98 = true := by kernel_rfl
@[go_sem] theorem boolT_98 : boolT Go.Proofs.Tryd.prog 98 = false := by kernel_rfl
@[go_sem] theorem intT_98 : intT Go.Proofs.Tryd.prog 98 = none := by kernel_rfl
@[go_sem] theorem zOk_98 : zOk Go.Proofs.Tryd.prog 98 = true := by kernel_rfl
@[go_sem] theorem zeroT_98 : zeroT Go.Proofs.Tryd.prog 98 = some (.agg [.lit (.pointer none), .sl .own []]) := by kernel_rfl
@[go_sem] theorem szT_99 : szT Go.Proofs.Tryd.prog 99 = 2 := by kernel_rfl
@[go_sem] theorem aggT_99 : aggT Go.Proofs.Tryd.prog 99 = some true := by kernel_rfl
@[go_sem] theorem fldT_99_0 : fldT Go.Proofs.Tryd.prog 99 0 = some (0, 1) := by kernel_rfl
@[go_sem] theorem fldT_99_1 : fldT Go.Proofs.Tryd.prog 99 1 = some (1, 1) := by kernel_rfl
@[go_sem] theorem elemT_99 : elemT Go.Proofs.Tryd.prog 99 = none := by kernel_rfl
@[go_sem] theorem arrT_99 : arrT Go.Proofs.Tryd.prog 99 = none := by kernel_rfl
@[go_sem] theorem byT_99 : byT Go.Proofs.Tryd.prog 99 = 32 := by kernel_rfl
@[go_sem] theorem strT_99 : strT Go.Proofs.Tryd.prog 99 = false := by kernel_rfl
@[go_sem] theorem fldsT_99 : fldsT Go.Proofs.Tryd.prog 99 = true := by kernel_rfl
@[go_sem] theorem boolT_99 : boolT Go.Proofs.Tryd.prog 99 = false := by kernel_rfl
@[go_sem] theorem intT_99 : intT Go.Proofs.Tryd.prog 99 = none := by kernel_rfl
@[go_sem] theorem zOk_99 : zOk Go.Proofs.Tryd.prog 99 = true := by kernel_rfl
@[go_sem] theorem zeroT_99 : zeroT Go.Proofs.Tryd.prog 99 = some (.agg [.lit (.pointer none), .sl .own []]) := by kernel_rfl
@[go_sem] theorem szT_105 : szT Go.Proofs.Tryd.prog 105 = 6 := by kernel_rfl
@[go_sem] theorem aggT_105 : aggT Go.Proofs.Tryd.prog 105 = some true := by kernel_rfl
@[go_sem] theorem elemT_105 : elemT Go.Proofs.Tryd.prog 105 = none := by kernel_rfl
@[go_sem] theorem arrT_105 : arrT Go.Proofs.Tryd.prog 105 = some (6, 9) := by kernel_rfl
@[go_sem] theorem byT_105 : byT Go.Proofs.Tryd.prog 105 = 96 := by kernel_rfl
@[go_sem] theorem strT_105 : strT Go.Proofs.Tryd.prog 105 = false := by kernel_rfl
@[go_sem] theorem fldsT_105 : fldsT Go.Proofs.Tryd.prog 105 = true := by kernel_rfl
@[go_sem] theorem boolT_105 : boolT Go.Proofs.Tryd.prog 105 = false := by kernel_rfl
@[go_sem] theorem intT_105 : intT Go.Proofs.Tryd.prog 105 = none := by kernel_rfl
@[go_sem] theorem zOk_105 : zOk Go.Proofs.Tryd.prog 105 = true := by kernel_rfl
@[go_sem] theorem zeroT_105 : zeroT Go.Proofs.Tryd.prog 105 = some (.agg [.lit (.string ⟨#[]⟩), .lit (.string ⟨#[]⟩), .lit (.string ⟨#[]⟩), .lit (.string ⟨#[]⟩), .lit (.string ⟨#[]⟩), .lit (.string ⟨#[]⟩)]) := by kernel_rfl
@[go_sem] theorem szT_111 : szT Go.Proofs.Tryd.prog 111 = 24 := by kernel_rfl
@[go_sem] theorem aggT_111 : aggT Go.Proofs.Tryd.prog 111 = some true := by kernel_rfl
@[go_sem] theorem elemT_111 : elemT Go.Proofs.Tryd.prog 111 = none := by kernel_rfl
@[go_sem] theorem arrT_111 : arrT Go.Proofs.Tryd.prog 111 = some (24, 5) := by kernel_rfl
@[go_sem] theorem byT_111 : byT Go.Proofs.Tryd.prog 111 = 24 := by kernel_rfl
@[go_sem] theorem strT_111 : strT Go.Proofs.Tryd.prog 111 = false := by kernel_rfl
@[go_sem] theorem fldsT_111 : fldsT Go.Proofs.Tryd.prog 111 = true := by kernel_rfl
@[go_sem] theorem boolT_111 : boolT Go.Proofs.Tryd.prog 111 = false := by kernel_rfl
@[go_sem] theorem intT_111 : intT Go.Proofs.Tryd.prog 111 = none := by kernel_rfl
@[go_sem] theorem zOk_111 : zOk Go.Proofs.Tryd.prog 111 = true := by kernel_rfl
@[go_sem] theorem zeroT_111 : zeroT Go.Proofs.Tryd.prog 111 = some (.agg [.lit (.int .u8 0), .lit (.int .u8 0), .lit (.int .u8 0), .lit (.int .u8 0), .lit (.int .u8 0), .lit (.int .u8 0), .lit (.int .u8 0), .lit (.int .u8 0), .lit (.int .u8 0), .lit (.int .u8 0), .lit (.int .u8 0), .lit (.int .u8 0), .lit (.int .u8 0), .lit (.int .u8 0), .lit (.int .u8 0), .lit (.int .u8 0), .lit (.int .u8 0), .lit (.int .u8 0), .lit (.int .u8 0), .lit (.int .u8 0), .lit (.int .u8 0), .lit (.int .u8 0), .lit (.int .u8 0), .lit (.int .u8 0)]) := by kernel_rfl
@[go_sem] theorem szT_112 : szT Go.Proofs.Tryd.prog 112 = 1 := by kernel_rfl
@[go_sem] theorem aggT_112 : aggT Go.Proofs.Tryd.prog 112 = some false := by kernel_rfl
@[go_sem] theorem elemT_112 : elemT Go.Proofs.Tryd.prog 112 = none := by kernel_rfl
@[go_sem] theorem arrT_112 : arrT Go.Proofs.Tryd.prog 112 = none := by kernel_rfl
@[go_sem] theorem byT_112 : byT Go.Proofs.Tryd.prog 112 = 8 := by kernel_rfl
@[go_sem] theorem strT_112 : strT Go.Proofs.Tryd.prog 112 = false := by kernel_rfl
@[go_sem] theorem boolT_112 : boolT Go.Proofs.Tryd.prog 112 = false := by kernel_rfl
@[go_sem] theorem intT_112 : intT Go.Proofs.Tryd.prog 112 = some .u64 := by kernel_rfl
@[go_sem] theorem zOk_112 : zOk Go.Proofs.Tryd.prog 112 = true := by kernel_rfl
@[go_sem] theorem zeroT_112 : zeroT Go.Proofs.Tryd.prog 112 = some (.lit (.int .u64 0)) := by kernel_rfl
end Go.Proofs.YtilmjbljkkbakaaDoor
