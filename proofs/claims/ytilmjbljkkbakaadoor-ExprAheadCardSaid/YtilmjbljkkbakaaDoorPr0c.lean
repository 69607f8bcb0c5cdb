/-
  A part of the proof: lemmas.
-/
import Derived.Test.YtilmjbljkkbakaaDoorFactsc
import Derived.Test.YtilmjbljkkbakaaDoorFunsc
set_option linter.unusedSimpArgs false
set_option linter.unusedVariables false
set_option linter.unusedSectionVars false
set_option linter.unnecessarySimpa false
set_option linter.deprecated false
/-! The functions' proofs. -/
namespace Go.Proofs.YtilmjbljkkbakaaDoor
open Go.Wv
set_option linter.unusedSimpArgs false
set_option linter.unusedVariables false
set_option maxRecDepth 10000
set_option maxHeartbeats 20000000
theorem anchor03_a : Vc cfg 14 [.lit (.string (bs [40, 97, 43, 49, 41, 42, 50, 32, 60, 32, 98, 32, 97, 110, 100, 32, 110, 111, 116, 32, 105, 110, 40, 115, 41]))] [] fun r _ => r = .tup [.sl .view [.agg [.lit (.int .i64 16), .lit (.int .i64 0), .lit (.int .i64 0), .lit (.string (bs [])), .lit (.string (bs [97])), .lit (.int .i64 0), .lit (.int .i64 0)], .agg [.lit (.int .i64 0), .lit (.int .i64 1), .lit (.int .i64 1), .lit (.string (bs [])), .lit (.string (bs [])), .lit (.int .i64 0), .lit (.int .i64 0)], .agg [.lit (.int .i64 6), .lit (.int .i64 0), .lit (.int .i64 0), .lit (.string (bs [])), .lit (.string (bs [])), .lit (.int .i64 0), .lit (.int .i64 1)], .agg [.lit (.int .i64 0), .lit (.int .i64 1), .lit (.int .i64 2), .lit (.string (bs [])), .lit (.string (bs [])), .lit (.int .i64 0), .lit (.int .i64 0)], .agg [.lit (.int .i64 3), .lit (.int .i64 0), .lit (.int .i64 0), .lit (.string (bs [])), .lit (.string (bs [])), .lit (.int .i64 2), .lit (.int .i64 3)], .agg [.lit (.int .i64 16), .lit (.int .i64 0), .lit (.int .i64 0), .lit (.string (bs [])), .lit (.string (bs [98])), .lit (.int .i64 0), .lit (.int .i64 0)], .agg [.lit (.int .i64 8), .lit (.int .i64 0), .lit (.int .i64 0), .lit (.string (bs [])), .lit (.string (bs [])), .lit (.int .i64 4), .lit (.int .i64 5)], .agg [.lit (.int .i64 17), .lit (.int .i64 0), .lit (.int .i64 0), .lit (.string (bs [])), .lit (.string (bs [115])), .lit (.int .i64 0), .lit (.int .i64 0)], .agg [.lit (.int .i64 1), .lit (.int .i64 0), .lit (.int .i64 0), .lit (.string (bs [])), .lit (.string (bs [])), .lit (.int .i64 7), .lit (.int .i64 0)], .agg [.lit (.int .i64 14), .lit (.int .i64 0), .lit (.int .i64 0), .lit (.string (bs [])), .lit (.string (bs [])), .lit (.int .i64 6), .lit (.int .i64 8)]], .lit (.int .i64 0)] :=
  Vc_closedV (k := 1000) (by kernel_rfl) (fun k j r h hk => vcall_mono hk h)
theorem anchor03_b : Vc cfg 15 [.sl .view [.agg [.lit (.int .i64 16), .lit (.int .i64 0), .lit (.int .i64 0), .lit (.string (bs [])), .lit (.string (bs [97])), .lit (.int .i64 0), .lit (.int .i64 0)], .agg [.lit (.int .i64 0), .lit (.int .i64 1), .lit (.int .i64 1), .lit (.string (bs [])), .lit (.string (bs [])), .lit (.int .i64 0), .lit (.int .i64 0)], .agg [.lit (.int .i64 6), .lit (.int .i64 0), .lit (.int .i64 0), .lit (.string (bs [])), .lit (.string (bs [])), .lit (.int .i64 0), .lit (.int .i64 1)], .agg [.lit (.int .i64 0), .lit (.int .i64 1), .lit (.int .i64 2), .lit (.string (bs [])), .lit (.string (bs [])), .lit (.int .i64 0), .lit (.int .i64 0)], .agg [.lit (.int .i64 3), .lit (.int .i64 0), .lit (.int .i64 0), .lit (.string (bs [])), .lit (.string (bs [])), .lit (.int .i64 2), .lit (.int .i64 3)], .agg [.lit (.int .i64 16), .lit (.int .i64 0), .lit (.int .i64 0), .lit (.string (bs [])), .lit (.string (bs [98])), .lit (.int .i64 0), .lit (.int .i64 0)], .agg [.lit (.int .i64 8), .lit (.int .i64 0), .lit (.int .i64 0), .lit (.string (bs [])), .lit (.string (bs [])), .lit (.int .i64 4), .lit (.int .i64 5)], .agg [.lit (.int .i64 17), .lit (.int .i64 0), .lit (.int .i64 0), .lit (.string (bs [])), .lit (.string (bs [115])), .lit (.int .i64 0), .lit (.int .i64 0)], .agg [.lit (.int .i64 1), .lit (.int .i64 0), .lit (.int .i64 0), .lit (.string (bs [])), .lit (.string (bs [])), .lit (.int .i64 7), .lit (.int .i64 0)], .agg [.lit (.int .i64 14), .lit (.int .i64 0), .lit (.int .i64 0), .lit (.string (bs [])), .lit (.string (bs [])), .lit (.int .i64 6), .lit (.int .i64 8)]]] [] fun r _ => r = .lit (.string (bs [40, 97, 32, 43, 32, 49, 41, 32, 42, 32, 50, 32, 60, 32, 98, 32, 97, 110, 100, 32, 110, 111, 116, 32, 105, 110, 40, 115, 41])) :=
  Vc_closedV (k := 1000) (by kernel_rfl) (fun k j r h hk => vcall_mono hk h)
theorem anchor03_c : Vc cfg 16 [.sl .view [.agg [.lit (.int .i64 16), .lit (.int .i64 0), .lit (.int .i64 0), .lit (.string (bs [])), .lit (.string (bs [97])), .lit (.int .i64 0), .lit (.int .i64 0)], .agg [.lit (.int .i64 0), .lit (.int .i64 1), .lit (.int .i64 1), .lit (.string (bs [])), .lit (.string (bs [])), .lit (.int .i64 0), .lit (.int .i64 0)], .agg [.lit (.int .i64 6), .lit (.int .i64 0), .lit (.int .i64 0), .lit (.string (bs [])), .lit (.string (bs [])), .lit (.int .i64 0), .lit (.int .i64 1)], .agg [.lit (.int .i64 0), .lit (.int .i64 1), .lit (.int .i64 2), .lit (.string (bs [])), .lit (.string (bs [])), .lit (.int .i64 0), .lit (.int .i64 0)], .agg [.lit (.int .i64 3), .lit (.int .i64 0), .lit (.int .i64 0), .lit (.string (bs [])), .lit (.string (bs [])), .lit (.int .i64 2), .lit (.int .i64 3)], .agg [.lit (.int .i64 16), .lit (.int .i64 0), .lit (.int .i64 0), .lit (.string (bs [])), .lit (.string (bs [98])), .lit (.int .i64 0), .lit (.int .i64 0)], .agg [.lit (.int .i64 8), .lit (.int .i64 0), .lit (.int .i64 0), .lit (.string (bs [])), .lit (.string (bs [])), .lit (.int .i64 4), .lit (.int .i64 5)], .agg [.lit (.int .i64 17), .lit (.int .i64 0), .lit (.int .i64 0), .lit (.string (bs [])), .lit (.string (bs [115])), .lit (.int .i64 0), .lit (.int .i64 0)], .agg [.lit (.int .i64 1), .lit (.int .i64 0), .lit (.int .i64 0), .lit (.string (bs [])), .lit (.string (bs [])), .lit (.int .i64 7), .lit (.int .i64 0)], .agg [.lit (.int .i64 14), .lit (.int .i64 0), .lit (.int .i64 0), .lit (.string (bs [])), .lit (.string (bs [])), .lit (.int .i64 6), .lit (.int .i64 8)]]] [] fun r _ => r = .lit (.bool true) :=
  Vc_closedV (k := 1000) (by kernel_rfl) (fun k j r h hk => vcall_mono hk h)
theorem wlaw03_anchor_ok {r : Bool} (h : wlaw03_anchor = some r) :
  Vc cfg 5 [] [] fun v _ => v = .lit (.bool r) := by
  unfold wlaw03_anchor at h
  obtain rfl := Option.some.inj h
  have c10 : (((10 : Nat) : Int) == (10 : Int)) = true := rfl
  refine Vc_of (fn := Tryd.f5) rfl Tryd.func5 rfl Tryd.ntmps5 Tryd.results5 (by kernel_rfl) ?_
  conv => arg 3; whnf
  simp -implicitDefEqProofs only [go_sem, Nat.reduceAdd, Nat.reduceSub, Nat.reduceMul, Nat.reduceLT, Nat.reduceLeDiff, Nat.reduceEqDiff, Nat.reduceBEq, c10]
  refine Vc.mono anchor03_a ?_
  rintro _ _ rfl
  simp -implicitDefEqProofs only [go_sem, Nat.reduceAdd, Nat.reduceSub, Nat.reduceMul, Nat.reduceLT, Nat.reduceLeDiff, Nat.reduceEqDiff, Nat.reduceBEq, c10]
  refine Vc.mono anchor03_b ?_
  rintro _ _ rfl
  simp -implicitDefEqProofs only [go_sem, Nat.reduceAdd, Nat.reduceSub, Nat.reduceMul, Nat.reduceLT, Nat.reduceLeDiff, Nat.reduceEqDiff, Nat.reduceBEq, c10]
  refine Vc.mono anchor03_c ?_
  rintro _ _ rfl
  simp -implicitDefEqProofs only [go_sem, Nat.reduceAdd, Nat.reduceSub, Nat.reduceMul, Nat.reduceLT, Nat.reduceLeDiff, Nat.reduceEqDiff, Nat.reduceBEq, c10]
end Go.Proofs.YtilmjbljkkbakaaDoor
