/-
  A part of the proof: lemmas.
-/
import Derived.Test.YtilmjbljkkbakaaDoorFactsc
import Derived.Test.YtilmjbljkkbakaaDoorFunsc
import Derived.Test.YtilmjbljkkbakaaDoorPr4c
set_option linter.unusedSimpArgs false
set_option linter.unusedVariables false
set_option linter.unusedSectionVars false
set_option linter.unnecessarySimpa false
set_option linter.deprecated false
/-! The functions' proofs. -/
namespace Go.Proofs.YtilmjbljkkbakaaDoor
open Go.Wv
set_option linter.unusedSimpArgs false
set_option linter.unusedVariables false
set_option maxRecDepth 10000
set_option maxHeartbeats 20000000
theorem expr_parser_operation_ok {p0 : ExprParser} {a1 : ExprLevel} {B : List Blk} {i0 : Nat} {r : Int × ExprParser} (h : expr_parser_operation p0 a1 = some r) (hBi0 : B[i0]? = some (.var [.sl .view (p0.l.map TokToken.en.enc), .lit (.int .i64 p0.at_), .sl .own (p0.e.map ExprNode.en.enc)])) :
  Vc cfg 39 [.ptr i0 0, .agg [.sl .view (a1.signs.map En.str.enc), .sl .view (a1.ops.map (En.int .i64).enc), .lit (.bool a1.once)]] B fun v B' => v = .lit (.int .i64 r.1) ∧ B' = B.set i0 (.var [.sl .view (r.2.l.map TokToken.en.enc), .lit (.int .i64 r.2.at_), .sl .own (r.2.e.map ExprNode.en.enc)]) := by
  refine Vc_of (fn := Tryd.f39) rfl Tryd.func39 rfl Tryd.ntmps39 Tryd.results39 (by kernel_rfl) ?_
  conv => arg 3; whnf
  unfold expr_parser_operation at h
  have hii0 : i0 < B.length := lt_of_get hBi0
  simp -implicitDefEqProofs only [go_sem, Nat.reduceAdd, Nat.reduceSub, Nat.reduceMul, Nat.reduceLT, Nat.reduceLeDiff, Nat.reduceEqDiff, Nat.reduceBEq, hBi0, hii0]
  refine wpLoop_run' (step := expr_parser_operation_l0_step a1) (fun s2 => mkSl 24 [(0, .ptr i0 0), (3, .ptr B.length 0), (8, .sl .view (a1.signs.map En.str.enc)), (9, .lit (.int .i64 (a1.signs.length : Int))), (10, .lit (.int .i64 s2.1))]) (fun s2 => B.set i0 (.var [.sl .view (s2.2.1.map TokToken.en.enc), .lit (.int .i64 s2.2.2.1), .sl .own (s2.2.2.2.map ExprNode.en.enc)]) ++ [.var [.sl .view (a1.signs.map En.str.enc), .sl .view (a1.ops.map (En.int .i64).enc), .lit (.bool a1.once)]]) h (by kernel_rfl) (by first | rfl | simp -implicitDefEqProofs only [go_sem, Nat.reduceAdd, Nat.reduceSub, Nat.reduceMul, Nat.reduceLT, Nat.reduceLeDiff, Nat.reduceEqDiff, Nat.reduceBEq, mkSl, hBi0, hii0]) (by first | rfl | simp -implicitDefEqProofs only [go_sem, Nat.reduceAdd, Nat.reduceSub, Nat.reduceMul, Nat.reduceLT, Nat.reduceLeDiff, Nat.reduceEqDiff, Nat.reduceBEq, hBi0, hii0]) ?_
  clear h
  intro s2 xx1 h hx2
  unfold expr_parser_operation_l0_step at h
  by_cases hc3 : s2.1 < (a1.signs.length : Int)
  · rw [if_pos hc3] at h
    obtain ⟨x3, h4, h⟩ := bind_some h
    simp -implicitDefEqProofs only [go_sem, Nat.reduceAdd, Nat.reduceSub, Nat.reduceMul, Nat.reduceLT, Nat.reduceLeDiff, Nat.reduceEqDiff, Nat.reduceBEq, hc3, h4, hBi0, hii0, mkSl]
    obtain ⟨r4, h5, h⟩ := bind_some h
    refine Vc.mono (expr_parser_take_ok h5 (by simp -implicitDefEqProofs only [go_sem, Nat.reduceAdd, Nat.reduceSub, Nat.reduceMul, Nat.reduceLT, Nat.reduceLeDiff, Nat.reduceEqDiff, Nat.reduceBEq, hBi0, hii0, mkSl])) ?_
    rintro _ _ ⟨rfl, rfl⟩
    by_cases hc6 : r4.1 = true
    · rw [if_pos hc6] at h
      obtain ⟨x5, h7, h⟩ := bind_some h
      obtain rfl := Option.some.inj h
      obtain rfl := hx2 _ rfl
      simp -implicitDefEqProofs only [go_sem, Nat.reduceAdd, Nat.reduceSub, Nat.reduceMul, Nat.reduceLT, Nat.reduceLeDiff, Nat.reduceEqDiff, Nat.reduceBEq, hc6, h7, hBi0, hii0, mkSl]
    · rw [if_neg hc6] at h
      replace hc6 := (Bool.not_eq_true _).mp hc6
      obtain rfl := Option.some.inj h
      simp -implicitDefEqProofs only [go_sem, Nat.reduceAdd, Nat.reduceSub, Nat.reduceMul, Nat.reduceLT, Nat.reduceLeDiff, Nat.reduceEqDiff, Nat.reduceBEq, hc6, hBi0, hii0, mkSl]
      exact ⟨_, rfl, rfl⟩
  · rw [if_neg hc3] at h
    obtain rfl := Option.some.inj h
    obtain rfl := hx2 _ rfl
    simp -implicitDefEqProofs only [go_sem, Nat.reduceAdd, Nat.reduceSub, Nat.reduceMul, Nat.reduceLT, Nat.reduceLeDiff, Nat.reduceEqDiff, Nat.reduceBEq, hc3, hBi0, hii0, mkSl]
theorem expr_parser_add_ok {p0 : ExprParser} {a1 : ExprNode} {B : List Blk} {i0 : Nat} {r : Bool × ExprParser} (h : expr_parser_add p0 a1 = some r) (hBi0 : B[i0]? = some (.var [.sl .view (p0.l.map TokToken.en.enc), .lit (.int .i64 p0.at_), .sl .own (p0.e.map ExprNode.en.enc)])) :
  Vc cfg 40 [.ptr i0 0, .agg [.lit (.int .i64 a1.Op), .lit (.int .i64 a1.V.Kind), .lit (.int .i64 a1.V.N), .lit (.string (bs a1.V.S)), .lit (.string (bs a1.Name)), .lit (.int .i64 a1.L), .lit (.int .i64 a1.R)]] B fun v B' => v = .lit (.bool r.1) ∧ B' = B.set i0 (.var [.sl .view (r.2.l.map TokToken.en.enc), .lit (.int .i64 r.2.at_), .sl .own (r.2.e.map ExprNode.en.enc)]) := by
  refine Vc_of (fn := Tryd.f40) rfl Tryd.func40 rfl Tryd.ntmps40 Tryd.results40 (by kernel_rfl) ?_
  conv => arg 3; whnf
  unfold expr_parser_add at h
  have hii0 : i0 < B.length := lt_of_get hBi0
  obtain ⟨l2, h1, h⟩ := bind_some h
  have h2 := vappend_en ExprNode.en (P := Tryd.prog) (t := 28) (f := .own) h1 (by simp -implicitDefEqProofs only [go_sem, Nat.reduceAdd, Nat.reduceSub, Nat.reduceMul, Nat.reduceLT, Nat.reduceLeDiff, Nat.reduceEqDiff, Nat.reduceBEq, Option.map_some])
  simp -implicitDefEqProofs only [go_sem, Nat.reduceAdd, Nat.reduceSub, Nat.reduceMul, Nat.reduceLT, Nat.reduceLeDiff, Nat.reduceEqDiff, Nat.reduceBEq] at h2
  obtain rfl := Option.some.inj h
  simp -implicitDefEqProofs only [go_sem, Nat.reduceAdd, Nat.reduceSub, Nat.reduceMul, Nat.reduceLT, Nat.reduceLeDiff, Nat.reduceEqDiff, Nat.reduceBEq, h2, hBi0, hii0]
theorem val_Of_ok {a0 : Int} {r : ValValue} (h : val_Of a0 = some r) :
  Vc cfg 75 [.lit (.int .i64 a0)] [] fun v _ => v = .agg [.lit (.int .i64 r.Kind), .lit (.int .i64 r.N), .lit (.string (bs r.S))] := by
  refine Vc_of (fn := Tryd.f75) rfl Tryd.func75 rfl Tryd.ntmps75 Tryd.results75 (by kernel_rfl) ?_
  conv => arg 3; whnf
  unfold val_Of at h
  obtain rfl := Option.some.inj h
  simp -implicitDefEqProofs only [go_sem, Nat.reduceAdd, Nat.reduceSub, Nat.reduceMul, Nat.reduceLT, Nat.reduceLeDiff, Nat.reduceEqDiff, Nat.reduceBEq]
theorem val_Word_ok {a0 : List UInt8} {r : ValValue} (h : val_Word a0 = some r) :
  Vc cfg 76 [.lit (.string (bs a0))] [] fun v _ => v = .agg [.lit (.int .i64 r.Kind), .lit (.int .i64 r.N), .lit (.string (bs r.S))] := by
  refine Vc_of (fn := Tryd.f76) rfl Tryd.func76 rfl Tryd.ntmps76 Tryd.results76 (by kernel_rfl) ?_
  conv => arg 3; whnf
  unfold val_Word at h
  obtain rfl := Option.some.inj h
  simp -implicitDefEqProofs only [go_sem, Nat.reduceAdd, Nat.reduceSub, Nat.reduceMul, Nat.reduceLT, Nat.reduceLeDiff, Nat.reduceEqDiff, Nat.reduceBEq]
theorem val_Truth_ok {a0 : Bool} {r : ValValue} (h : val_Truth a0 = some r) :
  Vc cfg 77 [.lit (.bool a0)] [] fun v _ => v = .agg [.lit (.int .i64 r.Kind), .lit (.int .i64 r.N), .lit (.string (bs r.S))] := by
  refine Vc_of (fn := Tryd.f77) rfl Tryd.func77 rfl Tryd.ntmps77 Tryd.results77 (by kernel_rfl) ?_
  conv => arg 3; whnf
  unfold val_Truth at h
  by_cases hc1 : a0 = true
  · rw [if_pos hc1] at h
    obtain rfl := Option.some.inj h
    simp -implicitDefEqProofs only [go_sem, Nat.reduceAdd, Nat.reduceSub, Nat.reduceMul, Nat.reduceLT, Nat.reduceLeDiff, Nat.reduceEqDiff, Nat.reduceBEq, hc1]
  · rw [if_neg hc1] at h
    replace hc1 := (Bool.not_eq_true _).mp hc1
    obtain rfl := Option.some.inj h
    simp -implicitDefEqProofs only [go_sem, Nat.reduceAdd, Nat.reduceSub, Nat.reduceMul, Nat.reduceLT, Nat.reduceLeDiff, Nat.reduceEqDiff, Nat.reduceBEq, hc1]
theorem tok_Means_ok {a0 : List UInt8} {r : Bool} (h : tok_Means a0 = some r) :
  Vc cfg 69 [.lit (.string (bs a0))] [] fun v _ => v = .lit (.bool r) := by
  refine Vc_of (fn := Tryd.f69) rfl Tryd.func69 rfl Tryd.ntmps69 Tryd.results69 (by kernel_rfl) ?_
  conv => arg 3; whnf
  unfold tok_Means at h
  by_cases hc1 : (a0 == [99, 104, 97, 114, 116]) = true
  · rw [if_pos hc1] at h
    obtain rfl := Option.some.inj h
    simp -implicitDefEqProofs only [go_sem, Nat.reduceAdd, Nat.reduceSub, Nat.reduceMul, Nat.reduceLT, Nat.reduceLeDiff, Nat.reduceEqDiff, Nat.reduceBEq, hc1]
  · rw [if_neg hc1] at h
    replace hc1 := (Bool.not_eq_true _).mp hc1
    by_cases hc2 : (a0 == [118, 97, 114]) = true
    · rw [if_pos hc2] at h
      obtain rfl := Option.some.inj h
      simp -implicitDefEqProofs only [go_sem, Nat.reduceAdd, Nat.reduceSub, Nat.reduceMul, Nat.reduceLT, Nat.reduceLeDiff, Nat.reduceEqDiff, Nat.reduceBEq, hc1, hc2]
    · rw [if_neg hc2] at h
      replace hc2 := (Bool.not_eq_true _).mp hc2
      by_cases hc3 : (a0 == [115, 116, 97, 116, 101]) = true
      · rw [if_pos hc3] at h
        obtain rfl := Option.some.inj h
        simp -implicitDefEqProofs only [go_sem, Nat.reduceAdd, Nat.reduceSub, Nat.reduceMul, Nat.reduceLT, Nat.reduceLeDiff, Nat.reduceEqDiff, Nat.reduceBEq, hc1, hc2, hc3]
      · rw [if_neg hc3] at h
        replace hc3 := (Bool.not_eq_true _).mp hc3
        by_cases hc4 : (a0 == [112, 97, 114, 97, 108, 108, 101, 108]) = true
        · rw [if_pos hc4] at h
          obtain rfl := Option.some.inj h
          simp -implicitDefEqProofs only [go_sem, Nat.reduceAdd, Nat.reduceSub, Nat.reduceMul, Nat.reduceLT, Nat.reduceLeDiff, Nat.reduceEqDiff, Nat.reduceBEq, hc1, hc2, hc3, hc4]
        · rw [if_neg hc4] at h
          replace hc4 := (Bool.not_eq_true _).mp hc4
          by_cases hc5 : (a0 == [102, 105, 110, 97, 108]) = true
          · rw [if_pos hc5] at h
            obtain rfl := Option.some.inj h
            simp -implicitDefEqProofs only [go_sem, Nat.reduceAdd, Nat.reduceSub, Nat.reduceMul, Nat.reduceLT, Nat.reduceLeDiff, Nat.reduceEqDiff, Nat.reduceBEq, hc1, hc2, hc3, hc4, hc5]
          · rw [if_neg hc5] at h
            replace hc5 := (Bool.not_eq_true _).mp hc5
            by_cases hc6 : (a0 == [100, 101, 101, 112]) = true
            · rw [if_pos hc6] at h
              obtain rfl := Option.some.inj h
              simp -implicitDefEqProofs only [go_sem, Nat.reduceAdd, Nat.reduceSub, Nat.reduceMul, Nat.reduceLT, Nat.reduceLeDiff, Nat.reduceEqDiff, Nat.reduceBEq, hc1, hc2, hc3, hc4, hc5, hc6]
            · rw [if_neg hc6] at h
              replace hc6 := (Bool.not_eq_true _).mp hc6
              by_cases hc7 : (a0 == [115, 104, 97, 108, 108, 111, 119]) = true
              · rw [if_pos hc7] at h
                obtain rfl := Option.some.inj h
                simp -implicitDefEqProofs only [go_sem, Nat.reduceAdd, Nat.reduceSub, Nat.reduceMul, Nat.reduceLT, Nat.reduceLeDiff, Nat.reduceEqDiff, Nat.reduceBEq, hc1, hc2, hc3, hc4, hc5, hc6, hc7]
              · rw [if_neg hc7] at h
                replace hc7 := (Bool.not_eq_true _).mp hc7
                by_cases hc8 : (a0 == [101, 110, 116, 101, 114]) = true
                · rw [if_pos hc8] at h
                  obtain rfl := Option.some.inj h
                  simp -implicitDefEqProofs only [go_sem, Nat.reduceAdd, Nat.reduceSub, Nat.reduceMul, Nat.reduceLT, Nat.reduceLeDiff, Nat.reduceEqDiff, Nat.reduceBEq, hc1, hc2, hc3, hc4, hc5, hc6, hc7, hc8]
                · rw [if_neg hc8] at h
                  replace hc8 := (Bool.not_eq_true _).mp hc8
                  by_cases hc9 : (a0 == [101, 120, 105, 116]) = true
                  · rw [if_pos hc9] at h
                    obtain rfl := Option.some.inj h
                    simp -implicitDefEqProofs only [go_sem, Nat.reduceAdd, Nat.reduceSub, Nat.reduceMul, Nat.reduceLT, Nat.reduceLeDiff, Nat.reduceEqDiff, Nat.reduceBEq, hc1, hc2, hc3, hc4, hc5, hc6, hc7, hc8, hc9]
                  · rw [if_neg hc9] at h
                    replace hc9 := (Bool.not_eq_true _).mp hc9
                    by_cases hc10 : (a0 == [111, 110]) = true
                    · rw [if_pos hc10] at h
                      obtain rfl := Option.some.inj h
                      simp -implicitDefEqProofs only [go_sem, Nat.reduceAdd, Nat.reduceSub, Nat.reduceMul, Nat.reduceLT, Nat.reduceLeDiff, Nat.reduceEqDiff, Nat.reduceBEq, hc1, hc2, hc3, hc4, hc5, hc6, hc7, hc8, hc9, hc10]
                    · rw [if_neg hc10] at h
                      replace hc10 := (Bool.not_eq_true _).mp hc10
                      by_cases hc11 : (a0 == [97, 117, 116, 111]) = true
                      · rw [if_pos hc11] at h
                        obtain rfl := Option.some.inj h
                        simp -implicitDefEqProofs only [go_sem, Nat.reduceAdd, Nat.reduceSub, Nat.reduceMul, Nat.reduceLT, Nat.reduceLeDiff, Nat.reduceEqDiff, Nat.reduceBEq, hc1, hc2, hc3, hc4, hc5, hc6, hc7, hc8, hc9, hc10, hc11]
                      · rw [if_neg hc11] at h
                        replace hc11 := (Bool.not_eq_true _).mp hc11
                        by_cases hc12 : (a0 == [101, 110, 100]) = true
                        · rw [if_pos hc12] at h
                          obtain rfl := Option.some.inj h
                          simp -implicitDefEqProofs only [go_sem, Nat.reduceAdd, Nat.reduceSub, Nat.reduceMul, Nat.reduceLT, Nat.reduceLeDiff, Nat.reduceEqDiff, Nat.reduceBEq, hc1, hc2, hc3, hc4, hc5, hc6, hc7, hc8, hc9, hc10, hc11, hc12]
                        · rw [if_neg hc12] at h
                          replace hc12 := (Bool.not_eq_true _).mp hc12
                          by_cases hc13 : (a0 == [105, 102]) = true
                          · rw [if_pos hc13] at h
                            obtain rfl := Option.some.inj h
                            simp -implicitDefEqProofs only [go_sem, Nat.reduceAdd, Nat.reduceSub, Nat.reduceMul, Nat.reduceLT, Nat.reduceLeDiff, Nat.reduceEqDiff, Nat.reduceBEq, hc1, hc2, hc3, hc4, hc5, hc6, hc7, hc8, hc9, hc10, hc11, hc12, hc13]
                          · rw [if_neg hc13] at h
                            replace hc13 := (Bool.not_eq_true _).mp hc13
                            by_cases hc14 : (a0 == [103, 111]) = true
                            · rw [if_pos hc14] at h
                              obtain rfl := Option.some.inj h
                              simp -implicitDefEqProofs only [go_sem, Nat.reduceAdd, Nat.reduceSub, Nat.reduceMul, Nat.reduceLT, Nat.reduceLeDiff, Nat.reduceEqDiff, Nat.reduceBEq, hc1, hc2, hc3, hc4, hc5, hc6, hc7, hc8, hc9, hc10, hc11, hc12, hc13, hc14]
                            · rw [if_neg hc14] at h
                              replace hc14 := (Bool.not_eq_true _).mp hc14
                              by_cases hc15 : (a0 == [105, 110, 110, 101, 114]) = true
                              · rw [if_pos hc15] at h
                                obtain rfl := Option.some.inj h
                                simp -implicitDefEqProofs only [go_sem, Nat.reduceAdd, Nat.reduceSub, Nat.reduceMul, Nat.reduceLT, Nat.reduceLeDiff, Nat.reduceEqDiff, Nat.reduceBEq, hc1, hc2, hc3, hc4, hc5, hc6, hc7, hc8, hc9, hc10, hc11, hc12, hc13, hc14, hc15]
                              · rw [if_neg hc15] at h
                                replace hc15 := (Bool.not_eq_true _).mp hc15
                                by_cases hc16 : (a0 == [100, 111]) = true
                                · rw [if_pos hc16] at h
                                  obtain rfl := Option.some.inj h
                                  simp -implicitDefEqProofs only [go_sem, Nat.reduceAdd, Nat.reduceSub, Nat.reduceMul, Nat.reduceLT, Nat.reduceLeDiff, Nat.reduceEqDiff, Nat.reduceBEq, hc1, hc2, hc3, hc4, hc5, hc6, hc7, hc8, hc9, hc10, hc11, hc12, hc13, hc14, hc15, hc16]
                                · rw [if_neg hc16] at h
                                  replace hc16 := (Bool.not_eq_true _).mp hc16
                                  by_cases hc17 : (a0 == [115, 101, 116]) = true
                                  · rw [if_pos hc17] at h
                                    obtain rfl := Option.some.inj h
                                    simp -implicitDefEqProofs only [go_sem, Nat.reduceAdd, Nat.reduceSub, Nat.reduceMul, Nat.reduceLT, Nat.reduceLeDiff, Nat.reduceEqDiff, Nat.reduceBEq, hc1, hc2, hc3, hc4, hc5, hc6, hc7, hc8, hc9, hc10, hc11, hc12, hc13, hc14, hc15, hc16, hc17]
                                  · rw [if_neg hc17] at h
                                    replace hc17 := (Bool.not_eq_true _).mp hc17
                                    by_cases hc18 : (a0 == [114, 97, 105, 115, 101]) = true
                                    · rw [if_pos hc18] at h
                                      obtain rfl := Option.some.inj h
                                      simp -implicitDefEqProofs only [go_sem, Nat.reduceAdd, Nat.reduceSub, Nat.reduceMul, Nat.reduceLT, Nat.reduceLeDiff, Nat.reduceEqDiff, Nat.reduceBEq, hc1, hc2, hc3, hc4, hc5, hc6, hc7, hc8, hc9, hc10, hc11, hc12, hc13, hc14, hc15, hc16, hc17, hc18]
                                    · rw [if_neg hc18] at h
                                      replace hc18 := (Bool.not_eq_true _).mp hc18
                                      by_cases hc19 : (a0 == [115, 101, 110, 100]) = true
                                      · rw [if_pos hc19] at h
                                        obtain rfl := Option.some.inj h
                                        simp -implicitDefEqProofs only [go_sem, Nat.reduceAdd, Nat.reduceSub, Nat.reduceMul, Nat.reduceLT, Nat.reduceLeDiff, Nat.reduceEqDiff, Nat.reduceBEq, hc1, hc2, hc3, hc4, hc5, hc6, hc7, hc8, hc9, hc10, hc11, hc12, hc13, hc14, hc15, hc16, hc17, hc18, hc19]
                                      · rw [if_neg hc19] at h
                                        replace hc19 := (Bool.not_eq_true _).mp hc19
                                        by_cases hc20 : (a0 == [99, 97, 110, 99, 101, 108]) = true
                                        · rw [if_pos hc20] at h
                                          obtain rfl := Option.some.inj h
                                          simp -implicitDefEqProofs only [go_sem, Nat.reduceAdd, Nat.reduceSub, Nat.reduceMul, Nat.reduceLT, Nat.reduceLeDiff, Nat.reduceEqDiff, Nat.reduceBEq, hc1, hc2, hc3, hc4, hc5, hc6, hc7, hc8, hc9, hc10, hc11, hc12, hc13, hc14, hc15, hc16, hc17, hc18, hc19, hc20]
                                        · rw [if_neg hc20] at h
                                          replace hc20 := (Bool.not_eq_true _).mp hc20
                                          by_cases hc21 : (a0 == [108, 111, 103]) = true
                                          · rw [if_pos hc21] at h
                                            obtain rfl := Option.some.inj h
                                            simp -implicitDefEqProofs only [go_sem, Nat.reduceAdd, Nat.reduceSub, Nat.reduceMul, Nat.reduceLT, Nat.reduceLeDiff, Nat.reduceEqDiff, Nat.reduceBEq, hc1, hc2, hc3, hc4, hc5, hc6, hc7, hc8, hc9, hc10, hc11, hc12, hc13, hc14, hc15, hc16, hc17, hc18, hc19, hc20, hc21]
                                          · rw [if_neg hc21] at h
                                            replace hc21 := (Bool.not_eq_true _).mp hc21
                                            by_cases hc22 : (a0 == [116, 114, 117, 101]) = true
                                            · rw [if_pos hc22] at h
                                              obtain rfl := Option.some.inj h
                                              simp -implicitDefEqProofs only [go_sem, Nat.reduceAdd, Nat.reduceSub, Nat.reduceMul, Nat.reduceLT, Nat.reduceLeDiff, Nat.reduceEqDiff, Nat.reduceBEq, hc1, hc2, hc3, hc4, hc5, hc6, hc7, hc8, hc9, hc10, hc11, hc12, hc13, hc14, hc15, hc16, hc17, hc18, hc19, hc20, hc21, hc22]
                                            · rw [if_neg hc22] at h
                                              replace hc22 := (Bool.not_eq_true _).mp hc22
                                              by_cases hc23 : (a0 == [102, 97, 108, 115, 101]) = true
                                              · rw [if_pos hc23] at h
                                                obtain rfl := Option.some.inj h
                                                simp -implicitDefEqProofs only [go_sem, Nat.reduceAdd, Nat.reduceSub, Nat.reduceMul, Nat.reduceLT, Nat.reduceLeDiff, Nat.reduceEqDiff, Nat.reduceBEq, hc1, hc2, hc3, hc4, hc5, hc6, hc7, hc8, hc9, hc10, hc11, hc12, hc13, hc14, hc15, hc16, hc17, hc18, hc19, hc20, hc21, hc22, hc23]
                                              · rw [if_neg hc23] at h
                                                replace hc23 := (Bool.not_eq_true _).mp hc23
                                                by_cases hc24 : (a0 == [110, 111, 116]) = true
                                                · rw [if_pos hc24] at h
                                                  obtain rfl := Option.some.inj h
                                                  simp -implicitDefEqProofs only [go_sem, Nat.reduceAdd, Nat.reduceSub, Nat.reduceMul, Nat.reduceLT, Nat.reduceLeDiff, Nat.reduceEqDiff, Nat.reduceBEq, hc1, hc2, hc3, hc4, hc5, hc6, hc7, hc8, hc9, hc10, hc11, hc12, hc13, hc14, hc15, hc16, hc17, hc18, hc19, hc20, hc21, hc22, hc23, hc24]
                                                · rw [if_neg hc24] at h
                                                  replace hc24 := (Bool.not_eq_true _).mp hc24
                                                  by_cases hc25 : (a0 == [97, 110, 100]) = true
                                                  · rw [if_pos hc25] at h
                                                    obtain rfl := Option.some.inj h
                                                    simp -implicitDefEqProofs only [go_sem, Nat.reduceAdd, Nat.reduceSub, Nat.reduceMul, Nat.reduceLT, Nat.reduceLeDiff, Nat.reduceEqDiff, Nat.reduceBEq, hc1, hc2, hc3, hc4, hc5, hc6, hc7, hc8, hc9, hc10, hc11, hc12, hc13, hc14, hc15, hc16, hc17, hc18, hc19, hc20, hc21, hc22, hc23, hc24, hc25]
                                                  · rw [if_neg hc25] at h
                                                    replace hc25 := (Bool.not_eq_true _).mp hc25
                                                    by_cases hc26 : (a0 == [111, 114]) = true
                                                    · rw [if_pos hc26] at h
                                                      obtain rfl := Option.some.inj h
                                                      simp -implicitDefEqProofs only [go_sem, Nat.reduceAdd, Nat.reduceSub, Nat.reduceMul, Nat.reduceLT, Nat.reduceLeDiff, Nat.reduceEqDiff, Nat.reduceBEq, hc1, hc2, hc3, hc4, hc5, hc6, hc7, hc8, hc9, hc10, hc11, hc12, hc13, hc14, hc15, hc16, hc17, hc18, hc19, hc20, hc21, hc22, hc23, hc24, hc25, hc26]
                                                    · rw [if_neg hc26] at h
                                                      replace hc26 := (Bool.not_eq_true _).mp hc26
                                                      by_cases hc27 : (a0 == [105, 110]) = true
                                                      · rw [if_pos hc27] at h
                                                        obtain rfl := Option.some.inj h
                                                        simp -implicitDefEqProofs only [go_sem, Nat.reduceAdd, Nat.reduceSub, Nat.reduceMul, Nat.reduceLT, Nat.reduceLeDiff, Nat.reduceEqDiff, Nat.reduceBEq, hc1, hc2, hc3, hc4, hc5, hc6, hc7, hc8, hc9, hc10, hc11, hc12, hc13, hc14, hc15, hc16, hc17, hc18, hc19, hc20, hc21, hc22, hc23, hc24, hc25, hc26, hc27]
                                                      · rw [if_neg hc27] at h
                                                        replace hc27 := (Bool.not_eq_true _).mp hc27
                                                        obtain rfl := Option.some.inj h
                                                        simp -implicitDefEqProofs only [go_sem, Nat.reduceAdd, Nat.reduceSub, Nat.reduceMul, Nat.reduceLT, Nat.reduceLeDiff, Nat.reduceEqDiff, Nat.reduceBEq, hc1, hc2, hc3, hc4, hc5, hc6, hc7, hc8, hc9, hc10, hc11, hc12, hc13, hc14, hc15, hc16, hc17, hc18, hc19, hc20, hc21, hc22, hc23, hc24, hc25, hc26, hc27]
end Go.Proofs.YtilmjbljkkbakaaDoor
