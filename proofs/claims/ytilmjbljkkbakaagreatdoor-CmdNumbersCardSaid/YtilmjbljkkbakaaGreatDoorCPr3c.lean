/-
  A part of the proof: lemmas.
-/
import Derived.Test.YtilmjbljkkbakaaGreatDoorCFactsc
import Derived.Test.YtilmjbljkkbakaaGreatDoorCFunsc
import Derived.Test.YtilmjbljkkbakaaGreatDoorCPr0c
import Derived.Test.YtilmjbljkkbakaaGreatDoorCPr2c
set_option linter.unusedSimpArgs false
set_option linter.unusedVariables false
set_option linter.unusedSectionVars false
set_option linter.unnecessarySimpa false
set_option linter.deprecated false
/-! The functions' proofs. -/
namespace Go.Proofs.YtilmjbljkkbakaaGreatDoor
open Go.Wv
set_option linter.unusedSimpArgs false
set_option linter.unusedVariables false
set_option maxRecDepth 10000
set_option maxHeartbeats 20000000
theorem tok_Lex_ok {a0 : List UInt8} {r : (List TokToken) × Int × Int} (h : tok_Lex a0 = some r) :
  Vc cfg 32 [.lit (.string (bs a0))] [] fun v _ => v = .tup [.sl .view (r.1.map TokToken.en.enc), .lit (.int .i64 r.2.1), .lit (.int .i64 r.2.2)] := by
  refine Vc_of (fn := Tryz.f32) rfl Tryz.func32 rfl Tryz.ntmps32 Tryz.results32 (by kernel_rfl) ?_
  conv => arg 3; whnf
  unfold tok_Lex at h
  simp -implicitDefEqProofs only [go_sem, Nat.reduceAdd, Nat.reduceSub, Nat.reduceMul, Nat.reduceLT, Nat.reduceLeDiff, Nat.reduceEqDiff, Nat.reduceBEq]
  refine wpLoop_run' (step := tok_Lex_l0_step) (fun s1 => mkSl 49 [(5, .ptr 0 0), (6, .sl .own (s1.1.map TokToken.en.enc))]) (fun s1 => [.var [.lit (.string (bs s1.2.1)), .lit (.int .i64 s1.2.2)]]) h (by kernel_rfl) (by first | rfl | simp -implicitDefEqProofs only [go_sem, Nat.reduceAdd, Nat.reduceSub, Nat.reduceMul, Nat.reduceLT, Nat.reduceLeDiff, Nat.reduceEqDiff, Nat.reduceBEq, mkSl]) (by first | rfl | simp -implicitDefEqProofs only [go_sem, Nat.reduceAdd, Nat.reduceSub, Nat.reduceMul, Nat.reduceLT, Nat.reduceLeDiff, Nat.reduceEqDiff, Nat.reduceBEq]) ?_
  clear h
  intro s1 xx1 h hx2
  unfold tok_Lex_l0_step at h
  simp -implicitDefEqProofs only [go_sem, Nat.reduceAdd, Nat.reduceSub, Nat.reduceMul, Nat.reduceLT, Nat.reduceLeDiff, Nat.reduceEqDiff, Nat.reduceBEq, mkSl]
  obtain ⟨r2, h3, h⟩ := bind_some h
  refine Vc.mono (tok_reader_while_at55_ok h3 (by simp -implicitDefEqProofs only [go_sem, Nat.reduceAdd, Nat.reduceSub, Nat.reduceMul, Nat.reduceLT, Nat.reduceLeDiff, Nat.reduceEqDiff, Nat.reduceBEq, mkSl])) ?_
  rintro _ _ ⟨rfl, rfl⟩
  by_cases hc4 : (r2.2.at_ == (r2.2.s.length : Int)) = true
  · rw [if_pos hc4] at h
    obtain rfl := Option.some.inj h
    obtain rfl := hx2 _ rfl
    simp -implicitDefEqProofs only [go_sem, Nat.reduceAdd, Nat.reduceSub, Nat.reduceMul, Nat.reduceLT, Nat.reduceLeDiff, Nat.reduceEqDiff, Nat.reduceBEq, hc4, mkSl]
  · rw [if_neg hc4] at h
    replace hc4 := (Bool.not_eq_true _).mp hc4
    by_cases hc5 : ((s1.1.length : Int) == 120) = true
    · rw [if_pos hc5] at h
      obtain rfl := Option.some.inj h
      obtain rfl := hx2 _ rfl
      simp -implicitDefEqProofs only [go_sem, Nat.reduceAdd, Nat.reduceSub, Nat.reduceMul, Nat.reduceLT, Nat.reduceLeDiff, Nat.reduceEqDiff, Nat.reduceBEq, hc4, hc5, mkSl]
    · rw [if_neg hc5] at h
      replace hc5 := (Bool.not_eq_true _).mp hc5
      simp -implicitDefEqProofs only [go_sem, Nat.reduceAdd, Nat.reduceSub, Nat.reduceMul, Nat.reduceLT, Nat.reduceLeDiff, Nat.reduceEqDiff, Nat.reduceBEq, hc4, hc5, mkSl]
      obtain ⟨r3, h6, h⟩ := bind_some h
      refine Vc.mono (tok_reader_token_ok h6 (by simp -implicitDefEqProofs only [go_sem, Nat.reduceAdd, Nat.reduceSub, Nat.reduceMul, Nat.reduceLT, Nat.reduceLeDiff, Nat.reduceEqDiff, Nat.reduceBEq, mkSl])) ?_
      rintro _ _ ⟨rfl, rfl⟩
      by_cases hc7 : (r3.2.1 != 0) = true
      · rw [if_pos hc7] at h
        obtain rfl := Option.some.inj h
        obtain rfl := hx2 _ rfl
        simp -implicitDefEqProofs only [go_sem, Nat.reduceAdd, Nat.reduceSub, Nat.reduceMul, Nat.reduceLT, Nat.reduceLeDiff, Nat.reduceEqDiff, Nat.reduceBEq, hc7, mkSl]
      · rw [if_neg hc7] at h
        replace hc7 := (Bool.not_eq_true _).mp hc7
        obtain ⟨l4, h8, h⟩ := bind_some h
        have h9 := vappend_en TokToken.en (P := Tryz.prog) (t := 83) (f := .own) h8 (by simp -implicitDefEqProofs only [go_sem, Nat.reduceAdd, Nat.reduceSub, Nat.reduceMul, Nat.reduceLT, Nat.reduceLeDiff, Nat.reduceEqDiff, Nat.reduceBEq, Option.map_some])
        simp -implicitDefEqProofs only [go_sem, Nat.reduceAdd, Nat.reduceSub, Nat.reduceMul, Nat.reduceLT, Nat.reduceLeDiff, Nat.reduceEqDiff, Nat.reduceBEq] at h9
        obtain rfl := Option.some.inj h
        simp -implicitDefEqProofs only [go_sem, Nat.reduceAdd, Nat.reduceSub, Nat.reduceMul, Nat.reduceLT, Nat.reduceLeDiff, Nat.reduceEqDiff, Nat.reduceBEq, hc7, h9, mkSl]
        exact ⟨_, rfl, rfl⟩
theorem tok_Event_ok {a0 : List UInt8} {r : Bool} (h : tok_Event a0 = some r) :
  Vc cfg 120 [.lit (.string (bs a0))] [] fun v _ => v = .lit (.bool r) := by
  refine Vc_of (fn := Tryz.f120) rfl Tryz.func120 rfl Tryz.ntmps120 Tryz.results120 (by kernel_rfl) ?_
  conv => arg 3; whnf
  unfold tok_Event at h
  simp -implicitDefEqProofs only [go_sem, Nat.reduceAdd, Nat.reduceSub, Nat.reduceMul, Nat.reduceLT, Nat.reduceLeDiff, Nat.reduceEqDiff, Nat.reduceBEq]
  obtain ⟨r1, h1, h⟩ := bind_some h
  refine Vc.mono (tok_Lex_ok h1) ?_
  rintro _ _ rfl
  by_cases hc2 : (r1.2.1 == 0) = true
  · rw [if_pos hc2] at h
    by_cases hc3 : ((r1.1.length : Int) == 1) = true
    · rw [if_pos hc3] at h
      obtain ⟨x2, h4, h⟩ := bind_some h
      by_cases hc5 : (x2.Kind == 1) = true
      · rw [if_pos hc5] at h
        obtain rfl := Option.some.inj h
        simp -implicitDefEqProofs only [go_sem, Nat.reduceAdd, Nat.reduceSub, Nat.reduceMul, Nat.reduceLT, Nat.reduceLeDiff, Nat.reduceEqDiff, Nat.reduceBEq, hc2, hc3, h4, hc5]
      · rw [if_neg hc5] at h
        replace hc5 := (Bool.not_eq_true _).mp hc5
        by_cases hc6 : (x2.Kind == 2) = true
        · rw [if_pos hc6] at h
          obtain rfl := Option.some.inj h
          simp -implicitDefEqProofs only [go_sem, Nat.reduceAdd, Nat.reduceSub, Nat.reduceMul, Nat.reduceLT, Nat.reduceLeDiff, Nat.reduceEqDiff, Nat.reduceBEq, hc2, hc3, h4, hc5, hc6]
        · rw [if_neg hc6] at h
          replace hc6 := (Bool.not_eq_true _).mp hc6
          obtain rfl := Option.some.inj h
          simp -implicitDefEqProofs only [go_sem, Nat.reduceAdd, Nat.reduceSub, Nat.reduceMul, Nat.reduceLT, Nat.reduceLeDiff, Nat.reduceEqDiff, Nat.reduceBEq, hc2, hc3, h4, hc5, hc6]
    · rw [if_neg hc3] at h
      replace hc3 := (Bool.not_eq_true _).mp hc3
      obtain rfl := Option.some.inj h
      simp -implicitDefEqProofs only [go_sem, Nat.reduceAdd, Nat.reduceSub, Nat.reduceMul, Nat.reduceLT, Nat.reduceLeDiff, Nat.reduceEqDiff, Nat.reduceBEq, hc2, hc3]
  · rw [if_neg hc2] at h
    replace hc2 := (Bool.not_eq_true _).mp hc2
    obtain rfl := Option.some.inj h
    simp -implicitDefEqProofs only [go_sem, Nat.reduceAdd, Nat.reduceSub, Nat.reduceMul, Nat.reduceLT, Nat.reduceLeDiff, Nat.reduceEqDiff, Nat.reduceBEq, hc2]
theorem tok_Means_ok {a0 : List UInt8} {r : Bool} (h : tok_Means a0 = some r) :
  Vc cfg 49 [.lit (.string (bs a0))] [] fun v _ => v = .lit (.bool r) := by
  refine Vc_of (fn := Tryz.f49) rfl Tryz.func49 rfl Tryz.ntmps49 Tryz.results49 (by kernel_rfl) ?_
  conv => arg 3; whnf
  unfold tok_Means at h
  by_cases hc1 : (a0 == [99, 104, 97, 114, 116]) = true
  · rw [if_pos hc1] at h
    obtain rfl := Option.some.inj h
    simp -implicitDefEqProofs only [go_sem, Nat.reduceAdd, Nat.reduceSub, Nat.reduceMul, Nat.reduceLT, Nat.reduceLeDiff, Nat.reduceEqDiff, Nat.reduceBEq, hc1]
  · rw [if_neg hc1] at h
    replace hc1 := (Bool.not_eq_true _).mp hc1
    by_cases hc2 : (a0 == [118, 97, 114]) = true
    · rw [if_pos hc2] at h
      obtain rfl := Option.some.inj h
      simp -implicitDefEqProofs only [go_sem, Nat.reduceAdd, Nat.reduceSub, Nat.reduceMul, Nat.reduceLT, Nat.reduceLeDiff, Nat.reduceEqDiff, Nat.reduceBEq, hc1, hc2]
    · rw [if_neg hc2] at h
      replace hc2 := (Bool.not_eq_true _).mp hc2
      by_cases hc3 : (a0 == [115, 116, 97, 116, 101]) = true
      · rw [if_pos hc3] at h
        obtain rfl := Option.some.inj h
        simp -implicitDefEqProofs only [go_sem, Nat.reduceAdd, Nat.reduceSub, Nat.reduceMul, Nat.reduceLT, Nat.reduceLeDiff, Nat.reduceEqDiff, Nat.reduceBEq, hc1, hc2, hc3]
      · rw [if_neg hc3] at h
        replace hc3 := (Bool.not_eq_true _).mp hc3
        by_cases hc4 : (a0 == [112, 97, 114, 97, 108, 108, 101, 108]) = true
        · rw [if_pos hc4] at h
          obtain rfl := Option.some.inj h
          simp -implicitDefEqProofs only [go_sem, Nat.reduceAdd, Nat.reduceSub, Nat.reduceMul, Nat.reduceLT, Nat.reduceLeDiff, Nat.reduceEqDiff, Nat.reduceBEq, hc1, hc2, hc3, hc4]
        · rw [if_neg hc4] at h
          replace hc4 := (Bool.not_eq_true _).mp hc4
          by_cases hc5 : (a0 == [102, 105, 110, 97, 108]) = true
          · rw [if_pos hc5] at h
            obtain rfl := Option.some.inj h
            simp -implicitDefEqProofs only [go_sem, Nat.reduceAdd, Nat.reduceSub, Nat.reduceMul, Nat.reduceLT, Nat.reduceLeDiff, Nat.reduceEqDiff, Nat.reduceBEq, hc1, hc2, hc3, hc4, hc5]
          · rw [if_neg hc5] at h
            replace hc5 := (Bool.not_eq_true _).mp hc5
            by_cases hc6 : (a0 == [100, 101, 101, 112]) = true
            · rw [if_pos hc6] at h
              obtain rfl := Option.some.inj h
              simp -implicitDefEqProofs only [go_sem, Nat.reduceAdd, Nat.reduceSub, Nat.reduceMul, Nat.reduceLT, Nat.reduceLeDiff, Nat.reduceEqDiff, Nat.reduceBEq, hc1, hc2, hc3, hc4, hc5, hc6]
            · rw [if_neg hc6] at h
              replace hc6 := (Bool.not_eq_true _).mp hc6
              by_cases hc7 : (a0 == [115, 104, 97, 108, 108, 111, 119]) = true
              · rw [if_pos hc7] at h
                obtain rfl := Option.some.inj h
                simp -implicitDefEqProofs only [go_sem, Nat.reduceAdd, Nat.reduceSub, Nat.reduceMul, Nat.reduceLT, Nat.reduceLeDiff, Nat.reduceEqDiff, Nat.reduceBEq, hc1, hc2, hc3, hc4, hc5, hc6, hc7]
              · rw [if_neg hc7] at h
                replace hc7 := (Bool.not_eq_true _).mp hc7
                by_cases hc8 : (a0 == [101, 110, 116, 101, 114]) = true
                · rw [if_pos hc8] at h
                  obtain rfl := Option.some.inj h
                  simp -implicitDefEqProofs only [go_sem, Nat.reduceAdd, Nat.reduceSub, Nat.reduceMul, Nat.reduceLT, Nat.reduceLeDiff, Nat.reduceEqDiff, Nat.reduceBEq, hc1, hc2, hc3, hc4, hc5, hc6, hc7, hc8]
                · rw [if_neg hc8] at h
                  replace hc8 := (Bool.not_eq_true _).mp hc8
                  by_cases hc9 : (a0 == [101, 120, 105, 116]) = true
                  · rw [if_pos hc9] at h
                    obtain rfl := Option.some.inj h
                    simp -implicitDefEqProofs only [go_sem, Nat.reduceAdd, Nat.reduceSub, Nat.reduceMul, Nat.reduceLT, Nat.reduceLeDiff, Nat.reduceEqDiff, Nat.reduceBEq, hc1, hc2, hc3, hc4, hc5, hc6, hc7, hc8, hc9]
                  · rw [if_neg hc9] at h
                    replace hc9 := (Bool.not_eq_true _).mp hc9
                    by_cases hc10 : (a0 == [111, 110]) = true
                    · rw [if_pos hc10] at h
                      obtain rfl := Option.some.inj h
                      simp -implicitDefEqProofs only [go_sem, Nat.reduceAdd, Nat.reduceSub, Nat.reduceMul, Nat.reduceLT, Nat.reduceLeDiff, Nat.reduceEqDiff, Nat.reduceBEq, hc1, hc2, hc3, hc4, hc5, hc6, hc7, hc8, hc9, hc10]
                    · rw [if_neg hc10] at h
                      replace hc10 := (Bool.not_eq_true _).mp hc10
                      by_cases hc11 : (a0 == [97, 117, 116, 111]) = true
                      · rw [if_pos hc11] at h
                        obtain rfl := Option.some.inj h
                        simp -implicitDefEqProofs only [go_sem, Nat.reduceAdd, Nat.reduceSub, Nat.reduceMul, Nat.reduceLT, Nat.reduceLeDiff, Nat.reduceEqDiff, Nat.reduceBEq, hc1, hc2, hc3, hc4, hc5, hc6, hc7, hc8, hc9, hc10, hc11]
                      · rw [if_neg hc11] at h
                        replace hc11 := (Bool.not_eq_true _).mp hc11
                        by_cases hc12 : (a0 == [101, 110, 100]) = true
                        · rw [if_pos hc12] at h
                          obtain rfl := Option.some.inj h
                          simp -implicitDefEqProofs only [go_sem, Nat.reduceAdd, Nat.reduceSub, Nat.reduceMul, Nat.reduceLT, Nat.reduceLeDiff, Nat.reduceEqDiff, Nat.reduceBEq, hc1, hc2, hc3, hc4, hc5, hc6, hc7, hc8, hc9, hc10, hc11, hc12]
                        · rw [if_neg hc12] at h
                          replace hc12 := (Bool.not_eq_true _).mp hc12
                          by_cases hc13 : (a0 == [105, 102]) = true
                          · rw [if_pos hc13] at h
                            obtain rfl := Option.some.inj h
                            simp -implicitDefEqProofs only [go_sem, Nat.reduceAdd, Nat.reduceSub, Nat.reduceMul, Nat.reduceLT, Nat.reduceLeDiff, Nat.reduceEqDiff, Nat.reduceBEq, hc1, hc2, hc3, hc4, hc5, hc6, hc7, hc8, hc9, hc10, hc11, hc12, hc13]
                          · rw [if_neg hc13] at h
                            replace hc13 := (Bool.not_eq_true _).mp hc13
                            by_cases hc14 : (a0 == [103, 111]) = true
                            · rw [if_pos hc14] at h
                              obtain rfl := Option.some.inj h
                              simp -implicitDefEqProofs only [go_sem, Nat.reduceAdd, Nat.reduceSub, Nat.reduceMul, Nat.reduceLT, Nat.reduceLeDiff, Nat.reduceEqDiff, Nat.reduceBEq, hc1, hc2, hc3, hc4, hc5, hc6, hc7, hc8, hc9, hc10, hc11, hc12, hc13, hc14]
                            · rw [if_neg hc14] at h
                              replace hc14 := (Bool.not_eq_true _).mp hc14
                              by_cases hc15 : (a0 == [105, 110, 110, 101, 114]) = true
                              · rw [if_pos hc15] at h
                                obtain rfl := Option.some.inj h
                                simp -implicitDefEqProofs only [go_sem, Nat.reduceAdd, Nat.reduceSub, Nat.reduceMul, Nat.reduceLT, Nat.reduceLeDiff, Nat.reduceEqDiff, Nat.reduceBEq, hc1, hc2, hc3, hc4, hc5, hc6, hc7, hc8, hc9, hc10, hc11, hc12, hc13, hc14, hc15]
                              · rw [if_neg hc15] at h
                                replace hc15 := (Bool.not_eq_true _).mp hc15
                                by_cases hc16 : (a0 == [100, 111]) = true
                                · rw [if_pos hc16] at h
                                  obtain rfl := Option.some.inj h
                                  simp -implicitDefEqProofs only [go_sem, Nat.reduceAdd, Nat.reduceSub, Nat.reduceMul, Nat.reduceLT, Nat.reduceLeDiff, Nat.reduceEqDiff, Nat.reduceBEq, hc1, hc2, hc3, hc4, hc5, hc6, hc7, hc8, hc9, hc10, hc11, hc12, hc13, hc14, hc15, hc16]
                                · rw [if_neg hc16] at h
                                  replace hc16 := (Bool.not_eq_true _).mp hc16
                                  by_cases hc17 : (a0 == [115, 101, 116]) = true
                                  · rw [if_pos hc17] at h
                                    obtain rfl := Option.some.inj h
                                    simp -implicitDefEqProofs only [go_sem, Nat.reduceAdd, Nat.reduceSub, Nat.reduceMul, Nat.reduceLT, Nat.reduceLeDiff, Nat.reduceEqDiff, Nat.reduceBEq, hc1, hc2, hc3, hc4, hc5, hc6, hc7, hc8, hc9, hc10, hc11, hc12, hc13, hc14, hc15, hc16, hc17]
                                  · rw [if_neg hc17] at h
                                    replace hc17 := (Bool.not_eq_true _).mp hc17
                                    by_cases hc18 : (a0 == [114, 97, 105, 115, 101]) = true
                                    · rw [if_pos hc18] at h
                                      obtain rfl := Option.some.inj h
                                      simp -implicitDefEqProofs only [go_sem, Nat.reduceAdd, Nat.reduceSub, Nat.reduceMul, Nat.reduceLT, Nat.reduceLeDiff, Nat.reduceEqDiff, Nat.reduceBEq, hc1, hc2, hc3, hc4, hc5, hc6, hc7, hc8, hc9, hc10, hc11, hc12, hc13, hc14, hc15, hc16, hc17, hc18]
                                    · rw [if_neg hc18] at h
                                      replace hc18 := (Bool.not_eq_true _).mp hc18
                                      by_cases hc19 : (a0 == [115, 101, 110, 100]) = true
                                      · rw [if_pos hc19] at h
                                        obtain rfl := Option.some.inj h
                                        simp -implicitDefEqProofs only [go_sem, Nat.reduceAdd, Nat.reduceSub, Nat.reduceMul, Nat.reduceLT, Nat.reduceLeDiff, Nat.reduceEqDiff, Nat.reduceBEq, hc1, hc2, hc3, hc4, hc5, hc6, hc7, hc8, hc9, hc10, hc11, hc12, hc13, hc14, hc15, hc16, hc17, hc18, hc19]
                                      · rw [if_neg hc19] at h
                                        replace hc19 := (Bool.not_eq_true _).mp hc19
                                        by_cases hc20 : (a0 == [99, 97, 110, 99, 101, 108]) = true
                                        · rw [if_pos hc20] at h
                                          obtain rfl := Option.some.inj h
                                          simp -implicitDefEqProofs only [go_sem, Nat.reduceAdd, Nat.reduceSub, Nat.reduceMul, Nat.reduceLT, Nat.reduceLeDiff, Nat.reduceEqDiff, Nat.reduceBEq, hc1, hc2, hc3, hc4, hc5, hc6, hc7, hc8, hc9, hc10, hc11, hc12, hc13, hc14, hc15, hc16, hc17, hc18, hc19, hc20]
                                        · rw [if_neg hc20] at h
                                          replace hc20 := (Bool.not_eq_true _).mp hc20
                                          by_cases hc21 : (a0 == [108, 111, 103]) = true
                                          · rw [if_pos hc21] at h
                                            obtain rfl := Option.some.inj h
                                            simp -implicitDefEqProofs only [go_sem, Nat.reduceAdd, Nat.reduceSub, Nat.reduceMul, Nat.reduceLT, Nat.reduceLeDiff, Nat.reduceEqDiff, Nat.reduceBEq, hc1, hc2, hc3, hc4, hc5, hc6, hc7, hc8, hc9, hc10, hc11, hc12, hc13, hc14, hc15, hc16, hc17, hc18, hc19, hc20, hc21]
                                          · rw [if_neg hc21] at h
                                            replace hc21 := (Bool.not_eq_true _).mp hc21
                                            by_cases hc22 : (a0 == [116, 114, 117, 101]) = true
                                            · rw [if_pos hc22] at h
                                              obtain rfl := Option.some.inj h
                                              simp -implicitDefEqProofs only [go_sem, Nat.reduceAdd, Nat.reduceSub, Nat.reduceMul, Nat.reduceLT, Nat.reduceLeDiff, Nat.reduceEqDiff, Nat.reduceBEq, hc1, hc2, hc3, hc4, hc5, hc6, hc7, hc8, hc9, hc10, hc11, hc12, hc13, hc14, hc15, hc16, hc17, hc18, hc19, hc20, hc21, hc22]
                                            · rw [if_neg hc22] at h
                                              replace hc22 := (Bool.not_eq_true _).mp hc22
                                              by_cases hc23 : (a0 == [102, 97, 108, 115, 101]) = true
                                              · rw [if_pos hc23] at h
                                                obtain rfl := Option.some.inj h
                                                simp -implicitDefEqProofs only [go_sem, Nat.reduceAdd, Nat.reduceSub, Nat.reduceMul, Nat.reduceLT, Nat.reduceLeDiff, Nat.reduceEqDiff, Nat.reduceBEq, hc1, hc2, hc3, hc4, hc5, hc6, hc7, hc8, hc9, hc10, hc11, hc12, hc13, hc14, hc15, hc16, hc17, hc18, hc19, hc20, hc21, hc22, hc23]
                                              · rw [if_neg hc23] at h
                                                replace hc23 := (Bool.not_eq_true _).mp hc23
                                                by_cases hc24 : (a0 == [110, 111, 116]) = true
                                                · rw [if_pos hc24] at h
                                                  obtain rfl := Option.some.inj h
                                                  simp -implicitDefEqProofs only [go_sem, Nat.reduceAdd, Nat.reduceSub, Nat.reduceMul, Nat.reduceLT, Nat.reduceLeDiff, Nat.reduceEqDiff, Nat.reduceBEq, hc1, hc2, hc3, hc4, hc5, hc6, hc7, hc8, hc9, hc10, hc11, hc12, hc13, hc14, hc15, hc16, hc17, hc18, hc19, hc20, hc21, hc22, hc23, hc24]
                                                · rw [if_neg hc24] at h
                                                  replace hc24 := (Bool.not_eq_true _).mp hc24
                                                  by_cases hc25 : (a0 == [97, 110, 100]) = true
                                                  · rw [if_pos hc25] at h
                                                    obtain rfl := Option.some.inj h
                                                    simp -implicitDefEqProofs only [go_sem, Nat.reduceAdd, Nat.reduceSub, Nat.reduceMul, Nat.reduceLT, Nat.reduceLeDiff, Nat.reduceEqDiff, Nat.reduceBEq, hc1, hc2, hc3, hc4, hc5, hc6, hc7, hc8, hc9, hc10, hc11, hc12, hc13, hc14, hc15, hc16, hc17, hc18, hc19, hc20, hc21, hc22, hc23, hc24, hc25]
                                                  · rw [if_neg hc25] at h
                                                    replace hc25 := (Bool.not_eq_true _).mp hc25
                                                    by_cases hc26 : (a0 == [111, 114]) = true
                                                    · rw [if_pos hc26] at h
                                                      obtain rfl := Option.some.inj h
                                                      simp -implicitDefEqProofs only [go_sem, Nat.reduceAdd, Nat.reduceSub, Nat.reduceMul, Nat.reduceLT, Nat.reduceLeDiff, Nat.reduceEqDiff, Nat.reduceBEq, hc1, hc2, hc3, hc4, hc5, hc6, hc7, hc8, hc9, hc10, hc11, hc12, hc13, hc14, hc15, hc16, hc17, hc18, hc19, hc20, hc21, hc22, hc23, hc24, hc25, hc26]
                                                    · rw [if_neg hc26] at h
                                                      replace hc26 := (Bool.not_eq_true _).mp hc26
                                                      by_cases hc27 : (a0 == [105, 110]) = true
                                                      · rw [if_pos hc27] at h
                                                        obtain rfl := Option.some.inj h
                                                        simp -implicitDefEqProofs only [go_sem, Nat.reduceAdd, Nat.reduceSub, Nat.reduceMul, Nat.reduceLT, Nat.reduceLeDiff, Nat.reduceEqDiff, Nat.reduceBEq, hc1, hc2, hc3, hc4, hc5, hc6, hc7, hc8, hc9, hc10, hc11, hc12, hc13, hc14, hc15, hc16, hc17, hc18, hc19, hc20, hc21, hc22, hc23, hc24, hc25, hc26, hc27]
                                                      · rw [if_neg hc27] at h
                                                        replace hc27 := (Bool.not_eq_true _).mp hc27
                                                        obtain rfl := Option.some.inj h
                                                        simp -implicitDefEqProofs only [go_sem, Nat.reduceAdd, Nat.reduceSub, Nat.reduceMul, Nat.reduceLT, Nat.reduceLeDiff, Nat.reduceEqDiff, Nat.reduceBEq, hc1, hc2, hc3, hc4, hc5, hc6, hc7, hc8, hc9, hc10, hc11, hc12, hc13, hc14, hc15, hc16, hc17, hc18, hc19, hc20, hc21, hc22, hc23, hc24, hc25, hc26, hc27]
end Go.Proofs.YtilmjbljkkbakaaGreatDoor
