/-
  A part of the proof: lemmas.
-/
import Derived.Test.YtilmjbljkkbakaaGreatDoorCFactsc
import Derived.Test.YtilmjbljkkbakaaGreatDoorCFunsc
import Derived.Test.YtilmjbljkkbakaaGreatDoorCPr10c
import Derived.Test.YtilmjbljkkbakaaGreatDoorCPr12c
set_option linter.unusedSimpArgs false
set_option linter.unusedVariables false
set_option linter.unusedSectionVars false
set_option linter.unnecessarySimpa false
set_option linter.deprecated false
/-! The functions' proofs. -/
namespace Go.Proofs.YtilmjbljkkbakaaGreatDoor
open Go.Wv
set_option linter.unusedSimpArgs false
set_option linter.unusedVariables false
set_option maxRecDepth 10000
set_option maxHeartbeats 20000000
theorem wlaw31_anchor_ok {r : Bool} (h : wlaw31_anchor = some r) :
  Vc cfg 23 [] [] fun v _ => v = .lit (.bool r) := by
  refine Vc_of (fn := Tryz.f23) rfl Tryz.func23 rfl Tryz.ntmps23 Tryz.results23 (by kernel_rfl) ?_
  conv => arg 3; whnf
  unfold wlaw31_anchor at h
  simp -implicitDefEqProofs only [go_sem, Nat.reduceAdd, Nat.reduceSub, Nat.reduceMul, Nat.reduceLT, Nat.reduceLeDiff, Nat.reduceEqDiff, Nat.reduceBEq]
  obtain ⟨r0, h1, h⟩ := bind_some h
  refine Vc.mono (cmd_Parse_ok h1) ?_
  rintro _ _ rfl
  simp -implicitDefEqProofs only [go_sem, Nat.reduceAdd, Nat.reduceSub, Nat.reduceMul, Nat.reduceLT, Nat.reduceLeDiff, Nat.reduceEqDiff, Nat.reduceBEq]
  obtain ⟨r1, h2, h⟩ := bind_some h
  refine Vc.mono (cmd_Parse_ok h2) ?_
  rintro _ _ rfl
  by_cases hc3 : (r0.2 == 0) = true
  · rw [if_pos hc3] at h
    simp -implicitDefEqProofs only [go_sem, Nat.reduceAdd, Nat.reduceSub, Nat.reduceMul, Nat.reduceLT, Nat.reduceLeDiff, Nat.reduceEqDiff, Nat.reduceBEq, hc3]
    obtain ⟨r2, h4, h⟩ := bind_some h
    refine Vc.mono (cmd_Command_Show_ok h4) ?_
    rintro _ _ rfl
    by_cases hc5 : (r2 == [114, 117, 110, 32, 53, 49, 50]) = true
    · rw [if_pos hc5] at h
      obtain rfl := Option.some.inj h
      simp -implicitDefEqProofs only [go_sem, Nat.reduceAdd, Nat.reduceSub, Nat.reduceMul, Nat.reduceLT, Nat.reduceLeDiff, Nat.reduceEqDiff, Nat.reduceBEq, hc3, hc5]
    · rw [if_neg hc5] at h
      replace hc5 := (Bool.not_eq_true _).mp hc5
      obtain rfl := Option.some.inj h
      simp -implicitDefEqProofs only [go_sem, Nat.reduceAdd, Nat.reduceSub, Nat.reduceMul, Nat.reduceLT, Nat.reduceLeDiff, Nat.reduceEqDiff, Nat.reduceBEq, hc3, hc5]
  · rw [if_neg hc3] at h
    replace hc3 := (Bool.not_eq_true _).mp hc3
    obtain rfl := Option.some.inj h
    simp -implicitDefEqProofs only [go_sem, Nat.reduceAdd, Nat.reduceSub, Nat.reduceMul, Nat.reduceLT, Nat.reduceLeDiff, Nat.reduceEqDiff, Nat.reduceBEq, hc3]
theorem wref31_Words_ok {r : Unit} (h : wref31_Words = some r) :
  Vc cfg 25 [] [] fun v _ => v = .agg tabF25V := by
  refine Vc_of (fn := Tryz.f25) rfl Tryz.func25 rfl Tryz.ntmps25 Tryz.results25 (by kernel_rfl) ?_
  conv => arg 3; whnf
  unfold wref31_Words at h
  obtain rfl := Option.some.inj h
  simp -implicitDefEqProofs only [go_sem, Nat.reduceAdd, Nat.reduceSub, Nat.reduceMul, Nat.reduceLT, Nat.reduceLeDiff, Nat.reduceEqDiff, Nat.reduceBEq]
  try exact congrArg VV.agg tabF25V_def.symm
def wref01_Digits_spec (F : Int → Option ((List UInt8))) : Prop := ∀ {a0 : Int} {r : (List UInt8)} (h : F a0 = some r), Vc cfg 26 [.lit (.int .i64 a0)] [] fun v _ => v = .lit (.string (bs r))
theorem wref01_Digits_F_ok {R : wref01_Digits_Rec} {a0 : Int} {r : (List UInt8)} (hR_wref01_Digits : wref01_Digits_spec R.wref01_Digits) (h : wref01_Digits_F R a0 = some r) :
  Vc cfg 26 [.lit (.int .i64 a0)] [] fun v _ => v = .lit (.string (bs r)) := by
  refine Vc_of (fn := Tryz.f26) rfl Tryz.func26 rfl Tryz.ntmps26 Tryz.results26 (by kernel_rfl) ?_
  conv => arg 3; whnf
  unfold wref01_Digits_F at h
  by_cases hc1 : a0 ≤ (-10)
  · rw [if_pos hc1] at h
    obtain ⟨q1, h2, h⟩ := bind_some h
    simp -implicitDefEqProofs only [go_sem, Nat.reduceAdd, Nat.reduceSub, Nat.reduceMul, Nat.reduceLT, Nat.reduceLeDiff, Nat.reduceEqDiff, Nat.reduceBEq, hc1, h2]
    obtain ⟨r2, h3, h⟩ := bind_some h
    refine Vc.mono (hR_wref01_Digits h3) ?_
    rintro _ _ rfl
    obtain ⟨q3, h4, h⟩ := bind_some h
    simp -implicitDefEqProofs only [go_sem, Nat.reduceAdd, Nat.reduceSub, Nat.reduceMul, Nat.reduceLT, Nat.reduceLeDiff, Nat.reduceEqDiff, Nat.reduceBEq, h4]
    obtain ⟨r4, h5, h⟩ := bind_some h
    refine Vc.mono (hR_wref01_Digits h5) ?_
    rintro _ _ rfl
    obtain ⟨s5, h6, h⟩ := bind_some h
    obtain rfl := Option.some.inj h
    simp -implicitDefEqProofs only [go_sem, Nat.reduceAdd, Nat.reduceSub, Nat.reduceMul, Nat.reduceLT, Nat.reduceLeDiff, Nat.reduceEqDiff, Nat.reduceBEq, h6]
  · rw [if_neg hc1] at h
    by_cases hc7 : a0 < 0
    · rw [if_pos hc7] at h
      simp -implicitDefEqProofs only [go_sem, Nat.reduceAdd, Nat.reduceSub, Nat.reduceMul, Nat.reduceLT, Nat.reduceLeDiff, Nat.reduceEqDiff, Nat.reduceBEq, hc1, hc7]
      obtain ⟨r6, h8, h⟩ := bind_some h
      refine Vc.mono (hR_wref01_Digits h8) ?_
      rintro _ _ rfl
      obtain ⟨s7, h9, h⟩ := bind_some h
      obtain rfl := Option.some.inj h
      simp -implicitDefEqProofs only [go_sem, Nat.reduceAdd, Nat.reduceSub, Nat.reduceMul, Nat.reduceLT, Nat.reduceLeDiff, Nat.reduceEqDiff, Nat.reduceBEq, h9]
    · rw [if_neg hc7] at h
      by_cases hc10 : a0 < 10
      · rw [if_pos hc10] at h
        obtain ⟨t8, h11, h⟩ := bind_some h
        have h12 := vconv_str8 (P := Tryz.prog) (src := 117) (dst := 9) (f := .own) h11 (by simp -implicitDefEqProofs only [go_sem, Nat.reduceAdd, Nat.reduceSub, Nat.reduceMul, Nat.reduceLT, Nat.reduceLeDiff, Nat.reduceEqDiff, Nat.reduceBEq, Option.bind_some]) (by simp -implicitDefEqProofs only [go_sem, Nat.reduceAdd, Nat.reduceSub, Nat.reduceMul, Nat.reduceLT, Nat.reduceLeDiff, Nat.reduceEqDiff, Nat.reduceBEq])
        try simp -implicitDefEqProofs only [go_sem, Nat.reduceAdd, Nat.reduceSub, Nat.reduceMul, Nat.reduceLT, Nat.reduceLeDiff, Nat.reduceEqDiff, Nat.reduceBEq] at h12
        obtain rfl := Option.some.inj h
        simp -implicitDefEqProofs only [go_sem, Nat.reduceAdd, Nat.reduceSub, Nat.reduceMul, Nat.reduceLT, Nat.reduceLeDiff, Nat.reduceEqDiff, Nat.reduceBEq, hc1, hc7, hc10, h12]
      · rw [if_neg hc10] at h
        obtain ⟨q9, h13, h⟩ := bind_some h
        simp -implicitDefEqProofs only [go_sem, Nat.reduceAdd, Nat.reduceSub, Nat.reduceMul, Nat.reduceLT, Nat.reduceLeDiff, Nat.reduceEqDiff, Nat.reduceBEq, hc1, hc7, hc10, h13]
        obtain ⟨r10, h14, h⟩ := bind_some h
        refine Vc.mono (hR_wref01_Digits h14) ?_
        rintro _ _ rfl
        obtain ⟨q11, h15, h⟩ := bind_some h
        simp -implicitDefEqProofs only [go_sem, Nat.reduceAdd, Nat.reduceSub, Nat.reduceMul, Nat.reduceLT, Nat.reduceLeDiff, Nat.reduceEqDiff, Nat.reduceBEq, h15]
        obtain ⟨r12, h16, h⟩ := bind_some h
        refine Vc.mono (hR_wref01_Digits h16) ?_
        rintro _ _ rfl
        obtain ⟨s13, h17, h⟩ := bind_some h
        obtain rfl := Option.some.inj h
        simp -implicitDefEqProofs only [go_sem, Nat.reduceAdd, Nat.reduceSub, Nat.reduceMul, Nat.reduceLT, Nat.reduceLeDiff, Nat.reduceEqDiff, Nat.reduceBEq, h17]
theorem wref01_Digits_specs : ∀ k, wref01_Digits_spec (wref01_Digits_rec k).wref01_Digits
  | 0 => (by (try unfold wref01_Digits_spec); intros; rename_i h; cases h)
  | k + 1 => by
    have q26 : wref01_Digits_spec (wref01_Digits_rec k).wref01_Digits := @wref01_Digits_specs k
    exact wref01_Digits_F_ok q26
theorem wref01_Digits_ok : wref01_Digits_spec wref01_Digits := by
  try unfold wref01_Digits_spec
  intros
  rename_i h
  obtain ⟨k0, h0⟩ := (wref01_Digits_lim _).1 _ h
  exact (wref01_Digits_specs k0) (h0 k0 (Nat.le_refl _))
theorem wlaw31_CmdNumbers_ok {a0 : Int} {a1 : Int} {r : Bool} (h : wlaw31_CmdNumbers a0 a1 = some r) :
  Vc cfg 6 [.lit (.int .i64 a0), .lit (.int .i64 a1)] [] fun v _ => v = .lit (.bool r) := by
  refine Vc_of (fn := Tryz.f6) rfl Tryz.func6 rfl Tryz.ntmps6 Tryz.results6 (by kernel_rfl) ?_
  conv => arg 3; whnf
  unfold wlaw31_CmdNumbers at h
  simp -implicitDefEqProofs only [go_sem, Nat.reduceAdd, Nat.reduceSub, Nat.reduceMul, Nat.reduceLT, Nat.reduceLeDiff, Nat.reduceEqDiff, Nat.reduceBEq]
  obtain ⟨r2, h1, h⟩ := bind_some h
  refine Vc.mono (wlaw31_anchor_ok h1) ?_
  rintro _ _ rfl
  by_cases hc2 : r2 = true
  · rw [if_pos hc2] at h
    by_cases hc3 : a0 < 10
    · rw [if_pos hc3] at h
      obtain rfl := Option.some.inj h
      simp -implicitDefEqProofs only [go_sem, Nat.reduceAdd, Nat.reduceSub, Nat.reduceMul, Nat.reduceLT, Nat.reduceLeDiff, Nat.reduceEqDiff, Nat.reduceBEq, hc2, hc3]
    · rw [if_neg hc3] at h
      by_cases hc4 : 20 < a0
      · rw [if_pos hc4] at h
        obtain rfl := Option.some.inj h
        simp -implicitDefEqProofs only [go_sem, Nat.reduceAdd, Nat.reduceSub, Nat.reduceMul, Nat.reduceLT, Nat.reduceLeDiff, Nat.reduceEqDiff, Nat.reduceBEq, hc2, hc3, hc4]
      · rw [if_neg hc4] at h
        by_cases hc5 : a1 < 0
        · rw [if_pos hc5] at h
          obtain rfl := Option.some.inj h
          simp -implicitDefEqProofs only [go_sem, Nat.reduceAdd, Nat.reduceSub, Nat.reduceMul, Nat.reduceLT, Nat.reduceLeDiff, Nat.reduceEqDiff, Nat.reduceBEq, hc2, hc3, hc4, hc5]
        · rw [if_neg hc5] at h
          by_cases hc6 : 999999999 < a1
          · rw [if_pos hc6] at h
            obtain rfl := Option.some.inj h
            simp -implicitDefEqProofs only [go_sem, Nat.reduceAdd, Nat.reduceSub, Nat.reduceMul, Nat.reduceLT, Nat.reduceLeDiff, Nat.reduceEqDiff, Nat.reduceBEq, hc2, hc3, hc4, hc5, hc6]
          · rw [if_neg hc6] at h
            simp -implicitDefEqProofs only [go_sem, Nat.reduceAdd, Nat.reduceSub, Nat.reduceMul, Nat.reduceLT, Nat.reduceLeDiff, Nat.reduceEqDiff, Nat.reduceBEq, hc2, hc3, hc4, hc5, hc6]
            obtain ⟨xx7, h9, hk10, hx8⟩ := jn_some h
            clear h
            refine seqK_join (x := xx7) (fun s3 => mkSl 88 [(0, .lit (.int .i64 a0)), (1, .lit (.int .i64 a1)), (5, .lit (.int .i64 s3.1)), (6, .lit (.int .i64 s3.2))]) (fun s3 => []) ?_ ?_
            · clear hk10
              unfold wlaw31_CmdNumbers_j0 at h9
              have h := h9
              clear h9
              by_cases hc11 : (a0 == 10) = true
              · rw [if_pos hc11] at h
                obtain rfl := Option.some.inj h
                simp -implicitDefEqProofs only [go_sem, Nat.reduceAdd, Nat.reduceSub, Nat.reduceMul, Nat.reduceLT, Nat.reduceLeDiff, Nat.reduceEqDiff, Nat.reduceBEq, hc11]
                exact ⟨_, rfl, rfl⟩
              · rw [if_neg hc11] at h
                replace hc11 := (Bool.not_eq_true _).mp hc11
                by_cases hc12 : (a0 == 11) = true
                · rw [if_pos hc12] at h
                  obtain rfl := Option.some.inj h
                  simp -implicitDefEqProofs only [go_sem, Nat.reduceAdd, Nat.reduceSub, Nat.reduceMul, Nat.reduceLT, Nat.reduceLeDiff, Nat.reduceEqDiff, Nat.reduceBEq, hc11, hc12]
                  exact ⟨_, rfl, rfl⟩
                · rw [if_neg hc12] at h
                  replace hc12 := (Bool.not_eq_true _).mp hc12
                  by_cases hc13 : (a0 == 12) = true
                  · rw [if_pos hc13] at h
                    obtain rfl := Option.some.inj h
                    simp -implicitDefEqProofs only [go_sem, Nat.reduceAdd, Nat.reduceSub, Nat.reduceMul, Nat.reduceLT, Nat.reduceLeDiff, Nat.reduceEqDiff, Nat.reduceBEq, hc11, hc12, hc13]
                    exact ⟨_, rfl, rfl⟩
                  · rw [if_neg hc13] at h
                    replace hc13 := (Bool.not_eq_true _).mp hc13
                    by_cases hc14 : (a0 == 13) = true
                    · rw [if_pos hc14] at h
                      obtain rfl := Option.some.inj h
                      simp -implicitDefEqProofs only [go_sem, Nat.reduceAdd, Nat.reduceSub, Nat.reduceMul, Nat.reduceLT, Nat.reduceLeDiff, Nat.reduceEqDiff, Nat.reduceBEq, hc11, hc12, hc13, hc14]
                      exact ⟨_, rfl, rfl⟩
                    · rw [if_neg hc14] at h
                      replace hc14 := (Bool.not_eq_true _).mp hc14
                      by_cases hc15 : (a0 == 15) = true
                      · rw [if_pos hc15] at h
                        obtain rfl := Option.some.inj h
                        simp -implicitDefEqProofs only [go_sem, Nat.reduceAdd, Nat.reduceSub, Nat.reduceMul, Nat.reduceLT, Nat.reduceLeDiff, Nat.reduceEqDiff, Nat.reduceBEq, hc11, hc12, hc13, hc14, hc15]
                        exact ⟨_, rfl, rfl⟩
                      · rw [if_neg hc15] at h
                        replace hc15 := (Bool.not_eq_true _).mp hc15
                        by_cases hc16 : (a0 == 16) = true
                        · rw [if_pos hc16] at h
                          obtain rfl := Option.some.inj h
                          simp -implicitDefEqProofs only [go_sem, Nat.reduceAdd, Nat.reduceSub, Nat.reduceMul, Nat.reduceLT, Nat.reduceLeDiff, Nat.reduceEqDiff, Nat.reduceBEq, hc11, hc12, hc13, hc14, hc15, hc16]
                          exact ⟨_, rfl, rfl⟩
                        · rw [if_neg hc16] at h
                          replace hc16 := (Bool.not_eq_true _).mp hc16
                          by_cases hc17 : (a0 == 20) = true
                          · rw [if_pos hc17] at h
                            obtain rfl := Option.some.inj h
                            simp -implicitDefEqProofs only [go_sem, Nat.reduceAdd, Nat.reduceSub, Nat.reduceMul, Nat.reduceLT, Nat.reduceLeDiff, Nat.reduceEqDiff, Nat.reduceBEq, hc11, hc12, hc13, hc14, hc15, hc16, hc17]
                            exact ⟨_, rfl, rfl⟩
                          · rw [if_neg hc17] at h
                            replace hc17 := (Bool.not_eq_true _).mp hc17
                            by_cases hc18 : (a0 == 17) = true
                            · rw [if_pos hc18] at h
                              obtain rfl := Option.some.inj h
                              simp -implicitDefEqProofs only [go_sem, Nat.reduceAdd, Nat.reduceSub, Nat.reduceMul, Nat.reduceLT, Nat.reduceLeDiff, Nat.reduceEqDiff, Nat.reduceBEq, hc11, hc12, hc13, hc14, hc15, hc16, hc17, hc18]
                              exact ⟨_, rfl, rfl⟩
                            · rw [if_neg hc18] at h
                              replace hc18 := (Bool.not_eq_true _).mp hc18
                              by_cases hc19 : (a0 == 18) = true
                              · rw [if_pos hc19] at h
                                obtain rfl := Option.some.inj h
                                simp -implicitDefEqProofs only [go_sem, Nat.reduceAdd, Nat.reduceSub, Nat.reduceMul, Nat.reduceLT, Nat.reduceLeDiff, Nat.reduceEqDiff, Nat.reduceBEq, hc11, hc12, hc13, hc14, hc15, hc16, hc17, hc18, hc19]
                                exact ⟨_, rfl, rfl⟩
                              · rw [if_neg hc19] at h
                                replace hc19 := (Bool.not_eq_true _).mp hc19
                                by_cases hc20 : (a0 == 19) = true
                                · rw [if_pos hc20] at h
                                  obtain rfl := Option.some.inj h
                                  simp -implicitDefEqProofs only [go_sem, Nat.reduceAdd, Nat.reduceSub, Nat.reduceMul, Nat.reduceLT, Nat.reduceLeDiff, Nat.reduceEqDiff, Nat.reduceBEq, hc11, hc12, hc13, hc14, hc15, hc16, hc17, hc18, hc19, hc20]
                                  exact ⟨_, rfl, rfl⟩
                                · rw [if_neg hc20] at h
                                  replace hc20 := (Bool.not_eq_true _).mp hc20
                                  obtain rfl := Option.some.inj h
                                  simp -implicitDefEqProofs only [go_sem, Nat.reduceAdd, Nat.reduceSub, Nat.reduceMul, Nat.reduceLT, Nat.reduceLeDiff, Nat.reduceEqDiff, Nat.reduceBEq, hc11, hc12, hc13, hc14, hc15, hc16, hc17, hc18, hc19, hc20]
                                  exact ⟨_, rfl, rfl⟩
            · intro s3 hi21
              have h := hk10 _ hi21
              clear h9 hx8 hk10 hi21
              simp -implicitDefEqProofs only [go_sem, Nat.reduceAdd, Nat.reduceSub, Nat.reduceMul, Nat.reduceLT, Nat.reduceLeDiff, Nat.reduceEqDiff, Nat.reduceBEq, mkSl]
              obtain ⟨r4, h22, h⟩ := bind_some h
              refine Vc.mono (wref31_Words_ok h22) ?_
              rintro _ _ rfl
              obtain ⟨x5, h23, h⟩ := bind_some h
              obtain ⟨s6, h24, h⟩ := bind_some h
              simp -implicitDefEqProofs only [go_sem, Nat.reduceAdd, Nat.reduceSub, Nat.reduceMul, Nat.reduceLT, Nat.reduceLeDiff, Nat.reduceEqDiff, Nat.reduceBEq, h23, h24, mkSl]
              obtain ⟨r7, h25, h⟩ := bind_some h
              refine Vc.mono (wref01_Digits_ok h25) ?_
              rintro _ _ rfl
              obtain ⟨s8, h26, h⟩ := bind_some h
              simp -implicitDefEqProofs only [go_sem, Nat.reduceAdd, Nat.reduceSub, Nat.reduceMul, Nat.reduceLT, Nat.reduceLeDiff, Nat.reduceEqDiff, Nat.reduceBEq, h26, mkSl]
              obtain ⟨r9, h27, h⟩ := bind_some h
              refine Vc.mono (cmd_Parse_ok h27) ?_
              rintro _ _ rfl
              by_cases hc28 : a1 < s3.1
              · rw [if_pos hc28] at h
                by_cases hc29 : (r9.2 == 10) = true
                · rw [if_pos hc29] at h
                  obtain rfl := Option.some.inj h
                  simp -implicitDefEqProofs only [go_sem, Nat.reduceAdd, Nat.reduceSub, Nat.reduceMul, Nat.reduceLT, Nat.reduceLeDiff, Nat.reduceEqDiff, Nat.reduceBEq, hc28, hc29, mkSl]
                · rw [if_neg hc29] at h
                  replace hc29 := (Bool.not_eq_true _).mp hc29
                  obtain rfl := Option.some.inj h
                  simp -implicitDefEqProofs only [go_sem, Nat.reduceAdd, Nat.reduceSub, Nat.reduceMul, Nat.reduceLT, Nat.reduceLeDiff, Nat.reduceEqDiff, Nat.reduceBEq, hc28, hc29, mkSl]
              · rw [if_neg hc28] at h
                by_cases hc30 : s3.2 < a1
                · rw [if_pos hc30] at h
                  by_cases hc31 : (r9.2 == 10) = true
                  · rw [if_pos hc31] at h
                    obtain rfl := Option.some.inj h
                    simp -implicitDefEqProofs only [go_sem, Nat.reduceAdd, Nat.reduceSub, Nat.reduceMul, Nat.reduceLT, Nat.reduceLeDiff, Nat.reduceEqDiff, Nat.reduceBEq, hc28, hc30, hc31, mkSl]
                  · rw [if_neg hc31] at h
                    replace hc31 := (Bool.not_eq_true _).mp hc31
                    obtain rfl := Option.some.inj h
                    simp -implicitDefEqProofs only [go_sem, Nat.reduceAdd, Nat.reduceSub, Nat.reduceMul, Nat.reduceLT, Nat.reduceLeDiff, Nat.reduceEqDiff, Nat.reduceBEq, hc28, hc30, hc31, mkSl]
                · rw [if_neg hc30] at h
                  by_cases hc32 : (r9.2 == 0) = true
                  · rw [if_pos hc32] at h
                    by_cases hc33 : (r9.1.Kind == a0) = true
                    · rw [if_pos hc33] at h
                      by_cases hc34 : ((r9.1.N.length : Int) == 1) = true
                      · rw [if_pos hc34] at h
                        obtain ⟨x10, h35, h⟩ := bind_some h
                        obtain rfl := Option.some.inj h
                        simp -implicitDefEqProofs only [go_sem, Nat.reduceAdd, Nat.reduceSub, Nat.reduceMul, Nat.reduceLT, Nat.reduceLeDiff, Nat.reduceEqDiff, Nat.reduceBEq, hc28, hc30, hc32, hc33, hc34, h35, mkSl]
                      · rw [if_neg hc34] at h
                        replace hc34 := (Bool.not_eq_true _).mp hc34
                        obtain rfl := Option.some.inj h
                        simp -implicitDefEqProofs only [go_sem, Nat.reduceAdd, Nat.reduceSub, Nat.reduceMul, Nat.reduceLT, Nat.reduceLeDiff, Nat.reduceEqDiff, Nat.reduceBEq, hc28, hc30, hc32, hc33, hc34, mkSl]
                    · rw [if_neg hc33] at h
                      replace hc33 := (Bool.not_eq_true _).mp hc33
                      obtain rfl := Option.some.inj h
                      simp -implicitDefEqProofs only [go_sem, Nat.reduceAdd, Nat.reduceSub, Nat.reduceMul, Nat.reduceLT, Nat.reduceLeDiff, Nat.reduceEqDiff, Nat.reduceBEq, hc28, hc30, hc32, hc33, mkSl]
                  · rw [if_neg hc32] at h
                    replace hc32 := (Bool.not_eq_true _).mp hc32
                    obtain rfl := Option.some.inj h
                    simp -implicitDefEqProofs only [go_sem, Nat.reduceAdd, Nat.reduceSub, Nat.reduceMul, Nat.reduceLT, Nat.reduceLeDiff, Nat.reduceEqDiff, Nat.reduceBEq, hc28, hc30, hc32, mkSl]
  · rw [if_neg hc2] at h
    replace hc2 := (Bool.not_eq_true _).mp hc2
    obtain rfl := Option.some.inj h
    simp -implicitDefEqProofs only [go_sem, Nat.reduceAdd, Nat.reduceSub, Nat.reduceMul, Nat.reduceLT, Nat.reduceLeDiff, Nat.reduceEqDiff, Nat.reduceBEq, hc2]
end Go.Proofs.YtilmjbljkkbakaaGreatDoor
