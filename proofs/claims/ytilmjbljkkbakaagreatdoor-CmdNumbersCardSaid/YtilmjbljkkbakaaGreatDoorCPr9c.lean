/-
  A part of the proof: lemmas.
-/
import Derived.Test.YtilmjbljkkbakaaGreatDoorCFactsc
import Derived.Test.YtilmjbljkkbakaaGreatDoorCFunsc
import Derived.Test.YtilmjbljkkbakaaGreatDoorCPr8c
set_option linter.unusedSimpArgs false
set_option linter.unusedVariables false
set_option linter.unusedSectionVars false
set_option linter.unnecessarySimpa false
set_option linter.deprecated false
/-! The functions' proofs. -/
namespace Go.Proofs.YtilmjbljkkbakaaGreatDoor
open Go.Wv
set_option linter.unusedSimpArgs false
set_option linter.unusedVariables false
set_option maxRecDepth 10000
set_option maxHeartbeats 20000000
theorem strings_Split_ok {a0 : List UInt8} {a1 : List UInt8} {r : (List (List UInt8))} (h : strings_Split a0 a1 = some r) :
  Vc cfg 37 [.lit (.string (bs a0)), .lit (.string (bs a1))] [] fun v _ => v = .sl .view (r.map En.str.enc) := by
  refine Vc_of (fn := Tryz.f37) rfl Tryz.func37 rfl Tryz.ntmps37 Tryz.results37 (by kernel_rfl) ?_
  conv => arg 3; whnf
  unfold strings_Split at h
  simp -implicitDefEqProofs only [go_sem, Nat.reduceAdd, Nat.reduceSub, Nat.reduceMul, Nat.reduceLT, Nat.reduceLeDiff, Nat.reduceEqDiff, Nat.reduceBEq]
  obtain ⟨r2, h1, h⟩ := bind_some h
  refine Vc.mono (strings_genSplit_ok h1) ?_
  rintro _ _ rfl
  obtain rfl := Option.some.inj h
  simp -implicitDefEqProofs only [go_sem, Nat.reduceAdd, Nat.reduceSub, Nat.reduceMul, Nat.reduceLT, Nat.reduceLeDiff, Nat.reduceEqDiff, Nat.reduceBEq]
theorem cmd_formOf_ok {a0 : Int} {r : CmdForm} (h : cmd_formOf a0 = some r) :
  Vc cfg 81 [.lit (.int .i64 a0)] [] fun v _ => v = .agg [.lit (.int .i64 r.count), .lit (.int .i64 r.least), .lit (.int .i64 r.most), .lit (.int .i64 r.without)] := by
  refine Vc_of (fn := Tryz.f81) rfl Tryz.func81 rfl Tryz.ntmps81 Tryz.results81 (by kernel_rfl) ?_
  conv => arg 3; whnf
  unfold cmd_formOf at h
  by_cases hc1 : (a0 == 10) = true
  · rw [if_pos hc1] at h
    obtain rfl := Option.some.inj h
    simp -implicitDefEqProofs only [go_sem, Nat.reduceAdd, Nat.reduceSub, Nat.reduceMul, Nat.reduceLT, Nat.reduceLeDiff, Nat.reduceEqDiff, Nat.reduceBEq, hc1]
  · rw [if_neg hc1] at h
    replace hc1 := (Bool.not_eq_true _).mp hc1
    by_cases hc2 : (a0 == 11) = true
    · rw [if_pos hc2] at h
      obtain rfl := Option.some.inj h
      simp -implicitDefEqProofs only [go_sem, Nat.reduceAdd, Nat.reduceSub, Nat.reduceMul, Nat.reduceLT, Nat.reduceLeDiff, Nat.reduceEqDiff, Nat.reduceBEq, hc1, hc2]
    · rw [if_neg hc2] at h
      replace hc2 := (Bool.not_eq_true _).mp hc2
      by_cases hc3 : (a0 == 12) = true
      · rw [if_pos hc3] at h
        obtain rfl := Option.some.inj h
        simp -implicitDefEqProofs only [go_sem, Nat.reduceAdd, Nat.reduceSub, Nat.reduceMul, Nat.reduceLT, Nat.reduceLeDiff, Nat.reduceEqDiff, Nat.reduceBEq, hc1, hc2, hc3]
      · rw [if_neg hc3] at h
        replace hc3 := (Bool.not_eq_true _).mp hc3
        by_cases hc4 : (a0 == 13) = true
        · rw [if_pos hc4] at h
          obtain rfl := Option.some.inj h
          simp -implicitDefEqProofs only [go_sem, Nat.reduceAdd, Nat.reduceSub, Nat.reduceMul, Nat.reduceLT, Nat.reduceLeDiff, Nat.reduceEqDiff, Nat.reduceBEq, hc1, hc2, hc3, hc4]
        · rw [if_neg hc4] at h
          replace hc4 := (Bool.not_eq_true _).mp hc4
          by_cases hc5 : (a0 == 14) = true
          · rw [if_pos hc5] at h
            obtain rfl := Option.some.inj h
            simp -implicitDefEqProofs only [go_sem, Nat.reduceAdd, Nat.reduceSub, Nat.reduceMul, Nat.reduceLT, Nat.reduceLeDiff, Nat.reduceEqDiff, Nat.reduceBEq, hc1, hc2, hc3, hc4, hc5]
          · rw [if_neg hc5] at h
            replace hc5 := (Bool.not_eq_true _).mp hc5
            by_cases hc6 : (a0 == 15) = true
            · rw [if_pos hc6] at h
              obtain rfl := Option.some.inj h
              simp -implicitDefEqProofs only [go_sem, Nat.reduceAdd, Nat.reduceSub, Nat.reduceMul, Nat.reduceLT, Nat.reduceLeDiff, Nat.reduceEqDiff, Nat.reduceBEq, hc1, hc2, hc3, hc4, hc5, hc6]
            · rw [if_neg hc6] at h
              replace hc6 := (Bool.not_eq_true _).mp hc6
              by_cases hc7 : (a0 == 16) = true
              · rw [if_pos hc7] at h
                obtain rfl := Option.some.inj h
                simp -implicitDefEqProofs only [go_sem, Nat.reduceAdd, Nat.reduceSub, Nat.reduceMul, Nat.reduceLT, Nat.reduceLeDiff, Nat.reduceEqDiff, Nat.reduceBEq, hc1, hc2, hc3, hc4, hc5, hc6, hc7]
              · rw [if_neg hc7] at h
                replace hc7 := (Bool.not_eq_true _).mp hc7
                by_cases hc8 : (a0 == 21) = true
                · rw [if_pos hc8] at h
                  obtain rfl := Option.some.inj h
                  simp -implicitDefEqProofs only [go_sem, Nat.reduceAdd, Nat.reduceSub, Nat.reduceMul, Nat.reduceLT, Nat.reduceLeDiff, Nat.reduceEqDiff, Nat.reduceBEq, hc1, hc2, hc3, hc4, hc5, hc6, hc7, hc8]
                · rw [if_neg hc8] at h
                  replace hc8 := (Bool.not_eq_true _).mp hc8
                  by_cases hc9 : (a0 == 17) = true
                  · rw [if_pos hc9] at h
                    obtain rfl := Option.some.inj h
                    simp -implicitDefEqProofs only [go_sem, Nat.reduceAdd, Nat.reduceSub, Nat.reduceMul, Nat.reduceLT, Nat.reduceLeDiff, Nat.reduceEqDiff, Nat.reduceBEq, hc1, hc2, hc3, hc4, hc5, hc6, hc7, hc8, hc9]
                  · rw [if_neg hc9] at h
                    replace hc9 := (Bool.not_eq_true _).mp hc9
                    by_cases hc10 : (a0 == 18) = true
                    · rw [if_pos hc10] at h
                      obtain rfl := Option.some.inj h
                      simp -implicitDefEqProofs only [go_sem, Nat.reduceAdd, Nat.reduceSub, Nat.reduceMul, Nat.reduceLT, Nat.reduceLeDiff, Nat.reduceEqDiff, Nat.reduceBEq, hc1, hc2, hc3, hc4, hc5, hc6, hc7, hc8, hc9, hc10]
                    · rw [if_neg hc10] at h
                      replace hc10 := (Bool.not_eq_true _).mp hc10
                      by_cases hc11 : (a0 == 19) = true
                      · rw [if_pos hc11] at h
                        obtain rfl := Option.some.inj h
                        simp -implicitDefEqProofs only [go_sem, Nat.reduceAdd, Nat.reduceSub, Nat.reduceMul, Nat.reduceLT, Nat.reduceLeDiff, Nat.reduceEqDiff, Nat.reduceBEq, hc1, hc2, hc3, hc4, hc5, hc6, hc7, hc8, hc9, hc10, hc11]
                      · rw [if_neg hc11] at h
                        replace hc11 := (Bool.not_eq_true _).mp hc11
                        by_cases hc12 : (a0 == 20) = true
                        · rw [if_pos hc12] at h
                          obtain rfl := Option.some.inj h
                          simp -implicitDefEqProofs only [go_sem, Nat.reduceAdd, Nat.reduceSub, Nat.reduceMul, Nat.reduceLT, Nat.reduceLeDiff, Nat.reduceEqDiff, Nat.reduceBEq, hc1, hc2, hc3, hc4, hc5, hc6, hc7, hc8, hc9, hc10, hc11, hc12]
                        · rw [if_neg hc12] at h
                          replace hc12 := (Bool.not_eq_true _).mp hc12
                          by_cases hc13 : (a0 == 22) = true
                          · rw [if_pos hc13] at h
                            obtain rfl := Option.some.inj h
                            simp -implicitDefEqProofs only [go_sem, Nat.reduceAdd, Nat.reduceSub, Nat.reduceMul, Nat.reduceLT, Nat.reduceLeDiff, Nat.reduceEqDiff, Nat.reduceBEq, hc1, hc2, hc3, hc4, hc5, hc6, hc7, hc8, hc9, hc10, hc11, hc12, hc13]
                          · rw [if_neg hc13] at h
                            replace hc13 := (Bool.not_eq_true _).mp hc13
                            obtain rfl := Option.some.inj h
                            simp -implicitDefEqProofs only [go_sem, Nat.reduceAdd, Nat.reduceSub, Nat.reduceMul, Nat.reduceLT, Nat.reduceLeDiff, Nat.reduceEqDiff, Nat.reduceBEq, hc1, hc2, hc3, hc4, hc5, hc6, hc7, hc8, hc9, hc10, hc11, hc12, hc13]
theorem cmd_number_ok {a0 : List UInt8} {r : Int × Bool} (h : cmd_number a0 = some r) :
  Vc cfg 82 [.lit (.string (bs a0))] [] fun v _ => v = .tup [.lit (.int .i64 r.1), .lit (.bool r.2)] := by
  refine Vc_of (fn := Tryz.f82) rfl Tryz.func82 rfl Tryz.ntmps82 Tryz.results82 (by kernel_rfl) ?_
  conv => arg 3; whnf
  unfold cmd_number at h
  by_cases hc1 : (a0 == []) = true
  · rw [if_pos hc1] at h
    obtain rfl := Option.some.inj h
    simp -implicitDefEqProofs only [go_sem, Nat.reduceAdd, Nat.reduceSub, Nat.reduceMul, Nat.reduceLT, Nat.reduceLeDiff, Nat.reduceEqDiff, Nat.reduceBEq, hc1]
  · rw [if_neg hc1] at h
    replace hc1 := (Bool.not_eq_true _).mp hc1
    by_cases hc2 : 9 < (a0.length : Int)
    · rw [if_pos hc2] at h
      obtain rfl := Option.some.inj h
      simp -implicitDefEqProofs only [go_sem, Nat.reduceAdd, Nat.reduceSub, Nat.reduceMul, Nat.reduceLT, Nat.reduceLeDiff, Nat.reduceEqDiff, Nat.reduceBEq, hc1, hc2]
    · rw [if_neg hc2] at h
      by_cases hc3 : 1 < (a0.length : Int)
      · rw [if_pos hc3] at h
        obtain ⟨c1, h4, h⟩ := bind_some h
        by_cases hc5 : ((c1.toNat : Int) == 48) = true
        · rw [if_pos hc5] at h
          obtain rfl := Option.some.inj h
          simp -implicitDefEqProofs only [go_sem, Nat.reduceAdd, Nat.reduceSub, Nat.reduceMul, Nat.reduceLT, Nat.reduceLeDiff, Nat.reduceEqDiff, Nat.reduceBEq, hc1, hc2, hc3, h4, hc5]
        · rw [if_neg hc5] at h
          replace hc5 := (Bool.not_eq_true _).mp hc5
          obtain ⟨b2, h6, h⟩ := bind_some h
          simp -implicitDefEqProofs only [go_sem, Nat.reduceAdd, Nat.reduceSub, Nat.reduceMul, Nat.reduceLT, Nat.reduceLeDiff, Nat.reduceEqDiff, Nat.reduceBEq, hc1, hc2, hc3, h4, hc5, h6]
          refine wpLoop_run' (step := cmd_number_l0_step b2) (fun s3 => mkSl 45 [(4, .lit (.int .i64 s3.1)), (25, .sl .view (b2.map (En.int .u8).enc)), (26, .lit (.int .i64 (b2.length : Int))), (27, .lit (.int .i64 s3.2))]) (fun s3 => []) h (by kernel_rfl) (by first | rfl | simp -implicitDefEqProofs only [go_sem, Nat.reduceAdd, Nat.reduceSub, Nat.reduceMul, Nat.reduceLT, Nat.reduceLeDiff, Nat.reduceEqDiff, Nat.reduceBEq, mkSl]) (by first | rfl | simp -implicitDefEqProofs only [go_sem, Nat.reduceAdd, Nat.reduceSub, Nat.reduceMul, Nat.reduceLT, Nat.reduceLeDiff, Nat.reduceEqDiff, Nat.reduceBEq]) ?_
          clear h
          intro s3 xx7 h hx8
          unfold cmd_number_l0_step at h
          by_cases hc9 : s3.2 < (b2.length : Int)
          · rw [if_pos hc9] at h
            obtain ⟨x4, h10, h⟩ := bind_some h
            by_cases hc11 : x4 < 48
            · rw [if_pos hc11] at h
              obtain rfl := Option.some.inj h
              obtain rfl := hx8 _ rfl
              simp -implicitDefEqProofs only [go_sem, Nat.reduceAdd, Nat.reduceSub, Nat.reduceMul, Nat.reduceLT, Nat.reduceLeDiff, Nat.reduceEqDiff, Nat.reduceBEq, hc9, h10, hc11, mkSl]
            · rw [if_neg hc11] at h
              by_cases hc12 : 57 < x4
              · rw [if_pos hc12] at h
                obtain rfl := Option.some.inj h
                obtain rfl := hx8 _ rfl
                simp -implicitDefEqProofs only [go_sem, Nat.reduceAdd, Nat.reduceSub, Nat.reduceMul, Nat.reduceLT, Nat.reduceLeDiff, Nat.reduceEqDiff, Nat.reduceBEq, hc9, h10, hc11, hc12, mkSl]
              · rw [if_neg hc12] at h
                obtain rfl := Option.some.inj h
                simp -implicitDefEqProofs only [go_sem, Nat.reduceAdd, Nat.reduceSub, Nat.reduceMul, Nat.reduceLT, Nat.reduceLeDiff, Nat.reduceEqDiff, Nat.reduceBEq, hc9, h10, hc11, hc12, mkSl]
                exact ⟨_, rfl, rfl⟩
          · rw [if_neg hc9] at h
            obtain rfl := Option.some.inj h
            obtain rfl := hx8 _ rfl
            simp -implicitDefEqProofs only [go_sem, Nat.reduceAdd, Nat.reduceSub, Nat.reduceMul, Nat.reduceLT, Nat.reduceLeDiff, Nat.reduceEqDiff, Nat.reduceBEq, hc9, mkSl]
      · rw [if_neg hc3] at h
        obtain ⟨b5, h13, h⟩ := bind_some h
        simp -implicitDefEqProofs only [go_sem, Nat.reduceAdd, Nat.reduceSub, Nat.reduceMul, Nat.reduceLT, Nat.reduceLeDiff, Nat.reduceEqDiff, Nat.reduceBEq, hc1, hc2, hc3, h13, mkSl]
        refine wpLoop_run' (step := cmd_number_l1_step b5) (fun s6 => mkSl 45 [(4, .lit (.int .i64 s6.1)), (25, .sl .view (b5.map (En.int .u8).enc)), (26, .lit (.int .i64 (b5.length : Int))), (27, .lit (.int .i64 s6.2))]) (fun s6 => []) h (by kernel_rfl) (by first | rfl | simp -implicitDefEqProofs only [go_sem, Nat.reduceAdd, Nat.reduceSub, Nat.reduceMul, Nat.reduceLT, Nat.reduceLeDiff, Nat.reduceEqDiff, Nat.reduceBEq, mkSl, mkSl]) (by first | rfl | simp -implicitDefEqProofs only [go_sem, Nat.reduceAdd, Nat.reduceSub, Nat.reduceMul, Nat.reduceLT, Nat.reduceLeDiff, Nat.reduceEqDiff, Nat.reduceBEq, mkSl]) ?_
        clear h
        intro s6 xx14 h hx15
        unfold cmd_number_l1_step at h
        by_cases hc16 : s6.2 < (b5.length : Int)
        · rw [if_pos hc16] at h
          obtain ⟨x7, h17, h⟩ := bind_some h
          by_cases hc18 : x7 < 48
          · rw [if_pos hc18] at h
            obtain rfl := Option.some.inj h
            obtain rfl := hx15 _ rfl
            simp -implicitDefEqProofs only [go_sem, Nat.reduceAdd, Nat.reduceSub, Nat.reduceMul, Nat.reduceLT, Nat.reduceLeDiff, Nat.reduceEqDiff, Nat.reduceBEq, hc16, h17, hc18, mkSl]
          · rw [if_neg hc18] at h
            by_cases hc19 : 57 < x7
            · rw [if_pos hc19] at h
              obtain rfl := Option.some.inj h
              obtain rfl := hx15 _ rfl
              simp -implicitDefEqProofs only [go_sem, Nat.reduceAdd, Nat.reduceSub, Nat.reduceMul, Nat.reduceLT, Nat.reduceLeDiff, Nat.reduceEqDiff, Nat.reduceBEq, hc16, h17, hc18, hc19, mkSl]
            · rw [if_neg hc19] at h
              obtain rfl := Option.some.inj h
              simp -implicitDefEqProofs only [go_sem, Nat.reduceAdd, Nat.reduceSub, Nat.reduceMul, Nat.reduceLT, Nat.reduceLeDiff, Nat.reduceEqDiff, Nat.reduceBEq, hc16, h17, hc18, hc19, mkSl]
              exact ⟨_, rfl, rfl⟩
        · rw [if_neg hc16] at h
          obtain rfl := Option.some.inj h
          obtain rfl := hx15 _ rfl
          simp -implicitDefEqProofs only [go_sem, Nat.reduceAdd, Nat.reduceSub, Nat.reduceMul, Nat.reduceLT, Nat.reduceLeDiff, Nat.reduceEqDiff, Nat.reduceBEq, hc16, mkSl]
theorem cmd_numbers_ok {a0 : Int} {a1 : List (List UInt8)} {r : (List Int) × Int} (h : cmd_numbers a0 a1 = some r) :
  Vc cfg 47 [.lit (.int .i64 a0), .sl .view (a1.map En.str.enc)] [] fun v _ => v = .tup [.sl .view (r.1.map (En.int .i64).enc), .lit (.int .i64 r.2)] := by
  refine Vc_of (fn := Tryz.f47) rfl Tryz.func47 rfl Tryz.ntmps47 Tryz.results47 (by kernel_rfl) ?_
  conv => arg 3; whnf
  unfold cmd_numbers at h
  simp -implicitDefEqProofs only [go_sem, Nat.reduceAdd, Nat.reduceSub, Nat.reduceMul, Nat.reduceLT, Nat.reduceLeDiff, Nat.reduceEqDiff, Nat.reduceBEq]
  obtain ⟨r2, h1, h⟩ := bind_some h
  refine Vc.mono (cmd_formOf_ok h1) ?_
  rintro _ _ rfl
  by_cases hc2 : ((a1.length : Int) == 0) = true
  · rw [if_pos hc2] at h
    by_cases hc3 : (r2.count == 1) = true
    · rw [if_pos hc3] at h
      by_cases hc4 : 0 ≤ r2.without
      · rw [if_pos hc4] at h
        obtain rfl := Option.some.inj h
        simp -implicitDefEqProofs only [go_sem, Nat.reduceAdd, Nat.reduceSub, Nat.reduceMul, Nat.reduceLT, Nat.reduceLeDiff, Nat.reduceEqDiff, Nat.reduceBEq, hc2, hc3, hc4]
      · rw [if_neg hc4] at h
        by_cases hc5 : ((a1.length : Int) != r2.count) = true
        · rw [if_pos hc5] at h
          obtain rfl := Option.some.inj h
          simp -implicitDefEqProofs only [go_sem, Nat.reduceAdd, Nat.reduceSub, Nat.reduceMul, Nat.reduceLT, Nat.reduceLeDiff, Nat.reduceEqDiff, Nat.reduceBEq, hc2, hc3, hc4, hc5]
        · rw [if_neg hc5] at h
          replace hc5 := (Bool.not_eq_true _).mp hc5
          simp -implicitDefEqProofs only [go_sem, Nat.reduceAdd, Nat.reduceSub, Nat.reduceMul, Nat.reduceLT, Nat.reduceLeDiff, Nat.reduceEqDiff, Nat.reduceBEq, hc2, hc3, hc4, hc5]
          obtain ⟨xx6, h8, hk9, hx7⟩ := jn_some h
          clear h
          refine seqK_join (x := xx6) (fun s3 => mkSl 73 [(6, .ptr 0 0), (7, .sl .own (s3.map (En.int .i64).enc))]) (fun s3 => [.var [.lit (.int .i64 r2.count), .lit (.int .i64 r2.least), .lit (.int .i64 r2.most), .lit (.int .i64 r2.without)]]) ?_ ?_
          · clear hk9
            unfold cmd_numbers_j0 at h8
            have h := h8
            clear h8
            simp -implicitDefEqProofs only [go_sem, Nat.reduceAdd, Nat.reduceSub, Nat.reduceMul, Nat.reduceLT, Nat.reduceLeDiff, Nat.reduceEqDiff, Nat.reduceBEq]
            refine wpLoop_run' (step := cmd_numbers_l1_step a1) (fun s4 => mkSl 73 [(6, .ptr 0 0), (7, .sl .own (s4.1.map (En.int .i64).enc)), (37, .sl .view (a1.map En.str.enc)), (38, .lit (.int .i64 (a1.length : Int))), (39, .lit (.int .i64 s4.2))]) (fun s4 => [.var [.lit (.int .i64 r2.count), .lit (.int .i64 r2.least), .lit (.int .i64 r2.most), .lit (.int .i64 r2.without)]]) h (by kernel_rfl) (by first | rfl | simp -implicitDefEqProofs only [go_sem, Nat.reduceAdd, Nat.reduceSub, Nat.reduceMul, Nat.reduceLT, Nat.reduceLeDiff, Nat.reduceEqDiff, Nat.reduceBEq, mkSl]) (by first | rfl | simp -implicitDefEqProofs only [go_sem, Nat.reduceAdd, Nat.reduceSub, Nat.reduceMul, Nat.reduceLT, Nat.reduceLeDiff, Nat.reduceEqDiff, Nat.reduceBEq]) ?_
            clear h
            intro s4 xx10 h hx11
            unfold cmd_numbers_l1_step at h
            by_cases hc12 : s4.2 < (a1.length : Int)
            · rw [if_pos hc12] at h
              obtain ⟨x5, h13, h⟩ := bind_some h
              simp -implicitDefEqProofs only [go_sem, Nat.reduceAdd, Nat.reduceSub, Nat.reduceMul, Nat.reduceLT, Nat.reduceLeDiff, Nat.reduceEqDiff, Nat.reduceBEq, hc12, h13, mkSl]
              obtain ⟨r6, h14, h⟩ := bind_some h
              refine Vc.mono (cmd_number_ok h14) ?_
              rintro _ _ rfl
              by_cases hc15 : r6.2 = true
              · rw [if_pos hc15] at h
                obtain ⟨l7, h16, h⟩ := bind_some h
                have h17 := vappend_en (En.int .i64) (P := Tryz.prog) (t := 24) (f := .own) h16 (by simp -implicitDefEqProofs only [go_sem, Nat.reduceAdd, Nat.reduceSub, Nat.reduceMul, Nat.reduceLT, Nat.reduceLeDiff, Nat.reduceEqDiff, Nat.reduceBEq, Option.map_some])
                simp -implicitDefEqProofs only [go_sem, Nat.reduceAdd, Nat.reduceSub, Nat.reduceMul, Nat.reduceLT, Nat.reduceLeDiff, Nat.reduceEqDiff, Nat.reduceBEq] at h17
                obtain rfl := Option.some.inj h
                simp -implicitDefEqProofs only [go_sem, Nat.reduceAdd, Nat.reduceSub, Nat.reduceMul, Nat.reduceLT, Nat.reduceLeDiff, Nat.reduceEqDiff, Nat.reduceBEq, hc15, h17, mkSl]
                first | exact ⟨_, rfl, rfl⟩ | exact ⟨_, rfl, by simp only [hc15]⟩
              · rw [if_neg hc15] at h
                replace hc15 := (Bool.not_eq_true _).mp hc15
                obtain rfl := Option.some.inj h
                obtain rfl := hx11 _ rfl
                obtain rfl := hx7 _ rfl
                simp -implicitDefEqProofs only [go_sem, Nat.reduceAdd, Nat.reduceSub, Nat.reduceMul, Nat.reduceLT, Nat.reduceLeDiff, Nat.reduceEqDiff, Nat.reduceBEq, hc15, mkSl]
            · rw [if_neg hc12] at h
              obtain rfl := Option.some.inj h
              obtain rfl := hx11 _ rfl
              simp -implicitDefEqProofs only [go_sem, Nat.reduceAdd, Nat.reduceSub, Nat.reduceMul, Nat.reduceLT, Nat.reduceLeDiff, Nat.reduceEqDiff, Nat.reduceBEq, hc12, mkSl]
              exact ⟨_, rfl, rfl⟩
          · intro s3 hi18
            have h := hk9 _ hi18
            clear h8 hx7 hk9 hi18
            simp -implicitDefEqProofs only [go_sem, Nat.reduceAdd, Nat.reduceSub, Nat.reduceMul, Nat.reduceLT, Nat.reduceLeDiff, Nat.reduceEqDiff, Nat.reduceBEq, mkSl]
            refine wpLoop_run' (step := cmd_numbers_l2_step r2 s3) (fun s8 => mkSl 73 [(6, .ptr 0 0), (7, .sl .own (s3.map (En.int .i64).enc)), (55, .sl .view (s3.map (En.int .i64).enc)), (56, .lit (.int .i64 (s3.length : Int))), (57, .lit (.int .i64 s8))]) (fun s8 => [.var [.lit (.int .i64 r2.count), .lit (.int .i64 r2.least), .lit (.int .i64 r2.most), .lit (.int .i64 r2.without)]]) h (by kernel_rfl) (by first | rfl | simp -implicitDefEqProofs only [go_sem, Nat.reduceAdd, Nat.reduceSub, Nat.reduceMul, Nat.reduceLT, Nat.reduceLeDiff, Nat.reduceEqDiff, Nat.reduceBEq, mkSl, mkSl]) (by first | rfl | simp -implicitDefEqProofs only [go_sem, Nat.reduceAdd, Nat.reduceSub, Nat.reduceMul, Nat.reduceLT, Nat.reduceLeDiff, Nat.reduceEqDiff, Nat.reduceBEq, mkSl]) ?_
            clear h
            intro s8 xx19 h hx20
            unfold cmd_numbers_l2_step at h
            by_cases hc21 : s8 < (s3.length : Int)
            · rw [if_pos hc21] at h
              obtain ⟨x9, h22, h⟩ := bind_some h
              by_cases hc23 : x9 < r2.least
              · rw [if_pos hc23] at h
                obtain rfl := Option.some.inj h
                obtain rfl := hx20 _ rfl
                simp -implicitDefEqProofs only [go_sem, Nat.reduceAdd, Nat.reduceSub, Nat.reduceMul, Nat.reduceLT, Nat.reduceLeDiff, Nat.reduceEqDiff, Nat.reduceBEq, hc21, h22, hc23, mkSl]
              · rw [if_neg hc23] at h
                by_cases hc24 : r2.most < x9
                · rw [if_pos hc24] at h
                  obtain rfl := Option.some.inj h
                  obtain rfl := hx20 _ rfl
                  simp -implicitDefEqProofs only [go_sem, Nat.reduceAdd, Nat.reduceSub, Nat.reduceMul, Nat.reduceLT, Nat.reduceLeDiff, Nat.reduceEqDiff, Nat.reduceBEq, hc21, h22, hc23, hc24, mkSl]
                · rw [if_neg hc24] at h
                  obtain rfl := Option.some.inj h
                  simp -implicitDefEqProofs only [go_sem, Nat.reduceAdd, Nat.reduceSub, Nat.reduceMul, Nat.reduceLT, Nat.reduceLeDiff, Nat.reduceEqDiff, Nat.reduceBEq, hc21, h22, hc23, hc24, mkSl]
                  exact ⟨_, rfl, rfl⟩
            · rw [if_neg hc21] at h
              obtain rfl := Option.some.inj h
              obtain rfl := hx20 _ rfl
              simp -implicitDefEqProofs only [go_sem, Nat.reduceAdd, Nat.reduceSub, Nat.reduceMul, Nat.reduceLT, Nat.reduceLeDiff, Nat.reduceEqDiff, Nat.reduceBEq, hc21, mkSl]
    · rw [if_neg hc3] at h
      replace hc3 := (Bool.not_eq_true _).mp hc3
      by_cases hc25 : ((a1.length : Int) != r2.count) = true
      · rw [if_pos hc25] at h
        obtain rfl := Option.some.inj h
        simp -implicitDefEqProofs only [go_sem, Nat.reduceAdd, Nat.reduceSub, Nat.reduceMul, Nat.reduceLT, Nat.reduceLeDiff, Nat.reduceEqDiff, Nat.reduceBEq, hc2, hc3, hc25]
      · rw [if_neg hc25] at h
        replace hc25 := (Bool.not_eq_true _).mp hc25
        simp -implicitDefEqProofs only [go_sem, Nat.reduceAdd, Nat.reduceSub, Nat.reduceMul, Nat.reduceLT, Nat.reduceLeDiff, Nat.reduceEqDiff, Nat.reduceBEq, hc2, hc3, hc25]
        obtain ⟨xx26, h28, hk29, hx27⟩ := jn_some h
        clear h
        refine seqK_join (x := xx26) (fun s10 => mkSl 73 [(6, .ptr 0 0), (7, .sl .own (s10.map (En.int .i64).enc))]) (fun s10 => [.var [.lit (.int .i64 r2.count), .lit (.int .i64 r2.least), .lit (.int .i64 r2.most), .lit (.int .i64 r2.without)]]) ?_ ?_
        · clear hk29
          unfold cmd_numbers_j3 at h28
          have h := h28
          clear h28
          simp -implicitDefEqProofs only [go_sem, Nat.reduceAdd, Nat.reduceSub, Nat.reduceMul, Nat.reduceLT, Nat.reduceLeDiff, Nat.reduceEqDiff, Nat.reduceBEq]
          refine wpLoop_run' (step := cmd_numbers_l4_step a1) (fun s11 => mkSl 73 [(6, .ptr 0 0), (7, .sl .own (s11.1.map (En.int .i64).enc)), (37, .sl .view (a1.map En.str.enc)), (38, .lit (.int .i64 (a1.length : Int))), (39, .lit (.int .i64 s11.2))]) (fun s11 => [.var [.lit (.int .i64 r2.count), .lit (.int .i64 r2.least), .lit (.int .i64 r2.most), .lit (.int .i64 r2.without)]]) h (by kernel_rfl) (by first | rfl | simp -implicitDefEqProofs only [go_sem, Nat.reduceAdd, Nat.reduceSub, Nat.reduceMul, Nat.reduceLT, Nat.reduceLeDiff, Nat.reduceEqDiff, Nat.reduceBEq, mkSl]) (by first | rfl | simp -implicitDefEqProofs only [go_sem, Nat.reduceAdd, Nat.reduceSub, Nat.reduceMul, Nat.reduceLT, Nat.reduceLeDiff, Nat.reduceEqDiff, Nat.reduceBEq]) ?_
          clear h
          intro s11 xx30 h hx31
          unfold cmd_numbers_l4_step at h
          by_cases hc32 : s11.2 < (a1.length : Int)
          · rw [if_pos hc32] at h
            obtain ⟨x12, h33, h⟩ := bind_some h
            simp -implicitDefEqProofs only [go_sem, Nat.reduceAdd, Nat.reduceSub, Nat.reduceMul, Nat.reduceLT, Nat.reduceLeDiff, Nat.reduceEqDiff, Nat.reduceBEq, hc32, h33, mkSl]
            obtain ⟨r13, h34, h⟩ := bind_some h
            refine Vc.mono (cmd_number_ok h34) ?_
            rintro _ _ rfl
            by_cases hc35 : r13.2 = true
            · rw [if_pos hc35] at h
              obtain ⟨l14, h36, h⟩ := bind_some h
              have h37 := vappend_en (En.int .i64) (P := Tryz.prog) (t := 24) (f := .own) h36 (by simp -implicitDefEqProofs only [go_sem, Nat.reduceAdd, Nat.reduceSub, Nat.reduceMul, Nat.reduceLT, Nat.reduceLeDiff, Nat.reduceEqDiff, Nat.reduceBEq, Option.map_some])
              simp -implicitDefEqProofs only [go_sem, Nat.reduceAdd, Nat.reduceSub, Nat.reduceMul, Nat.reduceLT, Nat.reduceLeDiff, Nat.reduceEqDiff, Nat.reduceBEq] at h37
              obtain rfl := Option.some.inj h
              simp -implicitDefEqProofs only [go_sem, Nat.reduceAdd, Nat.reduceSub, Nat.reduceMul, Nat.reduceLT, Nat.reduceLeDiff, Nat.reduceEqDiff, Nat.reduceBEq, hc35, h37, mkSl]
              first | exact ⟨_, rfl, rfl⟩ | exact ⟨_, rfl, by simp only [hc35]⟩
            · rw [if_neg hc35] at h
              replace hc35 := (Bool.not_eq_true _).mp hc35
              obtain rfl := Option.some.inj h
              obtain rfl := hx31 _ rfl
              obtain rfl := hx27 _ rfl
              simp -implicitDefEqProofs only [go_sem, Nat.reduceAdd, Nat.reduceSub, Nat.reduceMul, Nat.reduceLT, Nat.reduceLeDiff, Nat.reduceEqDiff, Nat.reduceBEq, hc35, mkSl]
          · rw [if_neg hc32] at h
            obtain rfl := Option.some.inj h
            obtain rfl := hx31 _ rfl
            simp -implicitDefEqProofs only [go_sem, Nat.reduceAdd, Nat.reduceSub, Nat.reduceMul, Nat.reduceLT, Nat.reduceLeDiff, Nat.reduceEqDiff, Nat.reduceBEq, hc32, mkSl]
            exact ⟨_, rfl, rfl⟩
        · intro s10 hi38
          have h := hk29 _ hi38
          clear h28 hx27 hk29 hi38
          simp -implicitDefEqProofs only [go_sem, Nat.reduceAdd, Nat.reduceSub, Nat.reduceMul, Nat.reduceLT, Nat.reduceLeDiff, Nat.reduceEqDiff, Nat.reduceBEq, mkSl]
          refine wpLoop_run' (step := cmd_numbers_l5_step r2 s10) (fun s15 => mkSl 73 [(6, .ptr 0 0), (7, .sl .own (s10.map (En.int .i64).enc)), (55, .sl .view (s10.map (En.int .i64).enc)), (56, .lit (.int .i64 (s10.length : Int))), (57, .lit (.int .i64 s15))]) (fun s15 => [.var [.lit (.int .i64 r2.count), .lit (.int .i64 r2.least), .lit (.int .i64 r2.most), .lit (.int .i64 r2.without)]]) h (by kernel_rfl) (by first | rfl | simp -implicitDefEqProofs only [go_sem, Nat.reduceAdd, Nat.reduceSub, Nat.reduceMul, Nat.reduceLT, Nat.reduceLeDiff, Nat.reduceEqDiff, Nat.reduceBEq, mkSl, mkSl]) (by first | rfl | simp -implicitDefEqProofs only [go_sem, Nat.reduceAdd, Nat.reduceSub, Nat.reduceMul, Nat.reduceLT, Nat.reduceLeDiff, Nat.reduceEqDiff, Nat.reduceBEq, mkSl]) ?_
          clear h
          intro s15 xx39 h hx40
          unfold cmd_numbers_l5_step at h
          by_cases hc41 : s15 < (s10.length : Int)
          · rw [if_pos hc41] at h
            obtain ⟨x16, h42, h⟩ := bind_some h
            by_cases hc43 : x16 < r2.least
            · rw [if_pos hc43] at h
              obtain rfl := Option.some.inj h
              obtain rfl := hx40 _ rfl
              simp -implicitDefEqProofs only [go_sem, Nat.reduceAdd, Nat.reduceSub, Nat.reduceMul, Nat.reduceLT, Nat.reduceLeDiff, Nat.reduceEqDiff, Nat.reduceBEq, hc41, h42, hc43, mkSl]
            · rw [if_neg hc43] at h
              by_cases hc44 : r2.most < x16
              · rw [if_pos hc44] at h
                obtain rfl := Option.some.inj h
                obtain rfl := hx40 _ rfl
                simp -implicitDefEqProofs only [go_sem, Nat.reduceAdd, Nat.reduceSub, Nat.reduceMul, Nat.reduceLT, Nat.reduceLeDiff, Nat.reduceEqDiff, Nat.reduceBEq, hc41, h42, hc43, hc44, mkSl]
              · rw [if_neg hc44] at h
                obtain rfl := Option.some.inj h
                simp -implicitDefEqProofs only [go_sem, Nat.reduceAdd, Nat.reduceSub, Nat.reduceMul, Nat.reduceLT, Nat.reduceLeDiff, Nat.reduceEqDiff, Nat.reduceBEq, hc41, h42, hc43, hc44, mkSl]
                exact ⟨_, rfl, rfl⟩
          · rw [if_neg hc41] at h
            obtain rfl := Option.some.inj h
            obtain rfl := hx40 _ rfl
            simp -implicitDefEqProofs only [go_sem, Nat.reduceAdd, Nat.reduceSub, Nat.reduceMul, Nat.reduceLT, Nat.reduceLeDiff, Nat.reduceEqDiff, Nat.reduceBEq, hc41, mkSl]
  · rw [if_neg hc2] at h
    replace hc2 := (Bool.not_eq_true _).mp hc2
    by_cases hc45 : ((a1.length : Int) != r2.count) = true
    · rw [if_pos hc45] at h
      obtain rfl := Option.some.inj h
      simp -implicitDefEqProofs only [go_sem, Nat.reduceAdd, Nat.reduceSub, Nat.reduceMul, Nat.reduceLT, Nat.reduceLeDiff, Nat.reduceEqDiff, Nat.reduceBEq, hc2, hc45]
    · rw [if_neg hc45] at h
      replace hc45 := (Bool.not_eq_true _).mp hc45
      simp -implicitDefEqProofs only [go_sem, Nat.reduceAdd, Nat.reduceSub, Nat.reduceMul, Nat.reduceLT, Nat.reduceLeDiff, Nat.reduceEqDiff, Nat.reduceBEq, hc2, hc45]
      obtain ⟨xx46, h48, hk49, hx47⟩ := jn_some h
      clear h
      refine seqK_join (x := xx46) (fun s17 => mkSl 73 [(6, .ptr 0 0), (7, .sl .own (s17.map (En.int .i64).enc))]) (fun s17 => [.var [.lit (.int .i64 r2.count), .lit (.int .i64 r2.least), .lit (.int .i64 r2.most), .lit (.int .i64 r2.without)]]) ?_ ?_
      · clear hk49
        unfold cmd_numbers_j6 at h48
        have h := h48
        clear h48
        simp -implicitDefEqProofs only [go_sem, Nat.reduceAdd, Nat.reduceSub, Nat.reduceMul, Nat.reduceLT, Nat.reduceLeDiff, Nat.reduceEqDiff, Nat.reduceBEq]
        refine wpLoop_run' (step := cmd_numbers_l7_step a1) (fun s18 => mkSl 73 [(6, .ptr 0 0), (7, .sl .own (s18.1.map (En.int .i64).enc)), (37, .sl .view (a1.map En.str.enc)), (38, .lit (.int .i64 (a1.length : Int))), (39, .lit (.int .i64 s18.2))]) (fun s18 => [.var [.lit (.int .i64 r2.count), .lit (.int .i64 r2.least), .lit (.int .i64 r2.most), .lit (.int .i64 r2.without)]]) h (by kernel_rfl) (by first | rfl | simp -implicitDefEqProofs only [go_sem, Nat.reduceAdd, Nat.reduceSub, Nat.reduceMul, Nat.reduceLT, Nat.reduceLeDiff, Nat.reduceEqDiff, Nat.reduceBEq, mkSl]) (by first | rfl | simp -implicitDefEqProofs only [go_sem, Nat.reduceAdd, Nat.reduceSub, Nat.reduceMul, Nat.reduceLT, Nat.reduceLeDiff, Nat.reduceEqDiff, Nat.reduceBEq]) ?_
        clear h
        intro s18 xx50 h hx51
        unfold cmd_numbers_l7_step at h
        by_cases hc52 : s18.2 < (a1.length : Int)
        · rw [if_pos hc52] at h
          obtain ⟨x19, h53, h⟩ := bind_some h
          simp -implicitDefEqProofs only [go_sem, Nat.reduceAdd, Nat.reduceSub, Nat.reduceMul, Nat.reduceLT, Nat.reduceLeDiff, Nat.reduceEqDiff, Nat.reduceBEq, hc52, h53, mkSl]
          obtain ⟨r20, h54, h⟩ := bind_some h
          refine Vc.mono (cmd_number_ok h54) ?_
          rintro _ _ rfl
          by_cases hc55 : r20.2 = true
          · rw [if_pos hc55] at h
            obtain ⟨l21, h56, h⟩ := bind_some h
            have h57 := vappend_en (En.int .i64) (P := Tryz.prog) (t := 24) (f := .own) h56 (by simp -implicitDefEqProofs only [go_sem, Nat.reduceAdd, Nat.reduceSub, Nat.reduceMul, Nat.reduceLT, Nat.reduceLeDiff, Nat.reduceEqDiff, Nat.reduceBEq, Option.map_some])
            simp -implicitDefEqProofs only [go_sem, Nat.reduceAdd, Nat.reduceSub, Nat.reduceMul, Nat.reduceLT, Nat.reduceLeDiff, Nat.reduceEqDiff, Nat.reduceBEq] at h57
            obtain rfl := Option.some.inj h
            simp -implicitDefEqProofs only [go_sem, Nat.reduceAdd, Nat.reduceSub, Nat.reduceMul, Nat.reduceLT, Nat.reduceLeDiff, Nat.reduceEqDiff, Nat.reduceBEq, hc55, h57, mkSl]
            first | exact ⟨_, rfl, rfl⟩ | exact ⟨_, rfl, by simp only [hc55]⟩
          · rw [if_neg hc55] at h
            replace hc55 := (Bool.not_eq_true _).mp hc55
            obtain rfl := Option.some.inj h
            obtain rfl := hx51 _ rfl
            obtain rfl := hx47 _ rfl
            simp -implicitDefEqProofs only [go_sem, Nat.reduceAdd, Nat.reduceSub, Nat.reduceMul, Nat.reduceLT, Nat.reduceLeDiff, Nat.reduceEqDiff, Nat.reduceBEq, hc55, mkSl]
        · rw [if_neg hc52] at h
          obtain rfl := Option.some.inj h
          obtain rfl := hx51 _ rfl
          simp -implicitDefEqProofs only [go_sem, Nat.reduceAdd, Nat.reduceSub, Nat.reduceMul, Nat.reduceLT, Nat.reduceLeDiff, Nat.reduceEqDiff, Nat.reduceBEq, hc52, mkSl]
          exact ⟨_, rfl, rfl⟩
      · intro s17 hi58
        have h := hk49 _ hi58
        clear h48 hx47 hk49 hi58
        simp -implicitDefEqProofs only [go_sem, Nat.reduceAdd, Nat.reduceSub, Nat.reduceMul, Nat.reduceLT, Nat.reduceLeDiff, Nat.reduceEqDiff, Nat.reduceBEq, mkSl]
        refine wpLoop_run' (step := cmd_numbers_l8_step r2 s17) (fun s22 => mkSl 73 [(6, .ptr 0 0), (7, .sl .own (s17.map (En.int .i64).enc)), (55, .sl .view (s17.map (En.int .i64).enc)), (56, .lit (.int .i64 (s17.length : Int))), (57, .lit (.int .i64 s22))]) (fun s22 => [.var [.lit (.int .i64 r2.count), .lit (.int .i64 r2.least), .lit (.int .i64 r2.most), .lit (.int .i64 r2.without)]]) h (by kernel_rfl) (by first | rfl | simp -implicitDefEqProofs only [go_sem, Nat.reduceAdd, Nat.reduceSub, Nat.reduceMul, Nat.reduceLT, Nat.reduceLeDiff, Nat.reduceEqDiff, Nat.reduceBEq, mkSl, mkSl]) (by first | rfl | simp -implicitDefEqProofs only [go_sem, Nat.reduceAdd, Nat.reduceSub, Nat.reduceMul, Nat.reduceLT, Nat.reduceLeDiff, Nat.reduceEqDiff, Nat.reduceBEq, mkSl]) ?_
        clear h
        intro s22 xx59 h hx60
        unfold cmd_numbers_l8_step at h
        by_cases hc61 : s22 < (s17.length : Int)
        · rw [if_pos hc61] at h
          obtain ⟨x23, h62, h⟩ := bind_some h
          by_cases hc63 : x23 < r2.least
          · rw [if_pos hc63] at h
            obtain rfl := Option.some.inj h
            obtain rfl := hx60 _ rfl
            simp -implicitDefEqProofs only [go_sem, Nat.reduceAdd, Nat.reduceSub, Nat.reduceMul, Nat.reduceLT, Nat.reduceLeDiff, Nat.reduceEqDiff, Nat.reduceBEq, hc61, h62, hc63, mkSl]
          · rw [if_neg hc63] at h
            by_cases hc64 : r2.most < x23
            · rw [if_pos hc64] at h
              obtain rfl := Option.some.inj h
              obtain rfl := hx60 _ rfl
              simp -implicitDefEqProofs only [go_sem, Nat.reduceAdd, Nat.reduceSub, Nat.reduceMul, Nat.reduceLT, Nat.reduceLeDiff, Nat.reduceEqDiff, Nat.reduceBEq, hc61, h62, hc63, hc64, mkSl]
            · rw [if_neg hc64] at h
              obtain rfl := Option.some.inj h
              simp -implicitDefEqProofs only [go_sem, Nat.reduceAdd, Nat.reduceSub, Nat.reduceMul, Nat.reduceLT, Nat.reduceLeDiff, Nat.reduceEqDiff, Nat.reduceBEq, hc61, h62, hc63, hc64, mkSl]
              exact ⟨_, rfl, rfl⟩
        · rw [if_neg hc61] at h
          obtain rfl := Option.some.inj h
          obtain rfl := hx60 _ rfl
          simp -implicitDefEqProofs only [go_sem, Nat.reduceAdd, Nat.reduceSub, Nat.reduceMul, Nat.reduceLT, Nat.reduceLeDiff, Nat.reduceEqDiff, Nat.reduceBEq, hc61, mkSl]
end Go.Proofs.YtilmjbljkkbakaaGreatDoor
