/-
  A part of the proof: lemmas.
-/
import Derived.Test.YtilmjbljkkbakaaGreatDoorCFactsc
import Derived.Test.YtilmjbljkkbakaaGreatDoorCFunsc
import Derived.Test.YtilmjbljkkbakaaGreatDoorCPr4c
import Derived.Test.YtilmjbljkkbakaaGreatDoorCPr10c
set_option linter.unusedSimpArgs false
set_option linter.unusedVariables false
set_option linter.unusedSectionVars false
set_option linter.unnecessarySimpa false
set_option linter.deprecated false
/-! The functions' proofs. -/
namespace Go.Proofs.YtilmjbljkkbakaaGreatDoor
open Go.Wv
set_option linter.unusedSimpArgs false
set_option linter.unusedVariables false
set_option maxRecDepth 10000
set_option maxHeartbeats 20000000
theorem strconv_FormatInt_ok {a0 : Int} {a1 : Int} {r : (List UInt8)} (h : strconv_FormatInt a0 a1 = some r) :
  Vc cfg 85 [.lit (.int .i64 a0), .lit (.int .i64 a1)] [] fun v _ => v = .lit (.string (bs r)) := by
  refine Vc_of (fn := Tryz.f85) rfl Tryz.func85 rfl Tryz.ntmps85 Tryz.results85 (by kernel_rfl) ?_
  conv => arg 3; whnf
  unfold strconv_FormatInt at h
  simp -implicitDefEqProofs only [go_sem, Nat.reduceAdd, Nat.reduceSub, Nat.reduceMul, Nat.reduceLT, Nat.reduceLeDiff, Nat.reduceEqDiff, Nat.reduceBEq]
  obtain ⟨r2, h1, h⟩ := bind_some h
  refine Vc.mono (internal_strconv_FormatInt_ok h1) ?_
  rintro _ _ rfl
  obtain rfl := Option.some.inj h
  simp -implicitDefEqProofs only [go_sem, Nat.reduceAdd, Nat.reduceSub, Nat.reduceMul, Nat.reduceLT, Nat.reduceLeDiff, Nat.reduceEqDiff, Nat.reduceBEq]
theorem internal_strconv_FormatBool_ok {a0 : Bool} {r : (List UInt8)} (h : internal_strconv_FormatBool a0 = some r) :
  Vc cfg 124 [.lit (.bool a0)] [] fun v _ => v = .lit (.string (bs r)) := by
  refine Vc_of (fn := Tryz.f124) rfl Tryz.func124 rfl Tryz.ntmps124 Tryz.results124 (by kernel_rfl) ?_
  conv => arg 3; whnf
  unfold internal_strconv_FormatBool at h
  by_cases hc1 : a0 = true
  · rw [if_pos hc1] at h
    obtain rfl := Option.some.inj h
    simp -implicitDefEqProofs only [go_sem, Nat.reduceAdd, Nat.reduceSub, Nat.reduceMul, Nat.reduceLT, Nat.reduceLeDiff, Nat.reduceEqDiff, Nat.reduceBEq, hc1]
  · rw [if_neg hc1] at h
    replace hc1 := (Bool.not_eq_true _).mp hc1
    obtain rfl := Option.some.inj h
    simp -implicitDefEqProofs only [go_sem, Nat.reduceAdd, Nat.reduceSub, Nat.reduceMul, Nat.reduceLT, Nat.reduceLeDiff, Nat.reduceEqDiff, Nat.reduceBEq, hc1]
theorem strconv_FormatBool_ok {a0 : Bool} {r : (List UInt8)} (h : strconv_FormatBool a0 = some r) :
  Vc cfg 86 [.lit (.bool a0)] [] fun v _ => v = .lit (.string (bs r)) := by
  refine Vc_of (fn := Tryz.f86) rfl Tryz.func86 rfl Tryz.ntmps86 Tryz.results86 (by kernel_rfl) ?_
  conv => arg 3; whnf
  unfold strconv_FormatBool at h
  simp -implicitDefEqProofs only [go_sem, Nat.reduceAdd, Nat.reduceSub, Nat.reduceMul, Nat.reduceLT, Nat.reduceLeDiff, Nat.reduceEqDiff, Nat.reduceBEq]
  obtain ⟨r1, h1, h⟩ := bind_some h
  refine Vc.mono (internal_strconv_FormatBool_ok h1) ?_
  rintro _ _ rfl
  obtain rfl := Option.some.inj h
  simp -implicitDefEqProofs only [go_sem, Nat.reduceAdd, Nat.reduceSub, Nat.reduceMul, Nat.reduceLT, Nat.reduceLeDiff, Nat.reduceEqDiff, Nat.reduceBEq]
theorem val_Value_Show_ok {a0 : ValValue} {r : (List UInt8)} (h : val_Value_Show a0 = some r) :
  Vc cfg 52 [.agg [.lit (.int .i64 a0.Kind), .lit (.int .i64 a0.N), .lit (.string (bs a0.S))]] [] fun v _ => v = .lit (.string (bs r)) := by
  refine Vc_of (fn := Tryz.f52) rfl Tryz.func52 rfl Tryz.ntmps52 Tryz.results52 (by kernel_rfl) ?_
  conv => arg 3; whnf
  unfold val_Value_Show at h
  by_cases hc1 : (a0.Kind == 1) = true
  · rw [if_pos hc1] at h
    simp -implicitDefEqProofs only [go_sem, Nat.reduceAdd, Nat.reduceSub, Nat.reduceMul, Nat.reduceLT, Nat.reduceLeDiff, Nat.reduceEqDiff, Nat.reduceBEq, hc1]
    obtain ⟨r1, h2, h⟩ := bind_some h
    refine Vc.mono (strconv_FormatInt_ok h2) ?_
    rintro _ _ rfl
    obtain rfl := Option.some.inj h
    simp -implicitDefEqProofs only [go_sem, Nat.reduceAdd, Nat.reduceSub, Nat.reduceMul, Nat.reduceLT, Nat.reduceLeDiff, Nat.reduceEqDiff, Nat.reduceBEq]
  · rw [if_neg hc1] at h
    replace hc1 := (Bool.not_eq_true _).mp hc1
    by_cases hc3 : (a0.Kind == 2) = true
    · rw [if_pos hc3] at h
      simp -implicitDefEqProofs only [go_sem, Nat.reduceAdd, Nat.reduceSub, Nat.reduceMul, Nat.reduceLT, Nat.reduceLeDiff, Nat.reduceEqDiff, Nat.reduceBEq, hc1, hc3]
      obtain ⟨r2, h4, h⟩ := bind_some h
      refine Vc.mono (strconv_FormatBool_ok h4) ?_
      rintro _ _ rfl
      obtain rfl := Option.some.inj h
      simp -implicitDefEqProofs only [go_sem, Nat.reduceAdd, Nat.reduceSub, Nat.reduceMul, Nat.reduceLT, Nat.reduceLeDiff, Nat.reduceEqDiff, Nat.reduceBEq]
    · rw [if_neg hc3] at h
      replace hc3 := (Bool.not_eq_true _).mp hc3
      obtain ⟨s3, h5, h⟩ := bind_some h
      obtain ⟨s4, h6, h⟩ := bind_some h
      obtain rfl := Option.some.inj h
      simp -implicitDefEqProofs only [go_sem, Nat.reduceAdd, Nat.reduceSub, Nat.reduceMul, Nat.reduceLT, Nat.reduceLeDiff, Nat.reduceEqDiff, Nat.reduceBEq, hc1, hc3, h5, h6]
theorem expr_sign_ok {a0 : Int} {r : (List UInt8)} (h : expr_sign a0 = some r) :
  Vc cfg 142 [.lit (.int .i64 a0)] [] fun v _ => v = .lit (.string (bs r)) := by
  refine Vc_of (fn := Tryz.f142) rfl Tryz.func142 rfl Tryz.ntmps142 Tryz.results142 (by kernel_rfl) ?_
  conv => arg 3; whnf
  unfold expr_sign at h
  simp -implicitDefEqProofs only [go_sem, Nat.reduceAdd, Nat.reduceSub, Nat.reduceMul, Nat.reduceLT, Nat.reduceLeDiff, Nat.reduceEqDiff, Nat.reduceBEq]
  obtain ⟨r1, h1, h⟩ := bind_some h
  refine Vc.mono (expr_levels_ok h1) ?_
  rintro _ _ rfl
  simp -implicitDefEqProofs only [go_sem, Nat.reduceAdd, Nat.reduceSub, Nat.reduceMul, Nat.reduceLT, Nat.reduceLeDiff, Nat.reduceEqDiff, Nat.reduceBEq]
  refine wpLoop_run' (step := expr_sign_l0_step a0 r1) (fun s2 => mkSl 31 [(0, .lit (.int .i64 a0)), (7, .sl .view (r1.map ExprLevel.en.enc)), (8, .lit (.int .i64 (r1.length : Int))), (9, .lit (.int .i64 s2))]) (fun s2 => []) h (by kernel_rfl) (by first | rfl | simp -implicitDefEqProofs only [go_sem, Nat.reduceAdd, Nat.reduceSub, Nat.reduceMul, Nat.reduceLT, Nat.reduceLeDiff, Nat.reduceEqDiff, Nat.reduceBEq, mkSl]) (by first | rfl | simp -implicitDefEqProofs only [go_sem, Nat.reduceAdd, Nat.reduceSub, Nat.reduceMul, Nat.reduceLT, Nat.reduceLeDiff, Nat.reduceEqDiff, Nat.reduceBEq]) ?_
  clear h
  intro s2 xx2 h hx3
  unfold expr_sign_l0_step at h
  by_cases hc4 : s2 < (r1.length : Int)
  · rw [if_pos hc4] at h
    obtain ⟨x3, h5, h⟩ := bind_some h
    simp -implicitDefEqProofs only [go_sem, Nat.reduceAdd, Nat.reduceSub, Nat.reduceMul, Nat.reduceLT, Nat.reduceLeDiff, Nat.reduceEqDiff, Nat.reduceBEq, hc4, h5, mkSl]
    refine wpLoop_run' (step := expr_sign_l1_step a0 s2 x3) (fun s4 => mkSl 31 [(0, .lit (.int .i64 a0)), (4, .ptr 0 0), (7, .sl .view (r1.map ExprLevel.en.enc)), (8, .lit (.int .i64 (r1.length : Int))), (9, .lit (.int .i64 s2)), (14, .sl .view (x3.ops.map (En.int .i64).enc)), (15, .lit (.int .i64 (x3.ops.length : Int))), (16, .lit (.int .i64 s4))]) (fun s4 => [.var [.sl .view (x3.signs.map En.str.enc), .sl .view (x3.ops.map (En.int .i64).enc), .lit (.bool x3.once)]]) h (by kernel_rfl) (by first | rfl | simp -implicitDefEqProofs only [go_sem, Nat.reduceAdd, Nat.reduceSub, Nat.reduceMul, Nat.reduceLT, Nat.reduceLeDiff, Nat.reduceEqDiff, Nat.reduceBEq, mkSl, mkSl]) (by first | rfl | simp -implicitDefEqProofs only [go_sem, Nat.reduceAdd, Nat.reduceSub, Nat.reduceMul, Nat.reduceLT, Nat.reduceLeDiff, Nat.reduceEqDiff, Nat.reduceBEq, mkSl]) ?_
    clear h
    intro s4 xx6 h hx7
    unfold expr_sign_l1_step at h
    by_cases hc8 : s4 < (x3.ops.length : Int)
    · rw [if_pos hc8] at h
      obtain ⟨x5, h9, h⟩ := bind_some h
      by_cases hc10 : (x5 == a0) = true
      · rw [if_pos hc10] at h
        obtain ⟨x6, h11, h⟩ := bind_some h
        obtain rfl := Option.some.inj h
        obtain rfl := hx7 _ rfl
        obtain rfl := hx3 _ rfl
        simp -implicitDefEqProofs only [go_sem, Nat.reduceAdd, Nat.reduceSub, Nat.reduceMul, Nat.reduceLT, Nat.reduceLeDiff, Nat.reduceEqDiff, Nat.reduceBEq, hc8, h9, hc10, h11, mkSl]
      · rw [if_neg hc10] at h
        replace hc10 := (Bool.not_eq_true _).mp hc10
        obtain rfl := Option.some.inj h
        simp -implicitDefEqProofs only [go_sem, Nat.reduceAdd, Nat.reduceSub, Nat.reduceMul, Nat.reduceLT, Nat.reduceLeDiff, Nat.reduceEqDiff, Nat.reduceBEq, hc8, h9, hc10, mkSl]
        exact ⟨_, rfl, rfl⟩
    · rw [if_neg hc8] at h
      obtain rfl := Option.some.inj h
      obtain rfl := hx7 _ rfl
      simp -implicitDefEqProofs only [go_sem, Nat.reduceAdd, Nat.reduceSub, Nat.reduceMul, Nat.reduceLT, Nat.reduceLeDiff, Nat.reduceEqDiff, Nat.reduceBEq, hc8, mkSl]
      exact ⟨_, rfl, rfl⟩
  · rw [if_neg hc4] at h
    obtain rfl := Option.some.inj h
    obtain rfl := hx3 _ rfl
    simp -implicitDefEqProofs only [go_sem, Nat.reduceAdd, Nat.reduceSub, Nat.reduceMul, Nat.reduceLT, Nat.reduceLeDiff, Nat.reduceEqDiff, Nat.reduceBEq, hc4, mkSl]
def expr_Expr_node_spec (F : (List ExprNode) → Int → Option ((List UInt8))) : Prop := ∀ {a0 : List ExprNode} {a1 : Int} {r : (List UInt8)} (h : F a0 a1 = some r), Vc cfg 115 [.sl .view (a0.map ExprNode.en.enc), .lit (.int .i64 a1)] [] fun v _ => v = .lit (.string (bs r))
def expr_Expr_part_spec (F : (List ExprNode) → Int → Int → Option ((List UInt8))) : Prop := ∀ {a0 : List ExprNode} {a1 : Int} {a2 : Int} {r : (List UInt8)} (h : F a0 a1 a2 = some r), Vc cfg 141 [.sl .view (a0.map ExprNode.en.enc), .lit (.int .i64 a1), .lit (.int .i64 a2)] [] fun v _ => v = .lit (.string (bs r))
theorem expr_Expr_node_F_ok {R : expr_Expr_node_Rec} {a0 : List ExprNode} {a1 : Int} {r : (List UInt8)} (hR_expr_Expr_node : expr_Expr_node_spec R.expr_Expr_node) (hR_expr_Expr_part : expr_Expr_part_spec R.expr_Expr_part) (h : expr_Expr_node_F R a0 a1 = some r) :
  Vc cfg 115 [.sl .view (a0.map ExprNode.en.enc), .lit (.int .i64 a1)] [] fun v _ => v = .lit (.string (bs r)) := by
  refine Vc_of (fn := Tryz.f115) rfl Tryz.func115 rfl Tryz.ntmps115 Tryz.results115 (by kernel_rfl) ?_
  conv => arg 3; whnf
  unfold expr_Expr_node_F at h
  obtain ⟨x2, h1, h⟩ := bind_some h
  simp -implicitDefEqProofs only [go_sem, Nat.reduceAdd, Nat.reduceSub, Nat.reduceMul, Nat.reduceLT, Nat.reduceLeDiff, Nat.reduceEqDiff, Nat.reduceBEq, h1]
  obtain ⟨r3, h2, h⟩ := bind_some h
  refine Vc.mono (expr_tight_ok h2) ?_
  rintro _ _ rfl
  by_cases hc3 : (x2.Op == 0) = true
  · rw [if_pos hc3] at h
    simp -implicitDefEqProofs only [go_sem, Nat.reduceAdd, Nat.reduceSub, Nat.reduceMul, Nat.reduceLT, Nat.reduceLeDiff, Nat.reduceEqDiff, Nat.reduceBEq, hc3]
    obtain ⟨r4, h4, h⟩ := bind_some h
    refine Vc.mono (val_Value_Show_ok h4) ?_
    rintro _ _ rfl
    obtain rfl := Option.some.inj h
    simp -implicitDefEqProofs only [go_sem, Nat.reduceAdd, Nat.reduceSub, Nat.reduceMul, Nat.reduceLT, Nat.reduceLeDiff, Nat.reduceEqDiff, Nat.reduceBEq]
  · rw [if_neg hc3] at h
    replace hc3 := (Bool.not_eq_true _).mp hc3
    by_cases hc5 : (x2.Op == 16) = true
    · rw [if_pos hc5] at h
      obtain rfl := Option.some.inj h
      simp -implicitDefEqProofs only [go_sem, Nat.reduceAdd, Nat.reduceSub, Nat.reduceMul, Nat.reduceLT, Nat.reduceLeDiff, Nat.reduceEqDiff, Nat.reduceBEq, hc3, hc5]
    · rw [if_neg hc5] at h
      replace hc5 := (Bool.not_eq_true _).mp hc5
      by_cases hc6 : (x2.Op == 17) = true
      · rw [if_pos hc6] at h
        obtain ⟨s5, h7, h⟩ := bind_some h
        obtain ⟨s6, h8, h⟩ := bind_some h
        obtain rfl := Option.some.inj h
        simp -implicitDefEqProofs only [go_sem, Nat.reduceAdd, Nat.reduceSub, Nat.reduceMul, Nat.reduceLT, Nat.reduceLeDiff, Nat.reduceEqDiff, Nat.reduceBEq, hc3, hc5, hc6, h7, h8]
      · rw [if_neg hc6] at h
        replace hc6 := (Bool.not_eq_true _).mp hc6
        by_cases hc9 : (x2.Op == 1) = true
        · rw [if_pos hc9] at h
          simp -implicitDefEqProofs only [go_sem, Nat.reduceAdd, Nat.reduceSub, Nat.reduceMul, Nat.reduceLT, Nat.reduceLeDiff, Nat.reduceEqDiff, Nat.reduceBEq, hc3, hc5, hc6, hc9]
          obtain ⟨r7, h10, h⟩ := bind_some h
          refine Vc.mono (hR_expr_Expr_part h10) ?_
          rintro _ _ rfl
          obtain ⟨s8, h11, h⟩ := bind_some h
          obtain rfl := Option.some.inj h
          simp -implicitDefEqProofs only [go_sem, Nat.reduceAdd, Nat.reduceSub, Nat.reduceMul, Nat.reduceLT, Nat.reduceLeDiff, Nat.reduceEqDiff, Nat.reduceBEq, h11]
        · rw [if_neg hc9] at h
          replace hc9 := (Bool.not_eq_true _).mp hc9
          by_cases hc12 : (x2.Op == 2) = true
          · rw [if_pos hc12] at h
            simp -implicitDefEqProofs only [go_sem, Nat.reduceAdd, Nat.reduceSub, Nat.reduceMul, Nat.reduceLT, Nat.reduceLeDiff, Nat.reduceEqDiff, Nat.reduceBEq, hc3, hc5, hc6, hc9, hc12]
            obtain ⟨r9, h13, h⟩ := bind_some h
            refine Vc.mono (hR_expr_Expr_part h13) ?_
            rintro _ _ rfl
            obtain ⟨s10, h14, h⟩ := bind_some h
            obtain rfl := Option.some.inj h
            simp -implicitDefEqProofs only [go_sem, Nat.reduceAdd, Nat.reduceSub, Nat.reduceMul, Nat.reduceLT, Nat.reduceLeDiff, Nat.reduceEqDiff, Nat.reduceBEq, h14]
          · rw [if_neg hc12] at h
            replace hc12 := (Bool.not_eq_true _).mp hc12
            simp -implicitDefEqProofs only [go_sem, Nat.reduceAdd, Nat.reduceSub, Nat.reduceMul, Nat.reduceLT, Nat.reduceLeDiff, Nat.reduceEqDiff, Nat.reduceBEq, hc3, hc5, hc6, hc9, hc12]
            obtain ⟨xx15, h17, hk18, hx16⟩ := jn_some h
            clear h
            refine seqK_join (x := xx15) (fun s11 => mkSl 85 [(0, .sl .view (a0.map ExprNode.en.enc)), (5, .ptr 0 0), (6, .lit (.int .i64 r3)), (7, .lit (.int .i64 s11))]) (fun s11 => [.var [.lit (.int .i64 x2.Op), .lit (.int .i64 x2.V.Kind), .lit (.int .i64 x2.V.N), .lit (.string (bs x2.V.S)), .lit (.string (bs x2.Name)), .lit (.int .i64 x2.L), .lit (.int .i64 x2.R)]]) ?_ ?_
            · clear hk18
              unfold expr_Expr_node_j0 at h17
              have h := h17
              clear h17
              by_cases hc19 : 8 ≤ x2.Op
              · rw [if_pos hc19] at h
                by_cases hc20 : x2.Op ≤ 13
                · rw [if_pos hc20] at h
                  obtain rfl := Option.some.inj h
                  simp -implicitDefEqProofs only [go_sem, Nat.reduceAdd, Nat.reduceSub, Nat.reduceMul, Nat.reduceLT, Nat.reduceLeDiff, Nat.reduceEqDiff, Nat.reduceBEq, hc19, hc20]
                  exact ⟨_, rfl, rfl⟩
                · rw [if_neg hc20] at h
                  obtain rfl := Option.some.inj h
                  simp -implicitDefEqProofs only [go_sem, Nat.reduceAdd, Nat.reduceSub, Nat.reduceMul, Nat.reduceLT, Nat.reduceLeDiff, Nat.reduceEqDiff, Nat.reduceBEq, hc19, hc20]
                  exact ⟨_, rfl, rfl⟩
              · rw [if_neg hc19] at h
                obtain rfl := Option.some.inj h
                simp -implicitDefEqProofs only [go_sem, Nat.reduceAdd, Nat.reduceSub, Nat.reduceMul, Nat.reduceLT, Nat.reduceLeDiff, Nat.reduceEqDiff, Nat.reduceBEq, hc19]
                exact ⟨_, rfl, rfl⟩
            · intro s11 hi21
              have h := hk18 _ hi21
              clear h17 hx16 hk18 hi21
              simp -implicitDefEqProofs only [go_sem, Nat.reduceAdd, Nat.reduceSub, Nat.reduceMul, Nat.reduceLT, Nat.reduceLeDiff, Nat.reduceEqDiff, Nat.reduceBEq, mkSl]
              obtain ⟨r12, h22, h⟩ := bind_some h
              refine Vc.mono (hR_expr_Expr_part h22) ?_
              rintro _ _ rfl
              obtain ⟨s13, h23, h⟩ := bind_some h
              simp -implicitDefEqProofs only [go_sem, Nat.reduceAdd, Nat.reduceSub, Nat.reduceMul, Nat.reduceLT, Nat.reduceLeDiff, Nat.reduceEqDiff, Nat.reduceBEq, h23, mkSl]
              obtain ⟨r14, h24, h⟩ := bind_some h
              refine Vc.mono (expr_sign_ok h24) ?_
              rintro _ _ rfl
              obtain ⟨s15, h25, h⟩ := bind_some h
              obtain ⟨s16, h26, h⟩ := bind_some h
              simp -implicitDefEqProofs only [go_sem, Nat.reduceAdd, Nat.reduceSub, Nat.reduceMul, Nat.reduceLT, Nat.reduceLeDiff, Nat.reduceEqDiff, Nat.reduceBEq, h25, h26, mkSl]
              obtain ⟨r17, h27, h⟩ := bind_some h
              refine Vc.mono (hR_expr_Expr_part h27) ?_
              rintro _ _ rfl
              obtain ⟨s18, h28, h⟩ := bind_some h
              obtain rfl := Option.some.inj h
              simp -implicitDefEqProofs only [go_sem, Nat.reduceAdd, Nat.reduceSub, Nat.reduceMul, Nat.reduceLT, Nat.reduceLeDiff, Nat.reduceEqDiff, Nat.reduceBEq, h28, mkSl]
theorem expr_Expr_part_F_ok {R : expr_Expr_node_Rec} {a0 : List ExprNode} {a1 : Int} {a2 : Int} {r : (List UInt8)} (hR_expr_Expr_node : expr_Expr_node_spec R.expr_Expr_node) (hR_expr_Expr_part : expr_Expr_part_spec R.expr_Expr_part) (h : expr_Expr_part_F R a0 a1 a2 = some r) :
  Vc cfg 141 [.sl .view (a0.map ExprNode.en.enc), .lit (.int .i64 a1), .lit (.int .i64 a2)] [] fun v _ => v = .lit (.string (bs r)) := by
  refine Vc_of (fn := Tryz.f141) rfl Tryz.func141 rfl Tryz.ntmps141 Tryz.results141 (by kernel_rfl) ?_
  conv => arg 3; whnf
  unfold expr_Expr_part_F at h
  simp -implicitDefEqProofs only [go_sem, Nat.reduceAdd, Nat.reduceSub, Nat.reduceMul, Nat.reduceLT, Nat.reduceLeDiff, Nat.reduceEqDiff, Nat.reduceBEq]
  obtain ⟨r3, h1, h⟩ := bind_some h
  refine Vc.mono (hR_expr_Expr_node h1) ?_
  rintro _ _ rfl
  obtain ⟨x4, h2, h⟩ := bind_some h
  simp -implicitDefEqProofs only [go_sem, Nat.reduceAdd, Nat.reduceSub, Nat.reduceMul, Nat.reduceLT, Nat.reduceLeDiff, Nat.reduceEqDiff, Nat.reduceBEq, h2]
  obtain ⟨r5, h3, h⟩ := bind_some h
  refine Vc.mono (expr_tight_ok h3) ?_
  rintro _ _ rfl
  by_cases hc4 : r5 < a2
  · rw [if_pos hc4] at h
    obtain ⟨s6, h5, h⟩ := bind_some h
    obtain ⟨s7, h6, h⟩ := bind_some h
    obtain rfl := Option.some.inj h
    simp -implicitDefEqProofs only [go_sem, Nat.reduceAdd, Nat.reduceSub, Nat.reduceMul, Nat.reduceLT, Nat.reduceLeDiff, Nat.reduceEqDiff, Nat.reduceBEq, hc4, h5, h6]
  · rw [if_neg hc4] at h
    obtain rfl := Option.some.inj h
    simp -implicitDefEqProofs only [go_sem, Nat.reduceAdd, Nat.reduceSub, Nat.reduceMul, Nat.reduceLT, Nat.reduceLeDiff, Nat.reduceEqDiff, Nat.reduceBEq, hc4]
theorem expr_Expr_node_specs : ∀ k, expr_Expr_node_spec (expr_Expr_node_rec k).expr_Expr_node ∧ expr_Expr_part_spec (expr_Expr_node_rec k).expr_Expr_part
  | 0 => ⟨(by unfold expr_Expr_node_spec; intros; rename_i h; cases h), (by unfold expr_Expr_part_spec; intros; rename_i h; cases h)⟩
  | k + 1 => by
    obtain ⟨q115, q141⟩ := expr_Expr_node_specs k
    exact ⟨expr_Expr_node_F_ok q115 q141, expr_Expr_part_F_ok q115 q141⟩
theorem expr_Expr_node_ok : expr_Expr_node_spec expr_Expr_node := by
  try unfold expr_Expr_node_spec
  intros
  rename_i h
  obtain ⟨k0, h0⟩ := (expr_Expr_node_lim _ _).1 _ h
  exact (expr_Expr_node_specs k0).1 (h0 k0 (Nat.le_refl _))
theorem expr_Expr_part_ok : expr_Expr_part_spec expr_Expr_part := by
  try unfold expr_Expr_part_spec
  intros
  rename_i h
  obtain ⟨k0, h0⟩ := (expr_Expr_part_lim _ _ _).1 _ h
  exact (expr_Expr_node_specs k0).2 (h0 k0 (Nat.le_refl _))
end Go.Proofs.YtilmjbljkkbakaaGreatDoor
