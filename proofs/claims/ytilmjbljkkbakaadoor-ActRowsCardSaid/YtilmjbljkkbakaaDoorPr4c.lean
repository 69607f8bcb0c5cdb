/-
  A part of the proof: lemmas.
-/
import Derived.Test.YtilmjbljkkbakaaDoorFactsc
import Derived.Test.YtilmjbljkkbakaaDoorFunsc
import Derived.Test.YtilmjbljkkbakaaDoorPr0c
import Derived.Test.YtilmjbljkkbakaaDoorPr1c
import Derived.Test.YtilmjbljkkbakaaDoorPr2c
set_option linter.unusedSimpArgs false
set_option linter.unusedVariables false
set_option linter.unusedSectionVars false
set_option linter.unnecessarySimpa false
set_option linter.deprecated false
/-! The functions' proofs. -/
namespace Go.Proofs.YtilmjbljkkbakaaDoor
open Go.Wv
set_option linter.unusedSimpArgs false
set_option linter.unusedVariables false
set_option maxRecDepth 10000
set_option maxHeartbeats 20000000
theorem val_Value_Right_ok {a0 : ValValue} {r : Bool} (h : val_Value_Right a0 = some r) :
  Vc cfg 56 [.agg [.lit (.int .i64 a0.Kind), .lit (.int .i64 a0.N), .lit (.string (bs a0.S))]] [] fun v _ => v = .lit (.bool r) := by
  refine Vc_of (fn := Tryd.f56) rfl Tryd.func56 rfl Tryd.ntmps56 Tryd.results56 (by kernel_rfl) ?_
  conv => arg 3; whnf
  unfold val_Value_Right at h
  by_cases hc1 : (a0.Kind == 1) = true
  · rw [if_pos hc1] at h
    obtain rfl := Option.some.inj h
    simp -implicitDefEqProofs only [go_sem, Nat.reduceAdd, Nat.reduceSub, Nat.reduceMul, Nat.reduceLT, Nat.reduceLeDiff, Nat.reduceEqDiff, Nat.reduceBEq, hc1]
  · rw [if_neg hc1] at h
    replace hc1 := (Bool.not_eq_true _).mp hc1
    by_cases hc2 : (a0.Kind == 2) = true
    · rw [if_pos hc2] at h
      by_cases hc3 : (a0.S == []) = true
      · rw [if_pos hc3] at h
        by_cases hc4 : (a0.N == 0) = true
        · rw [if_pos hc4] at h
          obtain rfl := Option.some.inj h
          simp -implicitDefEqProofs only [go_sem, Nat.reduceAdd, Nat.reduceSub, Nat.reduceMul, Nat.reduceLT, Nat.reduceLeDiff, Nat.reduceEqDiff, Nat.reduceBEq, hc1, hc2, hc3, hc4]
        · rw [if_neg hc4] at h
          replace hc4 := (Bool.not_eq_true _).mp hc4
          obtain rfl := Option.some.inj h
          simp -implicitDefEqProofs only [go_sem, Nat.reduceAdd, Nat.reduceSub, Nat.reduceMul, Nat.reduceLT, Nat.reduceLeDiff, Nat.reduceEqDiff, Nat.reduceBEq, hc1, hc2, hc3, hc4]
      · rw [if_neg hc3] at h
        replace hc3 := (Bool.not_eq_true _).mp hc3
        obtain rfl := Option.some.inj h
        simp -implicitDefEqProofs only [go_sem, Nat.reduceAdd, Nat.reduceSub, Nat.reduceMul, Nat.reduceLT, Nat.reduceLeDiff, Nat.reduceEqDiff, Nat.reduceBEq, hc1, hc2, hc3]
    · rw [if_neg hc2] at h
      replace hc2 := (Bool.not_eq_true _).mp hc2
      by_cases hc5 : (a0.Kind == 3) = true
      · rw [if_pos hc5] at h
        by_cases hc6 : (a0.N == 0) = true
        · rw [if_pos hc6] at h
          simp -implicitDefEqProofs only [go_sem, Nat.reduceAdd, Nat.reduceSub, Nat.reduceMul, Nat.reduceLT, Nat.reduceLeDiff, Nat.reduceEqDiff, Nat.reduceBEq, hc1, hc2, hc5, hc6]
          obtain ⟨r1, h7, h⟩ := bind_some h
          refine Vc.mono (val_Plain_ok h7) ?_
          rintro _ _ rfl
          obtain rfl := Option.some.inj h
          simp -implicitDefEqProofs only [go_sem, Nat.reduceAdd, Nat.reduceSub, Nat.reduceMul, Nat.reduceLT, Nat.reduceLeDiff, Nat.reduceEqDiff, Nat.reduceBEq, hc6]
        · rw [if_neg hc6] at h
          replace hc6 := (Bool.not_eq_true _).mp hc6
          obtain rfl := Option.some.inj h
          simp -implicitDefEqProofs only [go_sem, Nat.reduceAdd, Nat.reduceSub, Nat.reduceMul, Nat.reduceLT, Nat.reduceLeDiff, Nat.reduceEqDiff, Nat.reduceBEq, hc1, hc2, hc5, hc6]
      · rw [if_neg hc5] at h
        replace hc5 := (Bool.not_eq_true _).mp hc5
        obtain rfl := Option.some.inj h
        simp -implicitDefEqProofs only [go_sem, Nat.reduceAdd, Nat.reduceSub, Nat.reduceMul, Nat.reduceLT, Nat.reduceLeDiff, Nat.reduceEqDiff, Nat.reduceBEq, hc1, hc2, hc5]
theorem tok_Name_ok {a0 : List UInt8} {r : Bool} (h : tok_Name a0 = some r) :
  Vc cfg 44 [.lit (.string (bs a0))] [] fun v _ => v = .lit (.bool r) := by
  refine Vc_of (fn := Tryd.f44) rfl Tryd.func44 rfl Tryd.ntmps44 Tryd.results44 (by kernel_rfl) ?_
  conv => arg 3; whnf
  unfold tok_Name at h
  simp -implicitDefEqProofs only [go_sem, Nat.reduceAdd, Nat.reduceSub, Nat.reduceMul, Nat.reduceLT, Nat.reduceLeDiff, Nat.reduceEqDiff, Nat.reduceBEq]
  obtain ⟨r1, h1, h⟩ := bind_some h
  refine Vc.mono (tok_Lex_ok h1) ?_
  rintro _ _ rfl
  by_cases hc2 : (r1.2.1 == 0) = true
  · rw [if_pos hc2] at h
    by_cases hc3 : ((r1.1.length : Int) == 1) = true
    · rw [if_pos hc3] at h
      obtain ⟨x2, h4, h⟩ := bind_some h
      by_cases hc5 : (x2.Kind == 1) = true
      · rw [if_pos hc5] at h
        by_cases hc6 : (x2.Text == a0) = true
        · rw [if_pos hc6] at h
          simp -implicitDefEqProofs only [go_sem, Nat.reduceAdd, Nat.reduceSub, Nat.reduceMul, Nat.reduceLT, Nat.reduceLeDiff, Nat.reduceEqDiff, Nat.reduceBEq, hc2, hc3, h4, hc5, hc6]
          obtain ⟨r3, h7, h⟩ := bind_some h
          refine Vc.mono (tok_Means_ok h7) ?_
          rintro _ _ rfl
          obtain rfl := Option.some.inj h
          simp -implicitDefEqProofs only [go_sem, Nat.reduceAdd, Nat.reduceSub, Nat.reduceMul, Nat.reduceLT, Nat.reduceLeDiff, Nat.reduceEqDiff, Nat.reduceBEq, hc6]
        · rw [if_neg hc6] at h
          replace hc6 := (Bool.not_eq_true _).mp hc6
          obtain rfl := Option.some.inj h
          simp -implicitDefEqProofs only [go_sem, Nat.reduceAdd, Nat.reduceSub, Nat.reduceMul, Nat.reduceLT, Nat.reduceLeDiff, Nat.reduceEqDiff, Nat.reduceBEq, hc2, hc3, h4, hc5, hc6]
      · rw [if_neg hc5] at h
        replace hc5 := (Bool.not_eq_true _).mp hc5
        obtain rfl := Option.some.inj h
        simp -implicitDefEqProofs only [go_sem, Nat.reduceAdd, Nat.reduceSub, Nat.reduceMul, Nat.reduceLT, Nat.reduceLeDiff, Nat.reduceEqDiff, Nat.reduceBEq, hc2, hc3, h4, hc5]
    · rw [if_neg hc3] at h
      replace hc3 := (Bool.not_eq_true _).mp hc3
      obtain rfl := Option.some.inj h
      simp -implicitDefEqProofs only [go_sem, Nat.reduceAdd, Nat.reduceSub, Nat.reduceMul, Nat.reduceLT, Nat.reduceLeDiff, Nat.reduceEqDiff, Nat.reduceBEq, hc2, hc3]
  · rw [if_neg hc2] at h
    replace hc2 := (Bool.not_eq_true _).mp hc2
    obtain rfl := Option.some.inj h
    simp -implicitDefEqProofs only [go_sem, Nat.reduceAdd, Nat.reduceSub, Nat.reduceMul, Nat.reduceLT, Nat.reduceLeDiff, Nat.reduceEqDiff, Nat.reduceBEq, hc2]
theorem expr_Node_right_ok {a0 : ExprNode} {a1 : Int} {r : Bool} (h : expr_Node_right a0 a1 = some r) :
  Vc cfg 29 [.agg [.lit (.int .i64 a0.Op), .lit (.int .i64 a0.V.Kind), .lit (.int .i64 a0.V.N), .lit (.string (bs a0.V.S)), .lit (.string (bs a0.Name)), .lit (.int .i64 a0.L), .lit (.int .i64 a0.R)], .lit (.int .i64 a1)] [] fun v _ => v = .lit (.bool r) := by
  refine Vc_of (fn := Tryd.f29) rfl Tryd.func29 rfl Tryd.ntmps29 Tryd.results29 (by kernel_rfl) ?_
  conv => arg 3; whnf
  unfold expr_Node_right at h
  by_cases hc1 : (a0.Op == 0) = true
  · rw [if_pos hc1] at h
    by_cases hc2 : ((a0.Name == []) && ((a0.L == 0) && (a0.R == 0))) = true
    · rw [if_pos hc2] at h
      simp -implicitDefEqProofs only [go_sem, Nat.reduceAdd, Nat.reduceSub, Nat.reduceMul, Nat.reduceLT, Nat.reduceLeDiff, Nat.reduceEqDiff, Nat.reduceBEq, hc1, hc2]
      obtain ⟨r2, h3, h⟩ := bind_some h
      refine Vc.mono (val_Value_Right_ok h3) ?_
      rintro _ _ rfl
      by_cases hc4 : r2 = true
      · rw [if_pos hc4] at h
        by_cases hc5 : (a0.V.Kind != 1) = true
        · rw [if_pos hc5] at h
          obtain rfl := Option.some.inj h
          simp -implicitDefEqProofs only [go_sem, Nat.reduceAdd, Nat.reduceSub, Nat.reduceMul, Nat.reduceLT, Nat.reduceLeDiff, Nat.reduceEqDiff, Nat.reduceBEq, hc2, hc4, hc5]
        · rw [if_neg hc5] at h
          replace hc5 := (Bool.not_eq_true _).mp hc5
          obtain rfl := Option.some.inj h
          simp -implicitDefEqProofs only [go_sem, Nat.reduceAdd, Nat.reduceSub, Nat.reduceMul, Nat.reduceLT, Nat.reduceLeDiff, Nat.reduceEqDiff, Nat.reduceBEq, hc2, hc4, hc5]
      · rw [if_neg hc4] at h
        replace hc4 := (Bool.not_eq_true _).mp hc4
        obtain rfl := Option.some.inj h
        simp -implicitDefEqProofs only [go_sem, Nat.reduceAdd, Nat.reduceSub, Nat.reduceMul, Nat.reduceLT, Nat.reduceLeDiff, Nat.reduceEqDiff, Nat.reduceBEq, hc2, hc4]
    · rw [if_neg hc2] at h
      replace hc2 := (Bool.not_eq_true _).mp hc2
      obtain rfl := Option.some.inj h
      simp -implicitDefEqProofs only [go_sem, Nat.reduceAdd, Nat.reduceSub, Nat.reduceMul, Nat.reduceLT, Nat.reduceLeDiff, Nat.reduceEqDiff, Nat.reduceBEq, hc1, hc2]
  · rw [if_neg hc1] at h
    replace hc1 := (Bool.not_eq_true _).mp hc1
    by_cases hc6 : (a0.Op == 16) = true
    · rw [if_pos hc6] at h
      by_cases hc7 : ((a0.V.Kind == 0) && ((a0.V.N == 0) && ((a0.V.S == []) && ((a0.L == 0) && (a0.R == 0))))) = true
      · rw [if_pos hc7] at h
        simp -implicitDefEqProofs only [go_sem, Nat.reduceAdd, Nat.reduceSub, Nat.reduceMul, Nat.reduceLT, Nat.reduceLeDiff, Nat.reduceEqDiff, Nat.reduceBEq, hc1, hc6, hc7]
        obtain ⟨r3, h8, h⟩ := bind_some h
        refine Vc.mono (tok_Name_ok h8) ?_
        rintro _ _ rfl
        obtain rfl := Option.some.inj h
        simp -implicitDefEqProofs only [go_sem, Nat.reduceAdd, Nat.reduceSub, Nat.reduceMul, Nat.reduceLT, Nat.reduceLeDiff, Nat.reduceEqDiff, Nat.reduceBEq, hc7]
      · rw [if_neg hc7] at h
        replace hc7 := (Bool.not_eq_true _).mp hc7
        obtain rfl := Option.some.inj h
        simp -implicitDefEqProofs only [go_sem, Nat.reduceAdd, Nat.reduceSub, Nat.reduceMul, Nat.reduceLT, Nat.reduceLeDiff, Nat.reduceEqDiff, Nat.reduceBEq, hc1, hc6, hc7]
    · rw [if_neg hc6] at h
      replace hc6 := (Bool.not_eq_true _).mp hc6
      by_cases hc9 : (a0.Op == 17) = true
      · rw [if_pos hc9] at h
        by_cases hc10 : ((a0.V.Kind == 0) && ((a0.V.N == 0) && ((a0.V.S == []) && ((a0.L == 0) && (a0.R == 0))))) = true
        · rw [if_pos hc10] at h
          simp -implicitDefEqProofs only [go_sem, Nat.reduceAdd, Nat.reduceSub, Nat.reduceMul, Nat.reduceLT, Nat.reduceLeDiff, Nat.reduceEqDiff, Nat.reduceBEq, hc1, hc6, hc9, hc10]
          obtain ⟨r4, h11, h⟩ := bind_some h
          refine Vc.mono (tok_Name_ok h11) ?_
          rintro _ _ rfl
          obtain rfl := Option.some.inj h
          simp -implicitDefEqProofs only [go_sem, Nat.reduceAdd, Nat.reduceSub, Nat.reduceMul, Nat.reduceLT, Nat.reduceLeDiff, Nat.reduceEqDiff, Nat.reduceBEq, hc10]
        · rw [if_neg hc10] at h
          replace hc10 := (Bool.not_eq_true _).mp hc10
          obtain rfl := Option.some.inj h
          simp -implicitDefEqProofs only [go_sem, Nat.reduceAdd, Nat.reduceSub, Nat.reduceMul, Nat.reduceLT, Nat.reduceLeDiff, Nat.reduceEqDiff, Nat.reduceBEq, hc1, hc6, hc9, hc10]
      · rw [if_neg hc9] at h
        replace hc9 := (Bool.not_eq_true _).mp hc9
        simp -implicitDefEqProofs only [go_sem, Nat.reduceAdd, Nat.reduceSub, Nat.reduceMul, Nat.reduceLT, Nat.reduceLeDiff, Nat.reduceEqDiff, Nat.reduceBEq, hc1, hc6, hc9]
        obtain ⟨r5, h12, h⟩ := bind_some h
        refine Vc.mono (expr_one_ok h12) ?_
        rintro _ _ rfl
        by_cases hc13 : r5 = true
        · rw [if_pos hc13] at h
          by_cases hc14 : ((a0.V.Kind == 0) && ((a0.V.N == 0) && ((a0.V.S == []) && ((a0.Name == []) && ((a0.L == (IntKind.i64.wrap (a1 - 1))) && (a0.R == 0)))))) = true
          · rw [if_pos hc14] at h
            by_cases hc15 : 0 ≤ a0.L
            · rw [if_pos hc15] at h
              obtain rfl := Option.some.inj h
              simp -implicitDefEqProofs only [go_sem, Nat.reduceAdd, Nat.reduceSub, Nat.reduceMul, Nat.reduceLT, Nat.reduceLeDiff, Nat.reduceEqDiff, Nat.reduceBEq, hc13, hc14, hc15]
            · rw [if_neg hc15] at h
              obtain rfl := Option.some.inj h
              simp -implicitDefEqProofs only [go_sem, Nat.reduceAdd, Nat.reduceSub, Nat.reduceMul, Nat.reduceLT, Nat.reduceLeDiff, Nat.reduceEqDiff, Nat.reduceBEq, hc13, hc14, hc15]
          · rw [if_neg hc14] at h
            replace hc14 := (Bool.not_eq_true _).mp hc14
            obtain rfl := Option.some.inj h
            simp -implicitDefEqProofs only [go_sem, Nat.reduceAdd, Nat.reduceSub, Nat.reduceMul, Nat.reduceLT, Nat.reduceLeDiff, Nat.reduceEqDiff, Nat.reduceBEq, hc13, hc14]
        · rw [if_neg hc13] at h
          replace hc13 := (Bool.not_eq_true _).mp hc13
          simp -implicitDefEqProofs only [go_sem, Nat.reduceAdd, Nat.reduceSub, Nat.reduceMul, Nat.reduceLT, Nat.reduceLeDiff, Nat.reduceEqDiff, Nat.reduceBEq, hc13]
          obtain ⟨r6, h16, h⟩ := bind_some h
          refine Vc.mono (expr_two_ok h16) ?_
          rintro _ _ rfl
          by_cases hc17 : r6 = true
          · rw [if_pos hc17] at h
            by_cases hc18 : ((a0.V.Kind == 0) && ((a0.V.N == 0) && ((a0.V.S == []) && ((a0.Name == []) && (a0.R == (IntKind.i64.wrap (a1 - 1))))))) = true
            · rw [if_pos hc18] at h
              by_cases hc19 : 0 ≤ a0.L
              · rw [if_pos hc19] at h
                obtain rfl := Option.some.inj h
                simp -implicitDefEqProofs only [go_sem, Nat.reduceAdd, Nat.reduceSub, Nat.reduceMul, Nat.reduceLT, Nat.reduceLeDiff, Nat.reduceEqDiff, Nat.reduceBEq, hc17, hc18, hc19]
              · rw [if_neg hc19] at h
                obtain rfl := Option.some.inj h
                simp -implicitDefEqProofs only [go_sem, Nat.reduceAdd, Nat.reduceSub, Nat.reduceMul, Nat.reduceLT, Nat.reduceLeDiff, Nat.reduceEqDiff, Nat.reduceBEq, hc17, hc18, hc19]
            · rw [if_neg hc18] at h
              replace hc18 := (Bool.not_eq_true _).mp hc18
              obtain rfl := Option.some.inj h
              simp -implicitDefEqProofs only [go_sem, Nat.reduceAdd, Nat.reduceSub, Nat.reduceMul, Nat.reduceLT, Nat.reduceLeDiff, Nat.reduceEqDiff, Nat.reduceBEq, hc17, hc18]
          · rw [if_neg hc17] at h
            replace hc17 := (Bool.not_eq_true _).mp hc17
            obtain rfl := Option.some.inj h
            simp -implicitDefEqProofs only [go_sem, Nat.reduceAdd, Nat.reduceSub, Nat.reduceMul, Nat.reduceLT, Nat.reduceLeDiff, Nat.reduceEqDiff, Nat.reduceBEq, hc17]
def expr_Expr_begins_spec (F : (List ExprNode) → Int → Option (Int)) : Prop := ∀ {a0 : List ExprNode} {a1 : Int} {r : Int} (h : F a0 a1 = some r), Vc cfg 30 [.sl .view (a0.map ExprNode.en.enc), .lit (.int .i64 a1)] [] fun v _ => v = .lit (.int .i64 r)
theorem expr_Expr_begins_F_ok {R : expr_Expr_begins_Rec} {a0 : List ExprNode} {a1 : Int} {r : Int} (hR_expr_Expr_begins : expr_Expr_begins_spec R.expr_Expr_begins) (h : expr_Expr_begins_F R a0 a1 = some r) :
  Vc cfg 30 [.sl .view (a0.map ExprNode.en.enc), .lit (.int .i64 a1)] [] fun v _ => v = .lit (.int .i64 r) := by
  refine Vc_of (fn := Tryd.f30) rfl Tryd.func30 rfl Tryd.ntmps30 Tryd.results30 (by kernel_rfl) ?_
  conv => arg 3; whnf
  unfold expr_Expr_begins_F at h
  simp -implicitDefEqProofs only [go_sem, Nat.reduceAdd, Nat.reduceSub, Nat.reduceMul, Nat.reduceLT, Nat.reduceLeDiff, Nat.reduceEqDiff, Nat.reduceBEq]
  refine wpLoop_run' (step := expr_Expr_begins_l0_step R a0) (fun s2 => mkSl 50 [(0, .sl .view (a0.map ExprNode.en.enc)), (1, .lit (.int .i64 s2))]) (fun s2 => []) h (by kernel_rfl) (by first | rfl | simp -implicitDefEqProofs only [go_sem, Nat.reduceAdd, Nat.reduceSub, Nat.reduceMul, Nat.reduceLT, Nat.reduceLeDiff, Nat.reduceEqDiff, Nat.reduceBEq, mkSl]) (by first | rfl | simp -implicitDefEqProofs only [go_sem, Nat.reduceAdd, Nat.reduceSub, Nat.reduceMul, Nat.reduceLT, Nat.reduceLeDiff, Nat.reduceEqDiff, Nat.reduceBEq]) ?_
  clear h
  intro s2 xx1 h hx2
  unfold expr_Expr_begins_l0_step at h
  by_cases hc3 : 0 ≤ s2
  · rw [if_pos hc3] at h
    by_cases hc4 : s2 < (a0.length : Int)
    · rw [if_pos hc4] at h
      obtain ⟨x3, h5, h⟩ := bind_some h
      simp -implicitDefEqProofs only [go_sem, Nat.reduceAdd, Nat.reduceSub, Nat.reduceMul, Nat.reduceLT, Nat.reduceLeDiff, Nat.reduceEqDiff, Nat.reduceBEq, hc3, hc4, h5, mkSl]
      obtain ⟨r4, h6, h⟩ := bind_some h
      refine Vc.mono (expr_one_ok h6) ?_
      rintro _ _ rfl
      by_cases hc7 : r4 = true
      · rw [if_pos hc7] at h
        simp -implicitDefEqProofs only [go_sem, Nat.reduceAdd, Nat.reduceSub, Nat.reduceMul, Nat.reduceLT, Nat.reduceLeDiff, Nat.reduceEqDiff, Nat.reduceBEq, hc4, hc7, h5, mkSl]
        obtain ⟨r5, h8, h⟩ := bind_some h
        refine Vc.mono (expr_two_ok h8) ?_
        rintro _ _ rfl
        by_cases hc9 : r5 = true
        · rw [if_pos hc9] at h
          simp -implicitDefEqProofs only [go_sem, Nat.reduceAdd, Nat.reduceSub, Nat.reduceMul, Nat.reduceLT, Nat.reduceLeDiff, Nat.reduceEqDiff, Nat.reduceBEq, hc9, mkSl]
          obtain ⟨r6, h10, h⟩ := bind_some h
          refine Vc.mono (hR_expr_Expr_begins h10) ?_
          rintro _ _ rfl
          by_cases hc11 : (r6 != (IntKind.i64.wrap (x3.L + 1))) = true
          · rw [if_pos hc11] at h
            obtain rfl := Option.some.inj h
            obtain rfl := hx2 _ rfl
            simp -implicitDefEqProofs only [go_sem, Nat.reduceAdd, Nat.reduceSub, Nat.reduceMul, Nat.reduceLT, Nat.reduceLeDiff, Nat.reduceEqDiff, Nat.reduceBEq, hc9, hc11, mkSl]
          · rw [if_neg hc11] at h
            replace hc11 := (Bool.not_eq_true _).mp hc11
            obtain rfl := Option.some.inj h
            simp -implicitDefEqProofs only [go_sem, Nat.reduceAdd, Nat.reduceSub, Nat.reduceMul, Nat.reduceLT, Nat.reduceLeDiff, Nat.reduceEqDiff, Nat.reduceBEq, hc9, hc11, mkSl]
            exact ⟨_, rfl, rfl⟩
        · rw [if_neg hc9] at h
          replace hc9 := (Bool.not_eq_true _).mp hc9
          obtain rfl := Option.some.inj h
          simp -implicitDefEqProofs only [go_sem, Nat.reduceAdd, Nat.reduceSub, Nat.reduceMul, Nat.reduceLT, Nat.reduceLeDiff, Nat.reduceEqDiff, Nat.reduceBEq, hc9, mkSl]
          exact ⟨_, rfl, rfl⟩
      · rw [if_neg hc7] at h
        replace hc7 := (Bool.not_eq_true _).mp hc7
        simp -implicitDefEqProofs only [go_sem, Nat.reduceAdd, Nat.reduceSub, Nat.reduceMul, Nat.reduceLT, Nat.reduceLeDiff, Nat.reduceEqDiff, Nat.reduceBEq, hc4, hc7, h5, mkSl]
        obtain ⟨r7, h12, h⟩ := bind_some h
        refine Vc.mono (expr_two_ok h12) ?_
        rintro _ _ rfl
        by_cases hc13 : r7 = true
        · rw [if_pos hc13] at h
          simp -implicitDefEqProofs only [go_sem, Nat.reduceAdd, Nat.reduceSub, Nat.reduceMul, Nat.reduceLT, Nat.reduceLeDiff, Nat.reduceEqDiff, Nat.reduceBEq, hc4, hc7, hc13, h5, mkSl]
          obtain ⟨r8, h14, h⟩ := bind_some h
          refine Vc.mono (expr_two_ok h14) ?_
          rintro _ _ rfl
          by_cases hc15 : r8 = true
          · rw [if_pos hc15] at h
            simp -implicitDefEqProofs only [go_sem, Nat.reduceAdd, Nat.reduceSub, Nat.reduceMul, Nat.reduceLT, Nat.reduceLeDiff, Nat.reduceEqDiff, Nat.reduceBEq, hc15, mkSl]
            obtain ⟨r9, h16, h⟩ := bind_some h
            refine Vc.mono (hR_expr_Expr_begins h16) ?_
            rintro _ _ rfl
            by_cases hc17 : (r9 != (IntKind.i64.wrap (x3.L + 1))) = true
            · rw [if_pos hc17] at h
              obtain rfl := Option.some.inj h
              obtain rfl := hx2 _ rfl
              simp -implicitDefEqProofs only [go_sem, Nat.reduceAdd, Nat.reduceSub, Nat.reduceMul, Nat.reduceLT, Nat.reduceLeDiff, Nat.reduceEqDiff, Nat.reduceBEq, hc15, hc17, mkSl]
            · rw [if_neg hc17] at h
              replace hc17 := (Bool.not_eq_true _).mp hc17
              obtain rfl := Option.some.inj h
              simp -implicitDefEqProofs only [go_sem, Nat.reduceAdd, Nat.reduceSub, Nat.reduceMul, Nat.reduceLT, Nat.reduceLeDiff, Nat.reduceEqDiff, Nat.reduceBEq, hc15, hc17, mkSl]
              exact ⟨_, rfl, rfl⟩
          · rw [if_neg hc15] at h
            replace hc15 := (Bool.not_eq_true _).mp hc15
            obtain rfl := Option.some.inj h
            simp -implicitDefEqProofs only [go_sem, Nat.reduceAdd, Nat.reduceSub, Nat.reduceMul, Nat.reduceLT, Nat.reduceLeDiff, Nat.reduceEqDiff, Nat.reduceBEq, hc15, mkSl]
            exact ⟨_, rfl, rfl⟩
        · rw [if_neg hc13] at h
          replace hc13 := (Bool.not_eq_true _).mp hc13
          obtain rfl := Option.some.inj h
          obtain rfl := hx2 _ rfl
          simp -implicitDefEqProofs only [go_sem, Nat.reduceAdd, Nat.reduceSub, Nat.reduceMul, Nat.reduceLT, Nat.reduceLeDiff, Nat.reduceEqDiff, Nat.reduceBEq, hc4, hc7, hc13, mkSl]
    · rw [if_neg hc4] at h
      obtain rfl := Option.some.inj h
      obtain rfl := hx2 _ rfl
      simp -implicitDefEqProofs only [go_sem, Nat.reduceAdd, Nat.reduceSub, Nat.reduceMul, Nat.reduceLT, Nat.reduceLeDiff, Nat.reduceEqDiff, Nat.reduceBEq, hc3, hc4, mkSl]
  · rw [if_neg hc3] at h
    obtain rfl := Option.some.inj h
    obtain rfl := hx2 _ rfl
    simp -implicitDefEqProofs only [go_sem, Nat.reduceAdd, Nat.reduceSub, Nat.reduceMul, Nat.reduceLT, Nat.reduceLeDiff, Nat.reduceEqDiff, Nat.reduceBEq, hc3, mkSl]
theorem expr_Expr_begins_specs : ∀ k, expr_Expr_begins_spec (expr_Expr_begins_rec k).expr_Expr_begins
  | 0 => (by (try unfold expr_Expr_begins_spec); intros; rename_i h; cases h)
  | k + 1 => by
    have q30 : expr_Expr_begins_spec (expr_Expr_begins_rec k).expr_Expr_begins := @expr_Expr_begins_specs k
    exact expr_Expr_begins_F_ok q30
theorem expr_Expr_begins_ok : expr_Expr_begins_spec expr_Expr_begins := by
  try unfold expr_Expr_begins_spec
  intros
  rename_i h
  obtain ⟨k0, h0⟩ := (expr_Expr_begins_lim _ _).1 _ h
  exact (expr_Expr_begins_specs k0) (h0 k0 (Nat.le_refl _))
theorem expr_Expr_Right_ok {a0 : List ExprNode} {r : Bool} (h : expr_Expr_Right a0 = some r) :
  Vc cfg 16 [.sl .view (a0.map ExprNode.en.enc)] [] fun v _ => v = .lit (.bool r) := by
  refine Vc_of (fn := Tryd.f16) rfl Tryd.func16 rfl Tryd.ntmps16 Tryd.results16 (by kernel_rfl) ?_
  conv => arg 3; whnf
  unfold expr_Expr_Right at h
  by_cases hc1 : ((a0.length : Int) == 0) = true
  · rw [if_pos hc1] at h
    obtain rfl := Option.some.inj h
    simp -implicitDefEqProofs only [go_sem, Nat.reduceAdd, Nat.reduceSub, Nat.reduceMul, Nat.reduceLT, Nat.reduceLeDiff, Nat.reduceEqDiff, Nat.reduceBEq, hc1]
  · rw [if_neg hc1] at h
    replace hc1 := (Bool.not_eq_true _).mp hc1
    by_cases hc2 : 32 < (a0.length : Int)
    · rw [if_pos hc2] at h
      obtain rfl := Option.some.inj h
      simp -implicitDefEqProofs only [go_sem, Nat.reduceAdd, Nat.reduceSub, Nat.reduceMul, Nat.reduceLT, Nat.reduceLeDiff, Nat.reduceEqDiff, Nat.reduceBEq, hc1, hc2]
    · rw [if_neg hc2] at h
      simp -implicitDefEqProofs only [go_sem, Nat.reduceAdd, Nat.reduceSub, Nat.reduceMul, Nat.reduceLT, Nat.reduceLeDiff, Nat.reduceEqDiff, Nat.reduceBEq, hc1, hc2]
      obtain ⟨xx3, h5, hk6, hx4⟩ := jn_some h
      clear h
      refine seqK_join (x := xx3) (fun s1 => mkSl 36 [(0, .sl .view (s1.map ExprNode.en.enc))]) (fun s1 => []) ?_ ?_
      · clear hk6
        unfold expr_Expr_Right_j0 at h5
        have h := h5
        clear h5
        simp -implicitDefEqProofs only [go_sem, Nat.reduceAdd, Nat.reduceSub, Nat.reduceMul, Nat.reduceLT, Nat.reduceLeDiff, Nat.reduceEqDiff, Nat.reduceBEq]
        refine wpLoop_run' (step := expr_Expr_Right_l1_step a0) (fun s2 => mkSl 36 [(0, .sl .view (a0.map ExprNode.en.enc)), (13, .sl .view (a0.map ExprNode.en.enc)), (14, .lit (.int .i64 (a0.length : Int))), (15, .lit (.int .i64 s2))]) (fun s2 => []) h (by kernel_rfl) (by first | rfl | simp -implicitDefEqProofs only [go_sem, Nat.reduceAdd, Nat.reduceSub, Nat.reduceMul, Nat.reduceLT, Nat.reduceLeDiff, Nat.reduceEqDiff, Nat.reduceBEq, mkSl]) (by first | rfl | simp -implicitDefEqProofs only [go_sem, Nat.reduceAdd, Nat.reduceSub, Nat.reduceMul, Nat.reduceLT, Nat.reduceLeDiff, Nat.reduceEqDiff, Nat.reduceBEq]) ?_
        clear h
        intro s2 xx7 h hx8
        unfold expr_Expr_Right_l1_step at h
        by_cases hc9 : s2 < (a0.length : Int)
        · rw [if_pos hc9] at h
          obtain ⟨x3, h10, h⟩ := bind_some h
          simp -implicitDefEqProofs only [go_sem, Nat.reduceAdd, Nat.reduceSub, Nat.reduceMul, Nat.reduceLT, Nat.reduceLeDiff, Nat.reduceEqDiff, Nat.reduceBEq, hc9, h10, mkSl]
          obtain ⟨r4, h11, h⟩ := bind_some h
          refine Vc.mono (expr_Node_right_ok h11) ?_
          rintro _ _ rfl
          by_cases hc12 : r4 = true
          · rw [if_pos hc12] at h
            obtain rfl := Option.some.inj h
            simp -implicitDefEqProofs only [go_sem, Nat.reduceAdd, Nat.reduceSub, Nat.reduceMul, Nat.reduceLT, Nat.reduceLeDiff, Nat.reduceEqDiff, Nat.reduceBEq, hc12, mkSl]
            exact ⟨_, rfl, rfl⟩
          · rw [if_neg hc12] at h
            replace hc12 := (Bool.not_eq_true _).mp hc12
            obtain rfl := Option.some.inj h
            obtain rfl := hx8 _ rfl
            obtain rfl := hx4 _ rfl
            simp -implicitDefEqProofs only [go_sem, Nat.reduceAdd, Nat.reduceSub, Nat.reduceMul, Nat.reduceLT, Nat.reduceLeDiff, Nat.reduceEqDiff, Nat.reduceBEq, hc12, mkSl]
        · rw [if_neg hc9] at h
          obtain rfl := Option.some.inj h
          obtain rfl := hx8 _ rfl
          simp -implicitDefEqProofs only [go_sem, Nat.reduceAdd, Nat.reduceSub, Nat.reduceMul, Nat.reduceLT, Nat.reduceLeDiff, Nat.reduceEqDiff, Nat.reduceBEq, hc9, mkSl]
          exact ⟨_, rfl, rfl⟩
      · intro s1 hi13
        have h := hk6 _ hi13
        clear h5 hx4 hk6 hi13
        simp -implicitDefEqProofs only [go_sem, Nat.reduceAdd, Nat.reduceSub, Nat.reduceMul, Nat.reduceLT, Nat.reduceLeDiff, Nat.reduceEqDiff, Nat.reduceBEq, mkSl]
        obtain ⟨r5, h14, h⟩ := bind_some h
        refine Vc.mono (expr_Expr_begins_ok h14) ?_
        rintro _ _ rfl
        by_cases hc15 : (r5 == 0) = true
        · rw [if_pos hc15] at h
          simp -implicitDefEqProofs only [go_sem, Nat.reduceAdd, Nat.reduceSub, Nat.reduceMul, Nat.reduceLT, Nat.reduceLeDiff, Nat.reduceEqDiff, Nat.reduceBEq, hc15, mkSl]
          obtain ⟨r6, h16, h⟩ := bind_some h
          refine Vc.mono (expr_Expr_Size_ok h16) ?_
          rintro _ _ rfl
          obtain rfl := Option.some.inj h
          simp -implicitDefEqProofs only [go_sem, Nat.reduceAdd, Nat.reduceSub, Nat.reduceMul, Nat.reduceLT, Nat.reduceLeDiff, Nat.reduceEqDiff, Nat.reduceBEq, hc15, mkSl]
        · rw [if_neg hc15] at h
          replace hc15 := (Bool.not_eq_true _).mp hc15
          obtain rfl := Option.some.inj h
          simp -implicitDefEqProofs only [go_sem, Nat.reduceAdd, Nat.reduceSub, Nat.reduceMul, Nat.reduceLT, Nat.reduceLeDiff, Nat.reduceEqDiff, Nat.reduceBEq, hc15, mkSl]
theorem tok_Event_ok {a0 : List UInt8} {r : Bool} (h : tok_Event a0 = some r) :
  Vc cfg 70 [.lit (.string (bs a0))] [] fun v _ => v = .lit (.bool r) := by
  refine Vc_of (fn := Tryd.f70) rfl Tryd.func70 rfl Tryd.ntmps70 Tryd.results70 (by kernel_rfl) ?_
  conv => arg 3; whnf
  unfold tok_Event at h
  simp -implicitDefEqProofs only [go_sem, Nat.reduceAdd, Nat.reduceSub, Nat.reduceMul, Nat.reduceLT, Nat.reduceLeDiff, Nat.reduceEqDiff, Nat.reduceBEq]
  obtain ⟨r1, h1, h⟩ := bind_some h
  refine Vc.mono (tok_Lex_ok h1) ?_
  rintro _ _ rfl
  by_cases hc2 : (r1.2.1 == 0) = true
  · rw [if_pos hc2] at h
    by_cases hc3 : ((r1.1.length : Int) == 1) = true
    · rw [if_pos hc3] at h
      obtain ⟨x2, h4, h⟩ := bind_some h
      by_cases hc5 : (x2.Kind == 1) = true
      · rw [if_pos hc5] at h
        obtain rfl := Option.some.inj h
        simp -implicitDefEqProofs only [go_sem, Nat.reduceAdd, Nat.reduceSub, Nat.reduceMul, Nat.reduceLT, Nat.reduceLeDiff, Nat.reduceEqDiff, Nat.reduceBEq, hc2, hc3, h4, hc5]
      · rw [if_neg hc5] at h
        replace hc5 := (Bool.not_eq_true _).mp hc5
        by_cases hc6 : (x2.Kind == 2) = true
        · rw [if_pos hc6] at h
          obtain rfl := Option.some.inj h
          simp -implicitDefEqProofs only [go_sem, Nat.reduceAdd, Nat.reduceSub, Nat.reduceMul, Nat.reduceLT, Nat.reduceLeDiff, Nat.reduceEqDiff, Nat.reduceBEq, hc2, hc3, h4, hc5, hc6]
        · rw [if_neg hc6] at h
          replace hc6 := (Bool.not_eq_true _).mp hc6
          obtain rfl := Option.some.inj h
          simp -implicitDefEqProofs only [go_sem, Nat.reduceAdd, Nat.reduceSub, Nat.reduceMul, Nat.reduceLT, Nat.reduceLeDiff, Nat.reduceEqDiff, Nat.reduceBEq, hc2, hc3, h4, hc5, hc6]
    · rw [if_neg hc3] at h
      replace hc3 := (Bool.not_eq_true _).mp hc3
      obtain rfl := Option.some.inj h
      simp -implicitDefEqProofs only [go_sem, Nat.reduceAdd, Nat.reduceSub, Nat.reduceMul, Nat.reduceLT, Nat.reduceLeDiff, Nat.reduceEqDiff, Nat.reduceBEq, hc2, hc3]
  · rw [if_neg hc2] at h
    replace hc2 := (Bool.not_eq_true _).mp hc2
    obtain rfl := Option.some.inj h
    simp -implicitDefEqProofs only [go_sem, Nat.reduceAdd, Nat.reduceSub, Nat.reduceMul, Nat.reduceLT, Nat.reduceLeDiff, Nat.reduceEqDiff, Nat.reduceBEq, hc2]
theorem act_Event_ok {a0 : List UInt8} {r : Bool} (h : act_Event a0 = some r) :
  Vc cfg 45 [.lit (.string (bs a0))] [] fun v _ => v = .lit (.bool r) := by
  refine Vc_of (fn := Tryd.f45) rfl Tryd.func45 rfl Tryd.ntmps45 Tryd.results45 (by kernel_rfl) ?_
  conv => arg 3; whnf
  unfold act_Event at h
  simp -implicitDefEqProofs only [go_sem, Nat.reduceAdd, Nat.reduceSub, Nat.reduceMul, Nat.reduceLT, Nat.reduceLeDiff, Nat.reduceEqDiff, Nat.reduceBEq]
  obtain ⟨r1, h1, h⟩ := bind_some h
  refine Vc.mono (tok_Event_ok h1) ?_
  rintro _ _ rfl
  by_cases hc2 : r1 = true
  · rw [if_pos hc2] at h
    simp -implicitDefEqProofs only [go_sem, Nat.reduceAdd, Nat.reduceSub, Nat.reduceMul, Nat.reduceLT, Nat.reduceLeDiff, Nat.reduceEqDiff, Nat.reduceBEq, hc2]
    obtain ⟨r2, h3, h⟩ := bind_some h
    refine Vc.mono (tok_Means_ok h3) ?_
    rintro _ _ rfl
    obtain rfl := Option.some.inj h
    simp -implicitDefEqProofs only [go_sem, Nat.reduceAdd, Nat.reduceSub, Nat.reduceMul, Nat.reduceLT, Nat.reduceLeDiff, Nat.reduceEqDiff, Nat.reduceBEq, hc2]
  · rw [if_neg hc2] at h
    replace hc2 := (Bool.not_eq_true _).mp hc2
    obtain rfl := Option.some.inj h
    simp -implicitDefEqProofs only [go_sem, Nat.reduceAdd, Nat.reduceSub, Nat.reduceMul, Nat.reduceLT, Nat.reduceLeDiff, Nat.reduceEqDiff, Nat.reduceBEq, hc2]
theorem act_Act_Right_ok {a0 : ActAct} {r : Bool} (h : act_Act_Right a0 = some r) :
  Vc cfg 23 [.agg [.lit (.int .i64 a0.Kind), .sl .view (a0.If.map ExprNode.en.enc), .lit (.string (bs a0.Name)), .sl .view (a0.X.map ExprNode.en.enc), .lit (.int .i64 a0.N)]] [] fun v _ => v = .lit (.bool r) := by
  refine Vc_of (fn := Tryd.f23) rfl Tryd.func23 rfl Tryd.ntmps23 Tryd.results23 (by kernel_rfl) ?_
  conv => arg 3; whnf
  unfold act_Act_Right at h
  by_cases hc1 : 0 < (a0.If.length : Int)
  · rw [if_pos hc1] at h
    simp -implicitDefEqProofs only [go_sem, Nat.reduceAdd, Nat.reduceSub, Nat.reduceMul, Nat.reduceLT, Nat.reduceLeDiff, Nat.reduceEqDiff, Nat.reduceBEq, hc1]
    obtain ⟨r1, h2, h⟩ := bind_some h
    refine Vc.mono (expr_Expr_Right_ok h2) ?_
    rintro _ _ rfl
    by_cases hc3 : r1 = true
    · rw [if_pos hc3] at h
      by_cases hc4 : (a0.Kind == 1) = true
      · rw [if_pos hc4] at h
        simp -implicitDefEqProofs only [go_sem, Nat.reduceAdd, Nat.reduceSub, Nat.reduceMul, Nat.reduceLT, Nat.reduceLeDiff, Nat.reduceEqDiff, Nat.reduceBEq, hc1, hc3, hc4]
        obtain ⟨r2, h5, h⟩ := bind_some h
        refine Vc.mono (tok_Name_ok h5) ?_
        rintro _ _ rfl
        by_cases hc6 : r2 = true
        · rw [if_pos hc6] at h
          simp -implicitDefEqProofs only [go_sem, Nat.reduceAdd, Nat.reduceSub, Nat.reduceMul, Nat.reduceLT, Nat.reduceLeDiff, Nat.reduceEqDiff, Nat.reduceBEq, hc6]
          obtain ⟨r3, h7, h⟩ := bind_some h
          refine Vc.mono (expr_Expr_Right_ok h7) ?_
          rintro _ _ rfl
          by_cases hc8 : r3 = true
          · rw [if_pos hc8] at h
            obtain rfl := Option.some.inj h
            simp -implicitDefEqProofs only [go_sem, Nat.reduceAdd, Nat.reduceSub, Nat.reduceMul, Nat.reduceLT, Nat.reduceLeDiff, Nat.reduceEqDiff, Nat.reduceBEq, hc6, hc8]
          · rw [if_neg hc8] at h
            replace hc8 := (Bool.not_eq_true _).mp hc8
            obtain rfl := Option.some.inj h
            simp -implicitDefEqProofs only [go_sem, Nat.reduceAdd, Nat.reduceSub, Nat.reduceMul, Nat.reduceLT, Nat.reduceLeDiff, Nat.reduceEqDiff, Nat.reduceBEq, hc6, hc8]
        · rw [if_neg hc6] at h
          replace hc6 := (Bool.not_eq_true _).mp hc6
          obtain rfl := Option.some.inj h
          simp -implicitDefEqProofs only [go_sem, Nat.reduceAdd, Nat.reduceSub, Nat.reduceMul, Nat.reduceLT, Nat.reduceLeDiff, Nat.reduceEqDiff, Nat.reduceBEq, hc6]
      · rw [if_neg hc4] at h
        replace hc4 := (Bool.not_eq_true _).mp hc4
        by_cases hc9 : (a0.Kind == 5) = true
        · rw [if_pos hc9] at h
          by_cases hc10 : (a0.Name == []) = true
          · rw [if_pos hc10] at h
            simp -implicitDefEqProofs only [go_sem, Nat.reduceAdd, Nat.reduceSub, Nat.reduceMul, Nat.reduceLT, Nat.reduceLeDiff, Nat.reduceEqDiff, Nat.reduceBEq, hc1, hc3, hc4, hc9, hc10]
            obtain ⟨r4, h11, h⟩ := bind_some h
            refine Vc.mono (expr_Expr_Right_ok h11) ?_
            rintro _ _ rfl
            by_cases hc12 : r4 = true
            · rw [if_pos hc12] at h
              obtain rfl := Option.some.inj h
              simp -implicitDefEqProofs only [go_sem, Nat.reduceAdd, Nat.reduceSub, Nat.reduceMul, Nat.reduceLT, Nat.reduceLeDiff, Nat.reduceEqDiff, Nat.reduceBEq, hc10, hc12]
            · rw [if_neg hc12] at h
              replace hc12 := (Bool.not_eq_true _).mp hc12
              obtain rfl := Option.some.inj h
              simp -implicitDefEqProofs only [go_sem, Nat.reduceAdd, Nat.reduceSub, Nat.reduceMul, Nat.reduceLT, Nat.reduceLeDiff, Nat.reduceEqDiff, Nat.reduceBEq, hc10, hc12]
          · rw [if_neg hc10] at h
            replace hc10 := (Bool.not_eq_true _).mp hc10
            obtain rfl := Option.some.inj h
            simp -implicitDefEqProofs only [go_sem, Nat.reduceAdd, Nat.reduceSub, Nat.reduceMul, Nat.reduceLT, Nat.reduceLeDiff, Nat.reduceEqDiff, Nat.reduceBEq, hc1, hc3, hc4, hc9, hc10]
        · rw [if_neg hc9] at h
          replace hc9 := (Bool.not_eq_true _).mp hc9
          by_cases hc13 : (a0.Kind == 2) = true
          · rw [if_pos hc13] at h
            simp -implicitDefEqProofs only [go_sem, Nat.reduceAdd, Nat.reduceSub, Nat.reduceMul, Nat.reduceLT, Nat.reduceLeDiff, Nat.reduceEqDiff, Nat.reduceBEq, hc1, hc3, hc4, hc9, hc13]
            obtain ⟨r5, h14, h⟩ := bind_some h
            refine Vc.mono (act_Event_ok h14) ?_
            rintro _ _ rfl
            by_cases hc15 : r5 = true
            · rw [if_pos hc15] at h
              by_cases hc16 : ((a0.X.length : Int) == 0) = true
              · rw [if_pos hc16] at h
                obtain rfl := Option.some.inj h
                simp -implicitDefEqProofs only [go_sem, Nat.reduceAdd, Nat.reduceSub, Nat.reduceMul, Nat.reduceLT, Nat.reduceLeDiff, Nat.reduceEqDiff, Nat.reduceBEq, hc15, hc16]
              · rw [if_neg hc16] at h
                replace hc16 := (Bool.not_eq_true _).mp hc16
                obtain rfl := Option.some.inj h
                simp -implicitDefEqProofs only [go_sem, Nat.reduceAdd, Nat.reduceSub, Nat.reduceMul, Nat.reduceLT, Nat.reduceLeDiff, Nat.reduceEqDiff, Nat.reduceBEq, hc15, hc16]
            · rw [if_neg hc15] at h
              replace hc15 := (Bool.not_eq_true _).mp hc15
              obtain rfl := Option.some.inj h
              simp -implicitDefEqProofs only [go_sem, Nat.reduceAdd, Nat.reduceSub, Nat.reduceMul, Nat.reduceLT, Nat.reduceLeDiff, Nat.reduceEqDiff, Nat.reduceBEq, hc15]
          · rw [if_neg hc13] at h
            replace hc13 := (Bool.not_eq_true _).mp hc13
            by_cases hc17 : (a0.Kind == 4) = true
            · rw [if_pos hc17] at h
              simp -implicitDefEqProofs only [go_sem, Nat.reduceAdd, Nat.reduceSub, Nat.reduceMul, Nat.reduceLT, Nat.reduceLeDiff, Nat.reduceEqDiff, Nat.reduceBEq, hc1, hc3, hc4, hc9, hc13, hc17]
              obtain ⟨r6, h18, h⟩ := bind_some h
              refine Vc.mono (act_Event_ok h18) ?_
              rintro _ _ rfl
              by_cases hc19 : r6 = true
              · rw [if_pos hc19] at h
                by_cases hc20 : ((a0.X.length : Int) == 0) = true
                · rw [if_pos hc20] at h
                  obtain rfl := Option.some.inj h
                  simp -implicitDefEqProofs only [go_sem, Nat.reduceAdd, Nat.reduceSub, Nat.reduceMul, Nat.reduceLT, Nat.reduceLeDiff, Nat.reduceEqDiff, Nat.reduceBEq, hc19, hc20]
                · rw [if_neg hc20] at h
                  replace hc20 := (Bool.not_eq_true _).mp hc20
                  obtain rfl := Option.some.inj h
                  simp -implicitDefEqProofs only [go_sem, Nat.reduceAdd, Nat.reduceSub, Nat.reduceMul, Nat.reduceLT, Nat.reduceLeDiff, Nat.reduceEqDiff, Nat.reduceBEq, hc19, hc20]
              · rw [if_neg hc19] at h
                replace hc19 := (Bool.not_eq_true _).mp hc19
                obtain rfl := Option.some.inj h
                simp -implicitDefEqProofs only [go_sem, Nat.reduceAdd, Nat.reduceSub, Nat.reduceMul, Nat.reduceLT, Nat.reduceLeDiff, Nat.reduceEqDiff, Nat.reduceBEq, hc19]
            · rw [if_neg hc17] at h
              replace hc17 := (Bool.not_eq_true _).mp hc17
              by_cases hc21 : (a0.Kind == 3) = true
              · rw [if_pos hc21] at h
                simp -implicitDefEqProofs only [go_sem, Nat.reduceAdd, Nat.reduceSub, Nat.reduceMul, Nat.reduceLT, Nat.reduceLeDiff, Nat.reduceEqDiff, Nat.reduceBEq, hc1, hc3, hc4, hc9, hc13, hc17, hc21]
                obtain ⟨r7, h22, h⟩ := bind_some h
                refine Vc.mono (act_Event_ok h22) ?_
                rintro _ _ rfl
                by_cases hc23 : r7 = true
                · rw [if_pos hc23] at h
                  by_cases hc24 : ((a0.X.length : Int) == 0) = true
                  · rw [if_pos hc24] at h
                    by_cases hc25 : 0 ≤ a0.N
                    · rw [if_pos hc25] at h
                      obtain rfl := Option.some.inj h
                      simp -implicitDefEqProofs only [go_sem, Nat.reduceAdd, Nat.reduceSub, Nat.reduceMul, Nat.reduceLT, Nat.reduceLeDiff, Nat.reduceEqDiff, Nat.reduceBEq, hc23, hc24, hc25]
                    · rw [if_neg hc25] at h
                      obtain rfl := Option.some.inj h
                      simp -implicitDefEqProofs only [go_sem, Nat.reduceAdd, Nat.reduceSub, Nat.reduceMul, Nat.reduceLT, Nat.reduceLeDiff, Nat.reduceEqDiff, Nat.reduceBEq, hc23, hc24, hc25]
                  · rw [if_neg hc24] at h
                    replace hc24 := (Bool.not_eq_true _).mp hc24
                    obtain rfl := Option.some.inj h
                    simp -implicitDefEqProofs only [go_sem, Nat.reduceAdd, Nat.reduceSub, Nat.reduceMul, Nat.reduceLT, Nat.reduceLeDiff, Nat.reduceEqDiff, Nat.reduceBEq, hc23, hc24]
                · rw [if_neg hc23] at h
                  replace hc23 := (Bool.not_eq_true _).mp hc23
                  obtain rfl := Option.some.inj h
                  simp -implicitDefEqProofs only [go_sem, Nat.reduceAdd, Nat.reduceSub, Nat.reduceMul, Nat.reduceLT, Nat.reduceLeDiff, Nat.reduceEqDiff, Nat.reduceBEq, hc23]
              · rw [if_neg hc21] at h
                replace hc21 := (Bool.not_eq_true _).mp hc21
                obtain rfl := Option.some.inj h
                simp -implicitDefEqProofs only [go_sem, Nat.reduceAdd, Nat.reduceSub, Nat.reduceMul, Nat.reduceLT, Nat.reduceLeDiff, Nat.reduceEqDiff, Nat.reduceBEq, hc1, hc3, hc4, hc9, hc13, hc17, hc21]
    · rw [if_neg hc3] at h
      replace hc3 := (Bool.not_eq_true _).mp hc3
      obtain rfl := Option.some.inj h
      simp -implicitDefEqProofs only [go_sem, Nat.reduceAdd, Nat.reduceSub, Nat.reduceMul, Nat.reduceLT, Nat.reduceLeDiff, Nat.reduceEqDiff, Nat.reduceBEq, hc1, hc3]
  · rw [if_neg hc1] at h
    by_cases hc26 : (a0.Kind == 1) = true
    · rw [if_pos hc26] at h
      simp -implicitDefEqProofs only [go_sem, Nat.reduceAdd, Nat.reduceSub, Nat.reduceMul, Nat.reduceLT, Nat.reduceLeDiff, Nat.reduceEqDiff, Nat.reduceBEq, hc1, hc26]
      obtain ⟨r8, h27, h⟩ := bind_some h
      refine Vc.mono (tok_Name_ok h27) ?_
      rintro _ _ rfl
      by_cases hc28 : r8 = true
      · rw [if_pos hc28] at h
        simp -implicitDefEqProofs only [go_sem, Nat.reduceAdd, Nat.reduceSub, Nat.reduceMul, Nat.reduceLT, Nat.reduceLeDiff, Nat.reduceEqDiff, Nat.reduceBEq, hc28]
        obtain ⟨r9, h29, h⟩ := bind_some h
        refine Vc.mono (expr_Expr_Right_ok h29) ?_
        rintro _ _ rfl
        by_cases hc30 : r9 = true
        · rw [if_pos hc30] at h
          obtain rfl := Option.some.inj h
          simp -implicitDefEqProofs only [go_sem, Nat.reduceAdd, Nat.reduceSub, Nat.reduceMul, Nat.reduceLT, Nat.reduceLeDiff, Nat.reduceEqDiff, Nat.reduceBEq, hc28, hc30]
        · rw [if_neg hc30] at h
          replace hc30 := (Bool.not_eq_true _).mp hc30
          obtain rfl := Option.some.inj h
          simp -implicitDefEqProofs only [go_sem, Nat.reduceAdd, Nat.reduceSub, Nat.reduceMul, Nat.reduceLT, Nat.reduceLeDiff, Nat.reduceEqDiff, Nat.reduceBEq, hc28, hc30]
      · rw [if_neg hc28] at h
        replace hc28 := (Bool.not_eq_true _).mp hc28
        obtain rfl := Option.some.inj h
        simp -implicitDefEqProofs only [go_sem, Nat.reduceAdd, Nat.reduceSub, Nat.reduceMul, Nat.reduceLT, Nat.reduceLeDiff, Nat.reduceEqDiff, Nat.reduceBEq, hc28]
    · rw [if_neg hc26] at h
      replace hc26 := (Bool.not_eq_true _).mp hc26
      by_cases hc31 : (a0.Kind == 5) = true
      · rw [if_pos hc31] at h
        by_cases hc32 : (a0.Name == []) = true
        · rw [if_pos hc32] at h
          simp -implicitDefEqProofs only [go_sem, Nat.reduceAdd, Nat.reduceSub, Nat.reduceMul, Nat.reduceLT, Nat.reduceLeDiff, Nat.reduceEqDiff, Nat.reduceBEq, hc1, hc26, hc31, hc32]
          obtain ⟨r10, h33, h⟩ := bind_some h
          refine Vc.mono (expr_Expr_Right_ok h33) ?_
          rintro _ _ rfl
          by_cases hc34 : r10 = true
          · rw [if_pos hc34] at h
            obtain rfl := Option.some.inj h
            simp -implicitDefEqProofs only [go_sem, Nat.reduceAdd, Nat.reduceSub, Nat.reduceMul, Nat.reduceLT, Nat.reduceLeDiff, Nat.reduceEqDiff, Nat.reduceBEq, hc32, hc34]
          · rw [if_neg hc34] at h
            replace hc34 := (Bool.not_eq_true _).mp hc34
            obtain rfl := Option.some.inj h
            simp -implicitDefEqProofs only [go_sem, Nat.reduceAdd, Nat.reduceSub, Nat.reduceMul, Nat.reduceLT, Nat.reduceLeDiff, Nat.reduceEqDiff, Nat.reduceBEq, hc32, hc34]
        · rw [if_neg hc32] at h
          replace hc32 := (Bool.not_eq_true _).mp hc32
          obtain rfl := Option.some.inj h
          simp -implicitDefEqProofs only [go_sem, Nat.reduceAdd, Nat.reduceSub, Nat.reduceMul, Nat.reduceLT, Nat.reduceLeDiff, Nat.reduceEqDiff, Nat.reduceBEq, hc1, hc26, hc31, hc32]
      · rw [if_neg hc31] at h
        replace hc31 := (Bool.not_eq_true _).mp hc31
        by_cases hc35 : (a0.Kind == 2) = true
        · rw [if_pos hc35] at h
          simp -implicitDefEqProofs only [go_sem, Nat.reduceAdd, Nat.reduceSub, Nat.reduceMul, Nat.reduceLT, Nat.reduceLeDiff, Nat.reduceEqDiff, Nat.reduceBEq, hc1, hc26, hc31, hc35]
          obtain ⟨r11, h36, h⟩ := bind_some h
          refine Vc.mono (act_Event_ok h36) ?_
          rintro _ _ rfl
          by_cases hc37 : r11 = true
          · rw [if_pos hc37] at h
            by_cases hc38 : ((a0.X.length : Int) == 0) = true
            · rw [if_pos hc38] at h
              obtain rfl := Option.some.inj h
              simp -implicitDefEqProofs only [go_sem, Nat.reduceAdd, Nat.reduceSub, Nat.reduceMul, Nat.reduceLT, Nat.reduceLeDiff, Nat.reduceEqDiff, Nat.reduceBEq, hc37, hc38]
            · rw [if_neg hc38] at h
              replace hc38 := (Bool.not_eq_true _).mp hc38
              obtain rfl := Option.some.inj h
              simp -implicitDefEqProofs only [go_sem, Nat.reduceAdd, Nat.reduceSub, Nat.reduceMul, Nat.reduceLT, Nat.reduceLeDiff, Nat.reduceEqDiff, Nat.reduceBEq, hc37, hc38]
          · rw [if_neg hc37] at h
            replace hc37 := (Bool.not_eq_true _).mp hc37
            obtain rfl := Option.some.inj h
            simp -implicitDefEqProofs only [go_sem, Nat.reduceAdd, Nat.reduceSub, Nat.reduceMul, Nat.reduceLT, Nat.reduceLeDiff, Nat.reduceEqDiff, Nat.reduceBEq, hc37]
        · rw [if_neg hc35] at h
          replace hc35 := (Bool.not_eq_true _).mp hc35
          by_cases hc39 : (a0.Kind == 4) = true
          · rw [if_pos hc39] at h
            simp -implicitDefEqProofs only [go_sem, Nat.reduceAdd, Nat.reduceSub, Nat.reduceMul, Nat.reduceLT, Nat.reduceLeDiff, Nat.reduceEqDiff, Nat.reduceBEq, hc1, hc26, hc31, hc35, hc39]
            obtain ⟨r12, h40, h⟩ := bind_some h
            refine Vc.mono (act_Event_ok h40) ?_
            rintro _ _ rfl
            by_cases hc41 : r12 = true
            · rw [if_pos hc41] at h
              by_cases hc42 : ((a0.X.length : Int) == 0) = true
              · rw [if_pos hc42] at h
                obtain rfl := Option.some.inj h
                simp -implicitDefEqProofs only [go_sem, Nat.reduceAdd, Nat.reduceSub, Nat.reduceMul, Nat.reduceLT, Nat.reduceLeDiff, Nat.reduceEqDiff, Nat.reduceBEq, hc41, hc42]
              · rw [if_neg hc42] at h
                replace hc42 := (Bool.not_eq_true _).mp hc42
                obtain rfl := Option.some.inj h
                simp -implicitDefEqProofs only [go_sem, Nat.reduceAdd, Nat.reduceSub, Nat.reduceMul, Nat.reduceLT, Nat.reduceLeDiff, Nat.reduceEqDiff, Nat.reduceBEq, hc41, hc42]
            · rw [if_neg hc41] at h
              replace hc41 := (Bool.not_eq_true _).mp hc41
              obtain rfl := Option.some.inj h
              simp -implicitDefEqProofs only [go_sem, Nat.reduceAdd, Nat.reduceSub, Nat.reduceMul, Nat.reduceLT, Nat.reduceLeDiff, Nat.reduceEqDiff, Nat.reduceBEq, hc41]
          · rw [if_neg hc39] at h
            replace hc39 := (Bool.not_eq_true _).mp hc39
            by_cases hc43 : (a0.Kind == 3) = true
            · rw [if_pos hc43] at h
              simp -implicitDefEqProofs only [go_sem, Nat.reduceAdd, Nat.reduceSub, Nat.reduceMul, Nat.reduceLT, Nat.reduceLeDiff, Nat.reduceEqDiff, Nat.reduceBEq, hc1, hc26, hc31, hc35, hc39, hc43]
              obtain ⟨r13, h44, h⟩ := bind_some h
              refine Vc.mono (act_Event_ok h44) ?_
              rintro _ _ rfl
              by_cases hc45 : r13 = true
              · rw [if_pos hc45] at h
                by_cases hc46 : ((a0.X.length : Int) == 0) = true
                · rw [if_pos hc46] at h
                  by_cases hc47 : 0 ≤ a0.N
                  · rw [if_pos hc47] at h
                    obtain rfl := Option.some.inj h
                    simp -implicitDefEqProofs only [go_sem, Nat.reduceAdd, Nat.reduceSub, Nat.reduceMul, Nat.reduceLT, Nat.reduceLeDiff, Nat.reduceEqDiff, Nat.reduceBEq, hc45, hc46, hc47]
                  · rw [if_neg hc47] at h
                    obtain rfl := Option.some.inj h
                    simp -implicitDefEqProofs only [go_sem, Nat.reduceAdd, Nat.reduceSub, Nat.reduceMul, Nat.reduceLT, Nat.reduceLeDiff, Nat.reduceEqDiff, Nat.reduceBEq, hc45, hc46, hc47]
                · rw [if_neg hc46] at h
                  replace hc46 := (Bool.not_eq_true _).mp hc46
                  obtain rfl := Option.some.inj h
                  simp -implicitDefEqProofs only [go_sem, Nat.reduceAdd, Nat.reduceSub, Nat.reduceMul, Nat.reduceLT, Nat.reduceLeDiff, Nat.reduceEqDiff, Nat.reduceBEq, hc45, hc46]
              · rw [if_neg hc45] at h
                replace hc45 := (Bool.not_eq_true _).mp hc45
                obtain rfl := Option.some.inj h
                simp -implicitDefEqProofs only [go_sem, Nat.reduceAdd, Nat.reduceSub, Nat.reduceMul, Nat.reduceLT, Nat.reduceLeDiff, Nat.reduceEqDiff, Nat.reduceBEq, hc45]
            · rw [if_neg hc43] at h
              replace hc43 := (Bool.not_eq_true _).mp hc43
              obtain rfl := Option.some.inj h
              simp -implicitDefEqProofs only [go_sem, Nat.reduceAdd, Nat.reduceSub, Nat.reduceMul, Nat.reduceLT, Nat.reduceLeDiff, Nat.reduceEqDiff, Nat.reduceBEq, hc1, hc26, hc31, hc35, hc39, hc43]
end Go.Proofs.YtilmjbljkkbakaaDoor
