/-
  A part of the proof: lemmas.
-/
import Derived.Test.YtilmjbljkkbakaaGreatDoorCFactsc
import Derived.Test.YtilmjbljkkbakaaGreatDoorCFunsc
import Derived.Test.YtilmjbljkkbakaaGreatDoorCPr3c
set_option linter.unusedSimpArgs false
set_option linter.unusedVariables false
set_option linter.unusedSectionVars false
set_option linter.unnecessarySimpa false
set_option linter.deprecated false
/-! The functions' proofs. -/
namespace Go.Proofs.YtilmjbljkkbakaaGreatDoor
open Go.Wv
set_option linter.unusedSimpArgs false
set_option linter.unusedVariables false
set_option maxRecDepth 10000
set_option maxHeartbeats 20000000
theorem act_Event_ok {a0 : List UInt8} {r : Bool} (h : act_Event a0 = some r) :
  Vc cfg 78 [.lit (.string (bs a0))] [] fun v _ => v = .lit (.bool r) := by
  refine Vc_of (fn := Tryz.f78) rfl Tryz.func78 rfl Tryz.ntmps78 Tryz.results78 (by kernel_rfl) ?_
  conv => arg 3; whnf
  unfold act_Event at h
  simp -implicitDefEqProofs only [go_sem, Nat.reduceAdd, Nat.reduceSub, Nat.reduceMul, Nat.reduceLT, Nat.reduceLeDiff, Nat.reduceEqDiff, Nat.reduceBEq]
  obtain ⟨r1, h1, h⟩ := bind_some h
  refine Vc.mono (tok_Event_ok h1) ?_
  rintro _ _ rfl
  by_cases hc2 : r1 = true
  · rw [if_pos hc2] at h
    simp -implicitDefEqProofs only [go_sem, Nat.reduceAdd, Nat.reduceSub, Nat.reduceMul, Nat.reduceLT, Nat.reduceLeDiff, Nat.reduceEqDiff, Nat.reduceBEq, hc2]
    obtain ⟨r2, h3, h⟩ := bind_some h
    refine Vc.mono (tok_Means_ok h3) ?_
    rintro _ _ rfl
    obtain rfl := Option.some.inj h
    simp -implicitDefEqProofs only [go_sem, Nat.reduceAdd, Nat.reduceSub, Nat.reduceMul, Nat.reduceLT, Nat.reduceLeDiff, Nat.reduceEqDiff, Nat.reduceBEq, hc2]
  · rw [if_neg hc2] at h
    replace hc2 := (Bool.not_eq_true _).mp hc2
    obtain rfl := Option.some.inj h
    simp -implicitDefEqProofs only [go_sem, Nat.reduceAdd, Nat.reduceSub, Nat.reduceMul, Nat.reduceLT, Nat.reduceLeDiff, Nat.reduceEqDiff, Nat.reduceBEq, hc2]
theorem tok_Token_Is_ok {a0 : TokToken} {a1 : List (List UInt8)} {r : Bool} (h : tok_Token_Is a0 a1 = some r) :
  Vc cfg 33 [.agg [.lit (.int .i64 a0.Kind), .lit (.string (bs a0.Text)), .lit (.int .i64 a0.N), .lit (.int .i64 a0.At)], .sl .view (a1.map En.str.enc)] [] fun v _ => v = .lit (.bool r) := by
  refine Vc_of (fn := Tryz.f33) rfl Tryz.func33 rfl Tryz.ntmps33 Tryz.results33 (by kernel_rfl) ?_
  conv => arg 3; whnf
  unfold tok_Token_Is at h
  by_cases hc1 : (a0.Kind != 1) = true
  · rw [if_pos hc1] at h
    by_cases hc2 : (a0.Kind != 5) = true
    · rw [if_pos hc2] at h
      obtain rfl := Option.some.inj h
      simp -implicitDefEqProofs only [go_sem, Nat.reduceAdd, Nat.reduceSub, Nat.reduceMul, Nat.reduceLT, Nat.reduceLeDiff, Nat.reduceEqDiff, Nat.reduceBEq, hc1, hc2]
    · rw [if_neg hc2] at h
      replace hc2 := (Bool.not_eq_true _).mp hc2
      simp -implicitDefEqProofs only [go_sem, Nat.reduceAdd, Nat.reduceSub, Nat.reduceMul, Nat.reduceLT, Nat.reduceLeDiff, Nat.reduceEqDiff, Nat.reduceBEq, hc1, hc2]
      refine wpLoop_run' (step := tok_Token_Is_l0_step a0 a1) (fun s2 => mkSl 26 [(2, .ptr 0 0), (15, .sl .view (a1.map En.str.enc)), (16, .lit (.int .i64 (a1.length : Int))), (17, .lit (.int .i64 s2))]) (fun s2 => [.var [.lit (.int .i64 a0.Kind), .lit (.string (bs a0.Text)), .lit (.int .i64 a0.N), .lit (.int .i64 a0.At)]]) h (by kernel_rfl) (by first | rfl | simp -implicitDefEqProofs only [go_sem, Nat.reduceAdd, Nat.reduceSub, Nat.reduceMul, Nat.reduceLT, Nat.reduceLeDiff, Nat.reduceEqDiff, Nat.reduceBEq, mkSl]) (by first | rfl | simp -implicitDefEqProofs only [go_sem, Nat.reduceAdd, Nat.reduceSub, Nat.reduceMul, Nat.reduceLT, Nat.reduceLeDiff, Nat.reduceEqDiff, Nat.reduceBEq]) ?_
      clear h
      intro s2 xx3 h hx4
      unfold tok_Token_Is_l0_step at h
      by_cases hc5 : s2 < (a1.length : Int)
      · rw [if_pos hc5] at h
        obtain ⟨x3, h6, h⟩ := bind_some h
        by_cases hc7 : (a0.Text == x3) = true
        · rw [if_pos hc7] at h
          obtain rfl := Option.some.inj h
          obtain rfl := hx4 _ rfl
          simp -implicitDefEqProofs only [go_sem, Nat.reduceAdd, Nat.reduceSub, Nat.reduceMul, Nat.reduceLT, Nat.reduceLeDiff, Nat.reduceEqDiff, Nat.reduceBEq, hc5, h6, hc7, mkSl]
        · rw [if_neg hc7] at h
          replace hc7 := (Bool.not_eq_true _).mp hc7
          obtain rfl := Option.some.inj h
          simp -implicitDefEqProofs only [go_sem, Nat.reduceAdd, Nat.reduceSub, Nat.reduceMul, Nat.reduceLT, Nat.reduceLeDiff, Nat.reduceEqDiff, Nat.reduceBEq, hc5, h6, hc7, mkSl]
          exact ⟨_, rfl, rfl⟩
      · rw [if_neg hc5] at h
        obtain rfl := Option.some.inj h
        obtain rfl := hx4 _ rfl
        simp -implicitDefEqProofs only [go_sem, Nat.reduceAdd, Nat.reduceSub, Nat.reduceMul, Nat.reduceLT, Nat.reduceLeDiff, Nat.reduceEqDiff, Nat.reduceBEq, hc5, mkSl]
  · rw [if_neg hc1] at h
    replace hc1 := (Bool.not_eq_true _).mp hc1
    simp -implicitDefEqProofs only [go_sem, Nat.reduceAdd, Nat.reduceSub, Nat.reduceMul, Nat.reduceLT, Nat.reduceLeDiff, Nat.reduceEqDiff, Nat.reduceBEq, hc1, mkSl]
    refine wpLoop_run' (step := tok_Token_Is_l1_step a0 a1) (fun s4 => mkSl 26 [(2, .ptr 0 0), (15, .sl .view (a1.map En.str.enc)), (16, .lit (.int .i64 (a1.length : Int))), (17, .lit (.int .i64 s4))]) (fun s4 => [.var [.lit (.int .i64 a0.Kind), .lit (.string (bs a0.Text)), .lit (.int .i64 a0.N), .lit (.int .i64 a0.At)]]) h (by kernel_rfl) (by first | rfl | simp -implicitDefEqProofs only [go_sem, Nat.reduceAdd, Nat.reduceSub, Nat.reduceMul, Nat.reduceLT, Nat.reduceLeDiff, Nat.reduceEqDiff, Nat.reduceBEq, mkSl, mkSl]) (by first | rfl | simp -implicitDefEqProofs only [go_sem, Nat.reduceAdd, Nat.reduceSub, Nat.reduceMul, Nat.reduceLT, Nat.reduceLeDiff, Nat.reduceEqDiff, Nat.reduceBEq, mkSl]) ?_
    clear h
    intro s4 xx8 h hx9
    unfold tok_Token_Is_l1_step at h
    by_cases hc10 : s4 < (a1.length : Int)
    · rw [if_pos hc10] at h
      obtain ⟨x5, h11, h⟩ := bind_some h
      by_cases hc12 : (a0.Text == x5) = true
      · rw [if_pos hc12] at h
        obtain rfl := Option.some.inj h
        obtain rfl := hx9 _ rfl
        simp -implicitDefEqProofs only [go_sem, Nat.reduceAdd, Nat.reduceSub, Nat.reduceMul, Nat.reduceLT, Nat.reduceLeDiff, Nat.reduceEqDiff, Nat.reduceBEq, hc10, h11, hc12, mkSl]
      · rw [if_neg hc12] at h
        replace hc12 := (Bool.not_eq_true _).mp hc12
        obtain rfl := Option.some.inj h
        simp -implicitDefEqProofs only [go_sem, Nat.reduceAdd, Nat.reduceSub, Nat.reduceMul, Nat.reduceLT, Nat.reduceLeDiff, Nat.reduceEqDiff, Nat.reduceBEq, hc10, h11, hc12, mkSl]
        exact ⟨_, rfl, rfl⟩
    · rw [if_neg hc10] at h
      obtain rfl := Option.some.inj h
      obtain rfl := hx9 _ rfl
      simp -implicitDefEqProofs only [go_sem, Nat.reduceAdd, Nat.reduceSub, Nat.reduceMul, Nat.reduceLT, Nat.reduceLeDiff, Nat.reduceEqDiff, Nat.reduceBEq, hc10, mkSl]
theorem expr_levels_ok {r : (List ExprLevel)} (h : expr_levels = some r) :
  Vc cfg 159 [] [] fun v _ => v = .sl .view (r.map ExprLevel.en.enc) := by
  refine Vc_of (fn := Tryz.f159) rfl Tryz.func159 rfl Tryz.ntmps159 Tryz.results159 (by kernel_rfl) ?_
  conv => arg 3; whnf
  unfold expr_levels at h
  obtain rfl := Option.some.inj h
  simp -implicitDefEqProofs only [go_sem, Nat.reduceAdd, Nat.reduceSub, Nat.reduceMul, Nat.reduceLT, Nat.reduceLeDiff, Nat.reduceEqDiff, Nat.reduceBEq]
theorem expr_parser_next_ok {p0 : ExprParser} {B : List Blk} {i0 : Nat} {r : TokToken} (h : expr_parser_next p0 = some r) (hBi0 : B[i0]? = some (.var [.sl .view (p0.l.map TokToken.en.enc), .lit (.int .i64 p0.at_), .sl .own (p0.e.map ExprNode.en.enc)])) :
  Vc cfg 183 [.ptr i0 0] B fun v B' => v = .agg [.lit (.int .i64 r.Kind), .lit (.string (bs r.Text)), .lit (.int .i64 r.N), .lit (.int .i64 r.At)] ∧ B' = B := by
  refine Vc_of (fn := Tryz.f183) rfl Tryz.func183 rfl Tryz.ntmps183 Tryz.results183 (by kernel_rfl) ?_
  conv => arg 3; whnf
  unfold expr_parser_next at h
  have hii0 : i0 < B.length := lt_of_get hBi0
  by_cases hc1 : p0.at_ < (p0.l.length : Int)
  · rw [if_pos hc1] at h
    obtain ⟨x1, h2, h⟩ := bind_some h
    obtain rfl := Option.some.inj h
    simp -implicitDefEqProofs only [go_sem, Nat.reduceAdd, Nat.reduceSub, Nat.reduceMul, Nat.reduceLT, Nat.reduceLeDiff, Nat.reduceEqDiff, Nat.reduceBEq, hc1, h2, hBi0, hii0]
  · rw [if_neg hc1] at h
    obtain rfl := Option.some.inj h
    simp -implicitDefEqProofs only [go_sem, Nat.reduceAdd, Nat.reduceSub, Nat.reduceMul, Nat.reduceLT, Nat.reduceLeDiff, Nat.reduceEqDiff, Nat.reduceBEq, hc1, hBi0, hii0]
theorem expr_parser_take_ok {p0 : ExprParser} {a1 : List UInt8} {B : List Blk} {i0 : Nat} {r : Bool × ExprParser} (h : expr_parser_take p0 a1 = some r) (hBi0 : B[i0]? = some (.var [.sl .view (p0.l.map TokToken.en.enc), .lit (.int .i64 p0.at_), .sl .own (p0.e.map ExprNode.en.enc)])) :
  Vc cfg 176 [.ptr i0 0, .lit (.string (bs a1))] B fun v B' => v = .lit (.bool r.1) ∧ B' = B.set i0 (.var [.sl .view (r.2.l.map TokToken.en.enc), .lit (.int .i64 r.2.at_), .sl .own (r.2.e.map ExprNode.en.enc)]) := by
  refine Vc_of (fn := Tryz.f176) rfl Tryz.func176 rfl Tryz.ntmps176 Tryz.results176 (by kernel_rfl) ?_
  conv => arg 3; whnf
  unfold expr_parser_take at h
  have hii0 : i0 < B.length := lt_of_get hBi0
  simp -implicitDefEqProofs only [go_sem, Nat.reduceAdd, Nat.reduceSub, Nat.reduceMul, Nat.reduceLT, Nat.reduceLeDiff, Nat.reduceEqDiff, Nat.reduceBEq, hBi0, hii0]
  obtain ⟨r2, h1, h⟩ := bind_some h
  refine Vc.mono (expr_parser_next_ok h1 (by simp -implicitDefEqProofs only [go_sem, Nat.reduceAdd, Nat.reduceSub, Nat.reduceMul, Nat.reduceLT, Nat.reduceLeDiff, Nat.reduceEqDiff, Nat.reduceBEq, hBi0, hii0])) ?_
  rintro _ _ ⟨rfl, rfl⟩
  simp -implicitDefEqProofs only [go_sem, Nat.reduceAdd, Nat.reduceSub, Nat.reduceMul, Nat.reduceLT, Nat.reduceLeDiff, Nat.reduceEqDiff, Nat.reduceBEq, hBi0, hii0]
  obtain ⟨r3, h2, h⟩ := bind_some h
  refine Vc.mono (tok_Token_Is_ok h2) ?_
  rintro _ _ rfl
  by_cases hc3 : r3 = true
  · rw [if_pos hc3] at h
    obtain rfl := Option.some.inj h
    simp -implicitDefEqProofs only [go_sem, Nat.reduceAdd, Nat.reduceSub, Nat.reduceMul, Nat.reduceLT, Nat.reduceLeDiff, Nat.reduceEqDiff, Nat.reduceBEq, hc3, hBi0, hii0]
  · rw [if_neg hc3] at h
    replace hc3 := (Bool.not_eq_true _).mp hc3
    obtain rfl := Option.some.inj h
    simp -implicitDefEqProofs only [go_sem, Nat.reduceAdd, Nat.reduceSub, Nat.reduceMul, Nat.reduceLT, Nat.reduceLeDiff, Nat.reduceEqDiff, Nat.reduceBEq, hc3, hBi0, hii0]
theorem expr_parser_operation_ok {p0 : ExprParser} {a1 : ExprLevel} {B : List Blk} {i0 : Nat} {r : Int × ExprParser} (h : expr_parser_operation p0 a1 = some r) (hBi0 : B[i0]? = some (.var [.sl .view (p0.l.map TokToken.en.enc), .lit (.int .i64 p0.at_), .sl .own (p0.e.map ExprNode.en.enc)])) :
  Vc cfg 161 [.ptr i0 0, .agg [.sl .view (a1.signs.map En.str.enc), .sl .view (a1.ops.map (En.int .i64).enc), .lit (.bool a1.once)]] B fun v B' => v = .lit (.int .i64 r.1) ∧ B' = B.set i0 (.var [.sl .view (r.2.l.map TokToken.en.enc), .lit (.int .i64 r.2.at_), .sl .own (r.2.e.map ExprNode.en.enc)]) := by
  refine Vc_of (fn := Tryz.f161) rfl Tryz.func161 rfl Tryz.ntmps161 Tryz.results161 (by kernel_rfl) ?_
  conv => arg 3; whnf
  unfold expr_parser_operation at h
  have hii0 : i0 < B.length := lt_of_get hBi0
  simp -implicitDefEqProofs only [go_sem, Nat.reduceAdd, Nat.reduceSub, Nat.reduceMul, Nat.reduceLT, Nat.reduceLeDiff, Nat.reduceEqDiff, Nat.reduceBEq, hBi0, hii0]
  refine wpLoop_run' (step := expr_parser_operation_l0_step a1) (fun s2 => mkSl 24 [(0, .ptr i0 0), (3, .ptr B.length 0), (8, .sl .view (a1.signs.map En.str.enc)), (9, .lit (.int .i64 (a1.signs.length : Int))), (10, .lit (.int .i64 s2.1))]) (fun s2 => B.set i0 (.var [.sl .view (s2.2.1.map TokToken.en.enc), .lit (.int .i64 s2.2.2.1), .sl .own (s2.2.2.2.map ExprNode.en.enc)]) ++ [.var [.sl .view (a1.signs.map En.str.enc), .sl .view (a1.ops.map (En.int .i64).enc), .lit (.bool a1.once)]]) h (by kernel_rfl) (by first | rfl | simp -implicitDefEqProofs only [go_sem, Nat.reduceAdd, Nat.reduceSub, Nat.reduceMul, Nat.reduceLT, Nat.reduceLeDiff, Nat.reduceEqDiff, Nat.reduceBEq, mkSl, hBi0, hii0]) (by first | rfl | simp -implicitDefEqProofs only [go_sem, Nat.reduceAdd, Nat.reduceSub, Nat.reduceMul, Nat.reduceLT, Nat.reduceLeDiff, Nat.reduceEqDiff, Nat.reduceBEq, hBi0, hii0]) ?_
  clear h
  intro s2 xx1 h hx2
  unfold expr_parser_operation_l0_step at h
  by_cases hc3 : s2.1 < (a1.signs.length : Int)
  · rw [if_pos hc3] at h
    obtain ⟨x3, h4, h⟩ := bind_some h
    simp -implicitDefEqProofs only [go_sem, Nat.reduceAdd, Nat.reduceSub, Nat.reduceMul, Nat.reduceLT, Nat.reduceLeDiff, Nat.reduceEqDiff, Nat.reduceBEq, hc3, h4, hBi0, hii0, mkSl]
    obtain ⟨r4, h5, h⟩ := bind_some h
    refine Vc.mono (expr_parser_take_ok h5 (by simp -implicitDefEqProofs only [go_sem, Nat.reduceAdd, Nat.reduceSub, Nat.reduceMul, Nat.reduceLT, Nat.reduceLeDiff, Nat.reduceEqDiff, Nat.reduceBEq, hBi0, hii0, mkSl])) ?_
    rintro _ _ ⟨rfl, rfl⟩
    by_cases hc6 : r4.1 = true
    · rw [if_pos hc6] at h
      obtain ⟨x5, h7, h⟩ := bind_some h
      obtain rfl := Option.some.inj h
      obtain rfl := hx2 _ rfl
      simp -implicitDefEqProofs only [go_sem, Nat.reduceAdd, Nat.reduceSub, Nat.reduceMul, Nat.reduceLT, Nat.reduceLeDiff, Nat.reduceEqDiff, Nat.reduceBEq, hc6, h7, hBi0, hii0, mkSl]
    · rw [if_neg hc6] at h
      replace hc6 := (Bool.not_eq_true _).mp hc6
      obtain rfl := Option.some.inj h
      simp -implicitDefEqProofs only [go_sem, Nat.reduceAdd, Nat.reduceSub, Nat.reduceMul, Nat.reduceLT, Nat.reduceLeDiff, Nat.reduceEqDiff, Nat.reduceBEq, hc6, hBi0, hii0, mkSl]
      first | exact ⟨_, rfl, rfl⟩ | exact ⟨_, rfl, by simp only [hc6]⟩
  · rw [if_neg hc3] at h
    obtain rfl := Option.some.inj h
    obtain rfl := hx2 _ rfl
    simp -implicitDefEqProofs only [go_sem, Nat.reduceAdd, Nat.reduceSub, Nat.reduceMul, Nat.reduceLT, Nat.reduceLeDiff, Nat.reduceEqDiff, Nat.reduceBEq, hc3, hBi0, hii0, mkSl]
theorem expr_parser_add_ok {p0 : ExprParser} {a1 : ExprNode} {B : List Blk} {i0 : Nat} {r : Bool × ExprParser} (h : expr_parser_add p0 a1 = some r) (hBi0 : B[i0]? = some (.var [.sl .view (p0.l.map TokToken.en.enc), .lit (.int .i64 p0.at_), .sl .own (p0.e.map ExprNode.en.enc)])) :
  Vc cfg 162 [.ptr i0 0, .agg [.lit (.int .i64 a1.Op), .lit (.int .i64 a1.V.Kind), .lit (.int .i64 a1.V.N), .lit (.string (bs a1.V.S)), .lit (.string (bs a1.Name)), .lit (.int .i64 a1.L), .lit (.int .i64 a1.R)]] B fun v B' => v = .lit (.bool r.1) ∧ B' = B.set i0 (.var [.sl .view (r.2.l.map TokToken.en.enc), .lit (.int .i64 r.2.at_), .sl .own (r.2.e.map ExprNode.en.enc)]) := by
  refine Vc_of (fn := Tryz.f162) rfl Tryz.func162 rfl Tryz.ntmps162 Tryz.results162 (by kernel_rfl) ?_
  conv => arg 3; whnf
  unfold expr_parser_add at h
  have hii0 : i0 < B.length := lt_of_get hBi0
  obtain ⟨l2, h1, h⟩ := bind_some h
  have h2 := vappend_en ExprNode.en (P := Tryz.prog) (t := 29) (f := .own) h1 (by simp -implicitDefEqProofs only [go_sem, Nat.reduceAdd, Nat.reduceSub, Nat.reduceMul, Nat.reduceLT, Nat.reduceLeDiff, Nat.reduceEqDiff, Nat.reduceBEq, Option.map_some])
  simp -implicitDefEqProofs only [go_sem, Nat.reduceAdd, Nat.reduceSub, Nat.reduceMul, Nat.reduceLT, Nat.reduceLeDiff, Nat.reduceEqDiff, Nat.reduceBEq] at h2
  obtain rfl := Option.some.inj h
  simp -implicitDefEqProofs only [go_sem, Nat.reduceAdd, Nat.reduceSub, Nat.reduceMul, Nat.reduceLT, Nat.reduceLeDiff, Nat.reduceEqDiff, Nat.reduceBEq, h2, hBi0, hii0]
end Go.Proofs.YtilmjbljkkbakaaGreatDoor
