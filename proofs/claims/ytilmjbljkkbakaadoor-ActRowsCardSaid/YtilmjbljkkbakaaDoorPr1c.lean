/-
  A part of the proof: lemmas.
-/
import Derived.Test.YtilmjbljkkbakaaDoorFactsc
import Derived.Test.YtilmjbljkkbakaaDoorFunsc
set_option linter.unusedSimpArgs false
set_option linter.unusedVariables false
set_option linter.unusedSectionVars false
set_option linter.unnecessarySimpa false
set_option linter.deprecated false
/-! The functions' proofs. -/
namespace Go.Proofs.YtilmjbljkkbakaaDoor
open Go.Wv
set_option linter.unusedSimpArgs false
set_option linter.unusedVariables false
set_option maxRecDepth 10000
set_option maxHeartbeats 20000000
theorem tok_Token_Is_ok {a0 : TokToken} {a1 : List (List UInt8)} {r : Bool} (h : tok_Token_Is a0 a1 = some r) :
  Vc cfg 46 [.agg [.lit (.int .i64 a0.Kind), .lit (.string (bs a0.Text)), .lit (.int .i64 a0.N), .lit (.int .i64 a0.At)], .sl .view (a1.map En.str.enc)] [] fun v _ => v = .lit (.bool r) := by
  refine Vc_of (fn := Tryd.f46) rfl Tryd.func46 rfl Tryd.ntmps46 Tryd.results46 (by kernel_rfl) ?_
  conv => arg 3; whnf
  unfold tok_Token_Is at h
  by_cases hc1 : (a0.Kind != 1) = true
  · rw [if_pos hc1] at h
    by_cases hc2 : (a0.Kind != 5) = true
    · rw [if_pos hc2] at h
      obtain rfl := Option.some.inj h
      simp -implicitDefEqProofs only [go_sem, Nat.reduceAdd, Nat.reduceSub, Nat.reduceMul, Nat.reduceLT, Nat.reduceLeDiff, Nat.reduceEqDiff, Nat.reduceBEq, hc1, hc2]
    · rw [if_neg hc2] at h
      replace hc2 := (Bool.not_eq_true _).mp hc2
      simp -implicitDefEqProofs only [go_sem, Nat.reduceAdd, Nat.reduceSub, Nat.reduceMul, Nat.reduceLT, Nat.reduceLeDiff, Nat.reduceEqDiff, Nat.reduceBEq, hc1, hc2]
      refine wpLoop_run' (step := tok_Token_Is_l0_step a0 a1) (fun s2 => mkSl 26 [(2, .ptr 0 0), (15, .sl .view (a1.map En.str.enc)), (16, .lit (.int .i64 (a1.length : Int))), (17, .lit (.int .i64 s2))]) (fun s2 => [.var [.lit (.int .i64 a0.Kind), .lit (.string (bs a0.Text)), .lit (.int .i64 a0.N), .lit (.int .i64 a0.At)]]) h (by kernel_rfl) (by first | rfl | simp -implicitDefEqProofs only [go_sem, Nat.reduceAdd, Nat.reduceSub, Nat.reduceMul, Nat.reduceLT, Nat.reduceLeDiff, Nat.reduceEqDiff, Nat.reduceBEq, mkSl]) (by first | rfl | simp -implicitDefEqProofs only [go_sem, Nat.reduceAdd, Nat.reduceSub, Nat.reduceMul, Nat.reduceLT, Nat.reduceLeDiff, Nat.reduceEqDiff, Nat.reduceBEq]) ?_
      clear h
      intro s2 xx3 h hx4
      unfold tok_Token_Is_l0_step at h
      by_cases hc5 : s2 < (a1.length : Int)
      · rw [if_pos hc5] at h
        obtain ⟨x3, h6, h⟩ := bind_some h
        by_cases hc7 : (a0.Text == x3) = true
        · rw [if_pos hc7] at h
          obtain rfl := Option.some.inj h
          obtain rfl := hx4 _ rfl
          simp -implicitDefEqProofs only [go_sem, Nat.reduceAdd, Nat.reduceSub, Nat.reduceMul, Nat.reduceLT, Nat.reduceLeDiff, Nat.reduceEqDiff, Nat.reduceBEq, hc5, h6, hc7, mkSl]
        · rw [if_neg hc7] at h
          replace hc7 := (Bool.not_eq_true _).mp hc7
          obtain rfl := Option.some.inj h
          simp -implicitDefEqProofs only [go_sem, Nat.reduceAdd, Nat.reduceSub, Nat.reduceMul, Nat.reduceLT, Nat.reduceLeDiff, Nat.reduceEqDiff, Nat.reduceBEq, hc5, h6, hc7, mkSl]
          exact ⟨_, rfl, rfl⟩
      · rw [if_neg hc5] at h
        obtain rfl := Option.some.inj h
        obtain rfl := hx4 _ rfl
        simp -implicitDefEqProofs only [go_sem, Nat.reduceAdd, Nat.reduceSub, Nat.reduceMul, Nat.reduceLT, Nat.reduceLeDiff, Nat.reduceEqDiff, Nat.reduceBEq, hc5, mkSl]
  · rw [if_neg hc1] at h
    replace hc1 := (Bool.not_eq_true _).mp hc1
    simp -implicitDefEqProofs only [go_sem, Nat.reduceAdd, Nat.reduceSub, Nat.reduceMul, Nat.reduceLT, Nat.reduceLeDiff, Nat.reduceEqDiff, Nat.reduceBEq, hc1, mkSl]
    refine wpLoop_run' (step := tok_Token_Is_l1_step a0 a1) (fun s4 => mkSl 26 [(2, .ptr 0 0), (15, .sl .view (a1.map En.str.enc)), (16, .lit (.int .i64 (a1.length : Int))), (17, .lit (.int .i64 s4))]) (fun s4 => [.var [.lit (.int .i64 a0.Kind), .lit (.string (bs a0.Text)), .lit (.int .i64 a0.N), .lit (.int .i64 a0.At)]]) h (by kernel_rfl) (by first | rfl | simp -implicitDefEqProofs only [go_sem, Nat.reduceAdd, Nat.reduceSub, Nat.reduceMul, Nat.reduceLT, Nat.reduceLeDiff, Nat.reduceEqDiff, Nat.reduceBEq, mkSl, mkSl]) (by first | rfl | simp -implicitDefEqProofs only [go_sem, Nat.reduceAdd, Nat.reduceSub, Nat.reduceMul, Nat.reduceLT, Nat.reduceLeDiff, Nat.reduceEqDiff, Nat.reduceBEq, mkSl]) ?_
    clear h
    intro s4 xx8 h hx9
    unfold tok_Token_Is_l1_step at h
    by_cases hc10 : s4 < (a1.length : Int)
    · rw [if_pos hc10] at h
      obtain ⟨x5, h11, h⟩ := bind_some h
      by_cases hc12 : (a0.Text == x5) = true
      · rw [if_pos hc12] at h
        obtain rfl := Option.some.inj h
        obtain rfl := hx9 _ rfl
        simp -implicitDefEqProofs only [go_sem, Nat.reduceAdd, Nat.reduceSub, Nat.reduceMul, Nat.reduceLT, Nat.reduceLeDiff, Nat.reduceEqDiff, Nat.reduceBEq, hc10, h11, hc12, mkSl]
      · rw [if_neg hc12] at h
        replace hc12 := (Bool.not_eq_true _).mp hc12
        obtain rfl := Option.some.inj h
        simp -implicitDefEqProofs only [go_sem, Nat.reduceAdd, Nat.reduceSub, Nat.reduceMul, Nat.reduceLT, Nat.reduceLeDiff, Nat.reduceEqDiff, Nat.reduceBEq, hc10, h11, hc12, mkSl]
        exact ⟨_, rfl, rfl⟩
    · rw [if_neg hc10] at h
      obtain rfl := Option.some.inj h
      obtain rfl := hx9 _ rfl
      simp -implicitDefEqProofs only [go_sem, Nat.reduceAdd, Nat.reduceSub, Nat.reduceMul, Nat.reduceLT, Nat.reduceLeDiff, Nat.reduceEqDiff, Nat.reduceBEq, hc10, mkSl]
theorem act_reader_take_ok {p0 : ActReader} {a1 : List UInt8} {B : List Blk} {i0 : Nat} {r : Bool × ActReader} (h : act_reader_take p0 a1 = some r) (hBi0 : B[i0]? = some (.var [.sl .view (p0.l.map TokToken.en.enc), .lit (.int .i64 p0.at_), .lit (.int .i64 p0.e)])) :
  Vc cfg 24 [.ptr i0 0, .lit (.string (bs a1))] B fun v B' => v = .lit (.bool r.1) ∧ B' = B.set i0 (.var [.sl .view (r.2.l.map TokToken.en.enc), .lit (.int .i64 r.2.at_), .lit (.int .i64 r.2.e)]) := by
  refine Vc_of (fn := Tryd.f24) rfl Tryd.func24 rfl Tryd.ntmps24 Tryd.results24 (by kernel_rfl) ?_
  conv => arg 3; whnf
  unfold act_reader_take at h
  have hii0 : i0 < B.length := lt_of_get hBi0
  by_cases hc1 : p0.at_ < (p0.l.length : Int)
  · rw [if_pos hc1] at h
    obtain ⟨x2, h2, h⟩ := bind_some h
    simp -implicitDefEqProofs only [go_sem, Nat.reduceAdd, Nat.reduceSub, Nat.reduceMul, Nat.reduceLT, Nat.reduceLeDiff, Nat.reduceEqDiff, Nat.reduceBEq, hc1, h2, hBi0, hii0]
    obtain ⟨r3, h3, h⟩ := bind_some h
    refine Vc.mono (tok_Token_Is_ok h3) ?_
    rintro _ _ rfl
    by_cases hc4 : r3 = true
    · rw [if_pos hc4] at h
      obtain rfl := Option.some.inj h
      simp -implicitDefEqProofs only [go_sem, Nat.reduceAdd, Nat.reduceSub, Nat.reduceMul, Nat.reduceLT, Nat.reduceLeDiff, Nat.reduceEqDiff, Nat.reduceBEq, hc1, hc4, hBi0, hii0]
    · rw [if_neg hc4] at h
      replace hc4 := (Bool.not_eq_true _).mp hc4
      obtain rfl := Option.some.inj h
      simp -implicitDefEqProofs only [go_sem, Nat.reduceAdd, Nat.reduceSub, Nat.reduceMul, Nat.reduceLT, Nat.reduceLeDiff, Nat.reduceEqDiff, Nat.reduceBEq, hc1, hc4, hBi0, hii0]
  · rw [if_neg hc1] at h
    obtain rfl := Option.some.inj h
    simp -implicitDefEqProofs only [go_sem, Nat.reduceAdd, Nat.reduceSub, Nat.reduceMul, Nat.reduceLT, Nat.reduceLeDiff, Nat.reduceEqDiff, Nat.reduceBEq, hc1, hBi0, hii0]
theorem expr_levels_ok {r : (List ExprLevel)} (h : expr_levels = some r) :
  Vc cfg 37 [] [] fun v _ => v = .sl .view (r.map ExprLevel.en.enc) := by
  refine Vc_of (fn := Tryd.f37) rfl Tryd.func37 rfl Tryd.ntmps37 Tryd.results37 (by kernel_rfl) ?_
  conv => arg 3; whnf
  unfold expr_levels at h
  obtain rfl := Option.some.inj h
  simp -implicitDefEqProofs only [go_sem, Nat.reduceAdd, Nat.reduceSub, Nat.reduceMul, Nat.reduceLT, Nat.reduceLeDiff, Nat.reduceEqDiff, Nat.reduceBEq]
theorem expr_parser_next_ok {p0 : ExprParser} {B : List Blk} {i0 : Nat} {r : TokToken} (h : expr_parser_next p0 = some r) (hBi0 : B[i0]? = some (.var [.sl .view (p0.l.map TokToken.en.enc), .lit (.int .i64 p0.at_), .sl .own (p0.e.map ExprNode.en.enc)])) :
  Vc cfg 74 [.ptr i0 0] B fun v B' => v = .agg [.lit (.int .i64 r.Kind), .lit (.string (bs r.Text)), .lit (.int .i64 r.N), .lit (.int .i64 r.At)] ∧ B' = B := by
  refine Vc_of (fn := Tryd.f74) rfl Tryd.func74 rfl Tryd.ntmps74 Tryd.results74 (by kernel_rfl) ?_
  conv => arg 3; whnf
  unfold expr_parser_next at h
  have hii0 : i0 < B.length := lt_of_get hBi0
  by_cases hc1 : p0.at_ < (p0.l.length : Int)
  · rw [if_pos hc1] at h
    obtain ⟨x1, h2, h⟩ := bind_some h
    obtain rfl := Option.some.inj h
    simp -implicitDefEqProofs only [go_sem, Nat.reduceAdd, Nat.reduceSub, Nat.reduceMul, Nat.reduceLT, Nat.reduceLeDiff, Nat.reduceEqDiff, Nat.reduceBEq, hc1, h2, hBi0, hii0]
  · rw [if_neg hc1] at h
    obtain rfl := Option.some.inj h
    simp -implicitDefEqProofs only [go_sem, Nat.reduceAdd, Nat.reduceSub, Nat.reduceMul, Nat.reduceLT, Nat.reduceLeDiff, Nat.reduceEqDiff, Nat.reduceBEq, hc1, hBi0, hii0]
theorem expr_parser_take_ok {p0 : ExprParser} {a1 : List UInt8} {B : List Blk} {i0 : Nat} {r : Bool × ExprParser} (h : expr_parser_take p0 a1 = some r) (hBi0 : B[i0]? = some (.var [.sl .view (p0.l.map TokToken.en.enc), .lit (.int .i64 p0.at_), .sl .own (p0.e.map ExprNode.en.enc)])) :
  Vc cfg 63 [.ptr i0 0, .lit (.string (bs a1))] B fun v B' => v = .lit (.bool r.1) ∧ B' = B.set i0 (.var [.sl .view (r.2.l.map TokToken.en.enc), .lit (.int .i64 r.2.at_), .sl .own (r.2.e.map ExprNode.en.enc)]) := by
  refine Vc_of (fn := Tryd.f63) rfl Tryd.func63 rfl Tryd.ntmps63 Tryd.results63 (by kernel_rfl) ?_
  conv => arg 3; whnf
  unfold expr_parser_take at h
  have hii0 : i0 < B.length := lt_of_get hBi0
  simp -implicitDefEqProofs only [go_sem, Nat.reduceAdd, Nat.reduceSub, Nat.reduceMul, Nat.reduceLT, Nat.reduceLeDiff, Nat.reduceEqDiff, Nat.reduceBEq, hBi0, hii0]
  obtain ⟨r2, h1, h⟩ := bind_some h
  refine Vc.mono (expr_parser_next_ok h1 (by simp -implicitDefEqProofs only [go_sem, Nat.reduceAdd, Nat.reduceSub, Nat.reduceMul, Nat.reduceLT, Nat.reduceLeDiff, Nat.reduceEqDiff, Nat.reduceBEq, hBi0, hii0])) ?_
  rintro _ _ ⟨rfl, rfl⟩
  simp -implicitDefEqProofs only [go_sem, Nat.reduceAdd, Nat.reduceSub, Nat.reduceMul, Nat.reduceLT, Nat.reduceLeDiff, Nat.reduceEqDiff, Nat.reduceBEq, hBi0, hii0]
  obtain ⟨r3, h2, h⟩ := bind_some h
  refine Vc.mono (tok_Token_Is_ok h2) ?_
  rintro _ _ rfl
  by_cases hc3 : r3 = true
  · rw [if_pos hc3] at h
    obtain rfl := Option.some.inj h
    simp -implicitDefEqProofs only [go_sem, Nat.reduceAdd, Nat.reduceSub, Nat.reduceMul, Nat.reduceLT, Nat.reduceLeDiff, Nat.reduceEqDiff, Nat.reduceBEq, hc3, hBi0, hii0]
  · rw [if_neg hc3] at h
    replace hc3 := (Bool.not_eq_true _).mp hc3
    obtain rfl := Option.some.inj h
    simp -implicitDefEqProofs only [go_sem, Nat.reduceAdd, Nat.reduceSub, Nat.reduceMul, Nat.reduceLT, Nat.reduceLeDiff, Nat.reduceEqDiff, Nat.reduceBEq, hc3, hBi0, hii0]
theorem expr_parser_operation_ok {p0 : ExprParser} {a1 : ExprLevel} {B : List Blk} {i0 : Nat} {r : Int × ExprParser} (h : expr_parser_operation p0 a1 = some r) (hBi0 : B[i0]? = some (.var [.sl .view (p0.l.map TokToken.en.enc), .lit (.int .i64 p0.at_), .sl .own (p0.e.map ExprNode.en.enc)])) :
  Vc cfg 39 [.ptr i0 0, .agg [.sl .view (a1.signs.map En.str.enc), .sl .view (a1.ops.map (En.int .i64).enc), .lit (.bool a1.once)]] B fun v B' => v = .lit (.int .i64 r.1) ∧ B' = B.set i0 (.var [.sl .view (r.2.l.map TokToken.en.enc), .lit (.int .i64 r.2.at_), .sl .own (r.2.e.map ExprNode.en.enc)]) := by
  refine Vc_of (fn := Tryd.f39) rfl Tryd.func39 rfl Tryd.ntmps39 Tryd.results39 (by kernel_rfl) ?_
  conv => arg 3; whnf
  unfold expr_parser_operation at h
  have hii0 : i0 < B.length := lt_of_get hBi0
  simp -implicitDefEqProofs only [go_sem, Nat.reduceAdd, Nat.reduceSub, Nat.reduceMul, Nat.reduceLT, Nat.reduceLeDiff, Nat.reduceEqDiff, Nat.reduceBEq, hBi0, hii0]
  refine wpLoop_run' (step := expr_parser_operation_l0_step a1) (fun s2 => mkSl 24 [(0, .ptr i0 0), (3, .ptr B.length 0), (8, .sl .view (a1.signs.map En.str.enc)), (9, .lit (.int .i64 (a1.signs.length : Int))), (10, .lit (.int .i64 s2.1))]) (fun s2 => B.set i0 (.var [.sl .view (s2.2.1.map TokToken.en.enc), .lit (.int .i64 s2.2.2.1), .sl .own (s2.2.2.2.map ExprNode.en.enc)]) ++ [.var [.sl .view (a1.signs.map En.str.enc), .sl .view (a1.ops.map (En.int .i64).enc), .lit (.bool a1.once)]]) h (by kernel_rfl) (by first | rfl | simp -implicitDefEqProofs only [go_sem, Nat.reduceAdd, Nat.reduceSub, Nat.reduceMul, Nat.reduceLT, Nat.reduceLeDiff, Nat.reduceEqDiff, Nat.reduceBEq, mkSl, hBi0, hii0]) (by first | rfl | simp -implicitDefEqProofs only [go_sem, Nat.reduceAdd, Nat.reduceSub, Nat.reduceMul, Nat.reduceLT, Nat.reduceLeDiff, Nat.reduceEqDiff, Nat.reduceBEq, hBi0, hii0]) ?_
  clear h
  intro s2 xx1 h hx2
  unfold expr_parser_operation_l0_step at h
  by_cases hc3 : s2.1 < (a1.signs.length : Int)
  · rw [if_pos hc3] at h
    obtain ⟨x3, h4, h⟩ := bind_some h
    simp -implicitDefEqProofs only [go_sem, Nat.reduceAdd, Nat.reduceSub, Nat.reduceMul, Nat.reduceLT, Nat.reduceLeDiff, Nat.reduceEqDiff, Nat.reduceBEq, hc3, h4, hBi0, hii0, mkSl]
    obtain ⟨r4, h5, h⟩ := bind_some h
    refine Vc.mono (expr_parser_take_ok h5 (by simp -implicitDefEqProofs only [go_sem, Nat.reduceAdd, Nat.reduceSub, Nat.reduceMul, Nat.reduceLT, Nat.reduceLeDiff, Nat.reduceEqDiff, Nat.reduceBEq, hBi0, hii0, mkSl])) ?_
    rintro _ _ ⟨rfl, rfl⟩
    by_cases hc6 : r4.1 = true
    · rw [if_pos hc6] at h
      obtain ⟨x5, h7, h⟩ := bind_some h
      obtain rfl := Option.some.inj h
      obtain rfl := hx2 _ rfl
      simp -implicitDefEqProofs only [go_sem, Nat.reduceAdd, Nat.reduceSub, Nat.reduceMul, Nat.reduceLT, Nat.reduceLeDiff, Nat.reduceEqDiff, Nat.reduceBEq, hc6, h7, hBi0, hii0, mkSl]
    · rw [if_neg hc6] at h
      replace hc6 := (Bool.not_eq_true _).mp hc6
      obtain rfl := Option.some.inj h
      simp -implicitDefEqProofs only [go_sem, Nat.reduceAdd, Nat.reduceSub, Nat.reduceMul, Nat.reduceLT, Nat.reduceLeDiff, Nat.reduceEqDiff, Nat.reduceBEq, hc6, hBi0, hii0, mkSl]
      exact ⟨_, rfl, rfl⟩
  · rw [if_neg hc3] at h
    obtain rfl := Option.some.inj h
    obtain rfl := hx2 _ rfl
    simp -implicitDefEqProofs only [go_sem, Nat.reduceAdd, Nat.reduceSub, Nat.reduceMul, Nat.reduceLT, Nat.reduceLeDiff, Nat.reduceEqDiff, Nat.reduceBEq, hc3, hBi0, hii0, mkSl]
theorem expr_parser_add_ok {p0 : ExprParser} {a1 : ExprNode} {B : List Blk} {i0 : Nat} {r : Bool × ExprParser} (h : expr_parser_add p0 a1 = some r) (hBi0 : B[i0]? = some (.var [.sl .view (p0.l.map TokToken.en.enc), .lit (.int .i64 p0.at_), .sl .own (p0.e.map ExprNode.en.enc)])) :
  Vc cfg 40 [.ptr i0 0, .agg [.lit (.int .i64 a1.Op), .lit (.int .i64 a1.V.Kind), .lit (.int .i64 a1.V.N), .lit (.string (bs a1.V.S)), .lit (.string (bs a1.Name)), .lit (.int .i64 a1.L), .lit (.int .i64 a1.R)]] B fun v B' => v = .lit (.bool r.1) ∧ B' = B.set i0 (.var [.sl .view (r.2.l.map TokToken.en.enc), .lit (.int .i64 r.2.at_), .sl .own (r.2.e.map ExprNode.en.enc)]) := by
  refine Vc_of (fn := Tryd.f40) rfl Tryd.func40 rfl Tryd.ntmps40 Tryd.results40 (by kernel_rfl) ?_
  conv => arg 3; whnf
  unfold expr_parser_add at h
  have hii0 : i0 < B.length := lt_of_get hBi0
  obtain ⟨l2, h1, h⟩ := bind_some h
  have h2 := vappend_en ExprNode.en (P := Tryd.prog) (t := 28) (f := .own) h1 (by simp -implicitDefEqProofs only [go_sem, Nat.reduceAdd, Nat.reduceSub, Nat.reduceMul, Nat.reduceLT, Nat.reduceLeDiff, Nat.reduceEqDiff, Nat.reduceBEq, Option.map_some])
  simp -implicitDefEqProofs only [go_sem, Nat.reduceAdd, Nat.reduceSub, Nat.reduceMul, Nat.reduceLT, Nat.reduceLeDiff, Nat.reduceEqDiff, Nat.reduceBEq] at h2
  obtain rfl := Option.some.inj h
  simp -implicitDefEqProofs only [go_sem, Nat.reduceAdd, Nat.reduceSub, Nat.reduceMul, Nat.reduceLT, Nat.reduceLeDiff, Nat.reduceEqDiff, Nat.reduceBEq, h2, hBi0, hii0]
theorem val_Of_ok {a0 : Int} {r : ValValue} (h : val_Of a0 = some r) :
  Vc cfg 75 [.lit (.int .i64 a0)] [] fun v _ => v = .agg [.lit (.int .i64 r.Kind), .lit (.int .i64 r.N), .lit (.string (bs r.S))] := by
  refine Vc_of (fn := Tryd.f75) rfl Tryd.func75 rfl Tryd.ntmps75 Tryd.results75 (by kernel_rfl) ?_
  conv => arg 3; whnf
  unfold val_Of at h
  obtain rfl := Option.some.inj h
  simp -implicitDefEqProofs only [go_sem, Nat.reduceAdd, Nat.reduceSub, Nat.reduceMul, Nat.reduceLT, Nat.reduceLeDiff, Nat.reduceEqDiff, Nat.reduceBEq]
theorem val_Word_ok {a0 : List UInt8} {r : ValValue} (h : val_Word a0 = some r) :
  Vc cfg 76 [.lit (.string (bs a0))] [] fun v _ => v = .agg [.lit (.int .i64 r.Kind), .lit (.int .i64 r.N), .lit (.string (bs r.S))] := by
  refine Vc_of (fn := Tryd.f76) rfl Tryd.func76 rfl Tryd.ntmps76 Tryd.results76 (by kernel_rfl) ?_
  conv => arg 3; whnf
  unfold val_Word at h
  obtain rfl := Option.some.inj h
  simp -implicitDefEqProofs only [go_sem, Nat.reduceAdd, Nat.reduceSub, Nat.reduceMul, Nat.reduceLT, Nat.reduceLeDiff, Nat.reduceEqDiff, Nat.reduceBEq]
theorem val_Truth_ok {a0 : Bool} {r : ValValue} (h : val_Truth a0 = some r) :
  Vc cfg 77 [.lit (.bool a0)] [] fun v _ => v = .agg [.lit (.int .i64 r.Kind), .lit (.int .i64 r.N), .lit (.string (bs r.S))] := by
  refine Vc_of (fn := Tryd.f77) rfl Tryd.func77 rfl Tryd.ntmps77 Tryd.results77 (by kernel_rfl) ?_
  conv => arg 3; whnf
  unfold val_Truth at h
  by_cases hc1 : a0 = true
  · rw [if_pos hc1] at h
    obtain rfl := Option.some.inj h
    simp -implicitDefEqProofs only [go_sem, Nat.reduceAdd, Nat.reduceSub, Nat.reduceMul, Nat.reduceLT, Nat.reduceLeDiff, Nat.reduceEqDiff, Nat.reduceBEq, hc1]
  · rw [if_neg hc1] at h
    replace hc1 := (Bool.not_eq_true _).mp hc1
    obtain rfl := Option.some.inj h
    simp -implicitDefEqProofs only [go_sem, Nat.reduceAdd, Nat.reduceSub, Nat.reduceMul, Nat.reduceLT, Nat.reduceLeDiff, Nat.reduceEqDiff, Nat.reduceBEq, hc1]
theorem tok_Means_ok {a0 : List UInt8} {r : Bool} (h : tok_Means a0 = some r) :
  Vc cfg 69 [.lit (.string (bs a0))] [] fun v _ => v = .lit (.bool r) := by
  refine Vc_of (fn := Tryd.f69) rfl Tryd.func69 rfl Tryd.ntmps69 Tryd.results69 (by kernel_rfl) ?_
  conv => arg 3; whnf
  unfold tok_Means at h
  by_cases hc1 : (a0 == [99, 104, 97, 114, 116]) = true
  · rw [if_pos hc1] at h
    obtain rfl := Option.some.inj h
    simp -implicitDefEqProofs only [go_sem, Nat.reduceAdd, Nat.reduceSub, Nat.reduceMul, Nat.reduceLT, Nat.reduceLeDiff, Nat.reduceEqDiff, Nat.reduceBEq, hc1]
  · rw [if_neg hc1] at h
    replace hc1 := (Bool.not_eq_true _).mp hc1
    by_cases hc2 : (a0 == [118, 97, 114]) = true
    · rw [if_pos hc2] at h
      obtain rfl := Option.some.inj h
      simp -implicitDefEqProofs only [go_sem, Nat.reduceAdd, Nat.reduceSub, Nat.reduceMul, Nat.reduceLT, Nat.reduceLeDiff, Nat.reduceEqDiff, Nat.reduceBEq, hc1, hc2]
    · rw [if_neg hc2] at h
      replace hc2 := (Bool.not_eq_true _).mp hc2
      by_cases hc3 : (a0 == [115, 116, 97, 116, 101]) = true
      · rw [if_pos hc3] at h
        obtain rfl := Option.some.inj h
        simp -implicitDefEqProofs only [go_sem, Nat.reduceAdd, Nat.reduceSub, Nat.reduceMul, Nat.reduceLT, Nat.reduceLeDiff, Nat.reduceEqDiff, Nat.reduceBEq, hc1, hc2, hc3]
      · rw [if_neg hc3] at h
        replace hc3 := (Bool.not_eq_true _).mp hc3
        by_cases hc4 : (a0 == [112, 97, 114, 97, 108, 108, 101, 108]) = true
        · rw [if_pos hc4] at h
          obtain rfl := Option.some.inj h
          simp -implicitDefEqProofs only [go_sem, Nat.reduceAdd, Nat.reduceSub, Nat.reduceMul, Nat.reduceLT, Nat.reduceLeDiff, Nat.reduceEqDiff, Nat.reduceBEq, hc1, hc2, hc3, hc4]
        · rw [if_neg hc4] at h
          replace hc4 := (Bool.not_eq_true _).mp hc4
          by_cases hc5 : (a0 == [102, 105, 110, 97, 108]) = true
          · rw [if_pos hc5] at h
            obtain rfl := Option.some.inj h
            simp -implicitDefEqProofs only [go_sem, Nat.reduceAdd, Nat.reduceSub, Nat.reduceMul, Nat.reduceLT, Nat.reduceLeDiff, Nat.reduceEqDiff, Nat.reduceBEq, hc1, hc2, hc3, hc4, hc5]
          · rw [if_neg hc5] at h
            replace hc5 := (Bool.not_eq_true _).mp hc5
            by_cases hc6 : (a0 == [100, 101, 101, 112]) = true
            · rw [if_pos hc6] at h
              obtain rfl := Option.some.inj h
              simp -implicitDefEqProofs only [go_sem, Nat.reduceAdd, Nat.reduceSub, Nat.reduceMul, Nat.reduceLT, Nat.reduceLeDiff, Nat.reduceEqDiff, Nat.reduceBEq, hc1, hc2, hc3, hc4, hc5, hc6]
            · rw [if_neg hc6] at h
              replace hc6 := (Bool.not_eq_true _).mp hc6
              by_cases hc7 : (a0 == [115, 104, 97, 108, 108, 111, 119]) = true
              · rw [if_pos hc7] at h
                obtain rfl := Option.some.inj h
                simp -implicitDefEqProofs only [go_sem, Nat.reduceAdd, Nat.reduceSub, Nat.reduceMul, Nat.reduceLT, Nat.reduceLeDiff, Nat.reduceEqDiff, Nat.reduceBEq, hc1, hc2, hc3, hc4, hc5, hc6, hc7]
              · rw [if_neg hc7] at h
                replace hc7 := (Bool.not_eq_true _).mp hc7
                by_cases hc8 : (a0 == [101, 110, 116, 101, 114]) = true
                · rw [if_pos hc8] at h
                  obtain rfl := Option.some.inj h
                  simp -implicitDefEqProofs only [go_sem, Nat.reduceAdd, Nat.reduceSub, Nat.reduceMul, Nat.reduceLT, Nat.reduceLeDiff, Nat.reduceEqDiff, Nat.reduceBEq, hc1, hc2, hc3, hc4, hc5, hc6, hc7, hc8]
                · rw [if_neg hc8] at h
                  replace hc8 := (Bool.not_eq_true _).mp hc8
                  by_cases hc9 : (a0 == [101, 120, 105, 116]) = true
                  · rw [if_pos hc9] at h
                    obtain rfl := Option.some.inj h
                    simp -implicitDefEqProofs only [go_sem, Nat.reduceAdd, Nat.reduceSub, Nat.reduceMul, Nat.reduceLT, Nat.reduceLeDiff, Nat.reduceEqDiff, Nat.reduceBEq, hc1, hc2, hc3, hc4, hc5, hc6, hc7, hc8, hc9]
                  · rw [if_neg hc9] at h
                    replace hc9 := (Bool.not_eq_true _).mp hc9
                    by_cases hc10 : (a0 == [111, 110]) = true
                    · rw [if_pos hc10] at h
                      obtain rfl := Option.some.inj h
                      simp -implicitDefEqProofs only [go_sem, Nat.reduceAdd, Nat.reduceSub, Nat.reduceMul, Nat.reduceLT, Nat.reduceLeDiff, Nat.reduceEqDiff, Nat.reduceBEq, hc1, hc2, hc3, hc4, hc5, hc6, hc7, hc8, hc9, hc10]
                    · rw [if_neg hc10] at h
                      replace hc10 := (Bool.not_eq_true _).mp hc10
                      by_cases hc11 : (a0 == [97, 117, 116, 111]) = true
                      · rw [if_pos hc11] at h
                        obtain rfl := Option.some.inj h
                        simp -implicitDefEqProofs only [go_sem, Nat.reduceAdd, Nat.reduceSub, Nat.reduceMul, Nat.reduceLT, Nat.reduceLeDiff, Nat.reduceEqDiff, Nat.reduceBEq, hc1, hc2, hc3, hc4, hc5, hc6, hc7, hc8, hc9, hc10, hc11]
                      · rw [if_neg hc11] at h
                        replace hc11 := (Bool.not_eq_true _).mp hc11
                        by_cases hc12 : (a0 == [101, 110, 100]) = true
                        · rw [if_pos hc12] at h
                          obtain rfl := Option.some.inj h
                          simp -implicitDefEqProofs only [go_sem, Nat.reduceAdd, Nat.reduceSub, Nat.reduceMul, Nat.reduceLT, Nat.reduceLeDiff, Nat.reduceEqDiff, Nat.reduceBEq, hc1, hc2, hc3, hc4, hc5, hc6, hc7, hc8, hc9, hc10, hc11, hc12]
                        · rw [if_neg hc12] at h
                          replace hc12 := (Bool.not_eq_true _).mp hc12
                          by_cases hc13 : (a0 == [105, 102]) = true
                          · rw [if_pos hc13] at h
                            obtain rfl := Option.some.inj h
                            simp -implicitDefEqProofs only [go_sem, Nat.reduceAdd, Nat.reduceSub, Nat.reduceMul, Nat.reduceLT, Nat.reduceLeDiff, Nat.reduceEqDiff, Nat.reduceBEq, hc1, hc2, hc3, hc4, hc5, hc6, hc7, hc8, hc9, hc10, hc11, hc12, hc13]
                          · rw [if_neg hc13] at h
                            replace hc13 := (Bool.not_eq_true _).mp hc13
                            by_cases hc14 : (a0 == [103, 111]) = true
                            · rw [if_pos hc14] at h
                              obtain rfl := Option.some.inj h
                              simp -implicitDefEqProofs only [go_sem, Nat.reduceAdd, Nat.reduceSub, Nat.reduceMul, Nat.reduceLT, Nat.reduceLeDiff, Nat.reduceEqDiff, Nat.reduceBEq, hc1, hc2, hc3, hc4, hc5, hc6, hc7, hc8, hc9, hc10, hc11, hc12, hc13, hc14]
                            · rw [if_neg hc14] at h
                              replace hc14 := (Bool.not_eq_true _).mp hc14
                              by_cases hc15 : (a0 == [105, 110, 110, 101, 114]) = true
                              · rw [if_pos hc15] at h
                                obtain rfl := Option.some.inj h
                                simp -implicitDefEqProofs only [go_sem, Nat.reduceAdd, Nat.reduceSub, Nat.reduceMul, Nat.reduceLT, Nat.reduceLeDiff, Nat.reduceEqDiff, Nat.reduceBEq, hc1, hc2, hc3, hc4, hc5, hc6, hc7, hc8, hc9, hc10, hc11, hc12, hc13, hc14, hc15]
                              · rw [if_neg hc15] at h
                                replace hc15 := (Bool.not_eq_true _).mp hc15
                                by_cases hc16 : (a0 == [100, 111]) = true
                                · rw [if_pos hc16] at h
                                  obtain rfl := Option.some.inj h
                                  simp -implicitDefEqProofs only [go_sem, Nat.reduceAdd, Nat.reduceSub, Nat.reduceMul, Nat.reduceLT, Nat.reduceLeDiff, Nat.reduceEqDiff, Nat.reduceBEq, hc1, hc2, hc3, hc4, hc5, hc6, hc7, hc8, hc9, hc10, hc11, hc12, hc13, hc14, hc15, hc16]
                                · rw [if_neg hc16] at h
                                  replace hc16 := (Bool.not_eq_true _).mp hc16
                                  by_cases hc17 : (a0 == [115, 101, 116]) = true
                                  · rw [if_pos hc17] at h
                                    obtain rfl := Option.some.inj h
                                    simp -implicitDefEqProofs only [go_sem, Nat.reduceAdd, Nat.reduceSub, Nat.reduceMul, Nat.reduceLT, Nat.reduceLeDiff, Nat.reduceEqDiff, Nat.reduceBEq, hc1, hc2, hc3, hc4, hc5, hc6, hc7, hc8, hc9, hc10, hc11, hc12, hc13, hc14, hc15, hc16, hc17]
                                  · rw [if_neg hc17] at h
                                    replace hc17 := (Bool.not_eq_true _).mp hc17
                                    by_cases hc18 : (a0 == [114, 97, 105, 115, 101]) = true
                                    · rw [if_pos hc18] at h
                                      obtain rfl := Option.some.inj h
                                      simp -implicitDefEqProofs only [go_sem, Nat.reduceAdd, Nat.reduceSub, Nat.reduceMul, Nat.reduceLT, Nat.reduceLeDiff, Nat.reduceEqDiff, Nat.reduceBEq, hc1, hc2, hc3, hc4, hc5, hc6, hc7, hc8, hc9, hc10, hc11, hc12, hc13, hc14, hc15, hc16, hc17, hc18]
                                    · rw [if_neg hc18] at h
                                      replace hc18 := (Bool.not_eq_true _).mp hc18
                                      by_cases hc19 : (a0 == [115, 101, 110, 100]) = true
                                      · rw [if_pos hc19] at h
                                        obtain rfl := Option.some.inj h
                                        simp -implicitDefEqProofs only [go_sem, Nat.reduceAdd, Nat.reduceSub, Nat.reduceMul, Nat.reduceLT, Nat.reduceLeDiff, Nat.reduceEqDiff, Nat.reduceBEq, hc1, hc2, hc3, hc4, hc5, hc6, hc7, hc8, hc9, hc10, hc11, hc12, hc13, hc14, hc15, hc16, hc17, hc18, hc19]
                                      · rw [if_neg hc19] at h
                                        replace hc19 := (Bool.not_eq_true _).mp hc19
                                        by_cases hc20 : (a0 == [99, 97, 110, 99, 101, 108]) = true
                                        · rw [if_pos hc20] at h
                                          obtain rfl := Option.some.inj h
                                          simp -implicitDefEqProofs only [go_sem, Nat.reduceAdd, Nat.reduceSub, Nat.reduceMul, Nat.reduceLT, Nat.reduceLeDiff, Nat.reduceEqDiff, Nat.reduceBEq, hc1, hc2, hc3, hc4, hc5, hc6, hc7, hc8, hc9, hc10, hc11, hc12, hc13, hc14, hc15, hc16, hc17, hc18, hc19, hc20]
                                        · rw [if_neg hc20] at h
                                          replace hc20 := (Bool.not_eq_true _).mp hc20
                                          by_cases hc21 : (a0 == [108, 111, 103]) = true
                                          · rw [if_pos hc21] at h
                                            obtain rfl := Option.some.inj h
                                            simp -implicitDefEqProofs only [go_sem, Nat.reduceAdd, Nat.reduceSub, Nat.reduceMul, Nat.reduceLT, Nat.reduceLeDiff, Nat.reduceEqDiff, Nat.reduceBEq, hc1, hc2, hc3, hc4, hc5, hc6, hc7, hc8, hc9, hc10, hc11, hc12, hc13, hc14, hc15, hc16, hc17, hc18, hc19, hc20, hc21]
                                          · rw [if_neg hc21] at h
                                            replace hc21 := (Bool.not_eq_true _).mp hc21
                                            by_cases hc22 : (a0 == [116, 114, 117, 101]) = true
                                            · rw [if_pos hc22] at h
                                              obtain rfl := Option.some.inj h
                                              simp -implicitDefEqProofs only [go_sem, Nat.reduceAdd, Nat.reduceSub, Nat.reduceMul, Nat.reduceLT, Nat.reduceLeDiff, Nat.reduceEqDiff, Nat.reduceBEq, hc1, hc2, hc3, hc4, hc5, hc6, hc7, hc8, hc9, hc10, hc11, hc12, hc13, hc14, hc15, hc16, hc17, hc18, hc19, hc20, hc21, hc22]
                                            · rw [if_neg hc22] at h
                                              replace hc22 := (Bool.not_eq_true _).mp hc22
                                              by_cases hc23 : (a0 == [102, 97, 108, 115, 101]) = true
                                              · rw [if_pos hc23] at h
                                                obtain rfl := Option.some.inj h
                                                simp -implicitDefEqProofs only [go_sem, Nat.reduceAdd, Nat.reduceSub, Nat.reduceMul, Nat.reduceLT, Nat.reduceLeDiff, Nat.reduceEqDiff, Nat.reduceBEq, hc1, hc2, hc3, hc4, hc5, hc6, hc7, hc8, hc9, hc10, hc11, hc12, hc13, hc14, hc15, hc16, hc17, hc18, hc19, hc20, hc21, hc22, hc23]
                                              · rw [if_neg hc23] at h
                                                replace hc23 := (Bool.not_eq_true _).mp hc23
                                                by_cases hc24 : (a0 == [110, 111, 116]) = true
                                                · rw [if_pos hc24] at h
                                                  obtain rfl := Option.some.inj h
                                                  simp -implicitDefEqProofs only [go_sem, Nat.reduceAdd, Nat.reduceSub, Nat.reduceMul, Nat.reduceLT, Nat.reduceLeDiff, Nat.reduceEqDiff, Nat.reduceBEq, hc1, hc2, hc3, hc4, hc5, hc6, hc7, hc8, hc9, hc10, hc11, hc12, hc13, hc14, hc15, hc16, hc17, hc18, hc19, hc20, hc21, hc22, hc23, hc24]
                                                · rw [if_neg hc24] at h
                                                  replace hc24 := (Bool.not_eq_true _).mp hc24
                                                  by_cases hc25 : (a0 == [97, 110, 100]) = true
                                                  · rw [if_pos hc25] at h
                                                    obtain rfl := Option.some.inj h
                                                    simp -implicitDefEqProofs only [go_sem, Nat.reduceAdd, Nat.reduceSub, Nat.reduceMul, Nat.reduceLT, Nat.reduceLeDiff, Nat.reduceEqDiff, Nat.reduceBEq, hc1, hc2, hc3, hc4, hc5, hc6, hc7, hc8, hc9, hc10, hc11, hc12, hc13, hc14, hc15, hc16, hc17, hc18, hc19, hc20, hc21, hc22, hc23, hc24, hc25]
                                                  · rw [if_neg hc25] at h
                                                    replace hc25 := (Bool.not_eq_true _).mp hc25
                                                    by_cases hc26 : (a0 == [111, 114]) = true
                                                    · rw [if_pos hc26] at h
                                                      obtain rfl := Option.some.inj h
                                                      simp -implicitDefEqProofs only [go_sem, Nat.reduceAdd, Nat.reduceSub, Nat.reduceMul, Nat.reduceLT, Nat.reduceLeDiff, Nat.reduceEqDiff, Nat.reduceBEq, hc1, hc2, hc3, hc4, hc5, hc6, hc7, hc8, hc9, hc10, hc11, hc12, hc13, hc14, hc15, hc16, hc17, hc18, hc19, hc20, hc21, hc22, hc23, hc24, hc25, hc26]
                                                    · rw [if_neg hc26] at h
                                                      replace hc26 := (Bool.not_eq_true _).mp hc26
                                                      by_cases hc27 : (a0 == [105, 110]) = true
                                                      · rw [if_pos hc27] at h
                                                        obtain rfl := Option.some.inj h
                                                        simp -implicitDefEqProofs only [go_sem, Nat.reduceAdd, Nat.reduceSub, Nat.reduceMul, Nat.reduceLT, Nat.reduceLeDiff, Nat.reduceEqDiff, Nat.reduceBEq, hc1, hc2, hc3, hc4, hc5, hc6, hc7, hc8, hc9, hc10, hc11, hc12, hc13, hc14, hc15, hc16, hc17, hc18, hc19, hc20, hc21, hc22, hc23, hc24, hc25, hc26, hc27]
                                                      · rw [if_neg hc27] at h
                                                        replace hc27 := (Bool.not_eq_true _).mp hc27
                                                        obtain rfl := Option.some.inj h
                                                        simp -implicitDefEqProofs only [go_sem, Nat.reduceAdd, Nat.reduceSub, Nat.reduceMul, Nat.reduceLT, Nat.reduceLeDiff, Nat.reduceEqDiff, Nat.reduceBEq, hc1, hc2, hc3, hc4, hc5, hc6, hc7, hc8, hc9, hc10, hc11, hc12, hc13, hc14, hc15, hc16, hc17, hc18, hc19, hc20, hc21, hc22, hc23, hc24, hc25, hc26, hc27]
theorem expr_parser_name_ok {p0 : ExprParser} {a1 : Int} {B : List Blk} {i0 : Nat} {r : Bool × ExprParser} (h : expr_parser_name p0 a1 = some r) (hBi0 : B[i0]? = some (.var [.sl .view (p0.l.map TokToken.en.enc), .lit (.int .i64 p0.at_), .sl .own (p0.e.map ExprNode.en.enc)])) :
  Vc cfg 78 [.ptr i0 0, .lit (.int .i64 a1)] B fun v B' => v = .lit (.bool r.1) ∧ B' = B.set i0 (.var [.sl .view (r.2.l.map TokToken.en.enc), .lit (.int .i64 r.2.at_), .sl .own (r.2.e.map ExprNode.en.enc)]) := by
  refine Vc_of (fn := Tryd.f78) rfl Tryd.func78 rfl Tryd.ntmps78 Tryd.results78 (by kernel_rfl) ?_
  conv => arg 3; whnf
  unfold expr_parser_name at h
  have hii0 : i0 < B.length := lt_of_get hBi0
  simp -implicitDefEqProofs only [go_sem, Nat.reduceAdd, Nat.reduceSub, Nat.reduceMul, Nat.reduceLT, Nat.reduceLeDiff, Nat.reduceEqDiff, Nat.reduceBEq, hBi0, hii0]
  obtain ⟨r2, h1, h⟩ := bind_some h
  refine Vc.mono (expr_parser_next_ok h1 (by simp -implicitDefEqProofs only [go_sem, Nat.reduceAdd, Nat.reduceSub, Nat.reduceMul, Nat.reduceLT, Nat.reduceLeDiff, Nat.reduceEqDiff, Nat.reduceBEq, hBi0, hii0])) ?_
  rintro _ _ ⟨rfl, rfl⟩
  by_cases hc2 : (r2.Kind != 1) = true
  · rw [if_pos hc2] at h
    obtain rfl := Option.some.inj h
    simp -implicitDefEqProofs only [go_sem, Nat.reduceAdd, Nat.reduceSub, Nat.reduceMul, Nat.reduceLT, Nat.reduceLeDiff, Nat.reduceEqDiff, Nat.reduceBEq, hc2, hBi0, hii0]
  · rw [if_neg hc2] at h
    replace hc2 := (Bool.not_eq_true _).mp hc2
    simp -implicitDefEqProofs only [go_sem, Nat.reduceAdd, Nat.reduceSub, Nat.reduceMul, Nat.reduceLT, Nat.reduceLeDiff, Nat.reduceEqDiff, Nat.reduceBEq, hc2, hBi0, hii0]
    obtain ⟨r3, h3, h⟩ := bind_some h
    refine Vc.mono (tok_Means_ok h3) ?_
    rintro _ _ rfl
    by_cases hc4 : r3 = true
    · rw [if_pos hc4] at h
      obtain rfl := Option.some.inj h
      simp -implicitDefEqProofs only [go_sem, Nat.reduceAdd, Nat.reduceSub, Nat.reduceMul, Nat.reduceLT, Nat.reduceLeDiff, Nat.reduceEqDiff, Nat.reduceBEq, hc2, hc4, hBi0, hii0]
    · rw [if_neg hc4] at h
      replace hc4 := (Bool.not_eq_true _).mp hc4
      simp -implicitDefEqProofs only [go_sem, Nat.reduceAdd, Nat.reduceSub, Nat.reduceMul, Nat.reduceLT, Nat.reduceLeDiff, Nat.reduceEqDiff, Nat.reduceBEq, hc2, hc4, hBi0, hii0]
      obtain ⟨r4, h5, h⟩ := bind_some h
      refine Vc.mono (expr_parser_add_ok h5 (by simp -implicitDefEqProofs only [go_sem, Nat.reduceAdd, Nat.reduceSub, Nat.reduceMul, Nat.reduceLT, Nat.reduceLeDiff, Nat.reduceEqDiff, Nat.reduceBEq, hBi0, hii0])) ?_
      rintro _ _ ⟨rfl, rfl⟩
      obtain rfl := Option.some.inj h
      simp -implicitDefEqProofs only [go_sem, Nat.reduceAdd, Nat.reduceSub, Nat.reduceMul, Nat.reduceLT, Nat.reduceLeDiff, Nat.reduceEqDiff, Nat.reduceBEq, hBi0, hii0]
def expr_parser_binary_spec (F : ExprParser → Int → Option (Bool × ExprParser)) : Prop := ∀ {p0 : ExprParser} {a1 : Int} {B : List Blk} {i0 : Nat} {r : Bool × ExprParser} (h : F p0 a1 = some r) (hBi0 : B[i0]? = some (.var [.sl .view (p0.l.map TokToken.en.enc), .lit (.int .i64 p0.at_), .sl .own (p0.e.map ExprNode.en.enc)])), Vc cfg 20 [.ptr i0 0, .lit (.int .i64 a1)] B fun v B' => v = .lit (.bool r.1) ∧ B' = B.set i0 (.var [.sl .view (r.2.l.map TokToken.en.enc), .lit (.int .i64 r.2.at_), .sl .own (r.2.e.map ExprNode.en.enc)])
def expr_parser_unary_spec (F : ExprParser → Option (Bool × ExprParser)) : Prop := ∀ {p0 : ExprParser} {B : List Blk} {i0 : Nat} {r : Bool × ExprParser} (h : F p0 = some r) (hBi0 : B[i0]? = some (.var [.sl .view (p0.l.map TokToken.en.enc), .lit (.int .i64 p0.at_), .sl .own (p0.e.map ExprNode.en.enc)])), Vc cfg 38 [.ptr i0 0] B fun v B' => v = .lit (.bool r.1) ∧ B' = B.set i0 (.var [.sl .view (r.2.l.map TokToken.en.enc), .lit (.int .i64 r.2.at_), .sl .own (r.2.e.map ExprNode.en.enc)])
def expr_parser_atom_spec (F : ExprParser → Option (Bool × ExprParser)) : Prop := ∀ {p0 : ExprParser} {B : List Blk} {i0 : Nat} {r : Bool × ExprParser} (h : F p0 = some r) (hBi0 : B[i0]? = some (.var [.sl .view (p0.l.map TokToken.en.enc), .lit (.int .i64 p0.at_), .sl .own (p0.e.map ExprNode.en.enc)])), Vc cfg 64 [.ptr i0 0] B fun v B' => v = .lit (.bool r.1) ∧ B' = B.set i0 (.var [.sl .view (r.2.l.map TokToken.en.enc), .lit (.int .i64 r.2.at_), .sl .own (r.2.e.map ExprNode.en.enc)])
theorem expr_parser_binary_F_ok {R : expr_parser_binary_Rec} {p0 : ExprParser} {a1 : Int} {B : List Blk} {i0 : Nat} {r : Bool × ExprParser} (hR_expr_parser_binary : expr_parser_binary_spec R.expr_parser_binary) (hR_expr_parser_unary : expr_parser_unary_spec R.expr_parser_unary) (hR_expr_parser_atom : expr_parser_atom_spec R.expr_parser_atom) (h : expr_parser_binary_F R p0 a1 = some r) (hBi0 : B[i0]? = some (.var [.sl .view (p0.l.map TokToken.en.enc), .lit (.int .i64 p0.at_), .sl .own (p0.e.map ExprNode.en.enc)])) :
  Vc cfg 20 [.ptr i0 0, .lit (.int .i64 a1)] B fun v B' => v = .lit (.bool r.1) ∧ B' = B.set i0 (.var [.sl .view (r.2.l.map TokToken.en.enc), .lit (.int .i64 r.2.at_), .sl .own (r.2.e.map ExprNode.en.enc)]) := by
  refine Vc_of (fn := Tryd.f20) rfl Tryd.func20 rfl Tryd.ntmps20 Tryd.results20 (by kernel_rfl) ?_
  conv => arg 3; whnf
  unfold expr_parser_binary_F at h
  have hii0 : i0 < B.length := lt_of_get hBi0
  simp -implicitDefEqProofs only [go_sem, Nat.reduceAdd, Nat.reduceSub, Nat.reduceMul, Nat.reduceLT, Nat.reduceLeDiff, Nat.reduceEqDiff, Nat.reduceBEq, hBi0, hii0]
  obtain ⟨r2, h1, h⟩ := bind_some h
  refine Vc.mono (expr_levels_ok h1) ?_
  rintro _ _ rfl
  by_cases hc2 : (a1 == (r2.length : Int)) = true
  · rw [if_pos hc2] at h
    simp -implicitDefEqProofs only [go_sem, Nat.reduceAdd, Nat.reduceSub, Nat.reduceMul, Nat.reduceLT, Nat.reduceLeDiff, Nat.reduceEqDiff, Nat.reduceBEq, hc2, hBi0, hii0]
    obtain ⟨r3, h3, h⟩ := bind_some h
    refine Vc.mono (hR_expr_parser_unary h3 (by simp -implicitDefEqProofs only [go_sem, Nat.reduceAdd, Nat.reduceSub, Nat.reduceMul, Nat.reduceLT, Nat.reduceLeDiff, Nat.reduceEqDiff, Nat.reduceBEq, hBi0, hii0])) ?_
    rintro _ _ ⟨rfl, rfl⟩
    obtain rfl := Option.some.inj h
    simp -implicitDefEqProofs only [go_sem, Nat.reduceAdd, Nat.reduceSub, Nat.reduceMul, Nat.reduceLT, Nat.reduceLeDiff, Nat.reduceEqDiff, Nat.reduceBEq, hBi0, hii0]
  · rw [if_neg hc2] at h
    replace hc2 := (Bool.not_eq_true _).mp hc2
    simp -implicitDefEqProofs only [go_sem, Nat.reduceAdd, Nat.reduceSub, Nat.reduceMul, Nat.reduceLT, Nat.reduceLeDiff, Nat.reduceEqDiff, Nat.reduceBEq, hc2, hBi0, hii0]
    obtain ⟨r4, h4, h⟩ := bind_some h
    refine Vc.mono (hR_expr_parser_binary h4 (by simp -implicitDefEqProofs only [go_sem, Nat.reduceAdd, Nat.reduceSub, Nat.reduceMul, Nat.reduceLT, Nat.reduceLeDiff, Nat.reduceEqDiff, Nat.reduceBEq, hBi0, hii0])) ?_
    rintro _ _ ⟨rfl, rfl⟩
    by_cases hc5 : r4.1 = true
    · rw [if_pos hc5] at h
      simp -implicitDefEqProofs only [go_sem, Nat.reduceAdd, Nat.reduceSub, Nat.reduceMul, Nat.reduceLT, Nat.reduceLeDiff, Nat.reduceEqDiff, Nat.reduceBEq, hc5, hBi0, hii0]
      refine wpLoop_run' (step := expr_parser_binary_l0_step R a1 r2) (fun s5 => mkSl 58 [(0, .ptr i0 0), (1, .lit (.int .i64 a1)), (5, .sl .view (r2.map ExprLevel.en.enc))]) (fun s5 => B.set i0 (.var [.sl .view (s5.1.map TokToken.en.enc), .lit (.int .i64 s5.2.1), .sl .own (s5.2.2.map ExprNode.en.enc)])) h (by kernel_rfl) (by first | rfl | simp -implicitDefEqProofs only [go_sem, Nat.reduceAdd, Nat.reduceSub, Nat.reduceMul, Nat.reduceLT, Nat.reduceLeDiff, Nat.reduceEqDiff, Nat.reduceBEq, mkSl, hBi0, hii0]) (by first | rfl | simp -implicitDefEqProofs only [go_sem, Nat.reduceAdd, Nat.reduceSub, Nat.reduceMul, Nat.reduceLT, Nat.reduceLeDiff, Nat.reduceEqDiff, Nat.reduceBEq, hBi0, hii0]) ?_
      clear h
      intro s5 xx6 h hx7
      unfold expr_parser_binary_l0_step at h
      obtain ⟨x6, h8, h⟩ := bind_some h
      simp -implicitDefEqProofs only [go_sem, Nat.reduceAdd, Nat.reduceSub, Nat.reduceMul, Nat.reduceLT, Nat.reduceLeDiff, Nat.reduceEqDiff, Nat.reduceBEq, h8, hBi0, hii0, mkSl]
      obtain ⟨r7, h9, h⟩ := bind_some h
      refine Vc.mono (expr_parser_operation_ok h9 (by simp -implicitDefEqProofs only [go_sem, Nat.reduceAdd, Nat.reduceSub, Nat.reduceMul, Nat.reduceLT, Nat.reduceLeDiff, Nat.reduceEqDiff, Nat.reduceBEq, hBi0, hii0, mkSl])) ?_
      rintro _ _ ⟨rfl, rfl⟩
      by_cases hc10 : (r7.1 == 0) = true
      · rw [if_pos hc10] at h
        obtain rfl := Option.some.inj h
        obtain rfl := hx7 _ rfl
        simp -implicitDefEqProofs only [go_sem, Nat.reduceAdd, Nat.reduceSub, Nat.reduceMul, Nat.reduceLT, Nat.reduceLeDiff, Nat.reduceEqDiff, Nat.reduceBEq, hc10, hBi0, hii0, mkSl]
      · rw [if_neg hc10] at h
        replace hc10 := (Bool.not_eq_true _).mp hc10
        simp -implicitDefEqProofs only [go_sem, Nat.reduceAdd, Nat.reduceSub, Nat.reduceMul, Nat.reduceLT, Nat.reduceLeDiff, Nat.reduceEqDiff, Nat.reduceBEq, hc10, hBi0, hii0, mkSl]
        obtain ⟨r8, h11, h⟩ := bind_some h
        refine Vc.mono (hR_expr_parser_binary h11 (by simp -implicitDefEqProofs only [go_sem, Nat.reduceAdd, Nat.reduceSub, Nat.reduceMul, Nat.reduceLT, Nat.reduceLeDiff, Nat.reduceEqDiff, Nat.reduceBEq, hBi0, hii0, mkSl])) ?_
        rintro _ _ ⟨rfl, rfl⟩
        by_cases hc12 : r8.1 = true
        · rw [if_pos hc12] at h
          simp -implicitDefEqProofs only [go_sem, Nat.reduceAdd, Nat.reduceSub, Nat.reduceMul, Nat.reduceLT, Nat.reduceLeDiff, Nat.reduceEqDiff, Nat.reduceBEq, hc12, hBi0, hii0, mkSl]
          obtain ⟨r9, h13, h⟩ := bind_some h
          refine Vc.mono (expr_parser_add_ok h13 (by simp -implicitDefEqProofs only [go_sem, Nat.reduceAdd, Nat.reduceSub, Nat.reduceMul, Nat.reduceLT, Nat.reduceLeDiff, Nat.reduceEqDiff, Nat.reduceBEq, hBi0, hii0, mkSl])) ?_
          rintro _ _ ⟨rfl, rfl⟩
          by_cases hc14 : r9.1 = true
          · rw [if_pos hc14] at h
            by_cases hc15 : x6.once = true
            · rw [if_pos hc15] at h
              obtain rfl := Option.some.inj h
              obtain rfl := hx7 _ rfl
              simp -implicitDefEqProofs only [go_sem, Nat.reduceAdd, Nat.reduceSub, Nat.reduceMul, Nat.reduceLT, Nat.reduceLeDiff, Nat.reduceEqDiff, Nat.reduceBEq, hc12, hc14, h8, hc15, hBi0, hii0, mkSl]
            · rw [if_neg hc15] at h
              replace hc15 := (Bool.not_eq_true _).mp hc15
              obtain rfl := Option.some.inj h
              simp -implicitDefEqProofs only [go_sem, Nat.reduceAdd, Nat.reduceSub, Nat.reduceMul, Nat.reduceLT, Nat.reduceLeDiff, Nat.reduceEqDiff, Nat.reduceBEq, hc12, hc14, h8, hc15, hBi0, hii0, mkSl]
              exact ⟨_, rfl, rfl⟩
          · rw [if_neg hc14] at h
            replace hc14 := (Bool.not_eq_true _).mp hc14
            obtain rfl := Option.some.inj h
            obtain rfl := hx7 _ rfl
            simp -implicitDefEqProofs only [go_sem, Nat.reduceAdd, Nat.reduceSub, Nat.reduceMul, Nat.reduceLT, Nat.reduceLeDiff, Nat.reduceEqDiff, Nat.reduceBEq, hc12, hc14, hBi0, hii0, mkSl]
        · rw [if_neg hc12] at h
          replace hc12 := (Bool.not_eq_true _).mp hc12
          obtain rfl := Option.some.inj h
          obtain rfl := hx7 _ rfl
          simp -implicitDefEqProofs only [go_sem, Nat.reduceAdd, Nat.reduceSub, Nat.reduceMul, Nat.reduceLT, Nat.reduceLeDiff, Nat.reduceEqDiff, Nat.reduceBEq, hc12, hBi0, hii0, mkSl]
    · rw [if_neg hc5] at h
      replace hc5 := (Bool.not_eq_true _).mp hc5
      obtain rfl := Option.some.inj h
      simp -implicitDefEqProofs only [go_sem, Nat.reduceAdd, Nat.reduceSub, Nat.reduceMul, Nat.reduceLT, Nat.reduceLeDiff, Nat.reduceEqDiff, Nat.reduceBEq, hc5, hBi0, hii0, mkSl]
theorem expr_parser_unary_F_ok {R : expr_parser_binary_Rec} {p0 : ExprParser} {B : List Blk} {i0 : Nat} {r : Bool × ExprParser} (hR_expr_parser_binary : expr_parser_binary_spec R.expr_parser_binary) (hR_expr_parser_unary : expr_parser_unary_spec R.expr_parser_unary) (hR_expr_parser_atom : expr_parser_atom_spec R.expr_parser_atom) (h : expr_parser_unary_F R p0 = some r) (hBi0 : B[i0]? = some (.var [.sl .view (p0.l.map TokToken.en.enc), .lit (.int .i64 p0.at_), .sl .own (p0.e.map ExprNode.en.enc)])) :
  Vc cfg 38 [.ptr i0 0] B fun v B' => v = .lit (.bool r.1) ∧ B' = B.set i0 (.var [.sl .view (r.2.l.map TokToken.en.enc), .lit (.int .i64 r.2.at_), .sl .own (r.2.e.map ExprNode.en.enc)]) := by
  refine Vc_of (fn := Tryd.f38) rfl Tryd.func38 rfl Tryd.ntmps38 Tryd.results38 (by kernel_rfl) ?_
  conv => arg 3; whnf
  unfold expr_parser_unary_F at h
  have hii0 : i0 < B.length := lt_of_get hBi0
  simp -implicitDefEqProofs only [go_sem, Nat.reduceAdd, Nat.reduceSub, Nat.reduceMul, Nat.reduceLT, Nat.reduceLeDiff, Nat.reduceEqDiff, Nat.reduceBEq, hBi0, hii0]
  obtain ⟨r1, h1, h⟩ := bind_some h
  refine Vc.mono (expr_parser_take_ok h1 (by simp -implicitDefEqProofs only [go_sem, Nat.reduceAdd, Nat.reduceSub, Nat.reduceMul, Nat.reduceLT, Nat.reduceLeDiff, Nat.reduceEqDiff, Nat.reduceBEq, hBi0, hii0])) ?_
  rintro _ _ ⟨rfl, rfl⟩
  by_cases hc2 : r1.1 = true
  · rw [if_pos hc2] at h
    simp -implicitDefEqProofs only [go_sem, Nat.reduceAdd, Nat.reduceSub, Nat.reduceMul, Nat.reduceLT, Nat.reduceLeDiff, Nat.reduceEqDiff, Nat.reduceBEq, hc2, hBi0, hii0]
    obtain ⟨r2, h3, h⟩ := bind_some h
    refine Vc.mono (hR_expr_parser_unary h3 (by simp -implicitDefEqProofs only [go_sem, Nat.reduceAdd, Nat.reduceSub, Nat.reduceMul, Nat.reduceLT, Nat.reduceLeDiff, Nat.reduceEqDiff, Nat.reduceBEq, hBi0, hii0])) ?_
    rintro _ _ ⟨rfl, rfl⟩
    by_cases hc4 : r2.1 = true
    · rw [if_pos hc4] at h
      simp -implicitDefEqProofs only [go_sem, Nat.reduceAdd, Nat.reduceSub, Nat.reduceMul, Nat.reduceLT, Nat.reduceLeDiff, Nat.reduceEqDiff, Nat.reduceBEq, hc4, hBi0, hii0]
      obtain ⟨r3, h5, h⟩ := bind_some h
      refine Vc.mono (expr_parser_add_ok h5 (by simp -implicitDefEqProofs only [go_sem, Nat.reduceAdd, Nat.reduceSub, Nat.reduceMul, Nat.reduceLT, Nat.reduceLeDiff, Nat.reduceEqDiff, Nat.reduceBEq, hBi0, hii0])) ?_
      rintro _ _ ⟨rfl, rfl⟩
      obtain rfl := Option.some.inj h
      simp -implicitDefEqProofs only [go_sem, Nat.reduceAdd, Nat.reduceSub, Nat.reduceMul, Nat.reduceLT, Nat.reduceLeDiff, Nat.reduceEqDiff, Nat.reduceBEq, hc4, hBi0, hii0]
    · rw [if_neg hc4] at h
      replace hc4 := (Bool.not_eq_true _).mp hc4
      obtain rfl := Option.some.inj h
      simp -implicitDefEqProofs only [go_sem, Nat.reduceAdd, Nat.reduceSub, Nat.reduceMul, Nat.reduceLT, Nat.reduceLeDiff, Nat.reduceEqDiff, Nat.reduceBEq, hc4, hBi0, hii0]
  · rw [if_neg hc2] at h
    replace hc2 := (Bool.not_eq_true _).mp hc2
    simp -implicitDefEqProofs only [go_sem, Nat.reduceAdd, Nat.reduceSub, Nat.reduceMul, Nat.reduceLT, Nat.reduceLeDiff, Nat.reduceEqDiff, Nat.reduceBEq, hc2, hBi0, hii0]
    obtain ⟨r4, h6, h⟩ := bind_some h
    refine Vc.mono (expr_parser_take_ok h6 (by simp -implicitDefEqProofs only [go_sem, Nat.reduceAdd, Nat.reduceSub, Nat.reduceMul, Nat.reduceLT, Nat.reduceLeDiff, Nat.reduceEqDiff, Nat.reduceBEq, hBi0, hii0])) ?_
    rintro _ _ ⟨rfl, rfl⟩
    by_cases hc7 : r4.1 = true
    · rw [if_pos hc7] at h
      simp -implicitDefEqProofs only [go_sem, Nat.reduceAdd, Nat.reduceSub, Nat.reduceMul, Nat.reduceLT, Nat.reduceLeDiff, Nat.reduceEqDiff, Nat.reduceBEq, hc7, hBi0, hii0]
      obtain ⟨r5, h8, h⟩ := bind_some h
      refine Vc.mono (hR_expr_parser_unary h8 (by simp -implicitDefEqProofs only [go_sem, Nat.reduceAdd, Nat.reduceSub, Nat.reduceMul, Nat.reduceLT, Nat.reduceLeDiff, Nat.reduceEqDiff, Nat.reduceBEq, hBi0, hii0])) ?_
      rintro _ _ ⟨rfl, rfl⟩
      by_cases hc9 : r5.1 = true
      · rw [if_pos hc9] at h
        simp -implicitDefEqProofs only [go_sem, Nat.reduceAdd, Nat.reduceSub, Nat.reduceMul, Nat.reduceLT, Nat.reduceLeDiff, Nat.reduceEqDiff, Nat.reduceBEq, hc9, hBi0, hii0]
        obtain ⟨r6, h10, h⟩ := bind_some h
        refine Vc.mono (expr_parser_add_ok h10 (by simp -implicitDefEqProofs only [go_sem, Nat.reduceAdd, Nat.reduceSub, Nat.reduceMul, Nat.reduceLT, Nat.reduceLeDiff, Nat.reduceEqDiff, Nat.reduceBEq, hBi0, hii0])) ?_
        rintro _ _ ⟨rfl, rfl⟩
        obtain rfl := Option.some.inj h
        simp -implicitDefEqProofs only [go_sem, Nat.reduceAdd, Nat.reduceSub, Nat.reduceMul, Nat.reduceLT, Nat.reduceLeDiff, Nat.reduceEqDiff, Nat.reduceBEq, hc9, hBi0, hii0]
      · rw [if_neg hc9] at h
        replace hc9 := (Bool.not_eq_true _).mp hc9
        obtain rfl := Option.some.inj h
        simp -implicitDefEqProofs only [go_sem, Nat.reduceAdd, Nat.reduceSub, Nat.reduceMul, Nat.reduceLT, Nat.reduceLeDiff, Nat.reduceEqDiff, Nat.reduceBEq, hc9, hBi0, hii0]
    · rw [if_neg hc7] at h
      replace hc7 := (Bool.not_eq_true _).mp hc7
      simp -implicitDefEqProofs only [go_sem, Nat.reduceAdd, Nat.reduceSub, Nat.reduceMul, Nat.reduceLT, Nat.reduceLeDiff, Nat.reduceEqDiff, Nat.reduceBEq, hc7, hBi0, hii0]
      obtain ⟨r7, h11, h⟩ := bind_some h
      refine Vc.mono (hR_expr_parser_atom h11 (by simp -implicitDefEqProofs only [go_sem, Nat.reduceAdd, Nat.reduceSub, Nat.reduceMul, Nat.reduceLT, Nat.reduceLeDiff, Nat.reduceEqDiff, Nat.reduceBEq, hBi0, hii0])) ?_
      rintro _ _ ⟨rfl, rfl⟩
      obtain rfl := Option.some.inj h
      simp -implicitDefEqProofs only [go_sem, Nat.reduceAdd, Nat.reduceSub, Nat.reduceMul, Nat.reduceLT, Nat.reduceLeDiff, Nat.reduceEqDiff, Nat.reduceBEq, hBi0, hii0]
theorem expr_parser_atom_F_ok {R : expr_parser_binary_Rec} {p0 : ExprParser} {B : List Blk} {i0 : Nat} {r : Bool × ExprParser} (hR_expr_parser_binary : expr_parser_binary_spec R.expr_parser_binary) (hR_expr_parser_unary : expr_parser_unary_spec R.expr_parser_unary) (hR_expr_parser_atom : expr_parser_atom_spec R.expr_parser_atom) (h : expr_parser_atom_F R p0 = some r) (hBi0 : B[i0]? = some (.var [.sl .view (p0.l.map TokToken.en.enc), .lit (.int .i64 p0.at_), .sl .own (p0.e.map ExprNode.en.enc)])) :
  Vc cfg 64 [.ptr i0 0] B fun v B' => v = .lit (.bool r.1) ∧ B' = B.set i0 (.var [.sl .view (r.2.l.map TokToken.en.enc), .lit (.int .i64 r.2.at_), .sl .own (r.2.e.map ExprNode.en.enc)]) := by
  refine Vc_of (fn := Tryd.f64) rfl Tryd.func64 rfl Tryd.ntmps64 Tryd.results64 (by kernel_rfl) ?_
  conv => arg 3; whnf
  unfold expr_parser_atom_F at h
  have hii0 : i0 < B.length := lt_of_get hBi0
  simp -implicitDefEqProofs only [go_sem, Nat.reduceAdd, Nat.reduceSub, Nat.reduceMul, Nat.reduceLT, Nat.reduceLeDiff, Nat.reduceEqDiff, Nat.reduceBEq, hBi0, hii0]
  obtain ⟨r1, h1, h⟩ := bind_some h
  refine Vc.mono (expr_parser_next_ok h1 (by simp -implicitDefEqProofs only [go_sem, Nat.reduceAdd, Nat.reduceSub, Nat.reduceMul, Nat.reduceLT, Nat.reduceLeDiff, Nat.reduceEqDiff, Nat.reduceBEq, hBi0, hii0])) ?_
  rintro _ _ ⟨rfl, rfl⟩
  by_cases hc2 : (r1.Kind == 3) = true
  · rw [if_pos hc2] at h
    simp -implicitDefEqProofs only [go_sem, Nat.reduceAdd, Nat.reduceSub, Nat.reduceMul, Nat.reduceLT, Nat.reduceLeDiff, Nat.reduceEqDiff, Nat.reduceBEq, hc2, hBi0, hii0]
    obtain ⟨r2, h3, h⟩ := bind_some h
    refine Vc.mono (val_Of_ok h3) ?_
    rintro _ _ rfl
    simp -implicitDefEqProofs only [go_sem, Nat.reduceAdd, Nat.reduceSub, Nat.reduceMul, Nat.reduceLT, Nat.reduceLeDiff, Nat.reduceEqDiff, Nat.reduceBEq, hBi0, hii0]
    obtain ⟨r3, h4, h⟩ := bind_some h
    refine Vc.mono (expr_parser_add_ok h4 (by simp -implicitDefEqProofs only [go_sem, Nat.reduceAdd, Nat.reduceSub, Nat.reduceMul, Nat.reduceLT, Nat.reduceLeDiff, Nat.reduceEqDiff, Nat.reduceBEq, hBi0, hii0])) ?_
    rintro _ _ ⟨rfl, rfl⟩
    obtain rfl := Option.some.inj h
    simp -implicitDefEqProofs only [go_sem, Nat.reduceAdd, Nat.reduceSub, Nat.reduceMul, Nat.reduceLT, Nat.reduceLeDiff, Nat.reduceEqDiff, Nat.reduceBEq, hBi0, hii0]
  · rw [if_neg hc2] at h
    replace hc2 := (Bool.not_eq_true _).mp hc2
    by_cases hc5 : (r1.Kind == 4) = true
    · rw [if_pos hc5] at h
      simp -implicitDefEqProofs only [go_sem, Nat.reduceAdd, Nat.reduceSub, Nat.reduceMul, Nat.reduceLT, Nat.reduceLeDiff, Nat.reduceEqDiff, Nat.reduceBEq, hc2, hc5, hBi0, hii0]
      obtain ⟨r4, h6, h⟩ := bind_some h
      refine Vc.mono (val_Word_ok h6) ?_
      rintro _ _ rfl
      simp -implicitDefEqProofs only [go_sem, Nat.reduceAdd, Nat.reduceSub, Nat.reduceMul, Nat.reduceLT, Nat.reduceLeDiff, Nat.reduceEqDiff, Nat.reduceBEq, hBi0, hii0]
      obtain ⟨r5, h7, h⟩ := bind_some h
      refine Vc.mono (expr_parser_add_ok h7 (by simp -implicitDefEqProofs only [go_sem, Nat.reduceAdd, Nat.reduceSub, Nat.reduceMul, Nat.reduceLT, Nat.reduceLeDiff, Nat.reduceEqDiff, Nat.reduceBEq, hBi0, hii0])) ?_
      rintro _ _ ⟨rfl, rfl⟩
      obtain rfl := Option.some.inj h
      simp -implicitDefEqProofs only [go_sem, Nat.reduceAdd, Nat.reduceSub, Nat.reduceMul, Nat.reduceLT, Nat.reduceLeDiff, Nat.reduceEqDiff, Nat.reduceBEq, hBi0, hii0]
    · rw [if_neg hc5] at h
      replace hc5 := (Bool.not_eq_true _).mp hc5
      simp -implicitDefEqProofs only [go_sem, Nat.reduceAdd, Nat.reduceSub, Nat.reduceMul, Nat.reduceLT, Nat.reduceLeDiff, Nat.reduceEqDiff, Nat.reduceBEq, hc2, hc5, hBi0, hii0]
      obtain ⟨r6, h8, h⟩ := bind_some h
      refine Vc.mono (tok_Token_Is_ok h8) ?_
      rintro _ _ rfl
      by_cases hc9 : r6 = true
      · rw [if_pos hc9] at h
        simp -implicitDefEqProofs only [go_sem, Nat.reduceAdd, Nat.reduceSub, Nat.reduceMul, Nat.reduceLT, Nat.reduceLeDiff, Nat.reduceEqDiff, Nat.reduceBEq, hc9, hBi0, hii0]
        obtain ⟨r7, h10, h⟩ := bind_some h
        refine Vc.mono (val_Truth_ok h10) ?_
        rintro _ _ rfl
        simp -implicitDefEqProofs only [go_sem, Nat.reduceAdd, Nat.reduceSub, Nat.reduceMul, Nat.reduceLT, Nat.reduceLeDiff, Nat.reduceEqDiff, Nat.reduceBEq, hBi0, hii0]
        obtain ⟨r8, h11, h⟩ := bind_some h
        refine Vc.mono (expr_parser_add_ok h11 (by simp -implicitDefEqProofs only [go_sem, Nat.reduceAdd, Nat.reduceSub, Nat.reduceMul, Nat.reduceLT, Nat.reduceLeDiff, Nat.reduceEqDiff, Nat.reduceBEq, hBi0, hii0])) ?_
        rintro _ _ ⟨rfl, rfl⟩
        obtain rfl := Option.some.inj h
        simp -implicitDefEqProofs only [go_sem, Nat.reduceAdd, Nat.reduceSub, Nat.reduceMul, Nat.reduceLT, Nat.reduceLeDiff, Nat.reduceEqDiff, Nat.reduceBEq, hBi0, hii0]
      · rw [if_neg hc9] at h
        replace hc9 := (Bool.not_eq_true _).mp hc9
        simp -implicitDefEqProofs only [go_sem, Nat.reduceAdd, Nat.reduceSub, Nat.reduceMul, Nat.reduceLT, Nat.reduceLeDiff, Nat.reduceEqDiff, Nat.reduceBEq, hc9, hBi0, hii0]
        obtain ⟨r9, h12, h⟩ := bind_some h
        refine Vc.mono (expr_parser_take_ok h12 (by simp -implicitDefEqProofs only [go_sem, Nat.reduceAdd, Nat.reduceSub, Nat.reduceMul, Nat.reduceLT, Nat.reduceLeDiff, Nat.reduceEqDiff, Nat.reduceBEq, hBi0, hii0])) ?_
        rintro _ _ ⟨rfl, rfl⟩
        by_cases hc13 : r9.1 = true
        · rw [if_pos hc13] at h
          simp -implicitDefEqProofs only [go_sem, Nat.reduceAdd, Nat.reduceSub, Nat.reduceMul, Nat.reduceLT, Nat.reduceLeDiff, Nat.reduceEqDiff, Nat.reduceBEq, hc13, hBi0, hii0]
          obtain ⟨r10, h14, h⟩ := bind_some h
          refine Vc.mono (expr_parser_take_ok h14 (by simp -implicitDefEqProofs only [go_sem, Nat.reduceAdd, Nat.reduceSub, Nat.reduceMul, Nat.reduceLT, Nat.reduceLeDiff, Nat.reduceEqDiff, Nat.reduceBEq, hBi0, hii0])) ?_
          rintro _ _ ⟨rfl, rfl⟩
          by_cases hc15 : r10.1 = true
          · rw [if_pos hc15] at h
            simp -implicitDefEqProofs only [go_sem, Nat.reduceAdd, Nat.reduceSub, Nat.reduceMul, Nat.reduceLT, Nat.reduceLeDiff, Nat.reduceEqDiff, Nat.reduceBEq, hc15, hBi0, hii0]
            obtain ⟨r11, h16, h⟩ := bind_some h
            refine Vc.mono (expr_parser_name_ok h16 (by simp -implicitDefEqProofs only [go_sem, Nat.reduceAdd, Nat.reduceSub, Nat.reduceMul, Nat.reduceLT, Nat.reduceLeDiff, Nat.reduceEqDiff, Nat.reduceBEq, hBi0, hii0])) ?_
            rintro _ _ ⟨rfl, rfl⟩
            by_cases hc17 : r11.1 = true
            · rw [if_pos hc17] at h
              simp -implicitDefEqProofs only [go_sem, Nat.reduceAdd, Nat.reduceSub, Nat.reduceMul, Nat.reduceLT, Nat.reduceLeDiff, Nat.reduceEqDiff, Nat.reduceBEq, hc15, hc17, hBi0, hii0]
              obtain ⟨r12, h18, h⟩ := bind_some h
              refine Vc.mono (expr_parser_take_ok h18 (by simp -implicitDefEqProofs only [go_sem, Nat.reduceAdd, Nat.reduceSub, Nat.reduceMul, Nat.reduceLT, Nat.reduceLeDiff, Nat.reduceEqDiff, Nat.reduceBEq, hBi0, hii0])) ?_
              rintro _ _ ⟨rfl, rfl⟩
              obtain rfl := Option.some.inj h
              simp -implicitDefEqProofs only [go_sem, Nat.reduceAdd, Nat.reduceSub, Nat.reduceMul, Nat.reduceLT, Nat.reduceLeDiff, Nat.reduceEqDiff, Nat.reduceBEq, hc17, hBi0, hii0]
            · rw [if_neg hc17] at h
              replace hc17 := (Bool.not_eq_true _).mp hc17
              obtain rfl := Option.some.inj h
              simp -implicitDefEqProofs only [go_sem, Nat.reduceAdd, Nat.reduceSub, Nat.reduceMul, Nat.reduceLT, Nat.reduceLeDiff, Nat.reduceEqDiff, Nat.reduceBEq, hc15, hc17, hBi0, hii0]
          · rw [if_neg hc15] at h
            replace hc15 := (Bool.not_eq_true _).mp hc15
            obtain rfl := Option.some.inj h
            simp -implicitDefEqProofs only [go_sem, Nat.reduceAdd, Nat.reduceSub, Nat.reduceMul, Nat.reduceLT, Nat.reduceLeDiff, Nat.reduceEqDiff, Nat.reduceBEq, hc15, hBi0, hii0]
        · rw [if_neg hc13] at h
          replace hc13 := (Bool.not_eq_true _).mp hc13
          simp -implicitDefEqProofs only [go_sem, Nat.reduceAdd, Nat.reduceSub, Nat.reduceMul, Nat.reduceLT, Nat.reduceLeDiff, Nat.reduceEqDiff, Nat.reduceBEq, hc13, hBi0, hii0]
          obtain ⟨r13, h19, h⟩ := bind_some h
          refine Vc.mono (expr_parser_take_ok h19 (by simp -implicitDefEqProofs only [go_sem, Nat.reduceAdd, Nat.reduceSub, Nat.reduceMul, Nat.reduceLT, Nat.reduceLeDiff, Nat.reduceEqDiff, Nat.reduceBEq, hBi0, hii0])) ?_
          rintro _ _ ⟨rfl, rfl⟩
          by_cases hc20 : r13.1 = true
          · rw [if_pos hc20] at h
            simp -implicitDefEqProofs only [go_sem, Nat.reduceAdd, Nat.reduceSub, Nat.reduceMul, Nat.reduceLT, Nat.reduceLeDiff, Nat.reduceEqDiff, Nat.reduceBEq, hc20, hBi0, hii0]
            obtain ⟨r14, h21, h⟩ := bind_some h
            refine Vc.mono (hR_expr_parser_binary h21 (by simp -implicitDefEqProofs only [go_sem, Nat.reduceAdd, Nat.reduceSub, Nat.reduceMul, Nat.reduceLT, Nat.reduceLeDiff, Nat.reduceEqDiff, Nat.reduceBEq, hBi0, hii0])) ?_
            rintro _ _ ⟨rfl, rfl⟩
            by_cases hc22 : r14.1 = true
            · rw [if_pos hc22] at h
              simp -implicitDefEqProofs only [go_sem, Nat.reduceAdd, Nat.reduceSub, Nat.reduceMul, Nat.reduceLT, Nat.reduceLeDiff, Nat.reduceEqDiff, Nat.reduceBEq, hc22, hBi0, hii0]
              obtain ⟨r15, h23, h⟩ := bind_some h
              refine Vc.mono (expr_parser_take_ok h23 (by simp -implicitDefEqProofs only [go_sem, Nat.reduceAdd, Nat.reduceSub, Nat.reduceMul, Nat.reduceLT, Nat.reduceLeDiff, Nat.reduceEqDiff, Nat.reduceBEq, hBi0, hii0])) ?_
              rintro _ _ ⟨rfl, rfl⟩
              obtain rfl := Option.some.inj h
              simp -implicitDefEqProofs only [go_sem, Nat.reduceAdd, Nat.reduceSub, Nat.reduceMul, Nat.reduceLT, Nat.reduceLeDiff, Nat.reduceEqDiff, Nat.reduceBEq, hc22, hBi0, hii0]
            · rw [if_neg hc22] at h
              replace hc22 := (Bool.not_eq_true _).mp hc22
              obtain rfl := Option.some.inj h
              simp -implicitDefEqProofs only [go_sem, Nat.reduceAdd, Nat.reduceSub, Nat.reduceMul, Nat.reduceLT, Nat.reduceLeDiff, Nat.reduceEqDiff, Nat.reduceBEq, hc22, hBi0, hii0]
          · rw [if_neg hc20] at h
            replace hc20 := (Bool.not_eq_true _).mp hc20
            simp -implicitDefEqProofs only [go_sem, Nat.reduceAdd, Nat.reduceSub, Nat.reduceMul, Nat.reduceLT, Nat.reduceLeDiff, Nat.reduceEqDiff, Nat.reduceBEq, hc20, hBi0, hii0]
            obtain ⟨r16, h24, h⟩ := bind_some h
            refine Vc.mono (expr_parser_name_ok h24 (by simp -implicitDefEqProofs only [go_sem, Nat.reduceAdd, Nat.reduceSub, Nat.reduceMul, Nat.reduceLT, Nat.reduceLeDiff, Nat.reduceEqDiff, Nat.reduceBEq, hBi0, hii0])) ?_
            rintro _ _ ⟨rfl, rfl⟩
            obtain rfl := Option.some.inj h
            simp -implicitDefEqProofs only [go_sem, Nat.reduceAdd, Nat.reduceSub, Nat.reduceMul, Nat.reduceLT, Nat.reduceLeDiff, Nat.reduceEqDiff, Nat.reduceBEq, hBi0, hii0]
theorem expr_parser_binary_specs : ∀ k, expr_parser_binary_spec (expr_parser_binary_rec k).expr_parser_binary ∧ expr_parser_unary_spec (expr_parser_binary_rec k).expr_parser_unary ∧ expr_parser_atom_spec (expr_parser_binary_rec k).expr_parser_atom
  | 0 => ⟨(by unfold expr_parser_binary_spec; intros; rename_i h _; cases h), (by unfold expr_parser_unary_spec; intros; rename_i h _; cases h), (by unfold expr_parser_atom_spec; intros; rename_i h _; cases h)⟩
  | k + 1 => by
    obtain ⟨q20, q38, q64⟩ := expr_parser_binary_specs k
    exact ⟨expr_parser_binary_F_ok q20 q38 q64, expr_parser_unary_F_ok q20 q38 q64, expr_parser_atom_F_ok q20 q38 q64⟩
theorem expr_parser_binary_ok : expr_parser_binary_spec expr_parser_binary := by
  try unfold expr_parser_binary_spec
  intros
  rename_i h h9
  obtain ⟨k0, h0⟩ := (expr_parser_binary_lim _ _).1 _ h
  exact (expr_parser_binary_specs k0).1 (h0 k0 (Nat.le_refl _)) h9
theorem expr_parser_unary_ok : expr_parser_unary_spec expr_parser_unary := by
  try unfold expr_parser_unary_spec
  intros
  rename_i h h9
  obtain ⟨k0, h0⟩ := (expr_parser_unary_lim _).1 _ h
  exact (expr_parser_binary_specs k0).2.1 (h0 k0 (Nat.le_refl _)) h9
theorem expr_parser_atom_ok : expr_parser_atom_spec expr_parser_atom := by
  try unfold expr_parser_atom_spec
  intros
  rename_i h h9
  obtain ⟨k0, h0⟩ := (expr_parser_atom_lim _).1 _ h
  exact (expr_parser_binary_specs k0).2.2 (h0 k0 (Nat.le_refl _)) h9
end Go.Proofs.YtilmjbljkkbakaaDoor
