/-
  A part of the proof: lemmas.
-/
import Derived.Test.YtilmjbljkkbakaaGreatDoorCFactsc
import Derived.Test.YtilmjbljkkbakaaGreatDoorCFunsc
import Derived.Test.YtilmjbljkkbakaaGreatDoorCPr3c
import Derived.Test.YtilmjbljkkbakaaGreatDoorCPr4c
set_option linter.unusedSimpArgs false
set_option linter.unusedVariables false
set_option linter.unusedSectionVars false
set_option linter.unnecessarySimpa false
set_option linter.deprecated false
/-! The functions' proofs. -/
namespace Go.Proofs.YtilmjbljkkbakaaGreatDoor
open Go.Wv
set_option linter.unusedSimpArgs false
set_option linter.unusedVariables false
set_option maxRecDepth 10000
set_option maxHeartbeats 20000000
theorem val_Of_ok {a0 : Int} {r : ValValue} (h : val_Of a0 = some r) :
  Vc cfg 99 [.lit (.int .i64 a0)] [] fun v _ => v = .agg [.lit (.int .i64 r.Kind), .lit (.int .i64 r.N), .lit (.string (bs r.S))] := by
  refine Vc_of (fn := Tryz.f99) rfl Tryz.func99 rfl Tryz.ntmps99 Tryz.results99 (by kernel_rfl) ?_
  conv => arg 3; whnf
  unfold val_Of at h
  obtain rfl := Option.some.inj h
  simp -implicitDefEqProofs only [go_sem, Nat.reduceAdd, Nat.reduceSub, Nat.reduceMul, Nat.reduceLT, Nat.reduceLeDiff, Nat.reduceEqDiff, Nat.reduceBEq]
theorem val_Word_ok {a0 : List UInt8} {r : ValValue} (h : val_Word a0 = some r) :
  Vc cfg 100 [.lit (.string (bs a0))] [] fun v _ => v = .agg [.lit (.int .i64 r.Kind), .lit (.int .i64 r.N), .lit (.string (bs r.S))] := by
  refine Vc_of (fn := Tryz.f100) rfl Tryz.func100 rfl Tryz.ntmps100 Tryz.results100 (by kernel_rfl) ?_
  conv => arg 3; whnf
  unfold val_Word at h
  obtain rfl := Option.some.inj h
  simp -implicitDefEqProofs only [go_sem, Nat.reduceAdd, Nat.reduceSub, Nat.reduceMul, Nat.reduceLT, Nat.reduceLeDiff, Nat.reduceEqDiff, Nat.reduceBEq]
theorem val_Truth_ok {a0 : Bool} {r : ValValue} (h : val_Truth a0 = some r) :
  Vc cfg 101 [.lit (.bool a0)] [] fun v _ => v = .agg [.lit (.int .i64 r.Kind), .lit (.int .i64 r.N), .lit (.string (bs r.S))] := by
  refine Vc_of (fn := Tryz.f101) rfl Tryz.func101 rfl Tryz.ntmps101 Tryz.results101 (by kernel_rfl) ?_
  conv => arg 3; whnf
  unfold val_Truth at h
  by_cases hc1 : a0 = true
  · rw [if_pos hc1] at h
    obtain rfl := Option.some.inj h
    simp -implicitDefEqProofs only [go_sem, Nat.reduceAdd, Nat.reduceSub, Nat.reduceMul, Nat.reduceLT, Nat.reduceLeDiff, Nat.reduceEqDiff, Nat.reduceBEq, hc1]
  · rw [if_neg hc1] at h
    replace hc1 := (Bool.not_eq_true _).mp hc1
    obtain rfl := Option.some.inj h
    simp -implicitDefEqProofs only [go_sem, Nat.reduceAdd, Nat.reduceSub, Nat.reduceMul, Nat.reduceLT, Nat.reduceLeDiff, Nat.reduceEqDiff, Nat.reduceBEq, hc1]
theorem expr_parser_name_ok {p0 : ExprParser} {a1 : Int} {B : List Blk} {i0 : Nat} {r : Bool × ExprParser} (h : expr_parser_name p0 a1 = some r) (hBi0 : B[i0]? = some (.var [.sl .view (p0.l.map TokToken.en.enc), .lit (.int .i64 p0.at_), .sl .own (p0.e.map ExprNode.en.enc)])) :
  Vc cfg 184 [.ptr i0 0, .lit (.int .i64 a1)] B fun v B' => v = .lit (.bool r.1) ∧ B' = B.set i0 (.var [.sl .view (r.2.l.map TokToken.en.enc), .lit (.int .i64 r.2.at_), .sl .own (r.2.e.map ExprNode.en.enc)]) := by
  refine Vc_of (fn := Tryz.f184) rfl Tryz.func184 rfl Tryz.ntmps184 Tryz.results184 (by kernel_rfl) ?_
  conv => arg 3; whnf
  unfold expr_parser_name at h
  have hii0 : i0 < B.length := lt_of_get hBi0
  simp -implicitDefEqProofs only [go_sem, Nat.reduceAdd, Nat.reduceSub, Nat.reduceMul, Nat.reduceLT, Nat.reduceLeDiff, Nat.reduceEqDiff, Nat.reduceBEq, hBi0, hii0]
  obtain ⟨r2, h1, h⟩ := bind_some h
  refine Vc.mono (expr_parser_next_ok h1 (by simp -implicitDefEqProofs only [go_sem, Nat.reduceAdd, Nat.reduceSub, Nat.reduceMul, Nat.reduceLT, Nat.reduceLeDiff, Nat.reduceEqDiff, Nat.reduceBEq, hBi0, hii0])) ?_
  rintro _ _ ⟨rfl, rfl⟩
  by_cases hc2 : (r2.Kind != 1) = true
  · rw [if_pos hc2] at h
    obtain rfl := Option.some.inj h
    simp -implicitDefEqProofs only [go_sem, Nat.reduceAdd, Nat.reduceSub, Nat.reduceMul, Nat.reduceLT, Nat.reduceLeDiff, Nat.reduceEqDiff, Nat.reduceBEq, hc2, hBi0, hii0]
  · rw [if_neg hc2] at h
    replace hc2 := (Bool.not_eq_true _).mp hc2
    simp -implicitDefEqProofs only [go_sem, Nat.reduceAdd, Nat.reduceSub, Nat.reduceMul, Nat.reduceLT, Nat.reduceLeDiff, Nat.reduceEqDiff, Nat.reduceBEq, hc2, hBi0, hii0]
    obtain ⟨r3, h3, h⟩ := bind_some h
    refine Vc.mono (tok_Means_ok h3) ?_
    rintro _ _ rfl
    by_cases hc4 : r3 = true
    · rw [if_pos hc4] at h
      obtain rfl := Option.some.inj h
      simp -implicitDefEqProofs only [go_sem, Nat.reduceAdd, Nat.reduceSub, Nat.reduceMul, Nat.reduceLT, Nat.reduceLeDiff, Nat.reduceEqDiff, Nat.reduceBEq, hc2, hc4, hBi0, hii0]
    · rw [if_neg hc4] at h
      replace hc4 := (Bool.not_eq_true _).mp hc4
      simp -implicitDefEqProofs only [go_sem, Nat.reduceAdd, Nat.reduceSub, Nat.reduceMul, Nat.reduceLT, Nat.reduceLeDiff, Nat.reduceEqDiff, Nat.reduceBEq, hc2, hc4, hBi0, hii0]
      obtain ⟨r4, h5, h⟩ := bind_some h
      refine Vc.mono (expr_parser_add_ok h5 (by simp -implicitDefEqProofs only [go_sem, Nat.reduceAdd, Nat.reduceSub, Nat.reduceMul, Nat.reduceLT, Nat.reduceLeDiff, Nat.reduceEqDiff, Nat.reduceBEq, hBi0, hii0])) ?_
      rintro _ _ ⟨rfl, rfl⟩
      obtain rfl := Option.some.inj h
      simp -implicitDefEqProofs only [go_sem, Nat.reduceAdd, Nat.reduceSub, Nat.reduceMul, Nat.reduceLT, Nat.reduceLeDiff, Nat.reduceEqDiff, Nat.reduceBEq, hBi0, hii0]
def expr_parser_binary_spec (F : ExprParser → Int → Option (Bool × ExprParser)) : Prop := ∀ {p0 : ExprParser} {a1 : Int} {B : List Blk} {i0 : Nat} {r : Bool × ExprParser} (h : F p0 a1 = some r) (hBi0 : B[i0]? = some (.var [.sl .view (p0.l.map TokToken.en.enc), .lit (.int .i64 p0.at_), .sl .own (p0.e.map ExprNode.en.enc)])), Vc cfg 133 [.ptr i0 0, .lit (.int .i64 a1)] B fun v B' => v = .lit (.bool r.1) ∧ B' = B.set i0 (.var [.sl .view (r.2.l.map TokToken.en.enc), .lit (.int .i64 r.2.at_), .sl .own (r.2.e.map ExprNode.en.enc)])
def expr_parser_unary_spec (F : ExprParser → Option (Bool × ExprParser)) : Prop := ∀ {p0 : ExprParser} {B : List Blk} {i0 : Nat} {r : Bool × ExprParser} (h : F p0 = some r) (hBi0 : B[i0]? = some (.var [.sl .view (p0.l.map TokToken.en.enc), .lit (.int .i64 p0.at_), .sl .own (p0.e.map ExprNode.en.enc)])), Vc cfg 160 [.ptr i0 0] B fun v B' => v = .lit (.bool r.1) ∧ B' = B.set i0 (.var [.sl .view (r.2.l.map TokToken.en.enc), .lit (.int .i64 r.2.at_), .sl .own (r.2.e.map ExprNode.en.enc)])
def expr_parser_atom_spec (F : ExprParser → Option (Bool × ExprParser)) : Prop := ∀ {p0 : ExprParser} {B : List Blk} {i0 : Nat} {r : Bool × ExprParser} (h : F p0 = some r) (hBi0 : B[i0]? = some (.var [.sl .view (p0.l.map TokToken.en.enc), .lit (.int .i64 p0.at_), .sl .own (p0.e.map ExprNode.en.enc)])), Vc cfg 177 [.ptr i0 0] B fun v B' => v = .lit (.bool r.1) ∧ B' = B.set i0 (.var [.sl .view (r.2.l.map TokToken.en.enc), .lit (.int .i64 r.2.at_), .sl .own (r.2.e.map ExprNode.en.enc)])
theorem expr_parser_binary_F_ok {R : expr_parser_binary_Rec} {p0 : ExprParser} {a1 : Int} {B : List Blk} {i0 : Nat} {r : Bool × ExprParser} (hR_expr_parser_binary : expr_parser_binary_spec R.expr_parser_binary) (hR_expr_parser_unary : expr_parser_unary_spec R.expr_parser_unary) (hR_expr_parser_atom : expr_parser_atom_spec R.expr_parser_atom) (h : expr_parser_binary_F R p0 a1 = some r) (hBi0 : B[i0]? = some (.var [.sl .view (p0.l.map TokToken.en.enc), .lit (.int .i64 p0.at_), .sl .own (p0.e.map ExprNode.en.enc)])) :
  Vc cfg 133 [.ptr i0 0, .lit (.int .i64 a1)] B fun v B' => v = .lit (.bool r.1) ∧ B' = B.set i0 (.var [.sl .view (r.2.l.map TokToken.en.enc), .lit (.int .i64 r.2.at_), .sl .own (r.2.e.map ExprNode.en.enc)]) := by
  refine Vc_of (fn := Tryz.f133) rfl Tryz.func133 rfl Tryz.ntmps133 Tryz.results133 (by kernel_rfl) ?_
  conv => arg 3; whnf
  unfold expr_parser_binary_F at h
  have hii0 : i0 < B.length := lt_of_get hBi0
  simp -implicitDefEqProofs only [go_sem, Nat.reduceAdd, Nat.reduceSub, Nat.reduceMul, Nat.reduceLT, Nat.reduceLeDiff, Nat.reduceEqDiff, Nat.reduceBEq, hBi0, hii0]
  obtain ⟨r2, h1, h⟩ := bind_some h
  refine Vc.mono (expr_levels_ok h1) ?_
  rintro _ _ rfl
  by_cases hc2 : (a1 == (r2.length : Int)) = true
  · rw [if_pos hc2] at h
    simp -implicitDefEqProofs only [go_sem, Nat.reduceAdd, Nat.reduceSub, Nat.reduceMul, Nat.reduceLT, Nat.reduceLeDiff, Nat.reduceEqDiff, Nat.reduceBEq, hc2, hBi0, hii0]
    obtain ⟨r3, h3, h⟩ := bind_some h
    refine Vc.mono (hR_expr_parser_unary h3 (by simp -implicitDefEqProofs only [go_sem, Nat.reduceAdd, Nat.reduceSub, Nat.reduceMul, Nat.reduceLT, Nat.reduceLeDiff, Nat.reduceEqDiff, Nat.reduceBEq, hBi0, hii0])) ?_
    rintro _ _ ⟨rfl, rfl⟩
    obtain rfl := Option.some.inj h
    simp -implicitDefEqProofs only [go_sem, Nat.reduceAdd, Nat.reduceSub, Nat.reduceMul, Nat.reduceLT, Nat.reduceLeDiff, Nat.reduceEqDiff, Nat.reduceBEq, hBi0, hii0]
  · rw [if_neg hc2] at h
    replace hc2 := (Bool.not_eq_true _).mp hc2
    simp -implicitDefEqProofs only [go_sem, Nat.reduceAdd, Nat.reduceSub, Nat.reduceMul, Nat.reduceLT, Nat.reduceLeDiff, Nat.reduceEqDiff, Nat.reduceBEq, hc2, hBi0, hii0]
    obtain ⟨r4, h4, h⟩ := bind_some h
    refine Vc.mono (hR_expr_parser_binary h4 (by simp -implicitDefEqProofs only [go_sem, Nat.reduceAdd, Nat.reduceSub, Nat.reduceMul, Nat.reduceLT, Nat.reduceLeDiff, Nat.reduceEqDiff, Nat.reduceBEq, hBi0, hii0])) ?_
    rintro _ _ ⟨rfl, rfl⟩
    by_cases hc5 : r4.1 = true
    · rw [if_pos hc5] at h
      simp -implicitDefEqProofs only [go_sem, Nat.reduceAdd, Nat.reduceSub, Nat.reduceMul, Nat.reduceLT, Nat.reduceLeDiff, Nat.reduceEqDiff, Nat.reduceBEq, hc5, hBi0, hii0]
      refine wpLoop_run' (step := expr_parser_binary_l0_step R a1 r2) (fun s5 => mkSl 58 [(0, .ptr i0 0), (1, .lit (.int .i64 a1)), (5, .sl .view (r2.map ExprLevel.en.enc))]) (fun s5 => B.set i0 (.var [.sl .view (s5.1.map TokToken.en.enc), .lit (.int .i64 s5.2.1), .sl .own (s5.2.2.map ExprNode.en.enc)])) h (by kernel_rfl) (by first | rfl | simp -implicitDefEqProofs only [go_sem, Nat.reduceAdd, Nat.reduceSub, Nat.reduceMul, Nat.reduceLT, Nat.reduceLeDiff, Nat.reduceEqDiff, Nat.reduceBEq, mkSl, hBi0, hii0]) (by first | rfl | simp -implicitDefEqProofs only [go_sem, Nat.reduceAdd, Nat.reduceSub, Nat.reduceMul, Nat.reduceLT, Nat.reduceLeDiff, Nat.reduceEqDiff, Nat.reduceBEq, hBi0, hii0]) ?_
      clear h
      intro s5 xx6 h hx7
      unfold expr_parser_binary_l0_step at h
      obtain ⟨x6, h8, h⟩ := bind_some h
      simp -implicitDefEqProofs only [go_sem, Nat.reduceAdd, Nat.reduceSub, Nat.reduceMul, Nat.reduceLT, Nat.reduceLeDiff, Nat.reduceEqDiff, Nat.reduceBEq, h8, hBi0, hii0, mkSl]
      obtain ⟨r7, h9, h⟩ := bind_some h
      refine Vc.mono (expr_parser_operation_ok h9 (by simp -implicitDefEqProofs only [go_sem, Nat.reduceAdd, Nat.reduceSub, Nat.reduceMul, Nat.reduceLT, Nat.reduceLeDiff, Nat.reduceEqDiff, Nat.reduceBEq, hBi0, hii0, mkSl])) ?_
      rintro _ _ ⟨rfl, rfl⟩
      by_cases hc10 : (r7.1 == 0) = true
      · rw [if_pos hc10] at h
        obtain rfl := Option.some.inj h
        obtain rfl := hx7 _ rfl
        simp -implicitDefEqProofs only [go_sem, Nat.reduceAdd, Nat.reduceSub, Nat.reduceMul, Nat.reduceLT, Nat.reduceLeDiff, Nat.reduceEqDiff, Nat.reduceBEq, hc10, hBi0, hii0, mkSl]
      · rw [if_neg hc10] at h
        replace hc10 := (Bool.not_eq_true _).mp hc10
        simp -implicitDefEqProofs only [go_sem, Nat.reduceAdd, Nat.reduceSub, Nat.reduceMul, Nat.reduceLT, Nat.reduceLeDiff, Nat.reduceEqDiff, Nat.reduceBEq, hc10, hBi0, hii0, mkSl]
        obtain ⟨r8, h11, h⟩ := bind_some h
        refine Vc.mono (hR_expr_parser_binary h11 (by simp -implicitDefEqProofs only [go_sem, Nat.reduceAdd, Nat.reduceSub, Nat.reduceMul, Nat.reduceLT, Nat.reduceLeDiff, Nat.reduceEqDiff, Nat.reduceBEq, hBi0, hii0, mkSl])) ?_
        rintro _ _ ⟨rfl, rfl⟩
        by_cases hc12 : r8.1 = true
        · rw [if_pos hc12] at h
          simp -implicitDefEqProofs only [go_sem, Nat.reduceAdd, Nat.reduceSub, Nat.reduceMul, Nat.reduceLT, Nat.reduceLeDiff, Nat.reduceEqDiff, Nat.reduceBEq, hc12, hBi0, hii0, mkSl]
          obtain ⟨r9, h13, h⟩ := bind_some h
          refine Vc.mono (expr_parser_add_ok h13 (by simp -implicitDefEqProofs only [go_sem, Nat.reduceAdd, Nat.reduceSub, Nat.reduceMul, Nat.reduceLT, Nat.reduceLeDiff, Nat.reduceEqDiff, Nat.reduceBEq, hBi0, hii0, mkSl])) ?_
          rintro _ _ ⟨rfl, rfl⟩
          by_cases hc14 : r9.1 = true
          · rw [if_pos hc14] at h
            by_cases hc15 : x6.once = true
            · rw [if_pos hc15] at h
              obtain rfl := Option.some.inj h
              obtain rfl := hx7 _ rfl
              simp -implicitDefEqProofs only [go_sem, Nat.reduceAdd, Nat.reduceSub, Nat.reduceMul, Nat.reduceLT, Nat.reduceLeDiff, Nat.reduceEqDiff, Nat.reduceBEq, hc12, hc14, h8, hc15, hBi0, hii0, mkSl]
            · rw [if_neg hc15] at h
              replace hc15 := (Bool.not_eq_true _).mp hc15
              obtain rfl := Option.some.inj h
              simp -implicitDefEqProofs only [go_sem, Nat.reduceAdd, Nat.reduceSub, Nat.reduceMul, Nat.reduceLT, Nat.reduceLeDiff, Nat.reduceEqDiff, Nat.reduceBEq, hc12, hc14, h8, hc15, hBi0, hii0, mkSl]
              first | exact ⟨_, rfl, rfl⟩ | exact ⟨_, rfl, by simp only [hc5, hc12, hc14, hc15]⟩
          · rw [if_neg hc14] at h
            replace hc14 := (Bool.not_eq_true _).mp hc14
            obtain rfl := Option.some.inj h
            obtain rfl := hx7 _ rfl
            simp -implicitDefEqProofs only [go_sem, Nat.reduceAdd, Nat.reduceSub, Nat.reduceMul, Nat.reduceLT, Nat.reduceLeDiff, Nat.reduceEqDiff, Nat.reduceBEq, hc12, hc14, hBi0, hii0, mkSl]
        · rw [if_neg hc12] at h
          replace hc12 := (Bool.not_eq_true _).mp hc12
          obtain rfl := Option.some.inj h
          obtain rfl := hx7 _ rfl
          simp -implicitDefEqProofs only [go_sem, Nat.reduceAdd, Nat.reduceSub, Nat.reduceMul, Nat.reduceLT, Nat.reduceLeDiff, Nat.reduceEqDiff, Nat.reduceBEq, hc12, hBi0, hii0, mkSl]
    · rw [if_neg hc5] at h
      replace hc5 := (Bool.not_eq_true _).mp hc5
      obtain rfl := Option.some.inj h
      simp -implicitDefEqProofs only [go_sem, Nat.reduceAdd, Nat.reduceSub, Nat.reduceMul, Nat.reduceLT, Nat.reduceLeDiff, Nat.reduceEqDiff, Nat.reduceBEq, hc5, hBi0, hii0, mkSl]
theorem expr_parser_unary_F_ok {R : expr_parser_binary_Rec} {p0 : ExprParser} {B : List Blk} {i0 : Nat} {r : Bool × ExprParser} (hR_expr_parser_binary : expr_parser_binary_spec R.expr_parser_binary) (hR_expr_parser_unary : expr_parser_unary_spec R.expr_parser_unary) (hR_expr_parser_atom : expr_parser_atom_spec R.expr_parser_atom) (h : expr_parser_unary_F R p0 = some r) (hBi0 : B[i0]? = some (.var [.sl .view (p0.l.map TokToken.en.enc), .lit (.int .i64 p0.at_), .sl .own (p0.e.map ExprNode.en.enc)])) :
  Vc cfg 160 [.ptr i0 0] B fun v B' => v = .lit (.bool r.1) ∧ B' = B.set i0 (.var [.sl .view (r.2.l.map TokToken.en.enc), .lit (.int .i64 r.2.at_), .sl .own (r.2.e.map ExprNode.en.enc)]) := by
  refine Vc_of (fn := Tryz.f160) rfl Tryz.func160 rfl Tryz.ntmps160 Tryz.results160 (by kernel_rfl) ?_
  conv => arg 3; whnf
  unfold expr_parser_unary_F at h
  have hii0 : i0 < B.length := lt_of_get hBi0
  simp -implicitDefEqProofs only [go_sem, Nat.reduceAdd, Nat.reduceSub, Nat.reduceMul, Nat.reduceLT, Nat.reduceLeDiff, Nat.reduceEqDiff, Nat.reduceBEq, hBi0, hii0]
  obtain ⟨r1, h1, h⟩ := bind_some h
  refine Vc.mono (expr_parser_take_ok h1 (by simp -implicitDefEqProofs only [go_sem, Nat.reduceAdd, Nat.reduceSub, Nat.reduceMul, Nat.reduceLT, Nat.reduceLeDiff, Nat.reduceEqDiff, Nat.reduceBEq, hBi0, hii0])) ?_
  rintro _ _ ⟨rfl, rfl⟩
  by_cases hc2 : r1.1 = true
  · rw [if_pos hc2] at h
    simp -implicitDefEqProofs only [go_sem, Nat.reduceAdd, Nat.reduceSub, Nat.reduceMul, Nat.reduceLT, Nat.reduceLeDiff, Nat.reduceEqDiff, Nat.reduceBEq, hc2, hBi0, hii0]
    obtain ⟨r2, h3, h⟩ := bind_some h
    refine Vc.mono (hR_expr_parser_unary h3 (by simp -implicitDefEqProofs only [go_sem, Nat.reduceAdd, Nat.reduceSub, Nat.reduceMul, Nat.reduceLT, Nat.reduceLeDiff, Nat.reduceEqDiff, Nat.reduceBEq, hBi0, hii0])) ?_
    rintro _ _ ⟨rfl, rfl⟩
    by_cases hc4 : r2.1 = true
    · rw [if_pos hc4] at h
      simp -implicitDefEqProofs only [go_sem, Nat.reduceAdd, Nat.reduceSub, Nat.reduceMul, Nat.reduceLT, Nat.reduceLeDiff, Nat.reduceEqDiff, Nat.reduceBEq, hc4, hBi0, hii0]
      obtain ⟨r3, h5, h⟩ := bind_some h
      refine Vc.mono (expr_parser_add_ok h5 (by simp -implicitDefEqProofs only [go_sem, Nat.reduceAdd, Nat.reduceSub, Nat.reduceMul, Nat.reduceLT, Nat.reduceLeDiff, Nat.reduceEqDiff, Nat.reduceBEq, hBi0, hii0])) ?_
      rintro _ _ ⟨rfl, rfl⟩
      obtain rfl := Option.some.inj h
      simp -implicitDefEqProofs only [go_sem, Nat.reduceAdd, Nat.reduceSub, Nat.reduceMul, Nat.reduceLT, Nat.reduceLeDiff, Nat.reduceEqDiff, Nat.reduceBEq, hc4, hBi0, hii0]
    · rw [if_neg hc4] at h
      replace hc4 := (Bool.not_eq_true _).mp hc4
      obtain rfl := Option.some.inj h
      simp -implicitDefEqProofs only [go_sem, Nat.reduceAdd, Nat.reduceSub, Nat.reduceMul, Nat.reduceLT, Nat.reduceLeDiff, Nat.reduceEqDiff, Nat.reduceBEq, hc4, hBi0, hii0]
  · rw [if_neg hc2] at h
    replace hc2 := (Bool.not_eq_true _).mp hc2
    simp -implicitDefEqProofs only [go_sem, Nat.reduceAdd, Nat.reduceSub, Nat.reduceMul, Nat.reduceLT, Nat.reduceLeDiff, Nat.reduceEqDiff, Nat.reduceBEq, hc2, hBi0, hii0]
    obtain ⟨r4, h6, h⟩ := bind_some h
    refine Vc.mono (expr_parser_take_ok h6 (by simp -implicitDefEqProofs only [go_sem, Nat.reduceAdd, Nat.reduceSub, Nat.reduceMul, Nat.reduceLT, Nat.reduceLeDiff, Nat.reduceEqDiff, Nat.reduceBEq, hBi0, hii0])) ?_
    rintro _ _ ⟨rfl, rfl⟩
    by_cases hc7 : r4.1 = true
    · rw [if_pos hc7] at h
      simp -implicitDefEqProofs only [go_sem, Nat.reduceAdd, Nat.reduceSub, Nat.reduceMul, Nat.reduceLT, Nat.reduceLeDiff, Nat.reduceEqDiff, Nat.reduceBEq, hc7, hBi0, hii0]
      obtain ⟨r5, h8, h⟩ := bind_some h
      refine Vc.mono (hR_expr_parser_unary h8 (by simp -implicitDefEqProofs only [go_sem, Nat.reduceAdd, Nat.reduceSub, Nat.reduceMul, Nat.reduceLT, Nat.reduceLeDiff, Nat.reduceEqDiff, Nat.reduceBEq, hBi0, hii0])) ?_
      rintro _ _ ⟨rfl, rfl⟩
      by_cases hc9 : r5.1 = true
      · rw [if_pos hc9] at h
        simp -implicitDefEqProofs only [go_sem, Nat.reduceAdd, Nat.reduceSub, Nat.reduceMul, Nat.reduceLT, Nat.reduceLeDiff, Nat.reduceEqDiff, Nat.reduceBEq, hc9, hBi0, hii0]
        obtain ⟨r6, h10, h⟩ := bind_some h
        refine Vc.mono (expr_parser_add_ok h10 (by simp -implicitDefEqProofs only [go_sem, Nat.reduceAdd, Nat.reduceSub, Nat.reduceMul, Nat.reduceLT, Nat.reduceLeDiff, Nat.reduceEqDiff, Nat.reduceBEq, hBi0, hii0])) ?_
        rintro _ _ ⟨rfl, rfl⟩
        obtain rfl := Option.some.inj h
        simp -implicitDefEqProofs only [go_sem, Nat.reduceAdd, Nat.reduceSub, Nat.reduceMul, Nat.reduceLT, Nat.reduceLeDiff, Nat.reduceEqDiff, Nat.reduceBEq, hc9, hBi0, hii0]
      · rw [if_neg hc9] at h
        replace hc9 := (Bool.not_eq_true _).mp hc9
        obtain rfl := Option.some.inj h
        simp -implicitDefEqProofs only [go_sem, Nat.reduceAdd, Nat.reduceSub, Nat.reduceMul, Nat.reduceLT, Nat.reduceLeDiff, Nat.reduceEqDiff, Nat.reduceBEq, hc9, hBi0, hii0]
    · rw [if_neg hc7] at h
      replace hc7 := (Bool.not_eq_true _).mp hc7
      simp -implicitDefEqProofs only [go_sem, Nat.reduceAdd, Nat.reduceSub, Nat.reduceMul, Nat.reduceLT, Nat.reduceLeDiff, Nat.reduceEqDiff, Nat.reduceBEq, hc7, hBi0, hii0]
      obtain ⟨r7, h11, h⟩ := bind_some h
      refine Vc.mono (hR_expr_parser_atom h11 (by simp -implicitDefEqProofs only [go_sem, Nat.reduceAdd, Nat.reduceSub, Nat.reduceMul, Nat.reduceLT, Nat.reduceLeDiff, Nat.reduceEqDiff, Nat.reduceBEq, hBi0, hii0])) ?_
      rintro _ _ ⟨rfl, rfl⟩
      obtain rfl := Option.some.inj h
      simp -implicitDefEqProofs only [go_sem, Nat.reduceAdd, Nat.reduceSub, Nat.reduceMul, Nat.reduceLT, Nat.reduceLeDiff, Nat.reduceEqDiff, Nat.reduceBEq, hBi0, hii0]
theorem expr_parser_atom_F_ok {R : expr_parser_binary_Rec} {p0 : ExprParser} {B : List Blk} {i0 : Nat} {r : Bool × ExprParser} (hR_expr_parser_binary : expr_parser_binary_spec R.expr_parser_binary) (hR_expr_parser_unary : expr_parser_unary_spec R.expr_parser_unary) (hR_expr_parser_atom : expr_parser_atom_spec R.expr_parser_atom) (h : expr_parser_atom_F R p0 = some r) (hBi0 : B[i0]? = some (.var [.sl .view (p0.l.map TokToken.en.enc), .lit (.int .i64 p0.at_), .sl .own (p0.e.map ExprNode.en.enc)])) :
  Vc cfg 177 [.ptr i0 0] B fun v B' => v = .lit (.bool r.1) ∧ B' = B.set i0 (.var [.sl .view (r.2.l.map TokToken.en.enc), .lit (.int .i64 r.2.at_), .sl .own (r.2.e.map ExprNode.en.enc)]) := by
  refine Vc_of (fn := Tryz.f177) rfl Tryz.func177 rfl Tryz.ntmps177 Tryz.results177 (by kernel_rfl) ?_
  conv => arg 3; whnf
  unfold expr_parser_atom_F at h
  have hii0 : i0 < B.length := lt_of_get hBi0
  simp -implicitDefEqProofs only [go_sem, Nat.reduceAdd, Nat.reduceSub, Nat.reduceMul, Nat.reduceLT, Nat.reduceLeDiff, Nat.reduceEqDiff, Nat.reduceBEq, hBi0, hii0]
  obtain ⟨r1, h1, h⟩ := bind_some h
  refine Vc.mono (expr_parser_next_ok h1 (by simp -implicitDefEqProofs only [go_sem, Nat.reduceAdd, Nat.reduceSub, Nat.reduceMul, Nat.reduceLT, Nat.reduceLeDiff, Nat.reduceEqDiff, Nat.reduceBEq, hBi0, hii0])) ?_
  rintro _ _ ⟨rfl, rfl⟩
  by_cases hc2 : (r1.Kind == 3) = true
  · rw [if_pos hc2] at h
    simp -implicitDefEqProofs only [go_sem, Nat.reduceAdd, Nat.reduceSub, Nat.reduceMul, Nat.reduceLT, Nat.reduceLeDiff, Nat.reduceEqDiff, Nat.reduceBEq, hc2, hBi0, hii0]
    obtain ⟨r2, h3, h⟩ := bind_some h
    refine Vc.mono (val_Of_ok h3) ?_
    rintro _ _ rfl
    simp -implicitDefEqProofs only [go_sem, Nat.reduceAdd, Nat.reduceSub, Nat.reduceMul, Nat.reduceLT, Nat.reduceLeDiff, Nat.reduceEqDiff, Nat.reduceBEq, hBi0, hii0]
    obtain ⟨r3, h4, h⟩ := bind_some h
    refine Vc.mono (expr_parser_add_ok h4 (by simp -implicitDefEqProofs only [go_sem, Nat.reduceAdd, Nat.reduceSub, Nat.reduceMul, Nat.reduceLT, Nat.reduceLeDiff, Nat.reduceEqDiff, Nat.reduceBEq, hBi0, hii0])) ?_
    rintro _ _ ⟨rfl, rfl⟩
    obtain rfl := Option.some.inj h
    simp -implicitDefEqProofs only [go_sem, Nat.reduceAdd, Nat.reduceSub, Nat.reduceMul, Nat.reduceLT, Nat.reduceLeDiff, Nat.reduceEqDiff, Nat.reduceBEq, hBi0, hii0]
  · rw [if_neg hc2] at h
    replace hc2 := (Bool.not_eq_true _).mp hc2
    by_cases hc5 : (r1.Kind == 4) = true
    · rw [if_pos hc5] at h
      simp -implicitDefEqProofs only [go_sem, Nat.reduceAdd, Nat.reduceSub, Nat.reduceMul, Nat.reduceLT, Nat.reduceLeDiff, Nat.reduceEqDiff, Nat.reduceBEq, hc2, hc5, hBi0, hii0]
      obtain ⟨r4, h6, h⟩ := bind_some h
      refine Vc.mono (val_Word_ok h6) ?_
      rintro _ _ rfl
      simp -implicitDefEqProofs only [go_sem, Nat.reduceAdd, Nat.reduceSub, Nat.reduceMul, Nat.reduceLT, Nat.reduceLeDiff, Nat.reduceEqDiff, Nat.reduceBEq, hBi0, hii0]
      obtain ⟨r5, h7, h⟩ := bind_some h
      refine Vc.mono (expr_parser_add_ok h7 (by simp -implicitDefEqProofs only [go_sem, Nat.reduceAdd, Nat.reduceSub, Nat.reduceMul, Nat.reduceLT, Nat.reduceLeDiff, Nat.reduceEqDiff, Nat.reduceBEq, hBi0, hii0])) ?_
      rintro _ _ ⟨rfl, rfl⟩
      obtain rfl := Option.some.inj h
      simp -implicitDefEqProofs only [go_sem, Nat.reduceAdd, Nat.reduceSub, Nat.reduceMul, Nat.reduceLT, Nat.reduceLeDiff, Nat.reduceEqDiff, Nat.reduceBEq, hBi0, hii0]
    · rw [if_neg hc5] at h
      replace hc5 := (Bool.not_eq_true _).mp hc5
      simp -implicitDefEqProofs only [go_sem, Nat.reduceAdd, Nat.reduceSub, Nat.reduceMul, Nat.reduceLT, Nat.reduceLeDiff, Nat.reduceEqDiff, Nat.reduceBEq, hc2, hc5, hBi0, hii0]
      obtain ⟨r6, h8, h⟩ := bind_some h
      refine Vc.mono (tok_Token_Is_ok h8) ?_
      rintro _ _ rfl
      by_cases hc9 : r6 = true
      · rw [if_pos hc9] at h
        simp -implicitDefEqProofs only [go_sem, Nat.reduceAdd, Nat.reduceSub, Nat.reduceMul, Nat.reduceLT, Nat.reduceLeDiff, Nat.reduceEqDiff, Nat.reduceBEq, hc9, hBi0, hii0]
        obtain ⟨r7, h10, h⟩ := bind_some h
        refine Vc.mono (val_Truth_ok h10) ?_
        rintro _ _ rfl
        simp -implicitDefEqProofs only [go_sem, Nat.reduceAdd, Nat.reduceSub, Nat.reduceMul, Nat.reduceLT, Nat.reduceLeDiff, Nat.reduceEqDiff, Nat.reduceBEq, hBi0, hii0]
        obtain ⟨r8, h11, h⟩ := bind_some h
        refine Vc.mono (expr_parser_add_ok h11 (by simp -implicitDefEqProofs only [go_sem, Nat.reduceAdd, Nat.reduceSub, Nat.reduceMul, Nat.reduceLT, Nat.reduceLeDiff, Nat.reduceEqDiff, Nat.reduceBEq, hBi0, hii0])) ?_
        rintro _ _ ⟨rfl, rfl⟩
        obtain rfl := Option.some.inj h
        simp -implicitDefEqProofs only [go_sem, Nat.reduceAdd, Nat.reduceSub, Nat.reduceMul, Nat.reduceLT, Nat.reduceLeDiff, Nat.reduceEqDiff, Nat.reduceBEq, hBi0, hii0]
      · rw [if_neg hc9] at h
        replace hc9 := (Bool.not_eq_true _).mp hc9
        simp -implicitDefEqProofs only [go_sem, Nat.reduceAdd, Nat.reduceSub, Nat.reduceMul, Nat.reduceLT, Nat.reduceLeDiff, Nat.reduceEqDiff, Nat.reduceBEq, hc9, hBi0, hii0]
        obtain ⟨r9, h12, h⟩ := bind_some h
        refine Vc.mono (expr_parser_take_ok h12 (by simp -implicitDefEqProofs only [go_sem, Nat.reduceAdd, Nat.reduceSub, Nat.reduceMul, Nat.reduceLT, Nat.reduceLeDiff, Nat.reduceEqDiff, Nat.reduceBEq, hBi0, hii0])) ?_
        rintro _ _ ⟨rfl, rfl⟩
        by_cases hc13 : r9.1 = true
        · rw [if_pos hc13] at h
          simp -implicitDefEqProofs only [go_sem, Nat.reduceAdd, Nat.reduceSub, Nat.reduceMul, Nat.reduceLT, Nat.reduceLeDiff, Nat.reduceEqDiff, Nat.reduceBEq, hc13, hBi0, hii0]
          obtain ⟨r10, h14, h⟩ := bind_some h
          refine Vc.mono (expr_parser_take_ok h14 (by simp -implicitDefEqProofs only [go_sem, Nat.reduceAdd, Nat.reduceSub, Nat.reduceMul, Nat.reduceLT, Nat.reduceLeDiff, Nat.reduceEqDiff, Nat.reduceBEq, hBi0, hii0])) ?_
          rintro _ _ ⟨rfl, rfl⟩
          by_cases hc15 : r10.1 = true
          · rw [if_pos hc15] at h
            simp -implicitDefEqProofs only [go_sem, Nat.reduceAdd, Nat.reduceSub, Nat.reduceMul, Nat.reduceLT, Nat.reduceLeDiff, Nat.reduceEqDiff, Nat.reduceBEq, hc15, hBi0, hii0]
            obtain ⟨r11, h16, h⟩ := bind_some h
            refine Vc.mono (expr_parser_name_ok h16 (by simp -implicitDefEqProofs only [go_sem, Nat.reduceAdd, Nat.reduceSub, Nat.reduceMul, Nat.reduceLT, Nat.reduceLeDiff, Nat.reduceEqDiff, Nat.reduceBEq, hBi0, hii0])) ?_
            rintro _ _ ⟨rfl, rfl⟩
            by_cases hc17 : r11.1 = true
            · rw [if_pos hc17] at h
              simp -implicitDefEqProofs only [go_sem, Nat.reduceAdd, Nat.reduceSub, Nat.reduceMul, Nat.reduceLT, Nat.reduceLeDiff, Nat.reduceEqDiff, Nat.reduceBEq, hc15, hc17, hBi0, hii0]
              obtain ⟨r12, h18, h⟩ := bind_some h
              refine Vc.mono (expr_parser_take_ok h18 (by simp -implicitDefEqProofs only [go_sem, Nat.reduceAdd, Nat.reduceSub, Nat.reduceMul, Nat.reduceLT, Nat.reduceLeDiff, Nat.reduceEqDiff, Nat.reduceBEq, hBi0, hii0])) ?_
              rintro _ _ ⟨rfl, rfl⟩
              obtain rfl := Option.some.inj h
              simp -implicitDefEqProofs only [go_sem, Nat.reduceAdd, Nat.reduceSub, Nat.reduceMul, Nat.reduceLT, Nat.reduceLeDiff, Nat.reduceEqDiff, Nat.reduceBEq, hc17, hBi0, hii0]
            · rw [if_neg hc17] at h
              replace hc17 := (Bool.not_eq_true _).mp hc17
              obtain rfl := Option.some.inj h
              simp -implicitDefEqProofs only [go_sem, Nat.reduceAdd, Nat.reduceSub, Nat.reduceMul, Nat.reduceLT, Nat.reduceLeDiff, Nat.reduceEqDiff, Nat.reduceBEq, hc15, hc17, hBi0, hii0]
          · rw [if_neg hc15] at h
            replace hc15 := (Bool.not_eq_true _).mp hc15
            obtain rfl := Option.some.inj h
            simp -implicitDefEqProofs only [go_sem, Nat.reduceAdd, Nat.reduceSub, Nat.reduceMul, Nat.reduceLT, Nat.reduceLeDiff, Nat.reduceEqDiff, Nat.reduceBEq, hc15, hBi0, hii0]
        · rw [if_neg hc13] at h
          replace hc13 := (Bool.not_eq_true _).mp hc13
          simp -implicitDefEqProofs only [go_sem, Nat.reduceAdd, Nat.reduceSub, Nat.reduceMul, Nat.reduceLT, Nat.reduceLeDiff, Nat.reduceEqDiff, Nat.reduceBEq, hc13, hBi0, hii0]
          obtain ⟨r13, h19, h⟩ := bind_some h
          refine Vc.mono (expr_parser_take_ok h19 (by simp -implicitDefEqProofs only [go_sem, Nat.reduceAdd, Nat.reduceSub, Nat.reduceMul, Nat.reduceLT, Nat.reduceLeDiff, Nat.reduceEqDiff, Nat.reduceBEq, hBi0, hii0])) ?_
          rintro _ _ ⟨rfl, rfl⟩
          by_cases hc20 : r13.1 = true
          · rw [if_pos hc20] at h
            simp -implicitDefEqProofs only [go_sem, Nat.reduceAdd, Nat.reduceSub, Nat.reduceMul, Nat.reduceLT, Nat.reduceLeDiff, Nat.reduceEqDiff, Nat.reduceBEq, hc20, hBi0, hii0]
            obtain ⟨r14, h21, h⟩ := bind_some h
            refine Vc.mono (hR_expr_parser_binary h21 (by simp -implicitDefEqProofs only [go_sem, Nat.reduceAdd, Nat.reduceSub, Nat.reduceMul, Nat.reduceLT, Nat.reduceLeDiff, Nat.reduceEqDiff, Nat.reduceBEq, hBi0, hii0])) ?_
            rintro _ _ ⟨rfl, rfl⟩
            by_cases hc22 : r14.1 = true
            · rw [if_pos hc22] at h
              simp -implicitDefEqProofs only [go_sem, Nat.reduceAdd, Nat.reduceSub, Nat.reduceMul, Nat.reduceLT, Nat.reduceLeDiff, Nat.reduceEqDiff, Nat.reduceBEq, hc22, hBi0, hii0]
              obtain ⟨r15, h23, h⟩ := bind_some h
              refine Vc.mono (expr_parser_take_ok h23 (by simp -implicitDefEqProofs only [go_sem, Nat.reduceAdd, Nat.reduceSub, Nat.reduceMul, Nat.reduceLT, Nat.reduceLeDiff, Nat.reduceEqDiff, Nat.reduceBEq, hBi0, hii0])) ?_
              rintro _ _ ⟨rfl, rfl⟩
              obtain rfl := Option.some.inj h
              simp -implicitDefEqProofs only [go_sem, Nat.reduceAdd, Nat.reduceSub, Nat.reduceMul, Nat.reduceLT, Nat.reduceLeDiff, Nat.reduceEqDiff, Nat.reduceBEq, hc22, hBi0, hii0]
            · rw [if_neg hc22] at h
              replace hc22 := (Bool.not_eq_true _).mp hc22
              obtain rfl := Option.some.inj h
              simp -implicitDefEqProofs only [go_sem, Nat.reduceAdd, Nat.reduceSub, Nat.reduceMul, Nat.reduceLT, Nat.reduceLeDiff, Nat.reduceEqDiff, Nat.reduceBEq, hc22, hBi0, hii0]
          · rw [if_neg hc20] at h
            replace hc20 := (Bool.not_eq_true _).mp hc20
            simp -implicitDefEqProofs only [go_sem, Nat.reduceAdd, Nat.reduceSub, Nat.reduceMul, Nat.reduceLT, Nat.reduceLeDiff, Nat.reduceEqDiff, Nat.reduceBEq, hc20, hBi0, hii0]
            obtain ⟨r16, h24, h⟩ := bind_some h
            refine Vc.mono (expr_parser_name_ok h24 (by simp -implicitDefEqProofs only [go_sem, Nat.reduceAdd, Nat.reduceSub, Nat.reduceMul, Nat.reduceLT, Nat.reduceLeDiff, Nat.reduceEqDiff, Nat.reduceBEq, hBi0, hii0])) ?_
            rintro _ _ ⟨rfl, rfl⟩
            obtain rfl := Option.some.inj h
            simp -implicitDefEqProofs only [go_sem, Nat.reduceAdd, Nat.reduceSub, Nat.reduceMul, Nat.reduceLT, Nat.reduceLeDiff, Nat.reduceEqDiff, Nat.reduceBEq, hBi0, hii0]
theorem expr_parser_binary_specs : ∀ k, expr_parser_binary_spec (expr_parser_binary_rec k).expr_parser_binary ∧ expr_parser_unary_spec (expr_parser_binary_rec k).expr_parser_unary ∧ expr_parser_atom_spec (expr_parser_binary_rec k).expr_parser_atom
  | 0 => ⟨(by unfold expr_parser_binary_spec; intros; rename_i h _; cases h), (by unfold expr_parser_unary_spec; intros; rename_i h _; cases h), (by unfold expr_parser_atom_spec; intros; rename_i h _; cases h)⟩
  | k + 1 => by
    obtain ⟨q133, q160, q177⟩ := expr_parser_binary_specs k
    exact ⟨expr_parser_binary_F_ok q133 q160 q177, expr_parser_unary_F_ok q133 q160 q177, expr_parser_atom_F_ok q133 q160 q177⟩
theorem expr_parser_binary_ok : expr_parser_binary_spec expr_parser_binary := by
  try unfold expr_parser_binary_spec
  intros
  rename_i h h9
  obtain ⟨k0, h0⟩ := (expr_parser_binary_lim _ _).1 _ h
  exact (expr_parser_binary_specs k0).1 (h0 k0 (Nat.le_refl _)) h9
theorem expr_parser_unary_ok : expr_parser_unary_spec expr_parser_unary := by
  try unfold expr_parser_unary_spec
  intros
  rename_i h h9
  obtain ⟨k0, h0⟩ := (expr_parser_unary_lim _).1 _ h
  exact (expr_parser_binary_specs k0).2.1 (h0 k0 (Nat.le_refl _)) h9
theorem expr_parser_atom_ok : expr_parser_atom_spec expr_parser_atom := by
  try unfold expr_parser_atom_spec
  intros
  rename_i h h9
  obtain ⟨k0, h0⟩ := (expr_parser_atom_lim _).1 _ h
  exact (expr_parser_binary_specs k0).2.2 (h0 k0 (Nat.le_refl _)) h9
end Go.Proofs.YtilmjbljkkbakaaGreatDoor
