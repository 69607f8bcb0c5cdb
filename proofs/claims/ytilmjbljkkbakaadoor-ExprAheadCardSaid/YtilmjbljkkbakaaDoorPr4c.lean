/-
  A part of the proof: lemmas.
-/
import Derived.Test.YtilmjbljkkbakaaDoorFactsc
import Derived.Test.YtilmjbljkkbakaaDoorFunsc
import Derived.Test.YtilmjbljkkbakaaDoorPr1c
import Derived.Test.YtilmjbljkkbakaaDoorPr3c
set_option linter.unusedSimpArgs false
set_option linter.unusedVariables false
set_option linter.unusedSectionVars false
set_option linter.unnecessarySimpa false
set_option linter.deprecated false
/-! The functions' proofs. -/
namespace Go.Proofs.YtilmjbljkkbakaaDoor
open Go.Wv
set_option linter.unusedSimpArgs false
set_option linter.unusedVariables false
set_option maxRecDepth 10000
set_option maxHeartbeats 20000000
theorem tok_Lex_ok {a0 : List UInt8} {r : (List TokToken) × Int × Int} (h : tok_Lex a0 = some r) :
  Vc cfg 6 [.lit (.string (bs a0))] [] fun v _ => v = .tup [.sl .view (r.1.map TokToken.en.enc), .lit (.int .i64 r.2.1), .lit (.int .i64 r.2.2)] := by
  refine Vc_of (fn := Tryd.f6) rfl Tryd.func6 rfl Tryd.ntmps6 Tryd.results6 (by kernel_rfl) ?_
  conv => arg 3; whnf
  unfold tok_Lex at h
  simp -implicitDefEqProofs only [go_sem, Nat.reduceAdd, Nat.reduceSub, Nat.reduceMul, Nat.reduceLT, Nat.reduceLeDiff, Nat.reduceEqDiff, Nat.reduceBEq]
  refine wpLoop_run' (step := tok_Lex_l0_step) (fun s1 => mkSl 49 [(5, .ptr 0 0), (6, .sl .own (s1.1.map TokToken.en.enc))]) (fun s1 => [.var [.lit (.string (bs s1.2.1)), .lit (.int .i64 s1.2.2)]]) h (by kernel_rfl) (by first | rfl | simp -implicitDefEqProofs only [go_sem, Nat.reduceAdd, Nat.reduceSub, Nat.reduceMul, Nat.reduceLT, Nat.reduceLeDiff, Nat.reduceEqDiff, Nat.reduceBEq, mkSl]) (by first | rfl | simp -implicitDefEqProofs only [go_sem, Nat.reduceAdd, Nat.reduceSub, Nat.reduceMul, Nat.reduceLT, Nat.reduceLeDiff, Nat.reduceEqDiff, Nat.reduceBEq]) ?_
  clear h
  intro s1 xx1 h hx2
  unfold tok_Lex_l0_step at h
  simp -implicitDefEqProofs only [go_sem, Nat.reduceAdd, Nat.reduceSub, Nat.reduceMul, Nat.reduceLT, Nat.reduceLeDiff, Nat.reduceEqDiff, Nat.reduceBEq, mkSl]
  obtain ⟨r2, h3, h⟩ := bind_some h
  refine Vc.mono (tok_reader_while_at18_ok h3 (by simp -implicitDefEqProofs only [go_sem, Nat.reduceAdd, Nat.reduceSub, Nat.reduceMul, Nat.reduceLT, Nat.reduceLeDiff, Nat.reduceEqDiff, Nat.reduceBEq, mkSl])) ?_
  rintro _ _ ⟨rfl, rfl⟩
  by_cases hc4 : (r2.2.at_ == (r2.2.s.length : Int)) = true
  · rw [if_pos hc4] at h
    obtain rfl := Option.some.inj h
    obtain rfl := hx2 _ rfl
    simp -implicitDefEqProofs only [go_sem, Nat.reduceAdd, Nat.reduceSub, Nat.reduceMul, Nat.reduceLT, Nat.reduceLeDiff, Nat.reduceEqDiff, Nat.reduceBEq, hc4, mkSl]
  · rw [if_neg hc4] at h
    replace hc4 := (Bool.not_eq_true _).mp hc4
    by_cases hc5 : ((s1.1.length : Int) == 120) = true
    · rw [if_pos hc5] at h
      obtain rfl := Option.some.inj h
      obtain rfl := hx2 _ rfl
      simp -implicitDefEqProofs only [go_sem, Nat.reduceAdd, Nat.reduceSub, Nat.reduceMul, Nat.reduceLT, Nat.reduceLeDiff, Nat.reduceEqDiff, Nat.reduceBEq, hc4, hc5, mkSl]
    · rw [if_neg hc5] at h
      replace hc5 := (Bool.not_eq_true _).mp hc5
      simp -implicitDefEqProofs only [go_sem, Nat.reduceAdd, Nat.reduceSub, Nat.reduceMul, Nat.reduceLT, Nat.reduceLeDiff, Nat.reduceEqDiff, Nat.reduceBEq, hc4, hc5, mkSl]
      obtain ⟨r3, h6, h⟩ := bind_some h
      refine Vc.mono (tok_reader_token_ok h6 (by simp -implicitDefEqProofs only [go_sem, Nat.reduceAdd, Nat.reduceSub, Nat.reduceMul, Nat.reduceLT, Nat.reduceLeDiff, Nat.reduceEqDiff, Nat.reduceBEq, mkSl])) ?_
      rintro _ _ ⟨rfl, rfl⟩
      by_cases hc7 : (r3.2.1 != 0) = true
      · rw [if_pos hc7] at h
        obtain rfl := Option.some.inj h
        obtain rfl := hx2 _ rfl
        simp -implicitDefEqProofs only [go_sem, Nat.reduceAdd, Nat.reduceSub, Nat.reduceMul, Nat.reduceLT, Nat.reduceLeDiff, Nat.reduceEqDiff, Nat.reduceBEq, hc7, mkSl]
      · rw [if_neg hc7] at h
        replace hc7 := (Bool.not_eq_true _).mp hc7
        obtain ⟨l4, h8, h⟩ := bind_some h
        have h9 := vappend_en TokToken.en (P := Tryd.prog) (t := 23) (f := .own) h8 (by simp -implicitDefEqProofs only [go_sem, Nat.reduceAdd, Nat.reduceSub, Nat.reduceMul, Nat.reduceLT, Nat.reduceLeDiff, Nat.reduceEqDiff, Nat.reduceBEq, Option.map_some])
        simp -implicitDefEqProofs only [go_sem, Nat.reduceAdd, Nat.reduceSub, Nat.reduceMul, Nat.reduceLT, Nat.reduceLeDiff, Nat.reduceEqDiff, Nat.reduceBEq] at h9
        obtain rfl := Option.some.inj h
        simp -implicitDefEqProofs only [go_sem, Nat.reduceAdd, Nat.reduceSub, Nat.reduceMul, Nat.reduceLT, Nat.reduceLeDiff, Nat.reduceEqDiff, Nat.reduceBEq, hc7, h9, mkSl]
        exact ⟨_, rfl, rfl⟩
theorem expr_levels_ok {r : (List ExprLevel)} (h : expr_levels = some r) :
  Vc cfg 37 [] [] fun v _ => v = .sl .view (r.map ExprLevel.en.enc) := by
  refine Vc_of (fn := Tryd.f37) rfl Tryd.func37 rfl Tryd.ntmps37 Tryd.results37 (by kernel_rfl) ?_
  conv => arg 3; whnf
  unfold expr_levels at h
  obtain rfl := Option.some.inj h
  simp -implicitDefEqProofs only [go_sem, Nat.reduceAdd, Nat.reduceSub, Nat.reduceMul, Nat.reduceLT, Nat.reduceLeDiff, Nat.reduceEqDiff, Nat.reduceBEq]
theorem expr_parser_next_ok {p0 : ExprParser} {B : List Blk} {i0 : Nat} {r : TokToken} (h : expr_parser_next p0 = some r) (hBi0 : B[i0]? = some (.var [.sl .view (p0.l.map TokToken.en.enc), .lit (.int .i64 p0.at_), .sl .own (p0.e.map ExprNode.en.enc)])) :
  Vc cfg 74 [.ptr i0 0] B fun v B' => v = .agg [.lit (.int .i64 r.Kind), .lit (.string (bs r.Text)), .lit (.int .i64 r.N), .lit (.int .i64 r.At)] ∧ B' = B := by
  refine Vc_of (fn := Tryd.f74) rfl Tryd.func74 rfl Tryd.ntmps74 Tryd.results74 (by kernel_rfl) ?_
  conv => arg 3; whnf
  unfold expr_parser_next at h
  have hii0 : i0 < B.length := lt_of_get hBi0
  by_cases hc1 : p0.at_ < (p0.l.length : Int)
  · rw [if_pos hc1] at h
    obtain ⟨x1, h2, h⟩ := bind_some h
    obtain rfl := Option.some.inj h
    simp -implicitDefEqProofs only [go_sem, Nat.reduceAdd, Nat.reduceSub, Nat.reduceMul, Nat.reduceLT, Nat.reduceLeDiff, Nat.reduceEqDiff, Nat.reduceBEq, hc1, h2, hBi0, hii0]
  · rw [if_neg hc1] at h
    obtain rfl := Option.some.inj h
    simp -implicitDefEqProofs only [go_sem, Nat.reduceAdd, Nat.reduceSub, Nat.reduceMul, Nat.reduceLT, Nat.reduceLeDiff, Nat.reduceEqDiff, Nat.reduceBEq, hc1, hBi0, hii0]
theorem tok_Token_Is_ok {a0 : TokToken} {a1 : List (List UInt8)} {r : Bool} (h : tok_Token_Is a0 a1 = some r) :
  Vc cfg 46 [.agg [.lit (.int .i64 a0.Kind), .lit (.string (bs a0.Text)), .lit (.int .i64 a0.N), .lit (.int .i64 a0.At)], .sl .view (a1.map En.str.enc)] [] fun v _ => v = .lit (.bool r) := by
  refine Vc_of (fn := Tryd.f46) rfl Tryd.func46 rfl Tryd.ntmps46 Tryd.results46 (by kernel_rfl) ?_
  conv => arg 3; whnf
  unfold tok_Token_Is at h
  by_cases hc1 : (a0.Kind != 1) = true
  · rw [if_pos hc1] at h
    by_cases hc2 : (a0.Kind != 5) = true
    · rw [if_pos hc2] at h
      obtain rfl := Option.some.inj h
      simp -implicitDefEqProofs only [go_sem, Nat.reduceAdd, Nat.reduceSub, Nat.reduceMul, Nat.reduceLT, Nat.reduceLeDiff, Nat.reduceEqDiff, Nat.reduceBEq, hc1, hc2]
    · rw [if_neg hc2] at h
      replace hc2 := (Bool.not_eq_true _).mp hc2
      simp -implicitDefEqProofs only [go_sem, Nat.reduceAdd, Nat.reduceSub, Nat.reduceMul, Nat.reduceLT, Nat.reduceLeDiff, Nat.reduceEqDiff, Nat.reduceBEq, hc1, hc2]
      refine wpLoop_run' (step := tok_Token_Is_l0_step a0 a1) (fun s2 => mkSl 26 [(2, .ptr 0 0), (15, .sl .view (a1.map En.str.enc)), (16, .lit (.int .i64 (a1.length : Int))), (17, .lit (.int .i64 s2))]) (fun s2 => [.var [.lit (.int .i64 a0.Kind), .lit (.string (bs a0.Text)), .lit (.int .i64 a0.N), .lit (.int .i64 a0.At)]]) h (by kernel_rfl) (by first | rfl | simp -implicitDefEqProofs only [go_sem, Nat.reduceAdd, Nat.reduceSub, Nat.reduceMul, Nat.reduceLT, Nat.reduceLeDiff, Nat.reduceEqDiff, Nat.reduceBEq, mkSl]) (by first | rfl | simp -implicitDefEqProofs only [go_sem, Nat.reduceAdd, Nat.reduceSub, Nat.reduceMul, Nat.reduceLT, Nat.reduceLeDiff, Nat.reduceEqDiff, Nat.reduceBEq]) ?_
      clear h
      intro s2 xx3 h hx4
      unfold tok_Token_Is_l0_step at h
      by_cases hc5 : s2 < (a1.length : Int)
      · rw [if_pos hc5] at h
        obtain ⟨x3, h6, h⟩ := bind_some h
        by_cases hc7 : (a0.Text == x3) = true
        · rw [if_pos hc7] at h
          obtain rfl := Option.some.inj h
          obtain rfl := hx4 _ rfl
          simp -implicitDefEqProofs only [go_sem, Nat.reduceAdd, Nat.reduceSub, Nat.reduceMul, Nat.reduceLT, Nat.reduceLeDiff, Nat.reduceEqDiff, Nat.reduceBEq, hc5, h6, hc7, mkSl]
        · rw [if_neg hc7] at h
          replace hc7 := (Bool.not_eq_true _).mp hc7
          obtain rfl := Option.some.inj h
          simp -implicitDefEqProofs only [go_sem, Nat.reduceAdd, Nat.reduceSub, Nat.reduceMul, Nat.reduceLT, Nat.reduceLeDiff, Nat.reduceEqDiff, Nat.reduceBEq, hc5, h6, hc7, mkSl]
          exact ⟨_, rfl, rfl⟩
      · rw [if_neg hc5] at h
        obtain rfl := Option.some.inj h
        obtain rfl := hx4 _ rfl
        simp -implicitDefEqProofs only [go_sem, Nat.reduceAdd, Nat.reduceSub, Nat.reduceMul, Nat.reduceLT, Nat.reduceLeDiff, Nat.reduceEqDiff, Nat.reduceBEq, hc5, mkSl]
  · rw [if_neg hc1] at h
    replace hc1 := (Bool.not_eq_true _).mp hc1
    simp -implicitDefEqProofs only [go_sem, Nat.reduceAdd, Nat.reduceSub, Nat.reduceMul, Nat.reduceLT, Nat.reduceLeDiff, Nat.reduceEqDiff, Nat.reduceBEq, hc1, mkSl]
    refine wpLoop_run' (step := tok_Token_Is_l1_step a0 a1) (fun s4 => mkSl 26 [(2, .ptr 0 0), (15, .sl .view (a1.map En.str.enc)), (16, .lit (.int .i64 (a1.length : Int))), (17, .lit (.int .i64 s4))]) (fun s4 => [.var [.lit (.int .i64 a0.Kind), .lit (.string (bs a0.Text)), .lit (.int .i64 a0.N), .lit (.int .i64 a0.At)]]) h (by kernel_rfl) (by first | rfl | simp -implicitDefEqProofs only [go_sem, Nat.reduceAdd, Nat.reduceSub, Nat.reduceMul, Nat.reduceLT, Nat.reduceLeDiff, Nat.reduceEqDiff, Nat.reduceBEq, mkSl, mkSl]) (by first | rfl | simp -implicitDefEqProofs only [go_sem, Nat.reduceAdd, Nat.reduceSub, Nat.reduceMul, Nat.reduceLT, Nat.reduceLeDiff, Nat.reduceEqDiff, Nat.reduceBEq, mkSl]) ?_
    clear h
    intro s4 xx8 h hx9
    unfold tok_Token_Is_l1_step at h
    by_cases hc10 : s4 < (a1.length : Int)
    · rw [if_pos hc10] at h
      obtain ⟨x5, h11, h⟩ := bind_some h
      by_cases hc12 : (a0.Text == x5) = true
      · rw [if_pos hc12] at h
        obtain rfl := Option.some.inj h
        obtain rfl := hx9 _ rfl
        simp -implicitDefEqProofs only [go_sem, Nat.reduceAdd, Nat.reduceSub, Nat.reduceMul, Nat.reduceLT, Nat.reduceLeDiff, Nat.reduceEqDiff, Nat.reduceBEq, hc10, h11, hc12, mkSl]
      · rw [if_neg hc12] at h
        replace hc12 := (Bool.not_eq_true _).mp hc12
        obtain rfl := Option.some.inj h
        simp -implicitDefEqProofs only [go_sem, Nat.reduceAdd, Nat.reduceSub, Nat.reduceMul, Nat.reduceLT, Nat.reduceLeDiff, Nat.reduceEqDiff, Nat.reduceBEq, hc10, h11, hc12, mkSl]
        exact ⟨_, rfl, rfl⟩
    · rw [if_neg hc10] at h
      obtain rfl := Option.some.inj h
      obtain rfl := hx9 _ rfl
      simp -implicitDefEqProofs only [go_sem, Nat.reduceAdd, Nat.reduceSub, Nat.reduceMul, Nat.reduceLT, Nat.reduceLeDiff, Nat.reduceEqDiff, Nat.reduceBEq, hc10, mkSl]
theorem expr_parser_take_ok {p0 : ExprParser} {a1 : List UInt8} {B : List Blk} {i0 : Nat} {r : Bool × ExprParser} (h : expr_parser_take p0 a1 = some r) (hBi0 : B[i0]? = some (.var [.sl .view (p0.l.map TokToken.en.enc), .lit (.int .i64 p0.at_), .sl .own (p0.e.map ExprNode.en.enc)])) :
  Vc cfg 63 [.ptr i0 0, .lit (.string (bs a1))] B fun v B' => v = .lit (.bool r.1) ∧ B' = B.set i0 (.var [.sl .view (r.2.l.map TokToken.en.enc), .lit (.int .i64 r.2.at_), .sl .own (r.2.e.map ExprNode.en.enc)]) := by
  refine Vc_of (fn := Tryd.f63) rfl Tryd.func63 rfl Tryd.ntmps63 Tryd.results63 (by kernel_rfl) ?_
  conv => arg 3; whnf
  unfold expr_parser_take at h
  have hii0 : i0 < B.length := lt_of_get hBi0
  simp -implicitDefEqProofs only [go_sem, Nat.reduceAdd, Nat.reduceSub, Nat.reduceMul, Nat.reduceLT, Nat.reduceLeDiff, Nat.reduceEqDiff, Nat.reduceBEq, hBi0, hii0]
  obtain ⟨r2, h1, h⟩ := bind_some h
  refine Vc.mono (expr_parser_next_ok h1 (by simp -implicitDefEqProofs only [go_sem, Nat.reduceAdd, Nat.reduceSub, Nat.reduceMul, Nat.reduceLT, Nat.reduceLeDiff, Nat.reduceEqDiff, Nat.reduceBEq, hBi0, hii0])) ?_
  rintro _ _ ⟨rfl, rfl⟩
  simp -implicitDefEqProofs only [go_sem, Nat.reduceAdd, Nat.reduceSub, Nat.reduceMul, Nat.reduceLT, Nat.reduceLeDiff, Nat.reduceEqDiff, Nat.reduceBEq, hBi0, hii0]
  obtain ⟨r3, h2, h⟩ := bind_some h
  refine Vc.mono (tok_Token_Is_ok h2) ?_
  rintro _ _ rfl
  by_cases hc3 : r3 = true
  · rw [if_pos hc3] at h
    obtain rfl := Option.some.inj h
    simp -implicitDefEqProofs only [go_sem, Nat.reduceAdd, Nat.reduceSub, Nat.reduceMul, Nat.reduceLT, Nat.reduceLeDiff, Nat.reduceEqDiff, Nat.reduceBEq, hc3, hBi0, hii0]
  · rw [if_neg hc3] at h
    replace hc3 := (Bool.not_eq_true _).mp hc3
    obtain rfl := Option.some.inj h
    simp -implicitDefEqProofs only [go_sem, Nat.reduceAdd, Nat.reduceSub, Nat.reduceMul, Nat.reduceLT, Nat.reduceLeDiff, Nat.reduceEqDiff, Nat.reduceBEq, hc3, hBi0, hii0]
end Go.Proofs.YtilmjbljkkbakaaDoor
