/-
  A part of the proof: lemmas.
-/
import Derived.Test.YtilmjbljkkbakaaDoorFactsc
import Derived.Test.YtilmjbljkkbakaaDoorFunsc
import Derived.Test.YtilmjbljkkbakaaDoorPr0c
import Derived.Test.YtilmjbljkkbakaaDoorPr4c
import Derived.Test.YtilmjbljkkbakaaDoorPr6c
import Derived.Test.YtilmjbljkkbakaaDoorPr7c
set_option linter.unusedSimpArgs false
set_option linter.unusedVariables false
set_option linter.unusedSectionVars false
set_option linter.unnecessarySimpa false
set_option linter.deprecated false
/-! The functions' proofs. -/
namespace Go.Proofs.YtilmjbljkkbakaaDoor
open Go.Wv
set_option linter.unusedSimpArgs false
set_option linter.unusedVariables false
set_option maxRecDepth 10000
set_option maxHeartbeats 20000000
theorem expr_Expr_Size_ok {a0 : List ExprNode} {r : Int} (h : expr_Expr_Size a0 = some r) :
  Vc cfg 21 [.sl .view (a0.map ExprNode.en.enc)] [] fun v _ => v = .lit (.int .i64 r) := by
  refine Vc_of (fn := Tryd.f21) rfl Tryd.func21 rfl Tryd.ntmps21 Tryd.results21 (by kernel_rfl) ?_
  conv => arg 3; whnf
  unfold expr_Expr_Size at h
  by_cases hc1 : 32 < (a0.length : Int)
  · rw [if_pos hc1] at h
    obtain rfl := Option.some.inj h
    simp -implicitDefEqProofs only [go_sem, Nat.reduceAdd, Nat.reduceSub, Nat.reduceMul, Nat.reduceLT, Nat.reduceLeDiff, Nat.reduceEqDiff, Nat.reduceBEq, hc1]
  · rw [if_neg hc1] at h
    simp -implicitDefEqProofs only [go_sem, Nat.reduceAdd, Nat.reduceSub, Nat.reduceMul, Nat.reduceLT, Nat.reduceLeDiff, Nat.reduceEqDiff, Nat.reduceBEq, hc1]
    obtain ⟨r1, h2, h⟩ := bind_some h
    refine Vc.mono (expr_Expr_depths_ok h2) ?_
    rintro _ _ rfl
    simp -implicitDefEqProofs only [go_sem, Nat.reduceAdd, Nat.reduceSub, Nat.reduceMul, Nat.reduceLT, Nat.reduceLeDiff, Nat.reduceEqDiff, Nat.reduceBEq]
    refine wpLoop_run' (step := expr_Expr_Size_l0_step r1) (fun s2 => mkSl 18 [(9, .sl .view (r1.map (En.int .i64).enc)), (10, .lit (.int .i64 (r1.length : Int))), (11, .lit (.int .i64 s2))]) (fun s2 => []) h (by kernel_rfl) (by first | rfl | simp -implicitDefEqProofs only [go_sem, Nat.reduceAdd, Nat.reduceSub, Nat.reduceMul, Nat.reduceLT, Nat.reduceLeDiff, Nat.reduceEqDiff, Nat.reduceBEq, mkSl]) (by first | rfl | simp -implicitDefEqProofs only [go_sem, Nat.reduceAdd, Nat.reduceSub, Nat.reduceMul, Nat.reduceLT, Nat.reduceLeDiff, Nat.reduceEqDiff, Nat.reduceBEq]) ?_
    clear h
    intro s2 xx3 h hx4
    unfold expr_Expr_Size_l0_step at h
    by_cases hc5 : s2 < (r1.length : Int)
    · rw [if_pos hc5] at h
      obtain ⟨x3, h6, h⟩ := bind_some h
      by_cases hc7 : 8 < x3
      · rw [if_pos hc7] at h
        obtain rfl := Option.some.inj h
        obtain rfl := hx4 _ rfl
        simp -implicitDefEqProofs only [go_sem, Nat.reduceAdd, Nat.reduceSub, Nat.reduceMul, Nat.reduceLT, Nat.reduceLeDiff, Nat.reduceEqDiff, Nat.reduceBEq, hc5, h6, hc7, mkSl]
      · rw [if_neg hc7] at h
        obtain rfl := Option.some.inj h
        simp -implicitDefEqProofs only [go_sem, Nat.reduceAdd, Nat.reduceSub, Nat.reduceMul, Nat.reduceLT, Nat.reduceLeDiff, Nat.reduceEqDiff, Nat.reduceBEq, hc5, h6, hc7, mkSl]
        exact ⟨_, rfl, rfl⟩
    · rw [if_neg hc5] at h
      obtain rfl := Option.some.inj h
      obtain rfl := hx4 _ rfl
      simp -implicitDefEqProofs only [go_sem, Nat.reduceAdd, Nat.reduceSub, Nat.reduceMul, Nat.reduceLT, Nat.reduceLeDiff, Nat.reduceEqDiff, Nat.reduceBEq, hc5, mkSl]
theorem expr_Parse_ok {a0 : List TokToken} {a1 : Int} {r : (List ExprNode) × Int × Int} (h : expr_Parse a0 a1 = some r) :
  Vc cfg 7 [.sl .view (a0.map TokToken.en.enc), .lit (.int .i64 a1)] [] fun v _ => v = .tup [.sl .view (r.1.map ExprNode.en.enc), .lit (.int .i64 r.2.1), .lit (.int .i64 r.2.2)] := by
  refine Vc_of (fn := Tryd.f7) rfl Tryd.func7 rfl Tryd.ntmps7 Tryd.results7 (by kernel_rfl) ?_
  conv => arg 3; whnf
  unfold expr_Parse at h
  by_cases hc1 : a1 < 0
  · rw [if_pos hc1] at h
    obtain rfl := Option.some.inj h
    simp -implicitDefEqProofs only [go_sem, Nat.reduceAdd, Nat.reduceSub, Nat.reduceMul, Nat.reduceLT, Nat.reduceLeDiff, Nat.reduceEqDiff, Nat.reduceBEq, hc1]
  · rw [if_neg hc1] at h
    by_cases hc2 : (a0.length : Int) < a1
    · rw [if_pos hc2] at h
      obtain rfl := Option.some.inj h
      simp -implicitDefEqProofs only [go_sem, Nat.reduceAdd, Nat.reduceSub, Nat.reduceMul, Nat.reduceLT, Nat.reduceLeDiff, Nat.reduceEqDiff, Nat.reduceBEq, hc1, hc2]
    · rw [if_neg hc2] at h
      simp -implicitDefEqProofs only [go_sem, Nat.reduceAdd, Nat.reduceSub, Nat.reduceMul, Nat.reduceLT, Nat.reduceLeDiff, Nat.reduceEqDiff, Nat.reduceBEq, hc1, hc2]
      obtain ⟨r2, h3, h⟩ := bind_some h
      refine Vc.mono (expr_parser_binary_ok h3 (by simp -implicitDefEqProofs only [go_sem, Nat.reduceAdd, Nat.reduceSub, Nat.reduceMul, Nat.reduceLT, Nat.reduceLeDiff, Nat.reduceEqDiff, Nat.reduceBEq])) ?_
      rintro _ _ ⟨rfl, rfl⟩
      by_cases hc4 : (!r2.1) = true
      · rw [if_pos hc4] at h
        obtain rfl := Option.some.inj h
        simp -implicitDefEqProofs only [go_sem, Nat.reduceAdd, Nat.reduceSub, Nat.reduceMul, Nat.reduceLT, Nat.reduceLeDiff, Nat.reduceEqDiff, Nat.reduceBEq, hc4]
      · rw [if_neg hc4] at h
        replace hc4 := (Bool.not_eq_true _).mp hc4
        simp -implicitDefEqProofs only [go_sem, Nat.reduceAdd, Nat.reduceSub, Nat.reduceMul, Nat.reduceLT, Nat.reduceLeDiff, Nat.reduceEqDiff, Nat.reduceBEq, hc4]
        obtain ⟨r3, h5, h⟩ := bind_some h
        refine Vc.mono (expr_Expr_Size_ok h5) ?_
        rintro _ _ rfl
        by_cases hc6 : (r3 != 0) = true
        · rw [if_pos hc6] at h
          obtain rfl := Option.some.inj h
          simp -implicitDefEqProofs only [go_sem, Nat.reduceAdd, Nat.reduceSub, Nat.reduceMul, Nat.reduceLT, Nat.reduceLeDiff, Nat.reduceEqDiff, Nat.reduceBEq, hc6]
        · rw [if_neg hc6] at h
          replace hc6 := (Bool.not_eq_true _).mp hc6
          obtain rfl := Option.some.inj h
          simp -implicitDefEqProofs only [go_sem, Nat.reduceAdd, Nat.reduceSub, Nat.reduceMul, Nat.reduceLT, Nat.reduceLeDiff, Nat.reduceEqDiff, Nat.reduceBEq, hc6]
theorem wlaw03_refs_ok {a0 : List ExprNode} {r : (List Wref03N)} (h : wlaw03_refs a0 = some r) :
  Vc cfg 9 [.sl .view (a0.map ExprNode.en.enc)] [] fun v _ => v = .sl .view (r.map Wref03N.en.enc) := by
  refine Vc_of (fn := Tryd.f9) rfl Tryd.func9 rfl Tryd.ntmps9 Tryd.results9 (by kernel_rfl) ?_
  conv => arg 3; whnf
  unfold wlaw03_refs at h
  simp -implicitDefEqProofs only [go_sem, Nat.reduceAdd, Nat.reduceSub, Nat.reduceMul, Nat.reduceLT, Nat.reduceLeDiff, Nat.reduceEqDiff, Nat.reduceBEq]
  refine wpLoop_run' (step := wlaw03_refs_l0_step a0) (fun s1 => mkSl 28 [(3, .sl .own (s1.1.map Wref03N.en.enc)), (6, .sl .view (a0.map ExprNode.en.enc)), (7, .lit (.int .i64 (a0.length : Int))), (8, .lit (.int .i64 s1.2))]) (fun s1 => []) h (by kernel_rfl) (by first | rfl | simp -implicitDefEqProofs only [go_sem, Nat.reduceAdd, Nat.reduceSub, Nat.reduceMul, Nat.reduceLT, Nat.reduceLeDiff, Nat.reduceEqDiff, Nat.reduceBEq, mkSl]) (by first | rfl | simp -implicitDefEqProofs only [go_sem, Nat.reduceAdd, Nat.reduceSub, Nat.reduceMul, Nat.reduceLT, Nat.reduceLeDiff, Nat.reduceEqDiff, Nat.reduceBEq]) ?_
  clear h
  intro s1 xx1 h hx2
  unfold wlaw03_refs_l0_step at h
  by_cases hc3 : s1.2 < (a0.length : Int)
  · rw [if_pos hc3] at h
    obtain ⟨x2, h4, h⟩ := bind_some h
    obtain ⟨l3, h5, h⟩ := bind_some h
    have h6 := vappend_en Wref03N.en (P := Tryd.prog) (t := 32) (f := .own) h5 (by simp -implicitDefEqProofs only [go_sem, Nat.reduceAdd, Nat.reduceSub, Nat.reduceMul, Nat.reduceLT, Nat.reduceLeDiff, Nat.reduceEqDiff, Nat.reduceBEq, Option.map_some])
    simp -implicitDefEqProofs only [go_sem, Nat.reduceAdd, Nat.reduceSub, Nat.reduceMul, Nat.reduceLT, Nat.reduceLeDiff, Nat.reduceEqDiff, Nat.reduceBEq] at h6
    obtain rfl := Option.some.inj h
    simp -implicitDefEqProofs only [go_sem, Nat.reduceAdd, Nat.reduceSub, Nat.reduceMul, Nat.reduceLT, Nat.reduceLeDiff, Nat.reduceEqDiff, Nat.reduceBEq, hc3, h4, h6, mkSl]
    exact ⟨_, rfl, rfl⟩
  · rw [if_neg hc3] at h
    obtain rfl := Option.some.inj h
    obtain rfl := hx2 _ rfl
    simp -implicitDefEqProofs only [go_sem, Nat.reduceAdd, Nat.reduceSub, Nat.reduceMul, Nat.reduceLT, Nat.reduceLeDiff, Nat.reduceEqDiff, Nat.reduceBEq, hc3, mkSl]
theorem wlaw03_same_ok {a0 : List ExprNode} {a1 : List Wref03N} {r : Bool} (h : wlaw03_same a0 a1 = some r) :
  Vc cfg 8 [.sl .view (a0.map ExprNode.en.enc), .sl .view (a1.map Wref03N.en.enc)] [] fun v _ => v = .lit (.bool r) := by
  refine Vc_of (fn := Tryd.f8) rfl Tryd.func8 rfl Tryd.ntmps8 Tryd.results8 (by kernel_rfl) ?_
  conv => arg 3; whnf
  unfold wlaw03_same at h
  by_cases hc1 : ((a0.length : Int) != (a1.length : Int)) = true
  · rw [if_pos hc1] at h
    obtain rfl := Option.some.inj h
    simp -implicitDefEqProofs only [go_sem, Nat.reduceAdd, Nat.reduceSub, Nat.reduceMul, Nat.reduceLT, Nat.reduceLeDiff, Nat.reduceEqDiff, Nat.reduceBEq, hc1]
  · rw [if_neg hc1] at h
    replace hc1 := (Bool.not_eq_true _).mp hc1
    simp -implicitDefEqProofs only [go_sem, Nat.reduceAdd, Nat.reduceSub, Nat.reduceMul, Nat.reduceLT, Nat.reduceLeDiff, Nat.reduceEqDiff, Nat.reduceBEq, hc1]
    obtain ⟨r2, h2, h⟩ := bind_some h
    refine Vc.mono (wlaw03_refs_ok h2) ?_
    rintro _ _ rfl
    simp -implicitDefEqProofs only [go_sem, Nat.reduceAdd, Nat.reduceSub, Nat.reduceMul, Nat.reduceLT, Nat.reduceLeDiff, Nat.reduceEqDiff, Nat.reduceBEq]
    refine wpLoop_run' (step := wlaw03_same_l0_step a1 r2) (fun s3 => mkSl 27 [(1, .sl .view (a1.map Wref03N.en.enc)), (13, .sl .view (r2.map Wref03N.en.enc)), (14, .lit (.int .i64 (r2.length : Int))), (15, .lit (.int .i64 s3))]) (fun s3 => []) h (by kernel_rfl) (by first | rfl | simp -implicitDefEqProofs only [go_sem, Nat.reduceAdd, Nat.reduceSub, Nat.reduceMul, Nat.reduceLT, Nat.reduceLeDiff, Nat.reduceEqDiff, Nat.reduceBEq, mkSl]) (by first | rfl | simp -implicitDefEqProofs only [go_sem, Nat.reduceAdd, Nat.reduceSub, Nat.reduceMul, Nat.reduceLT, Nat.reduceLeDiff, Nat.reduceEqDiff, Nat.reduceBEq]) ?_
    clear h
    intro s3 xx3 h hx4
    unfold wlaw03_same_l0_step at h
    by_cases hc5 : s3 < (r2.length : Int)
    · rw [if_pos hc5] at h
      obtain ⟨x4, h6, h⟩ := bind_some h
      obtain ⟨x5, h7, h⟩ := bind_some h
      by_cases hc8 : (!((x4.Op == x5.Op) && ((x4.V.Kind == x5.V.Kind) && ((x4.V.N == x5.V.N) && ((x4.V.S == x5.V.S) && ((x4.Name == x5.Name) && ((x4.L == x5.L) && (x4.R == x5.R)))))))) = true
      · rw [if_pos hc8] at h
        obtain rfl := Option.some.inj h
        obtain rfl := hx4 _ rfl
        simp -implicitDefEqProofs only [go_sem, Nat.reduceAdd, Nat.reduceSub, Nat.reduceMul, Nat.reduceLT, Nat.reduceLeDiff, Nat.reduceEqDiff, Nat.reduceBEq, hc5, h6, h7, hc8, mkSl]
      · rw [if_neg hc8] at h
        replace hc8 := (Bool.not_eq_true _).mp hc8
        obtain rfl := Option.some.inj h
        simp -implicitDefEqProofs only [go_sem, Nat.reduceAdd, Nat.reduceSub, Nat.reduceMul, Nat.reduceLT, Nat.reduceLeDiff, Nat.reduceEqDiff, Nat.reduceBEq, hc5, h6, h7, hc8, mkSl]
        exact ⟨_, rfl, rfl⟩
    · rw [if_neg hc5] at h
      obtain rfl := Option.some.inj h
      obtain rfl := hx4 _ rfl
      simp -implicitDefEqProofs only [go_sem, Nat.reduceAdd, Nat.reduceSub, Nat.reduceMul, Nat.reduceLT, Nat.reduceLeDiff, Nat.reduceEqDiff, Nat.reduceBEq, hc5, mkSl]
theorem wlaw03_ExprAhead_ok {a0 : List UInt8} {a1 : List UInt8} {r : Bool} (h : wlaw03_ExprAhead a0 a1 = some r) :
  Vc cfg 3 [.lit (.string (bs a0)), .lit (.string (bs a1))] [] fun v _ => v = .lit (.bool r) := by
  refine Vc_of (fn := Tryd.f3) rfl Tryd.func3 rfl Tryd.ntmps3 Tryd.results3 (by kernel_rfl) ?_
  conv => arg 3; whnf
  unfold wlaw03_ExprAhead at h
  simp -implicitDefEqProofs only [go_sem, Nat.reduceAdd, Nat.reduceSub, Nat.reduceMul, Nat.reduceLT, Nat.reduceLeDiff, Nat.reduceEqDiff, Nat.reduceBEq]
  obtain ⟨r2, h1, h⟩ := bind_some h
  refine Vc.mono (wlaw03_anchor_ok h1) ?_
  rintro _ _ rfl
  by_cases hc2 : (!r2) = true
  · rw [if_pos hc2] at h
    obtain rfl := Option.some.inj h
    simp -implicitDefEqProofs only [go_sem, Nat.reduceAdd, Nat.reduceSub, Nat.reduceMul, Nat.reduceLT, Nat.reduceLeDiff, Nat.reduceEqDiff, Nat.reduceBEq, hc2]
  · rw [if_neg hc2] at h
    replace hc2 := (Bool.not_eq_true _).mp hc2
    by_cases hc3 : 400 < (a0.length : Int)
    · rw [if_pos hc3] at h
      obtain rfl := Option.some.inj h
      simp -implicitDefEqProofs only [go_sem, Nat.reduceAdd, Nat.reduceSub, Nat.reduceMul, Nat.reduceLT, Nat.reduceLeDiff, Nat.reduceEqDiff, Nat.reduceBEq, hc2, hc3]
    · rw [if_neg hc3] at h
      by_cases hc4 : 200 < (a1.length : Int)
      · rw [if_pos hc4] at h
        obtain rfl := Option.some.inj h
        simp -implicitDefEqProofs only [go_sem, Nat.reduceAdd, Nat.reduceSub, Nat.reduceMul, Nat.reduceLT, Nat.reduceLeDiff, Nat.reduceEqDiff, Nat.reduceBEq, hc2, hc3, hc4]
      · rw [if_neg hc4] at h
        simp -implicitDefEqProofs only [go_sem, Nat.reduceAdd, Nat.reduceSub, Nat.reduceMul, Nat.reduceLT, Nat.reduceLeDiff, Nat.reduceEqDiff, Nat.reduceBEq, hc2, hc3, hc4]
        obtain ⟨r3, h5, h⟩ := bind_some h
        refine Vc.mono (tok_Lex_ok h5) ?_
        rintro _ _ rfl
        obtain ⟨s4, h6, h⟩ := bind_some h
        obtain ⟨s5, h7, h⟩ := bind_some h
        simp -implicitDefEqProofs only [go_sem, Nat.reduceAdd, Nat.reduceSub, Nat.reduceMul, Nat.reduceLT, Nat.reduceLeDiff, Nat.reduceEqDiff, Nat.reduceBEq, h6, h7]
        obtain ⟨r6, h8, h⟩ := bind_some h
        refine Vc.mono (tok_Lex_ok h8) ?_
        rintro _ _ rfl
        by_cases hc9 : (r3.2.1 != 0) = true
        · rw [if_pos hc9] at h
          obtain rfl := Option.some.inj h
          simp -implicitDefEqProofs only [go_sem, Nat.reduceAdd, Nat.reduceSub, Nat.reduceMul, Nat.reduceLT, Nat.reduceLeDiff, Nat.reduceEqDiff, Nat.reduceBEq, hc9]
        · rw [if_neg hc9] at h
          replace hc9 := (Bool.not_eq_true _).mp hc9
          by_cases hc10 : (r6.2.1 != 0) = true
          · rw [if_pos hc10] at h
            obtain rfl := Option.some.inj h
            simp -implicitDefEqProofs only [go_sem, Nat.reduceAdd, Nat.reduceSub, Nat.reduceMul, Nat.reduceLT, Nat.reduceLeDiff, Nat.reduceEqDiff, Nat.reduceBEq, hc9, hc10]
          · rw [if_neg hc10] at h
            replace hc10 := (Bool.not_eq_true _).mp hc10
            simp -implicitDefEqProofs only [go_sem, Nat.reduceAdd, Nat.reduceSub, Nat.reduceMul, Nat.reduceLT, Nat.reduceLeDiff, Nat.reduceEqDiff, Nat.reduceBEq, hc9, hc10]
            obtain ⟨r7, h11, h⟩ := bind_some h
            refine Vc.mono (expr_Parse_ok h11) ?_
            rintro _ _ rfl
            simp -implicitDefEqProofs only [go_sem, Nat.reduceAdd, Nat.reduceSub, Nat.reduceMul, Nat.reduceLT, Nat.reduceLeDiff, Nat.reduceEqDiff, Nat.reduceBEq]
            obtain ⟨r8, h12, h⟩ := bind_some h
            refine Vc.mono (expr_Parse_ok h12) ?_
            rintro _ _ rfl
            by_cases hc13 : (r7.2.2 == r8.2.2) = true
            · rw [if_pos hc13] at h
              by_cases hc14 : (r7.2.1 == r8.2.1) = true
              · rw [if_pos hc14] at h
                simp -implicitDefEqProofs only [go_sem, Nat.reduceAdd, Nat.reduceSub, Nat.reduceMul, Nat.reduceLT, Nat.reduceLeDiff, Nat.reduceEqDiff, Nat.reduceBEq, hc13, hc14]
                obtain ⟨r9, h15, h⟩ := bind_some h
                refine Vc.mono (wlaw03_refs_ok h15) ?_
                rintro _ _ rfl
                simp -implicitDefEqProofs only [go_sem, Nat.reduceAdd, Nat.reduceSub, Nat.reduceMul, Nat.reduceLT, Nat.reduceLeDiff, Nat.reduceEqDiff, Nat.reduceBEq, hc14]
                obtain ⟨r10, h16, h⟩ := bind_some h
                refine Vc.mono (wlaw03_same_ok h16) ?_
                rintro _ _ rfl
                obtain rfl := Option.some.inj h
                simp -implicitDefEqProofs only [go_sem, Nat.reduceAdd, Nat.reduceSub, Nat.reduceMul, Nat.reduceLT, Nat.reduceLeDiff, Nat.reduceEqDiff, Nat.reduceBEq, hc14]
              · rw [if_neg hc14] at h
                replace hc14 := (Bool.not_eq_true _).mp hc14
                obtain rfl := Option.some.inj h
                simp -implicitDefEqProofs only [go_sem, Nat.reduceAdd, Nat.reduceSub, Nat.reduceMul, Nat.reduceLT, Nat.reduceLeDiff, Nat.reduceEqDiff, Nat.reduceBEq, hc13, hc14]
            · rw [if_neg hc13] at h
              replace hc13 := (Bool.not_eq_true _).mp hc13
              obtain rfl := Option.some.inj h
              simp -implicitDefEqProofs only [go_sem, Nat.reduceAdd, Nat.reduceSub, Nat.reduceMul, Nat.reduceLT, Nat.reduceLeDiff, Nat.reduceEqDiff, Nat.reduceBEq, hc13]
end Go.Proofs.YtilmjbljkkbakaaDoor
