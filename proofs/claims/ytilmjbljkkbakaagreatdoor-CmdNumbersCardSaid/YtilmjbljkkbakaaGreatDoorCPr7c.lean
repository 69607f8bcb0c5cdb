/-
  A part of the proof: lemmas.
-/
import Derived.Test.YtilmjbljkkbakaaGreatDoorCFactsc
import Derived.Test.YtilmjbljkkbakaaGreatDoorCFunsc
import Derived.Test.YtilmjbljkkbakaaGreatDoorCPr3c
import Derived.Test.YtilmjbljkkbakaaGreatDoorCPr4c
import Derived.Test.YtilmjbljkkbakaaGreatDoorCPr5c
import Derived.Test.YtilmjbljkkbakaaGreatDoorCPr6c
set_option linter.unusedSimpArgs false
set_option linter.unusedVariables false
set_option linter.unusedSectionVars false
set_option linter.unnecessarySimpa false
set_option linter.deprecated false
/-! The functions' proofs. -/
namespace Go.Proofs.YtilmjbljkkbakaaGreatDoor
open Go.Wv
set_option linter.unusedSimpArgs false
set_option linter.unusedVariables false
set_option maxRecDepth 10000
set_option maxHeartbeats 20000000
theorem expr_Parse_ok {a0 : List TokToken} {a1 : Int} {r : (List ExprNode) × Int × Int} (h : expr_Parse a0 a1 = some r) :
  Vc cfg 103 [.sl .view (a0.map TokToken.en.enc), .lit (.int .i64 a1)] [] fun v _ => v = .tup [.sl .view (r.1.map ExprNode.en.enc), .lit (.int .i64 r.2.1), .lit (.int .i64 r.2.2)] := by
  refine Vc_of (fn := Tryz.f103) rfl Tryz.func103 rfl Tryz.ntmps103 Tryz.results103 (by kernel_rfl) ?_
  conv => arg 3; whnf
  unfold expr_Parse at h
  by_cases hc1 : a1 < 0
  · rw [if_pos hc1] at h
    obtain rfl := Option.some.inj h
    simp -implicitDefEqProofs only [go_sem, Nat.reduceAdd, Nat.reduceSub, Nat.reduceMul, Nat.reduceLT, Nat.reduceLeDiff, Nat.reduceEqDiff, Nat.reduceBEq, hc1]
  · rw [if_neg hc1] at h
    by_cases hc2 : (a0.length : Int) < a1
    · rw [if_pos hc2] at h
      obtain rfl := Option.some.inj h
      simp -implicitDefEqProofs only [go_sem, Nat.reduceAdd, Nat.reduceSub, Nat.reduceMul, Nat.reduceLT, Nat.reduceLeDiff, Nat.reduceEqDiff, Nat.reduceBEq, hc1, hc2]
    · rw [if_neg hc2] at h
      simp -implicitDefEqProofs only [go_sem, Nat.reduceAdd, Nat.reduceSub, Nat.reduceMul, Nat.reduceLT, Nat.reduceLeDiff, Nat.reduceEqDiff, Nat.reduceBEq, hc1, hc2]
      obtain ⟨r2, h3, h⟩ := bind_some h
      refine Vc.mono (expr_parser_binary_ok h3 (by simp -implicitDefEqProofs only [go_sem, Nat.reduceAdd, Nat.reduceSub, Nat.reduceMul, Nat.reduceLT, Nat.reduceLeDiff, Nat.reduceEqDiff, Nat.reduceBEq])) ?_
      rintro _ _ ⟨rfl, rfl⟩
      by_cases hc4 : r2.1 = true
      · rw [if_pos hc4] at h
        simp -implicitDefEqProofs only [go_sem, Nat.reduceAdd, Nat.reduceSub, Nat.reduceMul, Nat.reduceLT, Nat.reduceLeDiff, Nat.reduceEqDiff, Nat.reduceBEq, hc4]
        obtain ⟨r3, h5, h⟩ := bind_some h
        refine Vc.mono (expr_Expr_Size_ok h5) ?_
        rintro _ _ rfl
        by_cases hc6 : (r3 != 0) = true
        · rw [if_pos hc6] at h
          obtain rfl := Option.some.inj h
          simp -implicitDefEqProofs only [go_sem, Nat.reduceAdd, Nat.reduceSub, Nat.reduceMul, Nat.reduceLT, Nat.reduceLeDiff, Nat.reduceEqDiff, Nat.reduceBEq, hc6]
        · rw [if_neg hc6] at h
          replace hc6 := (Bool.not_eq_true _).mp hc6
          obtain rfl := Option.some.inj h
          simp -implicitDefEqProofs only [go_sem, Nat.reduceAdd, Nat.reduceSub, Nat.reduceMul, Nat.reduceLT, Nat.reduceLeDiff, Nat.reduceEqDiff, Nat.reduceBEq, hc6]
      · rw [if_neg hc4] at h
        replace hc4 := (Bool.not_eq_true _).mp hc4
        obtain rfl := Option.some.inj h
        simp -implicitDefEqProofs only [go_sem, Nat.reduceAdd, Nat.reduceSub, Nat.reduceMul, Nat.reduceLT, Nat.reduceLeDiff, Nat.reduceEqDiff, Nat.reduceBEq, hc4]
theorem tok_Name_ok {a0 : List UInt8} {r : Bool} (h : tok_Name a0 = some r) :
  Vc cfg 121 [.lit (.string (bs a0))] [] fun v _ => v = .lit (.bool r) := by
  refine Vc_of (fn := Tryz.f121) rfl Tryz.func121 rfl Tryz.ntmps121 Tryz.results121 (by kernel_rfl) ?_
  conv => arg 3; whnf
  unfold tok_Name at h
  simp -implicitDefEqProofs only [go_sem, Nat.reduceAdd, Nat.reduceSub, Nat.reduceMul, Nat.reduceLT, Nat.reduceLeDiff, Nat.reduceEqDiff, Nat.reduceBEq]
  obtain ⟨r1, h1, h⟩ := bind_some h
  refine Vc.mono (tok_Lex_ok h1) ?_
  rintro _ _ rfl
  by_cases hc2 : (r1.2.1 == 0) = true
  · rw [if_pos hc2] at h
    by_cases hc3 : ((r1.1.length : Int) == 1) = true
    · rw [if_pos hc3] at h
      obtain ⟨x2, h4, h⟩ := bind_some h
      by_cases hc5 : (x2.Kind == 1) = true
      · rw [if_pos hc5] at h
        by_cases hc6 : (x2.Text == a0) = true
        · rw [if_pos hc6] at h
          simp -implicitDefEqProofs only [go_sem, Nat.reduceAdd, Nat.reduceSub, Nat.reduceMul, Nat.reduceLT, Nat.reduceLeDiff, Nat.reduceEqDiff, Nat.reduceBEq, hc2, hc3, h4, hc5, hc6]
          obtain ⟨r3, h7, h⟩ := bind_some h
          refine Vc.mono (tok_Means_ok h7) ?_
          rintro _ _ rfl
          obtain rfl := Option.some.inj h
          simp -implicitDefEqProofs only [go_sem, Nat.reduceAdd, Nat.reduceSub, Nat.reduceMul, Nat.reduceLT, Nat.reduceLeDiff, Nat.reduceEqDiff, Nat.reduceBEq, hc6]
        · rw [if_neg hc6] at h
          replace hc6 := (Bool.not_eq_true _).mp hc6
          obtain rfl := Option.some.inj h
          simp -implicitDefEqProofs only [go_sem, Nat.reduceAdd, Nat.reduceSub, Nat.reduceMul, Nat.reduceLT, Nat.reduceLeDiff, Nat.reduceEqDiff, Nat.reduceBEq, hc2, hc3, h4, hc5, hc6]
      · rw [if_neg hc5] at h
        replace hc5 := (Bool.not_eq_true _).mp hc5
        obtain rfl := Option.some.inj h
        simp -implicitDefEqProofs only [go_sem, Nat.reduceAdd, Nat.reduceSub, Nat.reduceMul, Nat.reduceLT, Nat.reduceLeDiff, Nat.reduceEqDiff, Nat.reduceBEq, hc2, hc3, h4, hc5]
    · rw [if_neg hc3] at h
      replace hc3 := (Bool.not_eq_true _).mp hc3
      obtain rfl := Option.some.inj h
      simp -implicitDefEqProofs only [go_sem, Nat.reduceAdd, Nat.reduceSub, Nat.reduceMul, Nat.reduceLT, Nat.reduceLeDiff, Nat.reduceEqDiff, Nat.reduceBEq, hc2, hc3]
  · rw [if_neg hc2] at h
    replace hc2 := (Bool.not_eq_true _).mp hc2
    obtain rfl := Option.some.inj h
    simp -implicitDefEqProofs only [go_sem, Nat.reduceAdd, Nat.reduceSub, Nat.reduceMul, Nat.reduceLT, Nat.reduceLeDiff, Nat.reduceEqDiff, Nat.reduceBEq, hc2]
theorem brk_Parse_ok {a0 : List UInt8} {r : BrkBreak × Int} (h : brk_Parse a0 = some r) :
  Vc cfg 79 [.lit (.string (bs a0))] [] fun v _ => v = .tup [.agg [.lit (.int .i64 r.1.Kind), .lit (.string (bs r.1.Name)), .lit (.int .i64 r.1.N), .sl .view (r.1.If.map ExprNode.en.enc), .lit (.bool r.1.Off)], .lit (.int .i64 r.2)] := by
  refine Vc_of (fn := Tryz.f79) rfl Tryz.func79 rfl Tryz.ntmps79 Tryz.results79 (by kernel_rfl) ?_
  conv => arg 3; whnf
  unfold brk_Parse at h
  simp -implicitDefEqProofs only [go_sem, Nat.reduceAdd, Nat.reduceSub, Nat.reduceMul, Nat.reduceLT, Nat.reduceLeDiff, Nat.reduceEqDiff, Nat.reduceBEq]
  obtain ⟨r1, h1, h⟩ := bind_some h
  refine Vc.mono (tok_Lex_ok h1) ?_
  rintro _ _ rfl
  by_cases hc2 : (r1.2.1 != 0) = true
  · rw [if_pos hc2] at h
    obtain rfl := Option.some.inj h
    simp -implicitDefEqProofs only [go_sem, Nat.reduceAdd, Nat.reduceSub, Nat.reduceMul, Nat.reduceLT, Nat.reduceLeDiff, Nat.reduceEqDiff, Nat.reduceBEq, hc2]
  · rw [if_neg hc2] at h
    replace hc2 := (Bool.not_eq_true _).mp hc2
    simp -implicitDefEqProofs only [go_sem, Nat.reduceAdd, Nat.reduceSub, Nat.reduceMul, Nat.reduceLT, Nat.reduceLeDiff, Nat.reduceEqDiff, Nat.reduceBEq, hc2]
    obtain ⟨xx3, h5, hk6, hx4⟩ := jn_some h
    clear h
    refine seqK_join (x := xx3) (fun s2 => mkSl 149 [(2, .ptr 0 0), (4, .sl .view (s2.1.map TokToken.en.enc)), (7, .ptr 1 0)]) (fun s2 => [.var [.lit (.int .i64 0), .lit (.string (bs [])), .lit (.int .i64 0), .sl .view (([] : List ExprNode).map ExprNode.en.enc), .lit (.bool false)], .var [.lit (.int .i64 0), .lit (.string (bs [])), .lit (.int .i64 0), .sl .view (([] : List ExprNode).map ExprNode.en.enc), .lit (.bool s2.2)]]) ?_ ?_
    · clear hk6
      unfold brk_Parse_j0 at h5
      have h := h5
      clear h5
      by_cases hc7 : 0 < (r1.1.length : Int)
      · rw [if_pos hc7] at h
        obtain ⟨x3, h8, h⟩ := bind_some h
        simp -implicitDefEqProofs only [go_sem, Nat.reduceAdd, Nat.reduceSub, Nat.reduceMul, Nat.reduceLT, Nat.reduceLeDiff, Nat.reduceEqDiff, Nat.reduceBEq, hc7, h8]
        obtain ⟨r4, h9, h⟩ := bind_some h
        refine Vc.mono (tok_Token_Is_ok h9) ?_
        rintro _ _ rfl
        by_cases hc10 : r4 = true
        · rw [if_pos hc10] at h
          obtain ⟨m5, h11, h⟩ := bind_some h
          obtain rfl := Option.some.inj h
          simp -implicitDefEqProofs only [go_sem, Nat.reduceAdd, Nat.reduceSub, Nat.reduceMul, Nat.reduceLT, Nat.reduceLeDiff, Nat.reduceEqDiff, Nat.reduceBEq, hc7, hc10, h11]
          exact ⟨_, rfl, rfl⟩
        · rw [if_neg hc10] at h
          replace hc10 := (Bool.not_eq_true _).mp hc10
          obtain rfl := Option.some.inj h
          simp -implicitDefEqProofs only [go_sem, Nat.reduceAdd, Nat.reduceSub, Nat.reduceMul, Nat.reduceLT, Nat.reduceLeDiff, Nat.reduceEqDiff, Nat.reduceBEq, hc7, hc10]
          exact ⟨_, rfl, rfl⟩
      · rw [if_neg hc7] at h
        obtain rfl := Option.some.inj h
        simp -implicitDefEqProofs only [go_sem, Nat.reduceAdd, Nat.reduceSub, Nat.reduceMul, Nat.reduceLT, Nat.reduceLeDiff, Nat.reduceEqDiff, Nat.reduceBEq, hc7]
        exact ⟨_, rfl, rfl⟩
    · intro s2 hi12
      have h := hk6 _ hi12
      clear h5 hx4 hk6 hi12
      simp -implicitDefEqProofs only [go_sem, Nat.reduceAdd, Nat.reduceSub, Nat.reduceMul, Nat.reduceLT, Nat.reduceLeDiff, Nat.reduceEqDiff, Nat.reduceBEq, mkSl]
      obtain ⟨xx13, h15, hk16, hx14⟩ := jn_some h
      clear h
      refine seqK_join (x := xx13) (fun s6 => mkSl 149 [(2, .ptr 0 0), (4, .sl .view (s2.1.map TokToken.en.enc)), (7, .ptr 1 0)]) (fun s6 => [.var [.lit (.int .i64 0), .lit (.string (bs [])), .lit (.int .i64 0), .sl .view (([] : List ExprNode).map ExprNode.en.enc), .lit (.bool false)], .var [.lit (.int .i64 s6), .lit (.string (bs [])), .lit (.int .i64 0), .sl .view (([] : List ExprNode).map ExprNode.en.enc), .lit (.bool s2.2)]]) ?_ ?_
      · clear hk16
        unfold brk_Parse_j1 at h15
        have h := h15
        clear h15
        simp -implicitDefEqProofs only [go_sem, Nat.reduceAdd, Nat.reduceSub, Nat.reduceMul, Nat.reduceLT, Nat.reduceLeDiff, Nat.reduceEqDiff, Nat.reduceBEq, mkSl]
        refine wpLoop_run' (step := brk_Parse_l2_step s2) (fun s7 => mkSl 149 [(2, .ptr 0 0), (4, .sl .view (s2.1.map TokToken.en.enc)), (7, .ptr 1 0), (8, .lit (.int .i64 s7.1))]) (fun s7 => [.var [.lit (.int .i64 0), .lit (.string (bs [])), .lit (.int .i64 0), .sl .view (([] : List ExprNode).map ExprNode.en.enc), .lit (.bool false)], .var [.lit (.int .i64 s7.2), .lit (.string (bs [])), .lit (.int .i64 0), .sl .view (([] : List ExprNode).map ExprNode.en.enc), .lit (.bool s2.2)]]) h (by kernel_rfl) (by first | rfl | simp -implicitDefEqProofs only [go_sem, Nat.reduceAdd, Nat.reduceSub, Nat.reduceMul, Nat.reduceLT, Nat.reduceLeDiff, Nat.reduceEqDiff, Nat.reduceBEq, mkSl, mkSl]) (by first | rfl | simp -implicitDefEqProofs only [go_sem, Nat.reduceAdd, Nat.reduceSub, Nat.reduceMul, Nat.reduceLT, Nat.reduceLeDiff, Nat.reduceEqDiff, Nat.reduceBEq, mkSl]) ?_
        clear h
        intro s7 xx17 h hx18
        unfold brk_Parse_l2_step at h
        by_cases hc19 : s7.1 ≤ 3
        · rw [if_pos hc19] at h
          by_cases hc20 : 0 < (s2.1.length : Int)
          · rw [if_pos hc20] at h
            obtain ⟨x8, h21, h⟩ := bind_some h
            obtain ⟨j9, h22, h⟩ := bind_some h
            have h23 := vindexAddr_tab (P := Tryz.prog) (t := 185) (k := .i64) (cs := tab2V) (off := 0) h22 (by simp -implicitDefEqProofs only [go_sem, Nat.reduceAdd, Nat.reduceSub, Nat.reduceMul, Nat.reduceLT, Nat.reduceLeDiff, Nat.reduceEqDiff, Nat.reduceBEq, Option.map_some])
            try simp -implicitDefEqProofs only [go_sem, Nat.reduceAdd, Nat.reduceSub, Nat.reduceMul, Nat.reduceLT, Nat.reduceLeDiff, Nat.reduceEqDiff, Nat.reduceBEq] at h23
            obtain ⟨x10, h24, h⟩ := bind_some h
            have h24l := lt_of_get h24
            try simp only [List.length_cons, List.length_nil, Nat.reduceAdd] at h24l
            simp -implicitDefEqProofs only [go_sem, Nat.reduceAdd, Nat.reduceSub, Nat.reduceMul, Nat.reduceLT, Nat.reduceLeDiff, Nat.reduceEqDiff, Nat.reduceBEq, hc19, hc20, h21, h23, h24, h24l, mkSl]
            obtain ⟨r11, h25, h⟩ := bind_some h
            refine Vc.mono (tok_Token_Is_ok h25) ?_
            rintro _ _ rfl
            by_cases hc26 : r11 = true
            · rw [if_pos hc26] at h
              obtain rfl := Option.some.inj h
              simp -implicitDefEqProofs only [go_sem, Nat.reduceAdd, Nat.reduceSub, Nat.reduceMul, Nat.reduceLT, Nat.reduceLeDiff, Nat.reduceEqDiff, Nat.reduceBEq, hc26, mkSl]
              exact ⟨_, rfl, rfl⟩
            · rw [if_neg hc26] at h
              replace hc26 := (Bool.not_eq_true _).mp hc26
              obtain rfl := Option.some.inj h
              simp -implicitDefEqProofs only [go_sem, Nat.reduceAdd, Nat.reduceSub, Nat.reduceMul, Nat.reduceLT, Nat.reduceLeDiff, Nat.reduceEqDiff, Nat.reduceBEq, hc26, mkSl]
              exact ⟨_, rfl, rfl⟩
          · rw [if_neg hc20] at h
            obtain rfl := Option.some.inj h
            obtain rfl := hx18 _ rfl
            simp -implicitDefEqProofs only [go_sem, Nat.reduceAdd, Nat.reduceSub, Nat.reduceMul, Nat.reduceLT, Nat.reduceLeDiff, Nat.reduceEqDiff, Nat.reduceBEq, hc19, hc20, mkSl]
            exact ⟨_, rfl, rfl⟩
        · rw [if_neg hc19] at h
          obtain rfl := Option.some.inj h
          obtain rfl := hx18 _ rfl
          simp -implicitDefEqProofs only [go_sem, Nat.reduceAdd, Nat.reduceSub, Nat.reduceMul, Nat.reduceLT, Nat.reduceLeDiff, Nat.reduceEqDiff, Nat.reduceBEq, hc19, mkSl]
          exact ⟨_, rfl, rfl⟩
      · intro s6 hi27
        have h := hk16 _ hi27
        clear h15 hx14 hk16 hi27
        by_cases hc28 : (s6 == 0) = true
        · rw [if_pos hc28] at h
          obtain rfl := Option.some.inj h
          simp -implicitDefEqProofs only [go_sem, Nat.reduceAdd, Nat.reduceSub, Nat.reduceMul, Nat.reduceLT, Nat.reduceLeDiff, Nat.reduceEqDiff, Nat.reduceBEq, hc28, mkSl]
        · rw [if_neg hc28] at h
          replace hc28 := (Bool.not_eq_true _).mp hc28
          by_cases hc29 : (s6 == 3) = true
          · rw [if_pos hc29] at h
            simp -implicitDefEqProofs only [go_sem, Nat.reduceAdd, Nat.reduceSub, Nat.reduceMul, Nat.reduceLT, Nat.reduceLeDiff, Nat.reduceEqDiff, Nat.reduceBEq, hc28, hc29, mkSl]
            obtain ⟨r12, h30, h⟩ := bind_some h
            refine Vc.mono (expr_Parse_ok h30) ?_
            rintro _ _ rfl
            simp -implicitDefEqProofs only [go_sem, Nat.reduceAdd, Nat.reduceSub, Nat.reduceMul, Nat.reduceLT, Nat.reduceLeDiff, Nat.reduceEqDiff, Nat.reduceBEq, mkSl]
            obtain ⟨xx31, h33, hk34, hx32⟩ := jn_some h
            clear h
            refine seqK_join (x := xx31) (fun s13 => mkSl 149 [(2, .ptr 0 0), (7, .ptr 1 0), (9, .sl .view (r12.1.map ExprNode.en.enc)), (11, .lit (.int .i64 s13))]) (fun s13 => [.var [.lit (.int .i64 0), .lit (.string (bs [])), .lit (.int .i64 0), .sl .view (([] : List ExprNode).map ExprNode.en.enc), .lit (.bool false)], .var [.lit (.int .i64 s6), .lit (.string (bs [])), .lit (.int .i64 0), .sl .view (([] : List ExprNode).map ExprNode.en.enc), .lit (.bool s2.2)]]) ?_ ?_
            · clear hk34
              unfold brk_Parse_j3 at h33
              have h := h33
              clear h33
              by_cases hc35 : (r12.2.2 == 0) = true
              · rw [if_pos hc35] at h
                by_cases hc36 : r12.2.1 < (s2.1.length : Int)
                · rw [if_pos hc36] at h
                  obtain rfl := Option.some.inj h
                  simp -implicitDefEqProofs only [go_sem, Nat.reduceAdd, Nat.reduceSub, Nat.reduceMul, Nat.reduceLT, Nat.reduceLeDiff, Nat.reduceEqDiff, Nat.reduceBEq, hc35, hc36, mkSl]
                  exact ⟨_, rfl, rfl⟩
                · rw [if_neg hc36] at h
                  obtain rfl := Option.some.inj h
                  simp -implicitDefEqProofs only [go_sem, Nat.reduceAdd, Nat.reduceSub, Nat.reduceMul, Nat.reduceLT, Nat.reduceLeDiff, Nat.reduceEqDiff, Nat.reduceBEq, hc35, hc36, mkSl]
                  exact ⟨_, rfl, rfl⟩
              · rw [if_neg hc35] at h
                replace hc35 := (Bool.not_eq_true _).mp hc35
                obtain rfl := Option.some.inj h
                simp -implicitDefEqProofs only [go_sem, Nat.reduceAdd, Nat.reduceSub, Nat.reduceMul, Nat.reduceLT, Nat.reduceLeDiff, Nat.reduceEqDiff, Nat.reduceBEq, hc35, mkSl]
                exact ⟨_, rfl, rfl⟩
            · intro s13 hi37
              have h := hk34 _ hi37
              clear h33 hx32 hk34 hi37
              by_cases hc38 : (s13 != 0) = true
              · rw [if_pos hc38] at h
                obtain rfl := Option.some.inj h
                simp -implicitDefEqProofs only [go_sem, Nat.reduceAdd, Nat.reduceSub, Nat.reduceMul, Nat.reduceLT, Nat.reduceLeDiff, Nat.reduceEqDiff, Nat.reduceBEq, hc38, mkSl]
              · rw [if_neg hc38] at h
                replace hc38 := (Bool.not_eq_true _).mp hc38
                obtain rfl := Option.some.inj h
                simp -implicitDefEqProofs only [go_sem, Nat.reduceAdd, Nat.reduceSub, Nat.reduceMul, Nat.reduceLT, Nat.reduceLeDiff, Nat.reduceEqDiff, Nat.reduceBEq, hc38, mkSl]
          · rw [if_neg hc29] at h
            replace hc29 := (Bool.not_eq_true _).mp hc29
            by_cases hc39 : ((s2.1.length : Int) != 2) = true
            · rw [if_pos hc39] at h
              obtain rfl := Option.some.inj h
              simp -implicitDefEqProofs only [go_sem, Nat.reduceAdd, Nat.reduceSub, Nat.reduceMul, Nat.reduceLT, Nat.reduceLeDiff, Nat.reduceEqDiff, Nat.reduceBEq, hc28, hc29, hc39, mkSl]
            · rw [if_neg hc39] at h
              replace hc39 := (Bool.not_eq_true _).mp hc39
              by_cases hc40 : (s6 == 1) = true
              · rw [if_pos hc40] at h
                obtain ⟨x14, h41, h⟩ := bind_some h
                simp -implicitDefEqProofs only [go_sem, Nat.reduceAdd, Nat.reduceSub, Nat.reduceMul, Nat.reduceLT, Nat.reduceLeDiff, Nat.reduceEqDiff, Nat.reduceBEq, hc28, hc29, hc39, hc40, h41, mkSl]
                obtain ⟨r15, h42, h⟩ := bind_some h
                refine Vc.mono (tok_Name_ok h42) ?_
                rintro _ _ rfl
                by_cases hc43 : r15 = true
                · rw [if_pos hc43] at h
                  by_cases hc44 : (x14.Kind == 1) = true
                  · rw [if_pos hc44] at h
                    obtain rfl := Option.some.inj h
                    simp -implicitDefEqProofs only [go_sem, Nat.reduceAdd, Nat.reduceSub, Nat.reduceMul, Nat.reduceLT, Nat.reduceLeDiff, Nat.reduceEqDiff, Nat.reduceBEq, hc40, hc43, h41, hc44, mkSl]
                  · rw [if_neg hc44] at h
                    replace hc44 := (Bool.not_eq_true _).mp hc44
                    by_cases hc45 : (s6 == 2) = true
                    · rw [if_pos hc45] at h
                      by_cases hc46 : (x14.Kind == 3) = true
                      · rw [if_pos hc46] at h
                        by_cases hc47 : x14.N < 96
                        · rw [if_pos hc47] at h
                          obtain rfl := Option.some.inj h
                          simp -implicitDefEqProofs only [go_sem, Nat.reduceAdd, Nat.reduceSub, Nat.reduceMul, Nat.reduceLT, Nat.reduceLeDiff, Nat.reduceEqDiff, Nat.reduceBEq, hc40, hc43, h41, hc44, hc45, hc46, hc47, mkSl]
                        · rw [if_neg hc47] at h
                          obtain rfl := Option.some.inj h
                          simp -implicitDefEqProofs only [go_sem, Nat.reduceAdd, Nat.reduceSub, Nat.reduceMul, Nat.reduceLT, Nat.reduceLeDiff, Nat.reduceEqDiff, Nat.reduceBEq, hc40, hc43, h41, hc44, hc45, hc46, hc47, mkSl]
                      · rw [if_neg hc46] at h
                        replace hc46 := (Bool.not_eq_true _).mp hc46
                        obtain rfl := Option.some.inj h
                        simp -implicitDefEqProofs only [go_sem, Nat.reduceAdd, Nat.reduceSub, Nat.reduceMul, Nat.reduceLT, Nat.reduceLeDiff, Nat.reduceEqDiff, Nat.reduceBEq, hc40, hc43, h41, hc44, hc45, hc46, mkSl]
                    · rw [if_neg hc45] at h
                      replace hc45 := (Bool.not_eq_true _).mp hc45
                      obtain rfl := Option.some.inj h
                      simp -implicitDefEqProofs only [go_sem, Nat.reduceAdd, Nat.reduceSub, Nat.reduceMul, Nat.reduceLT, Nat.reduceLeDiff, Nat.reduceEqDiff, Nat.reduceBEq, hc40, hc43, h41, hc44, hc45, mkSl]
                · rw [if_neg hc43] at h
                  replace hc43 := (Bool.not_eq_true _).mp hc43
                  by_cases hc48 : (s6 == 2) = true
                  · rw [if_pos hc48] at h
                    by_cases hc49 : (x14.Kind == 3) = true
                    · rw [if_pos hc49] at h
                      by_cases hc50 : x14.N < 96
                      · rw [if_pos hc50] at h
                        obtain rfl := Option.some.inj h
                        simp -implicitDefEqProofs only [go_sem, Nat.reduceAdd, Nat.reduceSub, Nat.reduceMul, Nat.reduceLT, Nat.reduceLeDiff, Nat.reduceEqDiff, Nat.reduceBEq, hc40, hc43, hc48, h41, hc49, hc50, mkSl]
                      · rw [if_neg hc50] at h
                        obtain rfl := Option.some.inj h
                        simp -implicitDefEqProofs only [go_sem, Nat.reduceAdd, Nat.reduceSub, Nat.reduceMul, Nat.reduceLT, Nat.reduceLeDiff, Nat.reduceEqDiff, Nat.reduceBEq, hc40, hc43, hc48, h41, hc49, hc50, mkSl]
                    · rw [if_neg hc49] at h
                      replace hc49 := (Bool.not_eq_true _).mp hc49
                      obtain rfl := Option.some.inj h
                      simp -implicitDefEqProofs only [go_sem, Nat.reduceAdd, Nat.reduceSub, Nat.reduceMul, Nat.reduceLT, Nat.reduceLeDiff, Nat.reduceEqDiff, Nat.reduceBEq, hc40, hc43, hc48, h41, hc49, mkSl]
                  · rw [if_neg hc48] at h
                    replace hc48 := (Bool.not_eq_true _).mp hc48
                    obtain rfl := Option.some.inj h
                    simp -implicitDefEqProofs only [go_sem, Nat.reduceAdd, Nat.reduceSub, Nat.reduceMul, Nat.reduceLT, Nat.reduceLeDiff, Nat.reduceEqDiff, Nat.reduceBEq, hc40, hc43, hc48, mkSl]
              · rw [if_neg hc40] at h
                replace hc40 := (Bool.not_eq_true _).mp hc40
                by_cases hc51 : (s6 == 2) = true
                · rw [if_pos hc51] at h
                  obtain ⟨x16, h52, h⟩ := bind_some h
                  by_cases hc53 : (x16.Kind == 3) = true
                  · rw [if_pos hc53] at h
                    by_cases hc54 : x16.N < 96
                    · rw [if_pos hc54] at h
                      obtain rfl := Option.some.inj h
                      simp -implicitDefEqProofs only [go_sem, Nat.reduceAdd, Nat.reduceSub, Nat.reduceMul, Nat.reduceLT, Nat.reduceLeDiff, Nat.reduceEqDiff, Nat.reduceBEq, hc28, hc29, hc39, hc40, hc51, h52, hc53, hc54, mkSl]
                    · rw [if_neg hc54] at h
                      obtain rfl := Option.some.inj h
                      simp -implicitDefEqProofs only [go_sem, Nat.reduceAdd, Nat.reduceSub, Nat.reduceMul, Nat.reduceLT, Nat.reduceLeDiff, Nat.reduceEqDiff, Nat.reduceBEq, hc28, hc29, hc39, hc40, hc51, h52, hc53, hc54, mkSl]
                  · rw [if_neg hc53] at h
                    replace hc53 := (Bool.not_eq_true _).mp hc53
                    obtain rfl := Option.some.inj h
                    simp -implicitDefEqProofs only [go_sem, Nat.reduceAdd, Nat.reduceSub, Nat.reduceMul, Nat.reduceLT, Nat.reduceLeDiff, Nat.reduceEqDiff, Nat.reduceBEq, hc28, hc29, hc39, hc40, hc51, h52, hc53, mkSl]
                · rw [if_neg hc51] at h
                  replace hc51 := (Bool.not_eq_true _).mp hc51
                  obtain rfl := Option.some.inj h
                  simp -implicitDefEqProofs only [go_sem, Nat.reduceAdd, Nat.reduceSub, Nat.reduceMul, Nat.reduceLT, Nat.reduceLeDiff, Nat.reduceEqDiff, Nat.reduceBEq, hc28, hc29, hc39, hc40, hc51, mkSl]
end Go.Proofs.YtilmjbljkkbakaaGreatDoor
