/-
  A part of the proof: lemmas.
-/
import Derived.Test.YtilmjbljkkbakaaDoorFactsc
import Derived.Test.YtilmjbljkkbakaaDoorFunsc
import Derived.Test.YtilmjbljkkbakaaDoorPr0c
import Derived.Test.YtilmjbljkkbakaaDoorPr3c
import Derived.Test.YtilmjbljkkbakaaDoorPr4c
set_option linter.unusedSimpArgs false
set_option linter.unusedVariables false
set_option linter.unusedSectionVars false
set_option linter.unnecessarySimpa false
set_option linter.deprecated false
/-! The functions' proofs. -/
namespace Go.Proofs.YtilmjbljkkbakaaDoor
open Go.Wv
set_option linter.unusedSimpArgs false
set_option linter.unusedVariables false
set_option maxRecDepth 10000
set_option maxHeartbeats 20000000
theorem wlaw06_anchor_ok {r : Bool} (h : wlaw06_anchor = some r) :
  Vc cfg 10 [] [] fun v _ => v = .lit (.bool r) := by
  refine Vc_of (fn := Tryd.f10) rfl Tryd.func10 rfl Tryd.ntmps10 Tryd.results10 (by kernel_rfl) ?_
  conv => arg 3; whnf
  unfold wlaw06_anchor at h
  simp -implicitDefEqProofs only [go_sem, Nat.reduceAdd, Nat.reduceSub, Nat.reduceMul, Nat.reduceLT, Nat.reduceLeDiff, Nat.reduceEqDiff, Nat.reduceBEq]
  obtain ⟨r0, h1, h⟩ := bind_some h
  refine Vc.mono (tok_Lex_ok h1) ?_
  rintro _ _ rfl
  simp -implicitDefEqProofs only [go_sem, Nat.reduceAdd, Nat.reduceSub, Nat.reduceMul, Nat.reduceLT, Nat.reduceLeDiff, Nat.reduceEqDiff, Nat.reduceBEq]
  obtain ⟨r1, h2, h⟩ := bind_some h
  refine Vc.mono (act_Take_ok h2) ?_
  rintro _ _ rfl
  by_cases hc3 : (r1.2.2 == 0) = true
  · rw [if_pos hc3] at h
    by_cases hc4 : (r1.2.1 == (r0.1.length : Int)) = true
    · rw [if_pos hc4] at h
      by_cases hc5 : ((r1.1.length : Int) == 2) = true
      · rw [if_pos hc5] at h
        simp -implicitDefEqProofs only [go_sem, Nat.reduceAdd, Nat.reduceSub, Nat.reduceMul, Nat.reduceLT, Nat.reduceLeDiff, Nat.reduceEqDiff, Nat.reduceBEq, hc3, hc4, hc5]
        obtain ⟨r2, h6, h⟩ := bind_some h
        refine Vc.mono (act_Show_ok h6) ?_
        rintro _ _ rfl
        by_cases hc7 : (r2 == [115, 101, 116, 32, 120, 32, 120, 32, 43, 32, 49, 32, 59, 32, 105, 102, 32, 120, 32, 62, 32, 51, 32, 58, 32, 114, 97, 105, 115, 101, 32, 98, 105, 103]) = true
        · rw [if_pos hc7] at h
          obtain ⟨x3, h8, h⟩ := bind_some h
          simp -implicitDefEqProofs only [go_sem, Nat.reduceAdd, Nat.reduceSub, Nat.reduceMul, Nat.reduceLT, Nat.reduceLeDiff, Nat.reduceEqDiff, Nat.reduceBEq, hc5, hc7, h8]
          obtain ⟨r4, h9, h⟩ := bind_some h
          refine Vc.mono (act_Act_Right_ok h9) ?_
          rintro _ _ rfl
          obtain rfl := Option.some.inj h
          simp -implicitDefEqProofs only [go_sem, Nat.reduceAdd, Nat.reduceSub, Nat.reduceMul, Nat.reduceLT, Nat.reduceLeDiff, Nat.reduceEqDiff, Nat.reduceBEq, hc7]
        · rw [if_neg hc7] at h
          replace hc7 := (Bool.not_eq_true _).mp hc7
          obtain rfl := Option.some.inj h
          simp -implicitDefEqProofs only [go_sem, Nat.reduceAdd, Nat.reduceSub, Nat.reduceMul, Nat.reduceLT, Nat.reduceLeDiff, Nat.reduceEqDiff, Nat.reduceBEq, hc5, hc7]
      · rw [if_neg hc5] at h
        replace hc5 := (Bool.not_eq_true _).mp hc5
        obtain rfl := Option.some.inj h
        simp -implicitDefEqProofs only [go_sem, Nat.reduceAdd, Nat.reduceSub, Nat.reduceMul, Nat.reduceLT, Nat.reduceLeDiff, Nat.reduceEqDiff, Nat.reduceBEq, hc3, hc4, hc5]
    · rw [if_neg hc4] at h
      replace hc4 := (Bool.not_eq_true _).mp hc4
      obtain rfl := Option.some.inj h
      simp -implicitDefEqProofs only [go_sem, Nat.reduceAdd, Nat.reduceSub, Nat.reduceMul, Nat.reduceLT, Nat.reduceLeDiff, Nat.reduceEqDiff, Nat.reduceBEq, hc3, hc4]
  · rw [if_neg hc3] at h
    replace hc3 := (Bool.not_eq_true _).mp hc3
    obtain rfl := Option.some.inj h
    simp -implicitDefEqProofs only [go_sem, Nat.reduceAdd, Nat.reduceSub, Nat.reduceMul, Nat.reduceLT, Nat.reduceLeDiff, Nat.reduceEqDiff, Nat.reduceBEq, hc3]
theorem wlaw06_nodes_ok {a0 : List ExprNode} {r : (List Wref03N)} (h : wlaw06_nodes a0 = some r) :
  Vc cfg 27 [.sl .view (a0.map ExprNode.en.enc)] [] fun v _ => v = .sl .view (r.map Wref03N.en.enc) := by
  refine Vc_of (fn := Tryd.f27) rfl Tryd.func27 rfl Tryd.ntmps27 Tryd.results27 (by kernel_rfl) ?_
  conv => arg 3; whnf
  unfold wlaw06_nodes at h
  simp -implicitDefEqProofs only [go_sem, Nat.reduceAdd, Nat.reduceSub, Nat.reduceMul, Nat.reduceLT, Nat.reduceLeDiff, Nat.reduceEqDiff, Nat.reduceBEq]
  refine wpLoop_run' (step := wlaw06_nodes_l0_step a0) (fun s1 => mkSl 28 [(3, .sl .own (s1.1.map Wref03N.en.enc)), (6, .sl .view (a0.map ExprNode.en.enc)), (7, .lit (.int .i64 (a0.length : Int))), (8, .lit (.int .i64 s1.2))]) (fun s1 => []) h (by kernel_rfl) (by first | rfl | simp -implicitDefEqProofs only [go_sem, Nat.reduceAdd, Nat.reduceSub, Nat.reduceMul, Nat.reduceLT, Nat.reduceLeDiff, Nat.reduceEqDiff, Nat.reduceBEq, mkSl]) (by first | rfl | simp -implicitDefEqProofs only [go_sem, Nat.reduceAdd, Nat.reduceSub, Nat.reduceMul, Nat.reduceLT, Nat.reduceLeDiff, Nat.reduceEqDiff, Nat.reduceBEq]) ?_
  clear h
  intro s1 xx1 h hx2
  unfold wlaw06_nodes_l0_step at h
  by_cases hc3 : s1.2 < (a0.length : Int)
  · rw [if_pos hc3] at h
    obtain ⟨x2, h4, h⟩ := bind_some h
    obtain ⟨l3, h5, h⟩ := bind_some h
    have h6 := vappend_en Wref03N.en (P := Tryd.prog) (t := 32) (f := .own) h5 (by simp -implicitDefEqProofs only [go_sem, Nat.reduceAdd, Nat.reduceSub, Nat.reduceMul, Nat.reduceLT, Nat.reduceLeDiff, Nat.reduceEqDiff, Nat.reduceBEq, Option.map_some])
    simp -implicitDefEqProofs only [go_sem, Nat.reduceAdd, Nat.reduceSub, Nat.reduceMul, Nat.reduceLT, Nat.reduceLeDiff, Nat.reduceEqDiff, Nat.reduceBEq] at h6
    obtain rfl := Option.some.inj h
    simp -implicitDefEqProofs only [go_sem, Nat.reduceAdd, Nat.reduceSub, Nat.reduceMul, Nat.reduceLT, Nat.reduceLeDiff, Nat.reduceEqDiff, Nat.reduceBEq, hc3, h4, h6, mkSl]
    exact ⟨_, rfl, rfl⟩
  · rw [if_neg hc3] at h
    obtain rfl := Option.some.inj h
    obtain rfl := hx2 _ rfl
    simp -implicitDefEqProofs only [go_sem, Nat.reduceAdd, Nat.reduceSub, Nat.reduceMul, Nat.reduceLT, Nat.reduceLeDiff, Nat.reduceEqDiff, Nat.reduceBEq, hc3, mkSl]
theorem wlaw06_refs_ok {a0 : List ActAct} {r : (List Wref06A)} (h : wlaw06_refs a0 = some r) :
  Vc cfg 13 [.sl .view (a0.map ActAct.en.enc)] [] fun v _ => v = .sl .own (r.map Wref06A.en.enc) := by
  refine Vc_of (fn := Tryd.f13) rfl Tryd.func13 rfl Tryd.ntmps13 Tryd.results13 (by kernel_rfl) ?_
  conv => arg 3; whnf
  unfold wlaw06_refs at h
  simp -implicitDefEqProofs only [go_sem, Nat.reduceAdd, Nat.reduceSub, Nat.reduceMul, Nat.reduceLT, Nat.reduceLeDiff, Nat.reduceEqDiff, Nat.reduceBEq]
  refine wpLoop_run' (step := wlaw06_refs_l0_step a0) (fun s1 => mkSl 30 [(3, .sl .own (s1.1.map Wref06A.en.enc)), (6, .sl .view (a0.map ActAct.en.enc)), (7, .lit (.int .i64 (a0.length : Int))), (8, .lit (.int .i64 s1.2))]) (fun s1 => []) h (by kernel_rfl) (by first | rfl | simp -implicitDefEqProofs only [go_sem, Nat.reduceAdd, Nat.reduceSub, Nat.reduceMul, Nat.reduceLT, Nat.reduceLeDiff, Nat.reduceEqDiff, Nat.reduceBEq, mkSl]) (by first | rfl | simp -implicitDefEqProofs only [go_sem, Nat.reduceAdd, Nat.reduceSub, Nat.reduceMul, Nat.reduceLT, Nat.reduceLeDiff, Nat.reduceEqDiff, Nat.reduceBEq]) ?_
  clear h
  intro s1 xx1 h hx2
  unfold wlaw06_refs_l0_step at h
  by_cases hc3 : s1.2 < (a0.length : Int)
  · rw [if_pos hc3] at h
    obtain ⟨x2, h4, h⟩ := bind_some h
    simp -implicitDefEqProofs only [go_sem, Nat.reduceAdd, Nat.reduceSub, Nat.reduceMul, Nat.reduceLT, Nat.reduceLeDiff, Nat.reduceEqDiff, Nat.reduceBEq, hc3, h4, mkSl]
    obtain ⟨r3, h5, h⟩ := bind_some h
    refine Vc.mono (wlaw06_nodes_ok h5) ?_
    rintro _ _ rfl
    simp -implicitDefEqProofs only [go_sem, Nat.reduceAdd, Nat.reduceSub, Nat.reduceMul, Nat.reduceLT, Nat.reduceLeDiff, Nat.reduceEqDiff, Nat.reduceBEq, mkSl]
    obtain ⟨r4, h6, h⟩ := bind_some h
    refine Vc.mono (wlaw06_nodes_ok h6) ?_
    rintro _ _ rfl
    obtain ⟨l5, h7, h⟩ := bind_some h
    have h8 := vappend_en Wref06A.en (P := Tryd.prog) (t := 39) (f := .own) h7 (by simp -implicitDefEqProofs only [go_sem, Nat.reduceAdd, Nat.reduceSub, Nat.reduceMul, Nat.reduceLT, Nat.reduceLeDiff, Nat.reduceEqDiff, Nat.reduceBEq, Option.map_some])
    simp -implicitDefEqProofs only [go_sem, Nat.reduceAdd, Nat.reduceSub, Nat.reduceMul, Nat.reduceLT, Nat.reduceLeDiff, Nat.reduceEqDiff, Nat.reduceBEq] at h8
    obtain rfl := Option.some.inj h
    simp -implicitDefEqProofs only [go_sem, Nat.reduceAdd, Nat.reduceSub, Nat.reduceMul, Nat.reduceLT, Nat.reduceLeDiff, Nat.reduceEqDiff, Nat.reduceBEq, h8, mkSl]
    exact ⟨_, rfl, rfl⟩
  · rw [if_neg hc3] at h
    obtain rfl := Option.some.inj h
    obtain rfl := hx2 _ rfl
    simp -implicitDefEqProofs only [go_sem, Nat.reduceAdd, Nat.reduceSub, Nat.reduceMul, Nat.reduceLT, Nat.reduceLeDiff, Nat.reduceEqDiff, Nat.reduceBEq, hc3, mkSl]
theorem wlaw06_alike_ok {a0 : List Wref03N} {a1 : List Wref03N} {r : Bool} (h : wlaw06_alike a0 a1 = some r) :
  Vc cfg 26 [.sl .view (a0.map Wref03N.en.enc), .sl .view (a1.map Wref03N.en.enc)] [] fun v _ => v = .lit (.bool r) := by
  refine Vc_of (fn := Tryd.f26) rfl Tryd.func26 rfl Tryd.ntmps26 Tryd.results26 (by kernel_rfl) ?_
  conv => arg 3; whnf
  unfold wlaw06_alike at h
  by_cases hc1 : ((a0.length : Int) != (a1.length : Int)) = true
  · rw [if_pos hc1] at h
    obtain rfl := Option.some.inj h
    simp -implicitDefEqProofs only [go_sem, Nat.reduceAdd, Nat.reduceSub, Nat.reduceMul, Nat.reduceLT, Nat.reduceLeDiff, Nat.reduceEqDiff, Nat.reduceBEq, hc1]
  · rw [if_neg hc1] at h
    replace hc1 := (Bool.not_eq_true _).mp hc1
    simp -implicitDefEqProofs only [go_sem, Nat.reduceAdd, Nat.reduceSub, Nat.reduceMul, Nat.reduceLT, Nat.reduceLeDiff, Nat.reduceEqDiff, Nat.reduceBEq, hc1]
    refine wpLoop_run' (step := wlaw06_alike_l0_step a0 a1) (fun s2 => mkSl 26 [(0, .sl .view (a0.map Wref03N.en.enc)), (1, .sl .view (a1.map Wref03N.en.enc)), (12, .lit (.int .i64 (a0.length : Int))), (13, .lit (.int .i64 s2))]) (fun s2 => []) h (by kernel_rfl) (by first | rfl | simp -implicitDefEqProofs only [go_sem, Nat.reduceAdd, Nat.reduceSub, Nat.reduceMul, Nat.reduceLT, Nat.reduceLeDiff, Nat.reduceEqDiff, Nat.reduceBEq, mkSl]) (by first | rfl | simp -implicitDefEqProofs only [go_sem, Nat.reduceAdd, Nat.reduceSub, Nat.reduceMul, Nat.reduceLT, Nat.reduceLeDiff, Nat.reduceEqDiff, Nat.reduceBEq]) ?_
    clear h
    intro s2 xx2 h hx3
    unfold wlaw06_alike_l0_step at h
    by_cases hc4 : s2 < (a0.length : Int)
    · rw [if_pos hc4] at h
      obtain ⟨x3, h5, h⟩ := bind_some h
      obtain ⟨x4, h6, h⟩ := bind_some h
      by_cases hc7 : (!((x3.Op == x4.Op) && ((x3.V.Kind == x4.V.Kind) && ((x3.V.N == x4.V.N) && ((x3.V.S == x4.V.S) && ((x3.Name == x4.Name) && ((x3.L == x4.L) && (x3.R == x4.R)))))))) = true
      · rw [if_pos hc7] at h
        obtain rfl := Option.some.inj h
        obtain rfl := hx3 _ rfl
        simp -implicitDefEqProofs only [go_sem, Nat.reduceAdd, Nat.reduceSub, Nat.reduceMul, Nat.reduceLT, Nat.reduceLeDiff, Nat.reduceEqDiff, Nat.reduceBEq, hc4, h5, h6, hc7, mkSl]
      · rw [if_neg hc7] at h
        replace hc7 := (Bool.not_eq_true _).mp hc7
        obtain rfl := Option.some.inj h
        simp -implicitDefEqProofs only [go_sem, Nat.reduceAdd, Nat.reduceSub, Nat.reduceMul, Nat.reduceLT, Nat.reduceLeDiff, Nat.reduceEqDiff, Nat.reduceBEq, hc4, h5, h6, hc7, mkSl]
        exact ⟨_, rfl, rfl⟩
    · rw [if_neg hc4] at h
      obtain rfl := Option.some.inj h
      obtain rfl := hx3 _ rfl
      simp -implicitDefEqProofs only [go_sem, Nat.reduceAdd, Nat.reduceSub, Nat.reduceMul, Nat.reduceLT, Nat.reduceLeDiff, Nat.reduceEqDiff, Nat.reduceBEq, hc4, mkSl]
theorem wlaw06_same_ok {a0 : List ActAct} {a1 : List Wref06A} {r : Bool} (h : wlaw06_same a0 a1 = some r) :
  Vc cfg 12 [.sl .view (a0.map ActAct.en.enc), .sl .view (a1.map Wref06A.en.enc)] [] fun v _ => v = .lit (.bool r) := by
  refine Vc_of (fn := Tryd.f12) rfl Tryd.func12 rfl Tryd.ntmps12 Tryd.results12 (by kernel_rfl) ?_
  conv => arg 3; whnf
  unfold wlaw06_same at h
  by_cases hc1 : ((a0.length : Int) != (a1.length : Int)) = true
  · rw [if_pos hc1] at h
    obtain rfl := Option.some.inj h
    simp -implicitDefEqProofs only [go_sem, Nat.reduceAdd, Nat.reduceSub, Nat.reduceMul, Nat.reduceLT, Nat.reduceLeDiff, Nat.reduceEqDiff, Nat.reduceBEq, hc1]
  · rw [if_neg hc1] at h
    replace hc1 := (Bool.not_eq_true _).mp hc1
    simp -implicitDefEqProofs only [go_sem, Nat.reduceAdd, Nat.reduceSub, Nat.reduceMul, Nat.reduceLT, Nat.reduceLeDiff, Nat.reduceEqDiff, Nat.reduceBEq, hc1]
    obtain ⟨r2, h2, h⟩ := bind_some h
    refine Vc.mono (wlaw06_refs_ok h2) ?_
    rintro _ _ rfl
    simp -implicitDefEqProofs only [go_sem, Nat.reduceAdd, Nat.reduceSub, Nat.reduceMul, Nat.reduceLT, Nat.reduceLeDiff, Nat.reduceEqDiff, Nat.reduceBEq]
    refine wpLoop_run' (step := wlaw06_same_l0_step a1 r2) (fun s3 => mkSl 71 [(1, .sl .view (a1.map Wref06A.en.enc)), (13, .sl .own (r2.map Wref06A.en.enc)), (14, .lit (.int .i64 (r2.length : Int))), (15, .lit (.int .i64 s3))]) (fun s3 => []) h (by kernel_rfl) (by first | rfl | simp -implicitDefEqProofs only [go_sem, Nat.reduceAdd, Nat.reduceSub, Nat.reduceMul, Nat.reduceLT, Nat.reduceLeDiff, Nat.reduceEqDiff, Nat.reduceBEq, mkSl]) (by first | rfl | simp -implicitDefEqProofs only [go_sem, Nat.reduceAdd, Nat.reduceSub, Nat.reduceMul, Nat.reduceLT, Nat.reduceLeDiff, Nat.reduceEqDiff, Nat.reduceBEq]) ?_
    clear h
    intro s3 xx3 h hx4
    unfold wlaw06_same_l0_step at h
    by_cases hc5 : s3 < (r2.length : Int)
    · rw [if_pos hc5] at h
      obtain ⟨x4, h6, h⟩ := bind_some h
      obtain ⟨x5, h7, h⟩ := bind_some h
      by_cases hc8 : (x4.Kind != x5.Kind) = true
      · rw [if_pos hc8] at h
        obtain rfl := Option.some.inj h
        obtain rfl := hx4 _ rfl
        simp -implicitDefEqProofs only [go_sem, Nat.reduceAdd, Nat.reduceSub, Nat.reduceMul, Nat.reduceLT, Nat.reduceLeDiff, Nat.reduceEqDiff, Nat.reduceBEq, hc5, h6, h7, hc8, mkSl]
      · rw [if_neg hc8] at h
        replace hc8 := (Bool.not_eq_true _).mp hc8
        by_cases hc9 : (x4.Name == x5.Name) = true
        · rw [if_pos hc9] at h
          by_cases hc10 : (x4.N != x5.N) = true
          · rw [if_pos hc10] at h
            obtain rfl := Option.some.inj h
            obtain rfl := hx4 _ rfl
            simp -implicitDefEqProofs only [go_sem, Nat.reduceAdd, Nat.reduceSub, Nat.reduceMul, Nat.reduceLT, Nat.reduceLeDiff, Nat.reduceEqDiff, Nat.reduceBEq, hc5, h6, h7, hc8, hc9, hc10, mkSl]
          · rw [if_neg hc10] at h
            replace hc10 := (Bool.not_eq_true _).mp hc10
            simp -implicitDefEqProofs only [go_sem, Nat.reduceAdd, Nat.reduceSub, Nat.reduceMul, Nat.reduceLT, Nat.reduceLeDiff, Nat.reduceEqDiff, Nat.reduceBEq, hc5, h6, h7, hc8, hc9, hc10, mkSl]
            obtain ⟨r6, h11, h⟩ := bind_some h
            refine Vc.mono (wlaw06_alike_ok h11) ?_
            rintro _ _ rfl
            by_cases hc12 : r6 = true
            · rw [if_pos hc12] at h
              simp -implicitDefEqProofs only [go_sem, Nat.reduceAdd, Nat.reduceSub, Nat.reduceMul, Nat.reduceLT, Nat.reduceLeDiff, Nat.reduceEqDiff, Nat.reduceBEq, hc10, hc12, h7, mkSl]
              obtain ⟨r7, h13, h⟩ := bind_some h
              refine Vc.mono (wlaw06_alike_ok h13) ?_
              rintro _ _ rfl
              by_cases hc14 : r7 = true
              · rw [if_pos hc14] at h
                obtain rfl := Option.some.inj h
                simp -implicitDefEqProofs only [go_sem, Nat.reduceAdd, Nat.reduceSub, Nat.reduceMul, Nat.reduceLT, Nat.reduceLeDiff, Nat.reduceEqDiff, Nat.reduceBEq, hc12, hc14, mkSl]
                exact ⟨_, rfl, rfl⟩
              · rw [if_neg hc14] at h
                replace hc14 := (Bool.not_eq_true _).mp hc14
                obtain rfl := Option.some.inj h
                obtain rfl := hx4 _ rfl
                simp -implicitDefEqProofs only [go_sem, Nat.reduceAdd, Nat.reduceSub, Nat.reduceMul, Nat.reduceLT, Nat.reduceLeDiff, Nat.reduceEqDiff, Nat.reduceBEq, hc12, hc14, mkSl]
            · rw [if_neg hc12] at h
              replace hc12 := (Bool.not_eq_true _).mp hc12
              obtain rfl := Option.some.inj h
              obtain rfl := hx4 _ rfl
              simp -implicitDefEqProofs only [go_sem, Nat.reduceAdd, Nat.reduceSub, Nat.reduceMul, Nat.reduceLT, Nat.reduceLeDiff, Nat.reduceEqDiff, Nat.reduceBEq, hc10, hc12, mkSl]
        · rw [if_neg hc9] at h
          replace hc9 := (Bool.not_eq_true _).mp hc9
          obtain rfl := Option.some.inj h
          obtain rfl := hx4 _ rfl
          simp -implicitDefEqProofs only [go_sem, Nat.reduceAdd, Nat.reduceSub, Nat.reduceMul, Nat.reduceLT, Nat.reduceLeDiff, Nat.reduceEqDiff, Nat.reduceBEq, hc5, h6, h7, hc8, hc9, mkSl]
    · rw [if_neg hc5] at h
      obtain rfl := Option.some.inj h
      obtain rfl := hx4 _ rfl
      simp -implicitDefEqProofs only [go_sem, Nat.reduceAdd, Nat.reduceSub, Nat.reduceMul, Nat.reduceLT, Nat.reduceLeDiff, Nat.reduceEqDiff, Nat.reduceBEq, hc5, mkSl]
theorem wlaw06_ActRows_ok {a0 : List UInt8} {a1 : List UInt8} {r : Bool} (h : wlaw06_ActRows a0 a1 = some r) :
  Vc cfg 4 [.lit (.string (bs a0)), .lit (.string (bs a1))] [] fun v _ => v = .lit (.bool r) := by
  refine Vc_of (fn := Tryd.f4) rfl Tryd.func4 rfl Tryd.ntmps4 Tryd.results4 (by kernel_rfl) ?_
  conv => arg 3; whnf
  unfold wlaw06_ActRows at h
  simp -implicitDefEqProofs only [go_sem, Nat.reduceAdd, Nat.reduceSub, Nat.reduceMul, Nat.reduceLT, Nat.reduceLeDiff, Nat.reduceEqDiff, Nat.reduceBEq]
  obtain ⟨r2, h1, h⟩ := bind_some h
  refine Vc.mono (wlaw06_anchor_ok h1) ?_
  rintro _ _ rfl
  by_cases hc2 : r2 = true
  · rw [if_pos hc2] at h
    by_cases hc3 : 400 < (a0.length : Int)
    · rw [if_pos hc3] at h
      obtain rfl := Option.some.inj h
      simp -implicitDefEqProofs only [go_sem, Nat.reduceAdd, Nat.reduceSub, Nat.reduceMul, Nat.reduceLT, Nat.reduceLeDiff, Nat.reduceEqDiff, Nat.reduceBEq, hc2, hc3]
    · rw [if_neg hc3] at h
      by_cases hc4 : 400 < (a1.length : Int)
      · rw [if_pos hc4] at h
        obtain rfl := Option.some.inj h
        simp -implicitDefEqProofs only [go_sem, Nat.reduceAdd, Nat.reduceSub, Nat.reduceMul, Nat.reduceLT, Nat.reduceLeDiff, Nat.reduceEqDiff, Nat.reduceBEq, hc2, hc3, hc4]
      · rw [if_neg hc4] at h
        simp -implicitDefEqProofs only [go_sem, Nat.reduceAdd, Nat.reduceSub, Nat.reduceMul, Nat.reduceLT, Nat.reduceLeDiff, Nat.reduceEqDiff, Nat.reduceBEq, hc2, hc3, hc4]
        obtain ⟨r3, h5, h⟩ := bind_some h
        refine Vc.mono (tok_Lex_ok h5) ?_
        rintro _ _ rfl
        simp -implicitDefEqProofs only [go_sem, Nat.reduceAdd, Nat.reduceSub, Nat.reduceMul, Nat.reduceLT, Nat.reduceLeDiff, Nat.reduceEqDiff, Nat.reduceBEq]
        obtain ⟨r4, h6, h⟩ := bind_some h
        refine Vc.mono (tok_Lex_ok h6) ?_
        rintro _ _ rfl
        obtain ⟨s5, h7, h⟩ := bind_some h
        obtain ⟨s6, h8, h⟩ := bind_some h
        simp -implicitDefEqProofs only [go_sem, Nat.reduceAdd, Nat.reduceSub, Nat.reduceMul, Nat.reduceLT, Nat.reduceLeDiff, Nat.reduceEqDiff, Nat.reduceBEq, h7, h8]
        obtain ⟨r7, h9, h⟩ := bind_some h
        refine Vc.mono (tok_Lex_ok h9) ?_
        rintro _ _ rfl
        by_cases hc10 : (r3.2.1 != 0) = true
        · rw [if_pos hc10] at h
          obtain rfl := Option.some.inj h
          simp -implicitDefEqProofs only [go_sem, Nat.reduceAdd, Nat.reduceSub, Nat.reduceMul, Nat.reduceLT, Nat.reduceLeDiff, Nat.reduceEqDiff, Nat.reduceBEq, hc10]
        · rw [if_neg hc10] at h
          replace hc10 := (Bool.not_eq_true _).mp hc10
          by_cases hc11 : (r4.2.1 != 0) = true
          · rw [if_pos hc11] at h
            obtain rfl := Option.some.inj h
            simp -implicitDefEqProofs only [go_sem, Nat.reduceAdd, Nat.reduceSub, Nat.reduceMul, Nat.reduceLT, Nat.reduceLeDiff, Nat.reduceEqDiff, Nat.reduceBEq, hc10, hc11]
          · rw [if_neg hc11] at h
            replace hc11 := (Bool.not_eq_true _).mp hc11
            by_cases hc12 : (r7.2.1 != 0) = true
            · rw [if_pos hc12] at h
              obtain rfl := Option.some.inj h
              simp -implicitDefEqProofs only [go_sem, Nat.reduceAdd, Nat.reduceSub, Nat.reduceMul, Nat.reduceLT, Nat.reduceLeDiff, Nat.reduceEqDiff, Nat.reduceBEq, hc10, hc11, hc12]
            · rw [if_neg hc12] at h
              replace hc12 := (Bool.not_eq_true _).mp hc12
              simp -implicitDefEqProofs only [go_sem, Nat.reduceAdd, Nat.reduceSub, Nat.reduceMul, Nat.reduceLT, Nat.reduceLeDiff, Nat.reduceEqDiff, Nat.reduceBEq, hc10, hc11, hc12]
              obtain ⟨r8, h13, h⟩ := bind_some h
              refine Vc.mono (act_Take_ok h13) ?_
              rintro _ _ rfl
              simp -implicitDefEqProofs only [go_sem, Nat.reduceAdd, Nat.reduceSub, Nat.reduceMul, Nat.reduceLT, Nat.reduceLeDiff, Nat.reduceEqDiff, Nat.reduceBEq]
              obtain ⟨r9, h14, h⟩ := bind_some h
              refine Vc.mono (act_Take_ok h14) ?_
              rintro _ _ rfl
              simp -implicitDefEqProofs only [go_sem, Nat.reduceAdd, Nat.reduceSub, Nat.reduceMul, Nat.reduceLT, Nat.reduceLeDiff, Nat.reduceEqDiff, Nat.reduceBEq]
              obtain ⟨r10, h15, h⟩ := bind_some h
              refine Vc.mono (act_Take_ok h15) ?_
              rintro _ _ rfl
              by_cases hc16 : (r8.2.2 != 0) = true
              · rw [if_pos hc16] at h
                obtain rfl := Option.some.inj h
                simp -implicitDefEqProofs only [go_sem, Nat.reduceAdd, Nat.reduceSub, Nat.reduceMul, Nat.reduceLT, Nat.reduceLeDiff, Nat.reduceEqDiff, Nat.reduceBEq, hc16]
              · rw [if_neg hc16] at h
                replace hc16 := (Bool.not_eq_true _).mp hc16
                by_cases hc17 : (r9.2.2 != 0) = true
                · rw [if_pos hc17] at h
                  obtain rfl := Option.some.inj h
                  simp -implicitDefEqProofs only [go_sem, Nat.reduceAdd, Nat.reduceSub, Nat.reduceMul, Nat.reduceLT, Nat.reduceLeDiff, Nat.reduceEqDiff, Nat.reduceBEq, hc16, hc17]
                · rw [if_neg hc17] at h
                  replace hc17 := (Bool.not_eq_true _).mp hc17
                  by_cases hc18 : (r8.2.1 != (r3.1.length : Int)) = true
                  · rw [if_pos hc18] at h
                    obtain rfl := Option.some.inj h
                    simp -implicitDefEqProofs only [go_sem, Nat.reduceAdd, Nat.reduceSub, Nat.reduceMul, Nat.reduceLT, Nat.reduceLeDiff, Nat.reduceEqDiff, Nat.reduceBEq, hc16, hc17, hc18]
                  · rw [if_neg hc18] at h
                    replace hc18 := (Bool.not_eq_true _).mp hc18
                    by_cases hc19 : 8 < (IntKind.i64.wrap ((r8.1.length : Int) + (r9.1.length : Int)))
                    · rw [if_pos hc19] at h
                      by_cases hc20 : (r10.2.2 == 13) = true
                      · rw [if_pos hc20] at h
                        obtain rfl := Option.some.inj h
                        simp -implicitDefEqProofs only [go_sem, Nat.reduceAdd, Nat.reduceSub, Nat.reduceMul, Nat.reduceLT, Nat.reduceLeDiff, Nat.reduceEqDiff, Nat.reduceBEq, hc16, hc17, hc18, hc19, hc20]
                      · rw [if_neg hc20] at h
                        replace hc20 := (Bool.not_eq_true _).mp hc20
                        obtain rfl := Option.some.inj h
                        simp -implicitDefEqProofs only [go_sem, Nat.reduceAdd, Nat.reduceSub, Nat.reduceMul, Nat.reduceLT, Nat.reduceLeDiff, Nat.reduceEqDiff, Nat.reduceBEq, hc16, hc17, hc18, hc19, hc20]
                    · rw [if_neg hc19] at h
                      by_cases hc21 : (r10.2.2 == 0) = true
                      · rw [if_pos hc21] at h
                        by_cases hc22 : (r10.2.1 == (IntKind.i64.wrap ((IntKind.i64.wrap (r8.2.1 + 1)) + r9.2.1))) = true
                        · rw [if_pos hc22] at h
                          simp -implicitDefEqProofs only [go_sem, Nat.reduceAdd, Nat.reduceSub, Nat.reduceMul, Nat.reduceLT, Nat.reduceLeDiff, Nat.reduceEqDiff, Nat.reduceBEq, hc16, hc17, hc18, hc19, hc21, hc22]
                          obtain ⟨r11, h23, h⟩ := bind_some h
                          refine Vc.mono (wlaw06_refs_ok h23) ?_
                          rintro _ _ rfl
                          simp -implicitDefEqProofs only [go_sem, Nat.reduceAdd, Nat.reduceSub, Nat.reduceMul, Nat.reduceLT, Nat.reduceLeDiff, Nat.reduceEqDiff, Nat.reduceBEq, hc22]
                          obtain ⟨r12, h24, h⟩ := bind_some h
                          refine Vc.mono (wlaw06_refs_ok h24) ?_
                          rintro _ _ rfl
                          obtain ⟨l13, h25, h⟩ := bind_some h
                          have h26 := vappend_en Wref06A.en (P := Tryd.prog) (t := 39) (f := .own) h25 (by simp -implicitDefEqProofs only [go_sem, Nat.reduceAdd, Nat.reduceSub, Nat.reduceMul, Nat.reduceLT, Nat.reduceLeDiff, Nat.reduceEqDiff, Nat.reduceBEq, Option.map_some])
                          simp -implicitDefEqProofs only [go_sem, Nat.reduceAdd, Nat.reduceSub, Nat.reduceMul, Nat.reduceLT, Nat.reduceLeDiff, Nat.reduceEqDiff, Nat.reduceBEq, hc22, h26]
                          obtain ⟨r14, h27, h⟩ := bind_some h
                          refine Vc.mono (wlaw06_same_ok h27) ?_
                          rintro _ _ rfl
                          obtain rfl := Option.some.inj h
                          simp -implicitDefEqProofs only [go_sem, Nat.reduceAdd, Nat.reduceSub, Nat.reduceMul, Nat.reduceLT, Nat.reduceLeDiff, Nat.reduceEqDiff, Nat.reduceBEq, hc22]
                        · rw [if_neg hc22] at h
                          replace hc22 := (Bool.not_eq_true _).mp hc22
                          obtain rfl := Option.some.inj h
                          simp -implicitDefEqProofs only [go_sem, Nat.reduceAdd, Nat.reduceSub, Nat.reduceMul, Nat.reduceLT, Nat.reduceLeDiff, Nat.reduceEqDiff, Nat.reduceBEq, hc16, hc17, hc18, hc19, hc21, hc22]
                      · rw [if_neg hc21] at h
                        replace hc21 := (Bool.not_eq_true _).mp hc21
                        obtain rfl := Option.some.inj h
                        simp -implicitDefEqProofs only [go_sem, Nat.reduceAdd, Nat.reduceSub, Nat.reduceMul, Nat.reduceLT, Nat.reduceLeDiff, Nat.reduceEqDiff, Nat.reduceBEq, hc16, hc17, hc18, hc19, hc21]
  · rw [if_neg hc2] at h
    replace hc2 := (Bool.not_eq_true _).mp hc2
    obtain rfl := Option.some.inj h
    simp -implicitDefEqProofs only [go_sem, Nat.reduceAdd, Nat.reduceSub, Nat.reduceMul, Nat.reduceLT, Nat.reduceLeDiff, Nat.reduceEqDiff, Nat.reduceBEq, hc2]
end Go.Proofs.YtilmjbljkkbakaaDoor
