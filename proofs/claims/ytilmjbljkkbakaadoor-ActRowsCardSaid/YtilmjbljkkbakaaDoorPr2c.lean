/-
  A part of the proof: lemmas.
-/
import Derived.Test.YtilmjbljkkbakaaDoorFactsc
import Derived.Test.YtilmjbljkkbakaaDoorFunsc
import Derived.Test.YtilmjbljkkbakaaDoorPr1c
set_option linter.unusedSimpArgs false
set_option linter.unusedVariables false
set_option linter.unusedSectionVars false
set_option linter.unnecessarySimpa false
set_option linter.deprecated false
/-! The functions' proofs. -/
namespace Go.Proofs.YtilmjbljkkbakaaDoor
open Go.Wv
set_option linter.unusedSimpArgs false
set_option linter.unusedVariables false
set_option maxRecDepth 10000
set_option maxHeartbeats 20000000
theorem expr_one_ok {a0 : Int} {r : Bool} (h : expr_one a0 = some r) :
  Vc cfg 57 [.lit (.int .i64 a0)] [] fun v _ => v = .lit (.bool r) := by
  refine Vc_of (fn := Tryd.f57) rfl Tryd.func57 rfl Tryd.ntmps57 Tryd.results57 (by kernel_rfl) ?_
  conv => arg 3; whnf
  unfold expr_one at h
  by_cases hc1 : (a0 == 1) = true
  · rw [if_pos hc1] at h
    obtain rfl := Option.some.inj h
    simp -implicitDefEqProofs only [go_sem, Nat.reduceAdd, Nat.reduceSub, Nat.reduceMul, Nat.reduceLT, Nat.reduceLeDiff, Nat.reduceEqDiff, Nat.reduceBEq, hc1]
  · rw [if_neg hc1] at h
    replace hc1 := (Bool.not_eq_true _).mp hc1
    obtain rfl := Option.some.inj h
    simp -implicitDefEqProofs only [go_sem, Nat.reduceAdd, Nat.reduceSub, Nat.reduceMul, Nat.reduceLT, Nat.reduceLeDiff, Nat.reduceEqDiff, Nat.reduceBEq, hc1]
theorem expr_two_ok {a0 : Int} {r : Bool} (h : expr_two a0 = some r) :
  Vc cfg 58 [.lit (.int .i64 a0)] [] fun v _ => v = .lit (.bool r) := by
  refine Vc_of (fn := Tryd.f58) rfl Tryd.func58 rfl Tryd.ntmps58 Tryd.results58 (by kernel_rfl) ?_
  conv => arg 3; whnf
  unfold expr_two at h
  by_cases hc1 : 3 ≤ a0
  · rw [if_pos hc1] at h
    obtain rfl := Option.some.inj h
    simp -implicitDefEqProofs only [go_sem, Nat.reduceAdd, Nat.reduceSub, Nat.reduceMul, Nat.reduceLT, Nat.reduceLeDiff, Nat.reduceEqDiff, Nat.reduceBEq, hc1]
  · rw [if_neg hc1] at h
    obtain rfl := Option.some.inj h
    simp -implicitDefEqProofs only [go_sem, Nat.reduceAdd, Nat.reduceSub, Nat.reduceMul, Nat.reduceLT, Nat.reduceLeDiff, Nat.reduceEqDiff, Nat.reduceBEq, hc1]
theorem expr_Expr_depths_ok {a0 : List ExprNode} {r : (List Int)} (h : expr_Expr_depths a0 = some r) :
  Vc cfg 41 [.sl .view (a0.map ExprNode.en.enc)] [] fun v _ => v = .sl .view (r.map (En.int .i64).enc) := by
  refine Vc_of (fn := Tryd.f41) rfl Tryd.func41 rfl Tryd.ntmps41 Tryd.results41 (by kernel_rfl) ?_
  conv => arg 3; whnf
  unfold expr_Expr_depths at h
  obtain ⟨z1, h1, h⟩ := bind_some h
  obtain ⟨⟨h1a, h1b, h1c⟩, h1e⟩ := mkA_some.1 h1
  have h1d := congrArg (List.map (En.int .i64).enc) h1e
  rw [List.map_replicate] at h1d
  try simp -implicitDefEqProofs only [go_sem, Nat.reduceAdd, Nat.reduceSub, Nat.reduceMul, Nat.reduceLT, Nat.reduceLeDiff, Nat.reduceEqDiff, Nat.reduceBEq, Int.toNat_natCast] at h1a h1b h1c h1d
  try replace h1d := h1d.symm
  simp -implicitDefEqProofs only [go_sem, Nat.reduceAdd, Nat.reduceSub, Nat.reduceMul, Nat.reduceLT, Nat.reduceLeDiff, Nat.reduceEqDiff, Nat.reduceBEq, h1a, h1b, h1c, h1d, Int.toNat_natCast, Nat.le_refl]
  refine wpLoop_run' (step := expr_Expr_depths_l0_step a0) (fun s2 => mkSl 55 [(3, .mref 0 false 1 0 a0.length), (9, .sl .view (a0.map ExprNode.en.enc)), (10, .lit (.int .i64 (a0.length : Int))), (11, .lit (.int .i64 s2.1))]) (fun s2 => [.var (s2.2.map (En.int .i64).enc)]) h (by kernel_rfl) (by first | rfl | simp -implicitDefEqProofs only [go_sem, Nat.reduceAdd, Nat.reduceSub, Nat.reduceMul, Nat.reduceLT, Nat.reduceLeDiff, Nat.reduceEqDiff, Nat.reduceBEq, mkSl]) (by first | rfl | simp -implicitDefEqProofs only [go_sem, Nat.reduceAdd, Nat.reduceSub, Nat.reduceMul, Nat.reduceLT, Nat.reduceLeDiff, Nat.reduceEqDiff, Nat.reduceBEq]) ?_
  clear h
  intro s2 xx2 h hx3
  unfold expr_Expr_depths_l0_step at h
  by_cases hc4 : s2.1 < (a0.length : Int)
  · rw [if_pos hc4] at h
    obtain ⟨x3, h5, h⟩ := bind_some h
    obtain ⟨j4, h6, h⟩ := bind_some h
    have h7 := vindexAddr_mref (P := Tryd.prog) (t := 82) (k := .i64) (id := 0) (ag := false) h6 (by simp -implicitDefEqProofs only [go_sem, Nat.reduceAdd, Nat.reduceSub, Nat.reduceMul, Nat.reduceLT, Nat.reduceLeDiff, Nat.reduceEqDiff, Nat.reduceBEq, Option.map_some])
    try simp -implicitDefEqProofs only [go_sem, Nat.reduceAdd, Nat.reduceSub, Nat.reduceMul, Nat.reduceLT, Nat.reduceLeDiff, Nat.reduceEqDiff, Nat.reduceBEq] at h7
    obtain ⟨w5, h8, h⟩ := bind_some h
    have h9 := splice_en (En.int .i64) h8
    simp -implicitDefEqProofs only [go_sem, Nat.reduceAdd, Nat.reduceSub, Nat.reduceMul, Nat.reduceLT, Nat.reduceLeDiff, Nat.reduceEqDiff, Nat.reduceBEq] at h9
    have h8l : j4 + 1 ≤ s2.2.length := (setJ_some.1 h8).1
    simp -implicitDefEqProofs only [go_sem, Nat.reduceAdd, Nat.reduceSub, Nat.reduceMul, Nat.reduceLT, Nat.reduceLeDiff, Nat.reduceEqDiff, Nat.reduceBEq, hc4, h5, h7, h9, h8l, mkSl]
    obtain ⟨r6, h10, h⟩ := bind_some h
    refine Vc.mono (expr_one_ok h10) ?_
    rintro _ _ rfl
    by_cases hc11 : r6 = true
    · rw [if_pos hc11] at h
      obtain ⟨j7, h12, h⟩ := bind_some h
      have h13 := vindexAddr_mref (P := Tryd.prog) (t := 82) (k := .i64) (id := 0) (ag := false) h12 (by simp -implicitDefEqProofs only [go_sem, Nat.reduceAdd, Nat.reduceSub, Nat.reduceMul, Nat.reduceLT, Nat.reduceLeDiff, Nat.reduceEqDiff, Nat.reduceBEq, Option.map_some])
      try simp -implicitDefEqProofs only [go_sem, Nat.reduceAdd, Nat.reduceSub, Nat.reduceMul, Nat.reduceLT, Nat.reduceLeDiff, Nat.reduceEqDiff, Nat.reduceBEq] at h13
      obtain ⟨x8, h14, h⟩ := bind_some h
      have h14l := lt_of_get h14
      try simp only [List.length_cons, List.length_nil, Nat.reduceAdd] at h14l
      obtain ⟨w9, h15, h⟩ := bind_some h
      have h16 := splice_en (En.int .i64) h15
      simp -implicitDefEqProofs only [go_sem, Nat.reduceAdd, Nat.reduceSub, Nat.reduceMul, Nat.reduceLT, Nat.reduceLeDiff, Nat.reduceEqDiff, Nat.reduceBEq] at h16
      have h15l : j4 + 1 ≤ w5.length := (setJ_some.1 h15).1
      simp -implicitDefEqProofs only [go_sem, Nat.reduceAdd, Nat.reduceSub, Nat.reduceMul, Nat.reduceLT, Nat.reduceLeDiff, Nat.reduceEqDiff, Nat.reduceBEq, hc11, h13, h14, h14l, h7, h16, h15l, mkSl]
      obtain ⟨r10, h17, h⟩ := bind_some h
      refine Vc.mono (expr_two_ok h17) ?_
      rintro _ _ rfl
      by_cases hc18 : r10 = true
      · rw [if_pos hc18] at h
        obtain ⟨x11, h19, h⟩ := bind_some h
        have h19l := lt_of_get h19
        try simp only [List.length_cons, List.length_nil, Nat.reduceAdd] at h19l
        obtain ⟨j12, h20, h⟩ := bind_some h
        have h21 := vindexAddr_mref (P := Tryd.prog) (t := 82) (k := .i64) (id := 0) (ag := false) h20 (by simp -implicitDefEqProofs only [go_sem, Nat.reduceAdd, Nat.reduceSub, Nat.reduceMul, Nat.reduceLT, Nat.reduceLeDiff, Nat.reduceEqDiff, Nat.reduceBEq, Option.map_some])
        try simp -implicitDefEqProofs only [go_sem, Nat.reduceAdd, Nat.reduceSub, Nat.reduceMul, Nat.reduceLT, Nat.reduceLeDiff, Nat.reduceEqDiff, Nat.reduceBEq] at h21
        obtain ⟨x13, h22, h⟩ := bind_some h
        have h22l := lt_of_get h22
        try simp only [List.length_cons, List.length_nil, Nat.reduceAdd] at h22l
        obtain ⟨w14, h23, h⟩ := bind_some h
        have h24 := splice_en (En.int .i64) h23
        simp -implicitDefEqProofs only [go_sem, Nat.reduceAdd, Nat.reduceSub, Nat.reduceMul, Nat.reduceLT, Nat.reduceLeDiff, Nat.reduceEqDiff, Nat.reduceBEq] at h24
        have h23l : j4 + 1 ≤ w9.length := (setJ_some.1 h23).1
        obtain rfl := Option.some.inj h
        simp -implicitDefEqProofs only [go_sem, Nat.reduceAdd, Nat.reduceSub, Nat.reduceMul, Nat.reduceLT, Nat.reduceLeDiff, Nat.reduceEqDiff, Nat.reduceBEq, hc18, h7, h19, h19l, h21, h22, h22l, h24, h23l, mkSl]
        exact ⟨_, rfl, rfl⟩
      · rw [if_neg hc18] at h
        replace hc18 := (Bool.not_eq_true _).mp hc18
        obtain rfl := Option.some.inj h
        simp -implicitDefEqProofs only [go_sem, Nat.reduceAdd, Nat.reduceSub, Nat.reduceMul, Nat.reduceLT, Nat.reduceLeDiff, Nat.reduceEqDiff, Nat.reduceBEq, hc18, mkSl]
        exact ⟨_, rfl, rfl⟩
    · rw [if_neg hc11] at h
      replace hc11 := (Bool.not_eq_true _).mp hc11
      simp -implicitDefEqProofs only [go_sem, Nat.reduceAdd, Nat.reduceSub, Nat.reduceMul, Nat.reduceLT, Nat.reduceLeDiff, Nat.reduceEqDiff, Nat.reduceBEq, hc11, mkSl]
      obtain ⟨r15, h25, h⟩ := bind_some h
      refine Vc.mono (expr_two_ok h25) ?_
      rintro _ _ rfl
      by_cases hc26 : r15 = true
      · rw [if_pos hc26] at h
        obtain ⟨j16, h27, h⟩ := bind_some h
        have h28 := vindexAddr_mref (P := Tryd.prog) (t := 82) (k := .i64) (id := 0) (ag := false) h27 (by simp -implicitDefEqProofs only [go_sem, Nat.reduceAdd, Nat.reduceSub, Nat.reduceMul, Nat.reduceLT, Nat.reduceLeDiff, Nat.reduceEqDiff, Nat.reduceBEq, Option.map_some])
        try simp -implicitDefEqProofs only [go_sem, Nat.reduceAdd, Nat.reduceSub, Nat.reduceMul, Nat.reduceLT, Nat.reduceLeDiff, Nat.reduceEqDiff, Nat.reduceBEq] at h28
        obtain ⟨x17, h29, h⟩ := bind_some h
        have h29l := lt_of_get h29
        try simp only [List.length_cons, List.length_nil, Nat.reduceAdd] at h29l
        obtain ⟨w18, h30, h⟩ := bind_some h
        have h31 := splice_en (En.int .i64) h30
        simp -implicitDefEqProofs only [go_sem, Nat.reduceAdd, Nat.reduceSub, Nat.reduceMul, Nat.reduceLT, Nat.reduceLeDiff, Nat.reduceEqDiff, Nat.reduceBEq] at h31
        have h30l : j4 + 1 ≤ w5.length := (setJ_some.1 h30).1
        simp -implicitDefEqProofs only [go_sem, Nat.reduceAdd, Nat.reduceSub, Nat.reduceMul, Nat.reduceLT, Nat.reduceLeDiff, Nat.reduceEqDiff, Nat.reduceBEq, hc11, hc26, h28, h29, h29l, h7, h31, h30l, mkSl]
        obtain ⟨r19, h32, h⟩ := bind_some h
        refine Vc.mono (expr_two_ok h32) ?_
        rintro _ _ rfl
        by_cases hc33 : r19 = true
        · rw [if_pos hc33] at h
          obtain ⟨x20, h34, h⟩ := bind_some h
          have h34l := lt_of_get h34
          try simp only [List.length_cons, List.length_nil, Nat.reduceAdd] at h34l
          obtain ⟨j21, h35, h⟩ := bind_some h
          have h36 := vindexAddr_mref (P := Tryd.prog) (t := 82) (k := .i64) (id := 0) (ag := false) h35 (by simp -implicitDefEqProofs only [go_sem, Nat.reduceAdd, Nat.reduceSub, Nat.reduceMul, Nat.reduceLT, Nat.reduceLeDiff, Nat.reduceEqDiff, Nat.reduceBEq, Option.map_some])
          try simp -implicitDefEqProofs only [go_sem, Nat.reduceAdd, Nat.reduceSub, Nat.reduceMul, Nat.reduceLT, Nat.reduceLeDiff, Nat.reduceEqDiff, Nat.reduceBEq] at h36
          obtain ⟨x22, h37, h⟩ := bind_some h
          have h37l := lt_of_get h37
          try simp only [List.length_cons, List.length_nil, Nat.reduceAdd] at h37l
          obtain ⟨w23, h38, h⟩ := bind_some h
          have h39 := splice_en (En.int .i64) h38
          simp -implicitDefEqProofs only [go_sem, Nat.reduceAdd, Nat.reduceSub, Nat.reduceMul, Nat.reduceLT, Nat.reduceLeDiff, Nat.reduceEqDiff, Nat.reduceBEq] at h39
          have h38l : j4 + 1 ≤ w18.length := (setJ_some.1 h38).1
          obtain rfl := Option.some.inj h
          simp -implicitDefEqProofs only [go_sem, Nat.reduceAdd, Nat.reduceSub, Nat.reduceMul, Nat.reduceLT, Nat.reduceLeDiff, Nat.reduceEqDiff, Nat.reduceBEq, hc33, h7, h34, h34l, h36, h37, h37l, h39, h38l, mkSl]
          exact ⟨_, rfl, rfl⟩
        · rw [if_neg hc33] at h
          replace hc33 := (Bool.not_eq_true _).mp hc33
          obtain rfl := Option.some.inj h
          simp -implicitDefEqProofs only [go_sem, Nat.reduceAdd, Nat.reduceSub, Nat.reduceMul, Nat.reduceLT, Nat.reduceLeDiff, Nat.reduceEqDiff, Nat.reduceBEq, hc33, mkSl]
          exact ⟨_, rfl, rfl⟩
      · rw [if_neg hc26] at h
        replace hc26 := (Bool.not_eq_true _).mp hc26
        simp -implicitDefEqProofs only [go_sem, Nat.reduceAdd, Nat.reduceSub, Nat.reduceMul, Nat.reduceLT, Nat.reduceLeDiff, Nat.reduceEqDiff, Nat.reduceBEq, hc11, hc26, mkSl]
        obtain ⟨r24, h40, h⟩ := bind_some h
        refine Vc.mono (expr_two_ok h40) ?_
        rintro _ _ rfl
        by_cases hc41 : r24 = true
        · rw [if_pos hc41] at h
          obtain ⟨x25, h42, h⟩ := bind_some h
          have h42l := lt_of_get h42
          try simp only [List.length_cons, List.length_nil, Nat.reduceAdd] at h42l
          obtain ⟨j26, h43, h⟩ := bind_some h
          have h44 := vindexAddr_mref (P := Tryd.prog) (t := 82) (k := .i64) (id := 0) (ag := false) h43 (by simp -implicitDefEqProofs only [go_sem, Nat.reduceAdd, Nat.reduceSub, Nat.reduceMul, Nat.reduceLT, Nat.reduceLeDiff, Nat.reduceEqDiff, Nat.reduceBEq, Option.map_some])
          try simp -implicitDefEqProofs only [go_sem, Nat.reduceAdd, Nat.reduceSub, Nat.reduceMul, Nat.reduceLT, Nat.reduceLeDiff, Nat.reduceEqDiff, Nat.reduceBEq] at h44
          obtain ⟨x27, h45, h⟩ := bind_some h
          have h45l := lt_of_get h45
          try simp only [List.length_cons, List.length_nil, Nat.reduceAdd] at h45l
          obtain ⟨w28, h46, h⟩ := bind_some h
          have h47 := splice_en (En.int .i64) h46
          simp -implicitDefEqProofs only [go_sem, Nat.reduceAdd, Nat.reduceSub, Nat.reduceMul, Nat.reduceLT, Nat.reduceLeDiff, Nat.reduceEqDiff, Nat.reduceBEq] at h47
          have h46l : j4 + 1 ≤ w5.length := (setJ_some.1 h46).1
          obtain rfl := Option.some.inj h
          simp -implicitDefEqProofs only [go_sem, Nat.reduceAdd, Nat.reduceSub, Nat.reduceMul, Nat.reduceLT, Nat.reduceLeDiff, Nat.reduceEqDiff, Nat.reduceBEq, hc41, h7, h42, h42l, h44, h45, h45l, h47, h46l, mkSl]
          exact ⟨_, rfl, rfl⟩
        · rw [if_neg hc41] at h
          replace hc41 := (Bool.not_eq_true _).mp hc41
          obtain rfl := Option.some.inj h
          simp -implicitDefEqProofs only [go_sem, Nat.reduceAdd, Nat.reduceSub, Nat.reduceMul, Nat.reduceLT, Nat.reduceLeDiff, Nat.reduceEqDiff, Nat.reduceBEq, hc41, mkSl]
          exact ⟨_, rfl, rfl⟩
  · rw [if_neg hc4] at h
    obtain ⟨z29, h48, h⟩ := bind_some h
    obtain rfl := Option.some.inj h
    obtain rfl := hx3 _ rfl
    simp -implicitDefEqProofs only [go_sem, Nat.reduceAdd, Nat.reduceSub, Nat.reduceMul, Nat.reduceLT, Nat.reduceLeDiff, Nat.reduceEqDiff, Nat.reduceBEq, hc4, h48, mkSl]
theorem expr_Expr_Size_ok {a0 : List ExprNode} {r : Int} (h : expr_Expr_Size a0 = some r) :
  Vc cfg 21 [.sl .view (a0.map ExprNode.en.enc)] [] fun v _ => v = .lit (.int .i64 r) := by
  refine Vc_of (fn := Tryd.f21) rfl Tryd.func21 rfl Tryd.ntmps21 Tryd.results21 (by kernel_rfl) ?_
  conv => arg 3; whnf
  unfold expr_Expr_Size at h
  by_cases hc1 : 32 < (a0.length : Int)
  · rw [if_pos hc1] at h
    obtain rfl := Option.some.inj h
    simp -implicitDefEqProofs only [go_sem, Nat.reduceAdd, Nat.reduceSub, Nat.reduceMul, Nat.reduceLT, Nat.reduceLeDiff, Nat.reduceEqDiff, Nat.reduceBEq, hc1]
  · rw [if_neg hc1] at h
    simp -implicitDefEqProofs only [go_sem, Nat.reduceAdd, Nat.reduceSub, Nat.reduceMul, Nat.reduceLT, Nat.reduceLeDiff, Nat.reduceEqDiff, Nat.reduceBEq, hc1]
    obtain ⟨r1, h2, h⟩ := bind_some h
    refine Vc.mono (expr_Expr_depths_ok h2) ?_
    rintro _ _ rfl
    simp -implicitDefEqProofs only [go_sem, Nat.reduceAdd, Nat.reduceSub, Nat.reduceMul, Nat.reduceLT, Nat.reduceLeDiff, Nat.reduceEqDiff, Nat.reduceBEq]
    refine wpLoop_run' (step := expr_Expr_Size_l0_step r1) (fun s2 => mkSl 18 [(9, .sl .view (r1.map (En.int .i64).enc)), (10, .lit (.int .i64 (r1.length : Int))), (11, .lit (.int .i64 s2))]) (fun s2 => []) h (by kernel_rfl) (by first | rfl | simp -implicitDefEqProofs only [go_sem, Nat.reduceAdd, Nat.reduceSub, Nat.reduceMul, Nat.reduceLT, Nat.reduceLeDiff, Nat.reduceEqDiff, Nat.reduceBEq, mkSl]) (by first | rfl | simp -implicitDefEqProofs only [go_sem, Nat.reduceAdd, Nat.reduceSub, Nat.reduceMul, Nat.reduceLT, Nat.reduceLeDiff, Nat.reduceEqDiff, Nat.reduceBEq]) ?_
    clear h
    intro s2 xx3 h hx4
    unfold expr_Expr_Size_l0_step at h
    by_cases hc5 : s2 < (r1.length : Int)
    · rw [if_pos hc5] at h
      obtain ⟨x3, h6, h⟩ := bind_some h
      by_cases hc7 : 8 < x3
      · rw [if_pos hc7] at h
        obtain rfl := Option.some.inj h
        obtain rfl := hx4 _ rfl
        simp -implicitDefEqProofs only [go_sem, Nat.reduceAdd, Nat.reduceSub, Nat.reduceMul, Nat.reduceLT, Nat.reduceLeDiff, Nat.reduceEqDiff, Nat.reduceBEq, hc5, h6, hc7, mkSl]
      · rw [if_neg hc7] at h
        obtain rfl := Option.some.inj h
        simp -implicitDefEqProofs only [go_sem, Nat.reduceAdd, Nat.reduceSub, Nat.reduceMul, Nat.reduceLT, Nat.reduceLeDiff, Nat.reduceEqDiff, Nat.reduceBEq, hc5, h6, hc7, mkSl]
        exact ⟨_, rfl, rfl⟩
    · rw [if_neg hc5] at h
      obtain rfl := Option.some.inj h
      obtain rfl := hx4 _ rfl
      simp -implicitDefEqProofs only [go_sem, Nat.reduceAdd, Nat.reduceSub, Nat.reduceMul, Nat.reduceLT, Nat.reduceLeDiff, Nat.reduceEqDiff, Nat.reduceBEq, hc5, mkSl]
theorem expr_Parse_ok {a0 : List TokToken} {a1 : Int} {r : (List ExprNode) × Int × Int} (h : expr_Parse a0 a1 = some r) :
  Vc cfg 7 [.sl .view (a0.map TokToken.en.enc), .lit (.int .i64 a1)] [] fun v _ => v = .tup [.sl .view (r.1.map ExprNode.en.enc), .lit (.int .i64 r.2.1), .lit (.int .i64 r.2.2)] := by
  refine Vc_of (fn := Tryd.f7) rfl Tryd.func7 rfl Tryd.ntmps7 Tryd.results7 (by kernel_rfl) ?_
  conv => arg 3; whnf
  unfold expr_Parse at h
  by_cases hc1 : a1 < 0
  · rw [if_pos hc1] at h
    obtain rfl := Option.some.inj h
    simp -implicitDefEqProofs only [go_sem, Nat.reduceAdd, Nat.reduceSub, Nat.reduceMul, Nat.reduceLT, Nat.reduceLeDiff, Nat.reduceEqDiff, Nat.reduceBEq, hc1]
  · rw [if_neg hc1] at h
    by_cases hc2 : (a0.length : Int) < a1
    · rw [if_pos hc2] at h
      obtain rfl := Option.some.inj h
      simp -implicitDefEqProofs only [go_sem, Nat.reduceAdd, Nat.reduceSub, Nat.reduceMul, Nat.reduceLT, Nat.reduceLeDiff, Nat.reduceEqDiff, Nat.reduceBEq, hc1, hc2]
    · rw [if_neg hc2] at h
      simp -implicitDefEqProofs only [go_sem, Nat.reduceAdd, Nat.reduceSub, Nat.reduceMul, Nat.reduceLT, Nat.reduceLeDiff, Nat.reduceEqDiff, Nat.reduceBEq, hc1, hc2]
      obtain ⟨r2, h3, h⟩ := bind_some h
      refine Vc.mono (expr_parser_binary_ok h3 (by simp -implicitDefEqProofs only [go_sem, Nat.reduceAdd, Nat.reduceSub, Nat.reduceMul, Nat.reduceLT, Nat.reduceLeDiff, Nat.reduceEqDiff, Nat.reduceBEq])) ?_
      rintro _ _ ⟨rfl, rfl⟩
      by_cases hc4 : r2.1 = true
      · rw [if_pos hc4] at h
        simp -implicitDefEqProofs only [go_sem, Nat.reduceAdd, Nat.reduceSub, Nat.reduceMul, Nat.reduceLT, Nat.reduceLeDiff, Nat.reduceEqDiff, Nat.reduceBEq, hc4]
        obtain ⟨r3, h5, h⟩ := bind_some h
        refine Vc.mono (expr_Expr_Size_ok h5) ?_
        rintro _ _ rfl
        by_cases hc6 : (r3 != 0) = true
        · rw [if_pos hc6] at h
          obtain rfl := Option.some.inj h
          simp -implicitDefEqProofs only [go_sem, Nat.reduceAdd, Nat.reduceSub, Nat.reduceMul, Nat.reduceLT, Nat.reduceLeDiff, Nat.reduceEqDiff, Nat.reduceBEq, hc6]
        · rw [if_neg hc6] at h
          replace hc6 := (Bool.not_eq_true _).mp hc6
          obtain rfl := Option.some.inj h
          simp -implicitDefEqProofs only [go_sem, Nat.reduceAdd, Nat.reduceSub, Nat.reduceMul, Nat.reduceLT, Nat.reduceLeDiff, Nat.reduceEqDiff, Nat.reduceBEq, hc6]
      · rw [if_neg hc4] at h
        replace hc4 := (Bool.not_eq_true _).mp hc4
        obtain rfl := Option.some.inj h
        simp -implicitDefEqProofs only [go_sem, Nat.reduceAdd, Nat.reduceSub, Nat.reduceMul, Nat.reduceLT, Nat.reduceLeDiff, Nat.reduceEqDiff, Nat.reduceBEq, hc4]
theorem act_reader_fail_ok {p0 : ActReader} {a1 : Int} {B : List Blk} {i0 : Nat} {r : ActReader} (h : act_reader_fail p0 a1 = some r) (hBi0 : B[i0]? = some (.var [.sl .view (p0.l.map TokToken.en.enc), .lit (.int .i64 p0.at_), .lit (.int .i64 p0.e)])) :
  Vc cfg 48 [.ptr i0 0, .lit (.int .i64 a1)] B fun v B' => v = .tup [] ∧ B' = B.set i0 (.var [.sl .view (r.l.map TokToken.en.enc), .lit (.int .i64 r.at_), .lit (.int .i64 r.e)]) := by
  refine Vc_of (fn := Tryd.f48) rfl Tryd.func48 rfl Tryd.ntmps48 Tryd.results48 (by kernel_rfl) ?_
  conv => arg 3; whnf
  unfold act_reader_fail at h
  have hii0 : i0 < B.length := lt_of_get hBi0
  by_cases hc1 : (p0.e == 0) = true
  · rw [if_pos hc1] at h
    obtain rfl := Option.some.inj h
    simp -implicitDefEqProofs only [go_sem, Nat.reduceAdd, Nat.reduceSub, Nat.reduceMul, Nat.reduceLT, Nat.reduceLeDiff, Nat.reduceEqDiff, Nat.reduceBEq, hc1, hBi0, hii0]
  · rw [if_neg hc1] at h
    replace hc1 := (Bool.not_eq_true _).mp hc1
    obtain rfl := Option.some.inj h
    simp -implicitDefEqProofs only [go_sem, Nat.reduceAdd, Nat.reduceSub, Nat.reduceMul, Nat.reduceLT, Nat.reduceLeDiff, Nat.reduceEqDiff, Nat.reduceBEq, hc1, hBi0, hii0]
theorem act_reader_expr_ok {p0 : ActReader} {B : List Blk} {i0 : Nat} {r : (List ExprNode) × ActReader} (h : act_reader_expr p0 = some r) (hBi0 : B[i0]? = some (.var [.sl .view (p0.l.map TokToken.en.enc), .lit (.int .i64 p0.at_), .lit (.int .i64 p0.e)])) :
  Vc cfg 47 [.ptr i0 0] B fun v B' => v = .sl .view (r.1.map ExprNode.en.enc) ∧ B' = B.set i0 (.var [.sl .view (r.2.l.map TokToken.en.enc), .lit (.int .i64 r.2.at_), .lit (.int .i64 r.2.e)]) := by
  refine Vc_of (fn := Tryd.f47) rfl Tryd.func47 rfl Tryd.ntmps47 Tryd.results47 (by kernel_rfl) ?_
  conv => arg 3; whnf
  unfold act_reader_expr at h
  have hii0 : i0 < B.length := lt_of_get hBi0
  simp -implicitDefEqProofs only [go_sem, Nat.reduceAdd, Nat.reduceSub, Nat.reduceMul, Nat.reduceLT, Nat.reduceLeDiff, Nat.reduceEqDiff, Nat.reduceBEq, hBi0, hii0]
  obtain ⟨r1, h1, h⟩ := bind_some h
  refine Vc.mono (expr_Parse_ok h1) ?_
  rintro _ _ rfl
  by_cases hc2 : (r1.2.2 != 0) = true
  · rw [if_pos hc2] at h
    simp -implicitDefEqProofs only [go_sem, Nat.reduceAdd, Nat.reduceSub, Nat.reduceMul, Nat.reduceLT, Nat.reduceLeDiff, Nat.reduceEqDiff, Nat.reduceBEq, hc2, hBi0, hii0]
    obtain ⟨r2, h3, h⟩ := bind_some h
    refine Vc.mono (act_reader_fail_ok h3 (by simp -implicitDefEqProofs only [go_sem, Nat.reduceAdd, Nat.reduceSub, Nat.reduceMul, Nat.reduceLT, Nat.reduceLeDiff, Nat.reduceEqDiff, Nat.reduceBEq, hBi0, hii0])) ?_
    rintro _ _ ⟨rfl, rfl⟩
    obtain rfl := Option.some.inj h
    simp -implicitDefEqProofs only [go_sem, Nat.reduceAdd, Nat.reduceSub, Nat.reduceMul, Nat.reduceLT, Nat.reduceLeDiff, Nat.reduceEqDiff, Nat.reduceBEq, hBi0, hii0]
  · rw [if_neg hc2] at h
    replace hc2 := (Bool.not_eq_true _).mp hc2
    obtain rfl := Option.some.inj h
    simp -implicitDefEqProofs only [go_sem, Nat.reduceAdd, Nat.reduceSub, Nat.reduceMul, Nat.reduceLT, Nat.reduceLeDiff, Nat.reduceEqDiff, Nat.reduceBEq, hc2, hBi0, hii0]
theorem act_word_ok {a0 : Int} {r : (List UInt8)} (h : act_word a0 = some r) :
  Vc cfg 49 [.lit (.int .i64 a0)] [] fun v _ => v = .lit (.string (bs r)) := by
  refine Vc_of (fn := Tryd.f49) rfl Tryd.func49 rfl Tryd.ntmps49 Tryd.results49 (by kernel_rfl) ?_
  conv => arg 3; whnf
  unfold act_word at h
  by_cases hc1 : a0 < 1
  · rw [if_pos hc1] at h
    obtain rfl := Option.some.inj h
    simp -implicitDefEqProofs only [go_sem, Nat.reduceAdd, Nat.reduceSub, Nat.reduceMul, Nat.reduceLT, Nat.reduceLeDiff, Nat.reduceEqDiff, Nat.reduceBEq, hc1]
  · rw [if_neg hc1] at h
    by_cases hc2 : 5 < a0
    · rw [if_pos hc2] at h
      obtain rfl := Option.some.inj h
      simp -implicitDefEqProofs only [go_sem, Nat.reduceAdd, Nat.reduceSub, Nat.reduceMul, Nat.reduceLT, Nat.reduceLeDiff, Nat.reduceEqDiff, Nat.reduceBEq, hc1, hc2]
    · rw [if_neg hc2] at h
      obtain ⟨j1, h3, h⟩ := bind_some h
      have h4 := vindexAddr_arr (P := Tryd.prog) (t := 105) (k := .i64) (id := 0) (off := 0) h3 (by simp -implicitDefEqProofs only [go_sem, Nat.reduceAdd, Nat.reduceSub, Nat.reduceMul, Nat.reduceLT, Nat.reduceLeDiff, Nat.reduceEqDiff, Nat.reduceBEq, Option.map_some])
      try simp -implicitDefEqProofs only [go_sem, Nat.reduceAdd, Nat.reduceSub, Nat.reduceMul, Nat.reduceLT, Nat.reduceLeDiff, Nat.reduceEqDiff, Nat.reduceBEq] at h4
      obtain ⟨x2, h5, h⟩ := bind_some h
      have h5l := lt_of_get h5
      try simp only [List.length_cons, List.length_nil, Nat.reduceAdd] at h5l
      have h6 := congrArg (Option.map En.str.enc) h5
      rw [← List.getElem?_map] at h6
      simp -implicitDefEqProofs only [go_sem, Nat.reduceAdd, Nat.reduceSub, Nat.reduceMul, Nat.reduceLT, Nat.reduceLeDiff, Nat.reduceEqDiff, Nat.reduceBEq] at h6
      obtain rfl := Option.some.inj h
      simp -implicitDefEqProofs only [go_sem, Nat.reduceAdd, Nat.reduceSub, Nat.reduceMul, Nat.reduceLT, Nat.reduceLeDiff, Nat.reduceEqDiff, Nat.reduceBEq, hc1, hc2, h4, h5, h5l, h6]
theorem act_reader_name_ok {p0 : ActReader} {a1 : Bool} {B : List Blk} {i0 : Nat} {r : (List UInt8) × ActReader} (h : act_reader_name p0 a1 = some r) (hBi0 : B[i0]? = some (.var [.sl .view (p0.l.map TokToken.en.enc), .lit (.int .i64 p0.at_), .lit (.int .i64 p0.e)])) :
  Vc cfg 50 [.ptr i0 0, .lit (.bool a1)] B fun v B' => v = .lit (.string (bs r.1)) ∧ B' = B.set i0 (.var [.sl .view (r.2.l.map TokToken.en.enc), .lit (.int .i64 r.2.at_), .lit (.int .i64 r.2.e)]) := by
  refine Vc_of (fn := Tryd.f50) rfl Tryd.func50 rfl Tryd.ntmps50 Tryd.results50 (by kernel_rfl) ?_
  conv => arg 3; whnf
  unfold act_reader_name at h
  have hii0 : i0 < B.length := lt_of_get hBi0
  by_cases hc1 : (p0.l.length : Int) ≤ p0.at_
  · rw [if_pos hc1] at h
    simp -implicitDefEqProofs only [go_sem, Nat.reduceAdd, Nat.reduceSub, Nat.reduceMul, Nat.reduceLT, Nat.reduceLeDiff, Nat.reduceEqDiff, Nat.reduceBEq, hc1, hBi0, hii0]
    obtain ⟨r2, h2, h⟩ := bind_some h
    refine Vc.mono (act_reader_fail_ok h2 (by simp -implicitDefEqProofs only [go_sem, Nat.reduceAdd, Nat.reduceSub, Nat.reduceMul, Nat.reduceLT, Nat.reduceLeDiff, Nat.reduceEqDiff, Nat.reduceBEq, hBi0, hii0])) ?_
    rintro _ _ ⟨rfl, rfl⟩
    obtain rfl := Option.some.inj h
    simp -implicitDefEqProofs only [go_sem, Nat.reduceAdd, Nat.reduceSub, Nat.reduceMul, Nat.reduceLT, Nat.reduceLeDiff, Nat.reduceEqDiff, Nat.reduceBEq, hBi0, hii0]
  · rw [if_neg hc1] at h
    obtain ⟨x3, h3, h⟩ := bind_some h
    by_cases hc4 : (x3.Kind != 1) = true
    · rw [if_pos hc4] at h
      by_cases hc5 : (x3.Kind != 2) = true
      · rw [if_pos hc5] at h
        simp -implicitDefEqProofs only [go_sem, Nat.reduceAdd, Nat.reduceSub, Nat.reduceMul, Nat.reduceLT, Nat.reduceLeDiff, Nat.reduceEqDiff, Nat.reduceBEq, hc1, h3, hc4, hc5, hBi0, hii0]
        obtain ⟨r4, h6, h⟩ := bind_some h
        refine Vc.mono (act_reader_fail_ok h6 (by simp -implicitDefEqProofs only [go_sem, Nat.reduceAdd, Nat.reduceSub, Nat.reduceMul, Nat.reduceLT, Nat.reduceLeDiff, Nat.reduceEqDiff, Nat.reduceBEq, hBi0, hii0])) ?_
        rintro _ _ ⟨rfl, rfl⟩
        obtain rfl := Option.some.inj h
        simp -implicitDefEqProofs only [go_sem, Nat.reduceAdd, Nat.reduceSub, Nat.reduceMul, Nat.reduceLT, Nat.reduceLeDiff, Nat.reduceEqDiff, Nat.reduceBEq, hBi0, hii0]
      · rw [if_neg hc5] at h
        replace hc5 := (Bool.not_eq_true _).mp hc5
        by_cases hc7 : a1 = true
        · rw [if_pos hc7] at h
          simp -implicitDefEqProofs only [go_sem, Nat.reduceAdd, Nat.reduceSub, Nat.reduceMul, Nat.reduceLT, Nat.reduceLeDiff, Nat.reduceEqDiff, Nat.reduceBEq, hc1, h3, hc4, hc5, hc7, hBi0, hii0]
          obtain ⟨r5, h8, h⟩ := bind_some h
          refine Vc.mono (tok_Means_ok h8) ?_
          rintro _ _ rfl
          by_cases hc9 : r5 = true
          · rw [if_pos hc9] at h
            simp -implicitDefEqProofs only [go_sem, Nat.reduceAdd, Nat.reduceSub, Nat.reduceMul, Nat.reduceLT, Nat.reduceLeDiff, Nat.reduceEqDiff, Nat.reduceBEq, hc7, hc9, hBi0, hii0]
            obtain ⟨r6, h10, h⟩ := bind_some h
            refine Vc.mono (act_reader_fail_ok h10 (by simp -implicitDefEqProofs only [go_sem, Nat.reduceAdd, Nat.reduceSub, Nat.reduceMul, Nat.reduceLT, Nat.reduceLeDiff, Nat.reduceEqDiff, Nat.reduceBEq, hBi0, hii0])) ?_
            rintro _ _ ⟨rfl, rfl⟩
            obtain rfl := Option.some.inj h
            simp -implicitDefEqProofs only [go_sem, Nat.reduceAdd, Nat.reduceSub, Nat.reduceMul, Nat.reduceLT, Nat.reduceLeDiff, Nat.reduceEqDiff, Nat.reduceBEq, hBi0, hii0]
          · rw [if_neg hc9] at h
            replace hc9 := (Bool.not_eq_true _).mp hc9
            obtain rfl := Option.some.inj h
            simp -implicitDefEqProofs only [go_sem, Nat.reduceAdd, Nat.reduceSub, Nat.reduceMul, Nat.reduceLT, Nat.reduceLeDiff, Nat.reduceEqDiff, Nat.reduceBEq, hc7, hc9, hBi0, hii0]
        · rw [if_neg hc7] at h
          replace hc7 := (Bool.not_eq_true _).mp hc7
          simp -implicitDefEqProofs only [go_sem, Nat.reduceAdd, Nat.reduceSub, Nat.reduceMul, Nat.reduceLT, Nat.reduceLeDiff, Nat.reduceEqDiff, Nat.reduceBEq, hc1, h3, hc4, hc5, hc7, hBi0, hii0]
          obtain ⟨r7, h11, h⟩ := bind_some h
          refine Vc.mono (act_reader_fail_ok h11 (by simp -implicitDefEqProofs only [go_sem, Nat.reduceAdd, Nat.reduceSub, Nat.reduceMul, Nat.reduceLT, Nat.reduceLeDiff, Nat.reduceEqDiff, Nat.reduceBEq, hBi0, hii0])) ?_
          rintro _ _ ⟨rfl, rfl⟩
          obtain rfl := Option.some.inj h
          simp -implicitDefEqProofs only [go_sem, Nat.reduceAdd, Nat.reduceSub, Nat.reduceMul, Nat.reduceLT, Nat.reduceLeDiff, Nat.reduceEqDiff, Nat.reduceBEq, hBi0, hii0]
    · rw [if_neg hc4] at h
      replace hc4 := (Bool.not_eq_true _).mp hc4
      simp -implicitDefEqProofs only [go_sem, Nat.reduceAdd, Nat.reduceSub, Nat.reduceMul, Nat.reduceLT, Nat.reduceLeDiff, Nat.reduceEqDiff, Nat.reduceBEq, hc1, h3, hc4, hBi0, hii0]
      obtain ⟨r8, h12, h⟩ := bind_some h
      refine Vc.mono (tok_Means_ok h12) ?_
      rintro _ _ rfl
      by_cases hc13 : r8 = true
      · rw [if_pos hc13] at h
        simp -implicitDefEqProofs only [go_sem, Nat.reduceAdd, Nat.reduceSub, Nat.reduceMul, Nat.reduceLT, Nat.reduceLeDiff, Nat.reduceEqDiff, Nat.reduceBEq, hc13, hBi0, hii0]
        obtain ⟨r9, h14, h⟩ := bind_some h
        refine Vc.mono (act_reader_fail_ok h14 (by simp -implicitDefEqProofs only [go_sem, Nat.reduceAdd, Nat.reduceSub, Nat.reduceMul, Nat.reduceLT, Nat.reduceLeDiff, Nat.reduceEqDiff, Nat.reduceBEq, hBi0, hii0])) ?_
        rintro _ _ ⟨rfl, rfl⟩
        obtain rfl := Option.some.inj h
        simp -implicitDefEqProofs only [go_sem, Nat.reduceAdd, Nat.reduceSub, Nat.reduceMul, Nat.reduceLT, Nat.reduceLeDiff, Nat.reduceEqDiff, Nat.reduceBEq, hBi0, hii0]
      · rw [if_neg hc13] at h
        replace hc13 := (Bool.not_eq_true _).mp hc13
        obtain rfl := Option.some.inj h
        simp -implicitDefEqProofs only [go_sem, Nat.reduceAdd, Nat.reduceSub, Nat.reduceMul, Nat.reduceLT, Nat.reduceLeDiff, Nat.reduceEqDiff, Nat.reduceBEq, hc13, hBi0, hii0]
theorem act_reader_number_ok {p0 : ActReader} {B : List Blk} {i0 : Nat} {r : Int × ActReader} (h : act_reader_number p0 = some r) (hBi0 : B[i0]? = some (.var [.sl .view (p0.l.map TokToken.en.enc), .lit (.int .i64 p0.at_), .lit (.int .i64 p0.e)])) :
  Vc cfg 51 [.ptr i0 0] B fun v B' => v = .lit (.int .i64 r.1) ∧ B' = B.set i0 (.var [.sl .view (r.2.l.map TokToken.en.enc), .lit (.int .i64 r.2.at_), .lit (.int .i64 r.2.e)]) := by
  refine Vc_of (fn := Tryd.f51) rfl Tryd.func51 rfl Tryd.ntmps51 Tryd.results51 (by kernel_rfl) ?_
  conv => arg 3; whnf
  unfold act_reader_number at h
  have hii0 : i0 < B.length := lt_of_get hBi0
  by_cases hc1 : (p0.l.length : Int) ≤ p0.at_
  · rw [if_pos hc1] at h
    simp -implicitDefEqProofs only [go_sem, Nat.reduceAdd, Nat.reduceSub, Nat.reduceMul, Nat.reduceLT, Nat.reduceLeDiff, Nat.reduceEqDiff, Nat.reduceBEq, hc1, hBi0, hii0]
    obtain ⟨r1, h2, h⟩ := bind_some h
    refine Vc.mono (act_reader_fail_ok h2 (by simp -implicitDefEqProofs only [go_sem, Nat.reduceAdd, Nat.reduceSub, Nat.reduceMul, Nat.reduceLT, Nat.reduceLeDiff, Nat.reduceEqDiff, Nat.reduceBEq, hBi0, hii0])) ?_
    rintro _ _ ⟨rfl, rfl⟩
    obtain rfl := Option.some.inj h
    simp -implicitDefEqProofs only [go_sem, Nat.reduceAdd, Nat.reduceSub, Nat.reduceMul, Nat.reduceLT, Nat.reduceLeDiff, Nat.reduceEqDiff, Nat.reduceBEq, hBi0, hii0]
  · rw [if_neg hc1] at h
    obtain ⟨x2, h3, h⟩ := bind_some h
    by_cases hc4 : (x2.Kind != 3) = true
    · rw [if_pos hc4] at h
      simp -implicitDefEqProofs only [go_sem, Nat.reduceAdd, Nat.reduceSub, Nat.reduceMul, Nat.reduceLT, Nat.reduceLeDiff, Nat.reduceEqDiff, Nat.reduceBEq, hc1, h3, hc4, hBi0, hii0]
      obtain ⟨r3, h5, h⟩ := bind_some h
      refine Vc.mono (act_reader_fail_ok h5 (by simp -implicitDefEqProofs only [go_sem, Nat.reduceAdd, Nat.reduceSub, Nat.reduceMul, Nat.reduceLT, Nat.reduceLeDiff, Nat.reduceEqDiff, Nat.reduceBEq, hBi0, hii0])) ?_
      rintro _ _ ⟨rfl, rfl⟩
      obtain rfl := Option.some.inj h
      simp -implicitDefEqProofs only [go_sem, Nat.reduceAdd, Nat.reduceSub, Nat.reduceMul, Nat.reduceLT, Nat.reduceLeDiff, Nat.reduceEqDiff, Nat.reduceBEq, hBi0, hii0]
    · rw [if_neg hc4] at h
      replace hc4 := (Bool.not_eq_true _).mp hc4
      by_cases hc6 : 1048576 < x2.N
      · rw [if_pos hc6] at h
        simp -implicitDefEqProofs only [go_sem, Nat.reduceAdd, Nat.reduceSub, Nat.reduceMul, Nat.reduceLT, Nat.reduceLeDiff, Nat.reduceEqDiff, Nat.reduceBEq, hc1, h3, hc4, hc6, hBi0, hii0]
        obtain ⟨r4, h7, h⟩ := bind_some h
        refine Vc.mono (act_reader_fail_ok h7 (by simp -implicitDefEqProofs only [go_sem, Nat.reduceAdd, Nat.reduceSub, Nat.reduceMul, Nat.reduceLT, Nat.reduceLeDiff, Nat.reduceEqDiff, Nat.reduceBEq, hBi0, hii0])) ?_
        rintro _ _ ⟨rfl, rfl⟩
        obtain rfl := Option.some.inj h
        simp -implicitDefEqProofs only [go_sem, Nat.reduceAdd, Nat.reduceSub, Nat.reduceMul, Nat.reduceLT, Nat.reduceLeDiff, Nat.reduceEqDiff, Nat.reduceBEq, hBi0, hii0]
      · rw [if_neg hc6] at h
        obtain rfl := Option.some.inj h
        simp -implicitDefEqProofs only [go_sem, Nat.reduceAdd, Nat.reduceSub, Nat.reduceMul, Nat.reduceLT, Nat.reduceLeDiff, Nat.reduceEqDiff, Nat.reduceBEq, hc1, h3, hc4, hc6, hBi0, hii0]
theorem act_reader_act_ok {p0 : ActReader} {B : List Blk} {i0 : Nat} {r : ActAct × ActReader} (h : act_reader_act p0 = some r) (hBi0 : B[i0]? = some (.var [.sl .view (p0.l.map TokToken.en.enc), .lit (.int .i64 p0.at_), .lit (.int .i64 p0.e)])) :
  Vc cfg 25 [.ptr i0 0] B fun v B' => v = .agg [.lit (.int .i64 r.1.Kind), .sl .view (r.1.If.map ExprNode.en.enc), .lit (.string (bs r.1.Name)), .sl .view (r.1.X.map ExprNode.en.enc), .lit (.int .i64 r.1.N)] ∧ B' = B.set i0 (.var [.sl .view (r.2.l.map TokToken.en.enc), .lit (.int .i64 r.2.at_), .lit (.int .i64 r.2.e)]) := by
  refine Vc_of (fn := Tryd.f25) rfl Tryd.func25 rfl Tryd.ntmps25 Tryd.results25 (by kernel_rfl) ?_
  conv => arg 3; whnf
  unfold act_reader_act at h
  have hii0 : i0 < B.length := lt_of_get hBi0
  simp -implicitDefEqProofs only [go_sem, Nat.reduceAdd, Nat.reduceSub, Nat.reduceMul, Nat.reduceLT, Nat.reduceLeDiff, Nat.reduceEqDiff, Nat.reduceBEq, hBi0, hii0]
  obtain ⟨xx1, h3, hk4, hx2⟩ := jn_some h
  clear h
  refine seqK_join (x := xx1) (fun s1 => mkSl 112 [(0, .ptr i0 0), (2, .ptr B.length 0), (3, .ptr (B.length + 1) 0)]) (fun s1 => B.set i0 (.var [.sl .view (s1.2.1.map TokToken.en.enc), .lit (.int .i64 s1.2.2.1), .lit (.int .i64 s1.2.2.2)]) ++ [.var [.lit (.int .i64 0), .sl .view (([] : List ExprNode).map ExprNode.en.enc), .lit (.string (bs [])), .sl .view (([] : List ExprNode).map ExprNode.en.enc), .lit (.int .i64 0)], .var [.lit (.int .i64 0), .sl .view (s1.1.map ExprNode.en.enc), .lit (.string (bs [])), .sl .view (([] : List ExprNode).map ExprNode.en.enc), .lit (.int .i64 0)]]) ?_ ?_
  · clear hk4
    unfold act_reader_act_j0 at h3
    have h := h3
    clear h3
    simp -implicitDefEqProofs only [go_sem, Nat.reduceAdd, Nat.reduceSub, Nat.reduceMul, Nat.reduceLT, Nat.reduceLeDiff, Nat.reduceEqDiff, Nat.reduceBEq, hBi0, hii0]
    obtain ⟨r2, h5, h⟩ := bind_some h
    refine Vc.mono (act_reader_take_ok h5 (by simp -implicitDefEqProofs only [go_sem, Nat.reduceAdd, Nat.reduceSub, Nat.reduceMul, Nat.reduceLT, Nat.reduceLeDiff, Nat.reduceEqDiff, Nat.reduceBEq, hBi0, hii0])) ?_
    rintro _ _ ⟨rfl, rfl⟩
    by_cases hc6 : r2.1 = true
    · rw [if_pos hc6] at h
      simp -implicitDefEqProofs only [go_sem, Nat.reduceAdd, Nat.reduceSub, Nat.reduceMul, Nat.reduceLT, Nat.reduceLeDiff, Nat.reduceEqDiff, Nat.reduceBEq, hc6, hBi0, hii0]
      obtain ⟨r3, h7, h⟩ := bind_some h
      refine Vc.mono (act_reader_expr_ok h7 (by simp -implicitDefEqProofs only [go_sem, Nat.reduceAdd, Nat.reduceSub, Nat.reduceMul, Nat.reduceLT, Nat.reduceLeDiff, Nat.reduceEqDiff, Nat.reduceBEq, hBi0, hii0])) ?_
      rintro _ _ ⟨rfl, rfl⟩
      by_cases hc8 : (r3.2.e == 0) = true
      · rw [if_pos hc8] at h
        simp -implicitDefEqProofs only [go_sem, Nat.reduceAdd, Nat.reduceSub, Nat.reduceMul, Nat.reduceLT, Nat.reduceLeDiff, Nat.reduceEqDiff, Nat.reduceBEq, hc8, hBi0, hii0]
        obtain ⟨r4, h9, h⟩ := bind_some h
        refine Vc.mono (act_reader_take_ok h9 (by simp -implicitDefEqProofs only [go_sem, Nat.reduceAdd, Nat.reduceSub, Nat.reduceMul, Nat.reduceLT, Nat.reduceLeDiff, Nat.reduceEqDiff, Nat.reduceBEq, hBi0, hii0])) ?_
        rintro _ _ ⟨rfl, rfl⟩
        by_cases hc10 : r4.1 = true
        · rw [if_pos hc10] at h
          obtain rfl := Option.some.inj h
          simp -implicitDefEqProofs only [go_sem, Nat.reduceAdd, Nat.reduceSub, Nat.reduceMul, Nat.reduceLT, Nat.reduceLeDiff, Nat.reduceEqDiff, Nat.reduceBEq, hc8, hc10, hBi0, hii0]
          exact ⟨_, rfl, rfl⟩
        · rw [if_neg hc10] at h
          replace hc10 := (Bool.not_eq_true _).mp hc10
          simp -implicitDefEqProofs only [go_sem, Nat.reduceAdd, Nat.reduceSub, Nat.reduceMul, Nat.reduceLT, Nat.reduceLeDiff, Nat.reduceEqDiff, Nat.reduceBEq, hc8, hc10, hBi0, hii0]
          obtain ⟨r5, h11, h⟩ := bind_some h
          refine Vc.mono (act_reader_fail_ok h11 (by simp -implicitDefEqProofs only [go_sem, Nat.reduceAdd, Nat.reduceSub, Nat.reduceMul, Nat.reduceLT, Nat.reduceLeDiff, Nat.reduceEqDiff, Nat.reduceBEq, hBi0, hii0])) ?_
          rintro _ _ ⟨rfl, rfl⟩
          obtain rfl := Option.some.inj h
          simp -implicitDefEqProofs only [go_sem, Nat.reduceAdd, Nat.reduceSub, Nat.reduceMul, Nat.reduceLT, Nat.reduceLeDiff, Nat.reduceEqDiff, Nat.reduceBEq, hBi0, hii0]
          exact ⟨_, rfl, rfl⟩
      · rw [if_neg hc8] at h
        replace hc8 := (Bool.not_eq_true _).mp hc8
        obtain rfl := Option.some.inj h
        simp -implicitDefEqProofs only [go_sem, Nat.reduceAdd, Nat.reduceSub, Nat.reduceMul, Nat.reduceLT, Nat.reduceLeDiff, Nat.reduceEqDiff, Nat.reduceBEq, hc8, hBi0, hii0]
        exact ⟨_, rfl, rfl⟩
    · rw [if_neg hc6] at h
      replace hc6 := (Bool.not_eq_true _).mp hc6
      obtain rfl := Option.some.inj h
      simp -implicitDefEqProofs only [go_sem, Nat.reduceAdd, Nat.reduceSub, Nat.reduceMul, Nat.reduceLT, Nat.reduceLeDiff, Nat.reduceEqDiff, Nat.reduceBEq, hc6, hBi0, hii0]
      exact ⟨_, rfl, rfl⟩
  · intro s1 hi12
    have h := hk4 _ hi12
    clear h3 hx2 hk4 hi12
    simp -implicitDefEqProofs only [go_sem, Nat.reduceAdd, Nat.reduceSub, Nat.reduceMul, Nat.reduceLT, Nat.reduceLeDiff, Nat.reduceEqDiff, Nat.reduceBEq, hBi0, hii0, mkSl]
    obtain ⟨xx13, h15, hk16, hx14⟩ := jn_some h
    clear h
    refine seqK_join (x := xx13) (fun s6 => mkSl 112 [(0, .ptr i0 0), (2, .ptr B.length 0), (3, .ptr (B.length + 1) 0)]) (fun s6 => B.set i0 (.var [.sl .view (s6.2.1.map TokToken.en.enc), .lit (.int .i64 s6.2.2.1), .lit (.int .i64 s6.2.2.2)]) ++ [.var [.lit (.int .i64 0), .sl .view (([] : List ExprNode).map ExprNode.en.enc), .lit (.string (bs [])), .sl .view (([] : List ExprNode).map ExprNode.en.enc), .lit (.int .i64 0)], .var [.lit (.int .i64 s6.1), .sl .view (s1.1.map ExprNode.en.enc), .lit (.string (bs [])), .sl .view (([] : List ExprNode).map ExprNode.en.enc), .lit (.int .i64 0)]]) ?_ ?_
    · clear hk16
      unfold act_reader_act_j1 at h15
      have h := h15
      clear h15
      simp -implicitDefEqProofs only [go_sem, Nat.reduceAdd, Nat.reduceSub, Nat.reduceMul, Nat.reduceLT, Nat.reduceLeDiff, Nat.reduceEqDiff, Nat.reduceBEq, hBi0, hii0, mkSl]
      refine wpLoop_run' (step := act_reader_act_l2_step) (fun s7 => mkSl 112 [(0, .ptr i0 0), (2, .ptr B.length 0), (3, .ptr (B.length + 1) 0), (4, .lit (.int .i64 s7.1))]) (fun s7 => B.set i0 (.var [.sl .view (s7.2.2.1.map TokToken.en.enc), .lit (.int .i64 s7.2.2.2.1), .lit (.int .i64 s7.2.2.2.2)]) ++ [.var [.lit (.int .i64 0), .sl .view (([] : List ExprNode).map ExprNode.en.enc), .lit (.string (bs [])), .sl .view (([] : List ExprNode).map ExprNode.en.enc), .lit (.int .i64 0)], .var [.lit (.int .i64 s7.2.1), .sl .view (s1.1.map ExprNode.en.enc), .lit (.string (bs [])), .sl .view (([] : List ExprNode).map ExprNode.en.enc), .lit (.int .i64 0)]]) h (by kernel_rfl) (by first | rfl | simp -implicitDefEqProofs only [go_sem, Nat.reduceAdd, Nat.reduceSub, Nat.reduceMul, Nat.reduceLT, Nat.reduceLeDiff, Nat.reduceEqDiff, Nat.reduceBEq, mkSl, hBi0, hii0, mkSl]) (by first | rfl | simp -implicitDefEqProofs only [go_sem, Nat.reduceAdd, Nat.reduceSub, Nat.reduceMul, Nat.reduceLT, Nat.reduceLeDiff, Nat.reduceEqDiff, Nat.reduceBEq, hBi0, hii0, mkSl]) ?_
      clear h
      intro s7 xx17 h hx18
      unfold act_reader_act_l2_step at h
      by_cases hc19 : s7.1 ≤ 5
      · rw [if_pos hc19] at h
        by_cases hc20 : (s7.2.1 == 0) = true
        · rw [if_pos hc20] at h
          by_cases hc21 : (s7.2.2.2.2 == 0) = true
          · rw [if_pos hc21] at h
            simp -implicitDefEqProofs only [go_sem, Nat.reduceAdd, Nat.reduceSub, Nat.reduceMul, Nat.reduceLT, Nat.reduceLeDiff, Nat.reduceEqDiff, Nat.reduceBEq, hc19, hc20, hc21, hBi0, hii0, mkSl]
            obtain ⟨r8, h22, h⟩ := bind_some h
            refine Vc.mono (act_word_ok h22) ?_
            rintro _ _ rfl
            simp -implicitDefEqProofs only [go_sem, Nat.reduceAdd, Nat.reduceSub, Nat.reduceMul, Nat.reduceLT, Nat.reduceLeDiff, Nat.reduceEqDiff, Nat.reduceBEq, hc21, hBi0, hii0, mkSl]
            obtain ⟨r9, h23, h⟩ := bind_some h
            refine Vc.mono (act_reader_take_ok h23 (by simp -implicitDefEqProofs only [go_sem, Nat.reduceAdd, Nat.reduceSub, Nat.reduceMul, Nat.reduceLT, Nat.reduceLeDiff, Nat.reduceEqDiff, Nat.reduceBEq, hBi0, hii0, mkSl])) ?_
            rintro _ _ ⟨rfl, rfl⟩
            by_cases hc24 : r9.1 = true
            · rw [if_pos hc24] at h
              obtain rfl := Option.some.inj h
              simp -implicitDefEqProofs only [go_sem, Nat.reduceAdd, Nat.reduceSub, Nat.reduceMul, Nat.reduceLT, Nat.reduceLeDiff, Nat.reduceEqDiff, Nat.reduceBEq, hc21, hc24, hBi0, hii0, mkSl]
              exact ⟨_, rfl, rfl⟩
            · rw [if_neg hc24] at h
              replace hc24 := (Bool.not_eq_true _).mp hc24
              obtain rfl := Option.some.inj h
              simp -implicitDefEqProofs only [go_sem, Nat.reduceAdd, Nat.reduceSub, Nat.reduceMul, Nat.reduceLT, Nat.reduceLeDiff, Nat.reduceEqDiff, Nat.reduceBEq, hc21, hc24, hBi0, hii0, mkSl]
              exact ⟨_, rfl, rfl⟩
          · rw [if_neg hc21] at h
            replace hc21 := (Bool.not_eq_true _).mp hc21
            obtain rfl := Option.some.inj h
            simp -implicitDefEqProofs only [go_sem, Nat.reduceAdd, Nat.reduceSub, Nat.reduceMul, Nat.reduceLT, Nat.reduceLeDiff, Nat.reduceEqDiff, Nat.reduceBEq, hc19, hc20, hc21, hBi0, hii0, mkSl]
            exact ⟨_, rfl, rfl⟩
        · rw [if_neg hc20] at h
          replace hc20 := (Bool.not_eq_true _).mp hc20
          obtain rfl := Option.some.inj h
          obtain rfl := hx18 _ rfl
          simp -implicitDefEqProofs only [go_sem, Nat.reduceAdd, Nat.reduceSub, Nat.reduceMul, Nat.reduceLT, Nat.reduceLeDiff, Nat.reduceEqDiff, Nat.reduceBEq, hc19, hc20, hBi0, hii0, mkSl]
          exact ⟨_, rfl, rfl⟩
      · rw [if_neg hc19] at h
        obtain rfl := Option.some.inj h
        obtain rfl := hx18 _ rfl
        simp -implicitDefEqProofs only [go_sem, Nat.reduceAdd, Nat.reduceSub, Nat.reduceMul, Nat.reduceLT, Nat.reduceLeDiff, Nat.reduceEqDiff, Nat.reduceBEq, hc19, hBi0, hii0, mkSl]
        exact ⟨_, rfl, rfl⟩
    · intro s6 hi25
      have h := hk16 _ hi25
      clear h15 hx14 hk16 hi25
      simp -implicitDefEqProofs only [go_sem, Nat.reduceAdd, Nat.reduceSub, Nat.reduceMul, Nat.reduceLT, Nat.reduceLeDiff, Nat.reduceEqDiff, Nat.reduceBEq, hBi0, hii0, mkSl]
      obtain ⟨xx26, h28, hk29, hx27⟩ := jn_some h
      clear h
      refine seqK_join (x := xx26) (fun s10 => mkSl 112 [(0, .ptr i0 0), (2, .ptr B.length 0), (3, .ptr (B.length + 1) 0)]) (fun s10 => B.set i0 (.var [.sl .view (s10.2.1.map TokToken.en.enc), .lit (.int .i64 s10.2.2.1), .lit (.int .i64 s10.2.2.2)]) ++ [.var [.lit (.int .i64 0), .sl .view (([] : List ExprNode).map ExprNode.en.enc), .lit (.string (bs [])), .sl .view (([] : List ExprNode).map ExprNode.en.enc), .lit (.int .i64 0)], .var [.lit (.int .i64 s6.1), .sl .view (s1.1.map ExprNode.en.enc), .lit (.string (bs s10.1)), .sl .view (([] : List ExprNode).map ExprNode.en.enc), .lit (.int .i64 0)]]) ?_ ?_
      · clear hk29
        unfold act_reader_act_j3 at h28
        have h := h28
        clear h28
        by_cases hc30 : (s6.2.2.2 != 0) = true
        · rw [if_pos hc30] at h
          obtain rfl := Option.some.inj h
          simp -implicitDefEqProofs only [go_sem, Nat.reduceAdd, Nat.reduceSub, Nat.reduceMul, Nat.reduceLT, Nat.reduceLeDiff, Nat.reduceEqDiff, Nat.reduceBEq, hc30, hBi0, hii0, mkSl]
          exact ⟨_, rfl, rfl⟩
        · rw [if_neg hc30] at h
          replace hc30 := (Bool.not_eq_true _).mp hc30
          by_cases hc31 : (s6.1 == 1) = true
          · rw [if_pos hc31] at h
            simp -implicitDefEqProofs only [go_sem, Nat.reduceAdd, Nat.reduceSub, Nat.reduceMul, Nat.reduceLT, Nat.reduceLeDiff, Nat.reduceEqDiff, Nat.reduceBEq, hc30, hc31, hBi0, hii0, mkSl]
            obtain ⟨r11, h32, h⟩ := bind_some h
            refine Vc.mono (act_reader_name_ok h32 (by simp -implicitDefEqProofs only [go_sem, Nat.reduceAdd, Nat.reduceSub, Nat.reduceMul, Nat.reduceLT, Nat.reduceLeDiff, Nat.reduceEqDiff, Nat.reduceBEq, hBi0, hii0, mkSl])) ?_
            rintro _ _ ⟨rfl, rfl⟩
            obtain rfl := Option.some.inj h
            simp -implicitDefEqProofs only [go_sem, Nat.reduceAdd, Nat.reduceSub, Nat.reduceMul, Nat.reduceLT, Nat.reduceLeDiff, Nat.reduceEqDiff, Nat.reduceBEq, hBi0, hii0, mkSl]
            exact ⟨_, rfl, rfl⟩
          · rw [if_neg hc31] at h
            replace hc31 := (Bool.not_eq_true _).mp hc31
            by_cases hc33 : (s6.1 == 2) = true
            · rw [if_pos hc33] at h
              simp -implicitDefEqProofs only [go_sem, Nat.reduceAdd, Nat.reduceSub, Nat.reduceMul, Nat.reduceLT, Nat.reduceLeDiff, Nat.reduceEqDiff, Nat.reduceBEq, hc30, hc31, hc33, hBi0, hii0, mkSl]
              obtain ⟨r12, h34, h⟩ := bind_some h
              refine Vc.mono (act_reader_name_ok h34 (by simp -implicitDefEqProofs only [go_sem, Nat.reduceAdd, Nat.reduceSub, Nat.reduceMul, Nat.reduceLT, Nat.reduceLeDiff, Nat.reduceEqDiff, Nat.reduceBEq, hBi0, hii0, mkSl])) ?_
              rintro _ _ ⟨rfl, rfl⟩
              obtain rfl := Option.some.inj h
              simp -implicitDefEqProofs only [go_sem, Nat.reduceAdd, Nat.reduceSub, Nat.reduceMul, Nat.reduceLT, Nat.reduceLeDiff, Nat.reduceEqDiff, Nat.reduceBEq, hBi0, hii0, mkSl]
              exact ⟨_, rfl, rfl⟩
            · rw [if_neg hc33] at h
              replace hc33 := (Bool.not_eq_true _).mp hc33
              by_cases hc35 : (s6.1 == 3) = true
              · rw [if_pos hc35] at h
                simp -implicitDefEqProofs only [go_sem, Nat.reduceAdd, Nat.reduceSub, Nat.reduceMul, Nat.reduceLT, Nat.reduceLeDiff, Nat.reduceEqDiff, Nat.reduceBEq, hc30, hc31, hc33, hc35, hBi0, hii0, mkSl]
                obtain ⟨r13, h36, h⟩ := bind_some h
                refine Vc.mono (act_reader_name_ok h36 (by simp -implicitDefEqProofs only [go_sem, Nat.reduceAdd, Nat.reduceSub, Nat.reduceMul, Nat.reduceLT, Nat.reduceLeDiff, Nat.reduceEqDiff, Nat.reduceBEq, hBi0, hii0, mkSl])) ?_
                rintro _ _ ⟨rfl, rfl⟩
                obtain rfl := Option.some.inj h
                simp -implicitDefEqProofs only [go_sem, Nat.reduceAdd, Nat.reduceSub, Nat.reduceMul, Nat.reduceLT, Nat.reduceLeDiff, Nat.reduceEqDiff, Nat.reduceBEq, hBi0, hii0, mkSl]
                exact ⟨_, rfl, rfl⟩
              · rw [if_neg hc35] at h
                replace hc35 := (Bool.not_eq_true _).mp hc35
                by_cases hc37 : (s6.1 == 4) = true
                · rw [if_pos hc37] at h
                  simp -implicitDefEqProofs only [go_sem, Nat.reduceAdd, Nat.reduceSub, Nat.reduceMul, Nat.reduceLT, Nat.reduceLeDiff, Nat.reduceEqDiff, Nat.reduceBEq, hc30, hc31, hc33, hc35, hc37, hBi0, hii0, mkSl]
                  obtain ⟨r14, h38, h⟩ := bind_some h
                  refine Vc.mono (act_reader_name_ok h38 (by simp -implicitDefEqProofs only [go_sem, Nat.reduceAdd, Nat.reduceSub, Nat.reduceMul, Nat.reduceLT, Nat.reduceLeDiff, Nat.reduceEqDiff, Nat.reduceBEq, hBi0, hii0, mkSl])) ?_
                  rintro _ _ ⟨rfl, rfl⟩
                  obtain rfl := Option.some.inj h
                  simp -implicitDefEqProofs only [go_sem, Nat.reduceAdd, Nat.reduceSub, Nat.reduceMul, Nat.reduceLT, Nat.reduceLeDiff, Nat.reduceEqDiff, Nat.reduceBEq, hBi0, hii0, mkSl]
                  exact ⟨_, rfl, rfl⟩
                · rw [if_neg hc37] at h
                  replace hc37 := (Bool.not_eq_true _).mp hc37
                  by_cases hc39 : (s6.1 == 0) = true
                  · rw [if_pos hc39] at h
                    simp -implicitDefEqProofs only [go_sem, Nat.reduceAdd, Nat.reduceSub, Nat.reduceMul, Nat.reduceLT, Nat.reduceLeDiff, Nat.reduceEqDiff, Nat.reduceBEq, hc30, hc31, hc33, hc35, hc37, hc39, hBi0, hii0, mkSl]
                    obtain ⟨r15, h40, h⟩ := bind_some h
                    refine Vc.mono (act_reader_fail_ok h40 (by simp -implicitDefEqProofs only [go_sem, Nat.reduceAdd, Nat.reduceSub, Nat.reduceMul, Nat.reduceLT, Nat.reduceLeDiff, Nat.reduceEqDiff, Nat.reduceBEq, hBi0, hii0, mkSl])) ?_
                    rintro _ _ ⟨rfl, rfl⟩
                    obtain rfl := Option.some.inj h
                    simp -implicitDefEqProofs only [go_sem, Nat.reduceAdd, Nat.reduceSub, Nat.reduceMul, Nat.reduceLT, Nat.reduceLeDiff, Nat.reduceEqDiff, Nat.reduceBEq, hBi0, hii0, mkSl]
                    exact ⟨_, rfl, rfl⟩
                  · rw [if_neg hc39] at h
                    replace hc39 := (Bool.not_eq_true _).mp hc39
                    obtain rfl := Option.some.inj h
                    simp -implicitDefEqProofs only [go_sem, Nat.reduceAdd, Nat.reduceSub, Nat.reduceMul, Nat.reduceLT, Nat.reduceLeDiff, Nat.reduceEqDiff, Nat.reduceBEq, hc30, hc31, hc33, hc35, hc37, hc39, hBi0, hii0, mkSl]
                    exact ⟨_, rfl, rfl⟩
      · intro s10 hi41
        have h := hk29 _ hi41
        clear h28 hx27 hk29 hi41
        simp -implicitDefEqProofs only [go_sem, Nat.reduceAdd, Nat.reduceSub, Nat.reduceMul, Nat.reduceLT, Nat.reduceLeDiff, Nat.reduceEqDiff, Nat.reduceBEq, hBi0, hii0, mkSl]
        obtain ⟨xx42, h44, hk45, hx43⟩ := jn_some h
        clear h
        refine seqK_join (x := xx42) (fun s16 => mkSl 112 [(0, .ptr i0 0), (2, .ptr B.length 0), (3, .ptr (B.length + 1) 0)]) (fun s16 => B.set i0 (.var [.sl .view (s16.2.1.map TokToken.en.enc), .lit (.int .i64 s16.2.2.1), .lit (.int .i64 s16.2.2.2)]) ++ [.var [.lit (.int .i64 0), .sl .view (([] : List ExprNode).map ExprNode.en.enc), .lit (.string (bs [])), .sl .view (([] : List ExprNode).map ExprNode.en.enc), .lit (.int .i64 0)], .var [.lit (.int .i64 s6.1), .sl .view (s1.1.map ExprNode.en.enc), .lit (.string (bs s10.1)), .sl .view (s16.1.map ExprNode.en.enc), .lit (.int .i64 0)]]) ?_ ?_
        · clear hk45
          unfold act_reader_act_j4 at h44
          have h := h44
          clear h44
          by_cases hc46 : (s10.2.2.2 == 0) = true
          · rw [if_pos hc46] at h
            by_cases hc47 : (s6.1 == 1) = true
            · rw [if_pos hc47] at h
              simp -implicitDefEqProofs only [go_sem, Nat.reduceAdd, Nat.reduceSub, Nat.reduceMul, Nat.reduceLT, Nat.reduceLeDiff, Nat.reduceEqDiff, Nat.reduceBEq, hc46, hc47, hBi0, hii0, mkSl]
              obtain ⟨r17, h48, h⟩ := bind_some h
              refine Vc.mono (act_reader_expr_ok h48 (by simp -implicitDefEqProofs only [go_sem, Nat.reduceAdd, Nat.reduceSub, Nat.reduceMul, Nat.reduceLT, Nat.reduceLeDiff, Nat.reduceEqDiff, Nat.reduceBEq, hBi0, hii0, mkSl])) ?_
              rintro _ _ ⟨rfl, rfl⟩
              obtain rfl := Option.some.inj h
              simp -implicitDefEqProofs only [go_sem, Nat.reduceAdd, Nat.reduceSub, Nat.reduceMul, Nat.reduceLT, Nat.reduceLeDiff, Nat.reduceEqDiff, Nat.reduceBEq, hBi0, hii0, mkSl]
              exact ⟨_, rfl, rfl⟩
            · rw [if_neg hc47] at h
              replace hc47 := (Bool.not_eq_true _).mp hc47
              by_cases hc49 : (s6.1 == 5) = true
              · rw [if_pos hc49] at h
                simp -implicitDefEqProofs only [go_sem, Nat.reduceAdd, Nat.reduceSub, Nat.reduceMul, Nat.reduceLT, Nat.reduceLeDiff, Nat.reduceEqDiff, Nat.reduceBEq, hc46, hc47, hc49, hBi0, hii0, mkSl]
                obtain ⟨r18, h50, h⟩ := bind_some h
                refine Vc.mono (act_reader_expr_ok h50 (by simp -implicitDefEqProofs only [go_sem, Nat.reduceAdd, Nat.reduceSub, Nat.reduceMul, Nat.reduceLT, Nat.reduceLeDiff, Nat.reduceEqDiff, Nat.reduceBEq, hBi0, hii0, mkSl])) ?_
                rintro _ _ ⟨rfl, rfl⟩
                obtain rfl := Option.some.inj h
                simp -implicitDefEqProofs only [go_sem, Nat.reduceAdd, Nat.reduceSub, Nat.reduceMul, Nat.reduceLT, Nat.reduceLeDiff, Nat.reduceEqDiff, Nat.reduceBEq, hBi0, hii0, mkSl]
                exact ⟨_, rfl, rfl⟩
              · rw [if_neg hc49] at h
                replace hc49 := (Bool.not_eq_true _).mp hc49
                obtain rfl := Option.some.inj h
                simp -implicitDefEqProofs only [go_sem, Nat.reduceAdd, Nat.reduceSub, Nat.reduceMul, Nat.reduceLT, Nat.reduceLeDiff, Nat.reduceEqDiff, Nat.reduceBEq, hc46, hc47, hc49, hBi0, hii0, mkSl]
                exact ⟨_, rfl, rfl⟩
          · rw [if_neg hc46] at h
            replace hc46 := (Bool.not_eq_true _).mp hc46
            obtain rfl := Option.some.inj h
            simp -implicitDefEqProofs only [go_sem, Nat.reduceAdd, Nat.reduceSub, Nat.reduceMul, Nat.reduceLT, Nat.reduceLeDiff, Nat.reduceEqDiff, Nat.reduceBEq, hc46, hBi0, hii0, mkSl]
            exact ⟨_, rfl, rfl⟩
        · intro s16 hi51
          have h := hk45 _ hi51
          clear h44 hx43 hk45 hi51
          by_cases hc52 : (s16.2.2.2 == 0) = true
          · rw [if_pos hc52] at h
            by_cases hc53 : (s6.1 == 3) = true
            · rw [if_pos hc53] at h
              simp -implicitDefEqProofs only [go_sem, Nat.reduceAdd, Nat.reduceSub, Nat.reduceMul, Nat.reduceLT, Nat.reduceLeDiff, Nat.reduceEqDiff, Nat.reduceBEq, hc52, hc53, hBi0, hii0, mkSl]
              obtain ⟨r19, h54, h⟩ := bind_some h
              refine Vc.mono (act_reader_number_ok h54 (by simp -implicitDefEqProofs only [go_sem, Nat.reduceAdd, Nat.reduceSub, Nat.reduceMul, Nat.reduceLT, Nat.reduceLeDiff, Nat.reduceEqDiff, Nat.reduceBEq, hBi0, hii0, mkSl])) ?_
              rintro _ _ ⟨rfl, rfl⟩
              obtain rfl := Option.some.inj h
              simp -implicitDefEqProofs only [go_sem, Nat.reduceAdd, Nat.reduceSub, Nat.reduceMul, Nat.reduceLT, Nat.reduceLeDiff, Nat.reduceEqDiff, Nat.reduceBEq, hBi0, hii0, mkSl]
            · rw [if_neg hc53] at h
              replace hc53 := (Bool.not_eq_true _).mp hc53
              obtain rfl := Option.some.inj h
              simp -implicitDefEqProofs only [go_sem, Nat.reduceAdd, Nat.reduceSub, Nat.reduceMul, Nat.reduceLT, Nat.reduceLeDiff, Nat.reduceEqDiff, Nat.reduceBEq, hc52, hc53, hBi0, hii0, mkSl]
          · rw [if_neg hc52] at h
            replace hc52 := (Bool.not_eq_true _).mp hc52
            obtain rfl := Option.some.inj h
            simp -implicitDefEqProofs only [go_sem, Nat.reduceAdd, Nat.reduceSub, Nat.reduceMul, Nat.reduceLT, Nat.reduceLeDiff, Nat.reduceEqDiff, Nat.reduceBEq, hc52, hBi0, hii0, mkSl]
end Go.Proofs.YtilmjbljkkbakaaDoor
