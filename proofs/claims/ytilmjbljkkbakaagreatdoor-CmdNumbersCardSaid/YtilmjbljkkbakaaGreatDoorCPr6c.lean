/-
  A part of the proof: lemmas.
-/
import Derived.Test.YtilmjbljkkbakaaGreatDoorCFactsc
import Derived.Test.YtilmjbljkkbakaaGreatDoorCFunsc
set_option linter.unusedSimpArgs false
set_option linter.unusedVariables false
set_option linter.unusedSectionVars false
set_option linter.unnecessarySimpa false
set_option linter.deprecated false
/-! The functions' proofs. -/
namespace Go.Proofs.YtilmjbljkkbakaaGreatDoor
open Go.Wv
set_option linter.unusedSimpArgs false
set_option linter.unusedVariables false
set_option maxRecDepth 10000
set_option maxHeartbeats 20000000
theorem expr_one_ok {a0 : Int} {r : Bool} (h : expr_one a0 = some r) :
  Vc cfg 166 [.lit (.int .i64 a0)] [] fun v _ => v = .lit (.bool r) := by
  refine Vc_of (fn := Tryz.f166) rfl Tryz.func166 rfl Tryz.ntmps166 Tryz.results166 (by kernel_rfl) ?_
  conv => arg 3; whnf
  unfold expr_one at h
  by_cases hc1 : (a0 == 1) = true
  · rw [if_pos hc1] at h
    obtain rfl := Option.some.inj h
    simp -implicitDefEqProofs only [go_sem, Nat.reduceAdd, Nat.reduceSub, Nat.reduceMul, Nat.reduceLT, Nat.reduceLeDiff, Nat.reduceEqDiff, Nat.reduceBEq, hc1]
  · rw [if_neg hc1] at h
    replace hc1 := (Bool.not_eq_true _).mp hc1
    obtain rfl := Option.some.inj h
    simp -implicitDefEqProofs only [go_sem, Nat.reduceAdd, Nat.reduceSub, Nat.reduceMul, Nat.reduceLT, Nat.reduceLeDiff, Nat.reduceEqDiff, Nat.reduceBEq, hc1]
theorem expr_two_ok {a0 : Int} {r : Bool} (h : expr_two a0 = some r) :
  Vc cfg 178 [.lit (.int .i64 a0)] [] fun v _ => v = .lit (.bool r) := by
  refine Vc_of (fn := Tryz.f178) rfl Tryz.func178 rfl Tryz.ntmps178 Tryz.results178 (by kernel_rfl) ?_
  conv => arg 3; whnf
  unfold expr_two at h
  by_cases hc1 : 3 ≤ a0
  · rw [if_pos hc1] at h
    obtain rfl := Option.some.inj h
    simp -implicitDefEqProofs only [go_sem, Nat.reduceAdd, Nat.reduceSub, Nat.reduceMul, Nat.reduceLT, Nat.reduceLeDiff, Nat.reduceEqDiff, Nat.reduceBEq, hc1]
  · rw [if_neg hc1] at h
    obtain rfl := Option.some.inj h
    simp -implicitDefEqProofs only [go_sem, Nat.reduceAdd, Nat.reduceSub, Nat.reduceMul, Nat.reduceLT, Nat.reduceLeDiff, Nat.reduceEqDiff, Nat.reduceBEq, hc1]
theorem expr_Expr_depths_ok {a0 : List ExprNode} {r : (List Int)} (h : expr_Expr_depths a0 = some r) :
  Vc cfg 163 [.sl .view (a0.map ExprNode.en.enc)] [] fun v _ => v = .sl .view (r.map (En.int .i64).enc) := by
  refine Vc_of (fn := Tryz.f163) rfl Tryz.func163 rfl Tryz.ntmps163 Tryz.results163 (by kernel_rfl) ?_
  conv => arg 3; whnf
  unfold expr_Expr_depths at h
  obtain ⟨z1, h1, h⟩ := bind_some h
  obtain ⟨⟨h1a, h1b, h1c⟩, h1e⟩ := mkA_some.1 h1
  have h1d := congrArg (List.map (En.int .i64).enc) h1e
  rw [List.map_replicate] at h1d
  try simp -implicitDefEqProofs only [go_sem, Nat.reduceAdd, Nat.reduceSub, Nat.reduceMul, Nat.reduceLT, Nat.reduceLeDiff, Nat.reduceEqDiff, Nat.reduceBEq, Int.toNat_natCast] at h1a h1b h1c h1d
  try replace h1d := h1d.symm
  simp -implicitDefEqProofs only [go_sem, Nat.reduceAdd, Nat.reduceSub, Nat.reduceMul, Nat.reduceLT, Nat.reduceLeDiff, Nat.reduceEqDiff, Nat.reduceBEq, h1a, h1b, h1c, h1d, Int.toNat_natCast, Nat.le_refl]
  refine wpLoop_run' (step := expr_Expr_depths_l0_step a0) (fun s2 => mkSl 55 [(3, .mref 0 false 1 0 a0.length), (9, .sl .view (a0.map ExprNode.en.enc)), (10, .lit (.int .i64 (a0.length : Int))), (11, .lit (.int .i64 s2.1))]) (fun s2 => [.var (s2.2.map (En.int .i64).enc)]) h (by kernel_rfl) (by first | rfl | simp -implicitDefEqProofs only [go_sem, Nat.reduceAdd, Nat.reduceSub, Nat.reduceMul, Nat.reduceLT, Nat.reduceLeDiff, Nat.reduceEqDiff, Nat.reduceBEq, mkSl]) (by first | rfl | simp -implicitDefEqProofs only [go_sem, Nat.reduceAdd, Nat.reduceSub, Nat.reduceMul, Nat.reduceLT, Nat.reduceLeDiff, Nat.reduceEqDiff, Nat.reduceBEq]) ?_
  clear h
  intro s2 xx2 h hx3
  unfold expr_Expr_depths_l0_step at h
  by_cases hc4 : s2.1 < (a0.length : Int)
  · rw [if_pos hc4] at h
    obtain ⟨x3, h5, h⟩ := bind_some h
    obtain ⟨j4, h6, h⟩ := bind_some h
    have h7 := vindexAddr_mref (P := Tryz.prog) (t := 24) (k := .i64) (id := 0) (ag := false) h6 (by simp -implicitDefEqProofs only [go_sem, Nat.reduceAdd, Nat.reduceSub, Nat.reduceMul, Nat.reduceLT, Nat.reduceLeDiff, Nat.reduceEqDiff, Nat.reduceBEq, Option.map_some])
    try simp -implicitDefEqProofs only [go_sem, Nat.reduceAdd, Nat.reduceSub, Nat.reduceMul, Nat.reduceLT, Nat.reduceLeDiff, Nat.reduceEqDiff, Nat.reduceBEq] at h7
    obtain ⟨w5, h8, h⟩ := bind_some h
    have h9 := splice_en (En.int .i64) h8
    simp -implicitDefEqProofs only [go_sem, Nat.reduceAdd, Nat.reduceSub, Nat.reduceMul, Nat.reduceLT, Nat.reduceLeDiff, Nat.reduceEqDiff, Nat.reduceBEq] at h9
    have h8l : j4 + 1 ≤ s2.2.length := (setJ_some.1 h8).1
    simp -implicitDefEqProofs only [go_sem, Nat.reduceAdd, Nat.reduceSub, Nat.reduceMul, Nat.reduceLT, Nat.reduceLeDiff, Nat.reduceEqDiff, Nat.reduceBEq, hc4, h5, h7, h9, h8l, mkSl]
    obtain ⟨r6, h10, h⟩ := bind_some h
    refine Vc.mono (expr_one_ok h10) ?_
    rintro _ _ rfl
    by_cases hc11 : r6 = true
    · rw [if_pos hc11] at h
      obtain ⟨j7, h12, h⟩ := bind_some h
      have h13 := vindexAddr_mref (P := Tryz.prog) (t := 24) (k := .i64) (id := 0) (ag := false) h12 (by simp -implicitDefEqProofs only [go_sem, Nat.reduceAdd, Nat.reduceSub, Nat.reduceMul, Nat.reduceLT, Nat.reduceLeDiff, Nat.reduceEqDiff, Nat.reduceBEq, Option.map_some])
      try simp -implicitDefEqProofs only [go_sem, Nat.reduceAdd, Nat.reduceSub, Nat.reduceMul, Nat.reduceLT, Nat.reduceLeDiff, Nat.reduceEqDiff, Nat.reduceBEq] at h13
      obtain ⟨x8, h14, h⟩ := bind_some h
      have h14l := lt_of_get h14
      try simp only [List.length_cons, List.length_nil, Nat.reduceAdd] at h14l
      obtain ⟨w9, h15, h⟩ := bind_some h
      have h16 := splice_en (En.int .i64) h15
      simp -implicitDefEqProofs only [go_sem, Nat.reduceAdd, Nat.reduceSub, Nat.reduceMul, Nat.reduceLT, Nat.reduceLeDiff, Nat.reduceEqDiff, Nat.reduceBEq] at h16
      have h15l : j4 + 1 ≤ w5.length := (setJ_some.1 h15).1
      simp -implicitDefEqProofs only [go_sem, Nat.reduceAdd, Nat.reduceSub, Nat.reduceMul, Nat.reduceLT, Nat.reduceLeDiff, Nat.reduceEqDiff, Nat.reduceBEq, hc11, h13, h14, h14l, h7, h16, h15l, mkSl]
      obtain ⟨r10, h17, h⟩ := bind_some h
      refine Vc.mono (expr_two_ok h17) ?_
      rintro _ _ rfl
      by_cases hc18 : r10 = true
      · rw [if_pos hc18] at h
        obtain ⟨x11, h19, h⟩ := bind_some h
        have h19l := lt_of_get h19
        try simp only [List.length_cons, List.length_nil, Nat.reduceAdd] at h19l
        obtain ⟨j12, h20, h⟩ := bind_some h
        have h21 := vindexAddr_mref (P := Tryz.prog) (t := 24) (k := .i64) (id := 0) (ag := false) h20 (by simp -implicitDefEqProofs only [go_sem, Nat.reduceAdd, Nat.reduceSub, Nat.reduceMul, Nat.reduceLT, Nat.reduceLeDiff, Nat.reduceEqDiff, Nat.reduceBEq, Option.map_some])
        try simp -implicitDefEqProofs only [go_sem, Nat.reduceAdd, Nat.reduceSub, Nat.reduceMul, Nat.reduceLT, Nat.reduceLeDiff, Nat.reduceEqDiff, Nat.reduceBEq] at h21
        obtain ⟨x13, h22, h⟩ := bind_some h
        have h22l := lt_of_get h22
        try simp only [List.length_cons, List.length_nil, Nat.reduceAdd] at h22l
        obtain ⟨w14, h23, h⟩ := bind_some h
        have h24 := splice_en (En.int .i64) h23
        simp -implicitDefEqProofs only [go_sem, Nat.reduceAdd, Nat.reduceSub, Nat.reduceMul, Nat.reduceLT, Nat.reduceLeDiff, Nat.reduceEqDiff, Nat.reduceBEq] at h24
        have h23l : j4 + 1 ≤ w9.length := (setJ_some.1 h23).1
        obtain rfl := Option.some.inj h
        simp -implicitDefEqProofs only [go_sem, Nat.reduceAdd, Nat.reduceSub, Nat.reduceMul, Nat.reduceLT, Nat.reduceLeDiff, Nat.reduceEqDiff, Nat.reduceBEq, hc18, h7, h19, h19l, h21, h22, h22l, h24, h23l, mkSl]
        exact ⟨_, rfl, rfl⟩
      · rw [if_neg hc18] at h
        replace hc18 := (Bool.not_eq_true _).mp hc18
        obtain rfl := Option.some.inj h
        simp -implicitDefEqProofs only [go_sem, Nat.reduceAdd, Nat.reduceSub, Nat.reduceMul, Nat.reduceLT, Nat.reduceLeDiff, Nat.reduceEqDiff, Nat.reduceBEq, hc18, mkSl]
        exact ⟨_, rfl, rfl⟩
    · rw [if_neg hc11] at h
      replace hc11 := (Bool.not_eq_true _).mp hc11
      simp -implicitDefEqProofs only [go_sem, Nat.reduceAdd, Nat.reduceSub, Nat.reduceMul, Nat.reduceLT, Nat.reduceLeDiff, Nat.reduceEqDiff, Nat.reduceBEq, hc11, mkSl]
      obtain ⟨r15, h25, h⟩ := bind_some h
      refine Vc.mono (expr_two_ok h25) ?_
      rintro _ _ rfl
      by_cases hc26 : r15 = true
      · rw [if_pos hc26] at h
        obtain ⟨j16, h27, h⟩ := bind_some h
        have h28 := vindexAddr_mref (P := Tryz.prog) (t := 24) (k := .i64) (id := 0) (ag := false) h27 (by simp -implicitDefEqProofs only [go_sem, Nat.reduceAdd, Nat.reduceSub, Nat.reduceMul, Nat.reduceLT, Nat.reduceLeDiff, Nat.reduceEqDiff, Nat.reduceBEq, Option.map_some])
        try simp -implicitDefEqProofs only [go_sem, Nat.reduceAdd, Nat.reduceSub, Nat.reduceMul, Nat.reduceLT, Nat.reduceLeDiff, Nat.reduceEqDiff, Nat.reduceBEq] at h28
        obtain ⟨x17, h29, h⟩ := bind_some h
        have h29l := lt_of_get h29
        try simp only [List.length_cons, List.length_nil, Nat.reduceAdd] at h29l
        obtain ⟨w18, h30, h⟩ := bind_some h
        have h31 := splice_en (En.int .i64) h30
        simp -implicitDefEqProofs only [go_sem, Nat.reduceAdd, Nat.reduceSub, Nat.reduceMul, Nat.reduceLT, Nat.reduceLeDiff, Nat.reduceEqDiff, Nat.reduceBEq] at h31
        have h30l : j4 + 1 ≤ w5.length := (setJ_some.1 h30).1
        simp -implicitDefEqProofs only [go_sem, Nat.reduceAdd, Nat.reduceSub, Nat.reduceMul, Nat.reduceLT, Nat.reduceLeDiff, Nat.reduceEqDiff, Nat.reduceBEq, hc11, hc26, h28, h29, h29l, h7, h31, h30l, mkSl]
        obtain ⟨r19, h32, h⟩ := bind_some h
        refine Vc.mono (expr_two_ok h32) ?_
        rintro _ _ rfl
        by_cases hc33 : r19 = true
        · rw [if_pos hc33] at h
          obtain ⟨x20, h34, h⟩ := bind_some h
          have h34l := lt_of_get h34
          try simp only [List.length_cons, List.length_nil, Nat.reduceAdd] at h34l
          obtain ⟨j21, h35, h⟩ := bind_some h
          have h36 := vindexAddr_mref (P := Tryz.prog) (t := 24) (k := .i64) (id := 0) (ag := false) h35 (by simp -implicitDefEqProofs only [go_sem, Nat.reduceAdd, Nat.reduceSub, Nat.reduceMul, Nat.reduceLT, Nat.reduceLeDiff, Nat.reduceEqDiff, Nat.reduceBEq, Option.map_some])
          try simp -implicitDefEqProofs only [go_sem, Nat.reduceAdd, Nat.reduceSub, Nat.reduceMul, Nat.reduceLT, Nat.reduceLeDiff, Nat.reduceEqDiff, Nat.reduceBEq] at h36
          obtain ⟨x22, h37, h⟩ := bind_some h
          have h37l := lt_of_get h37
          try simp only [List.length_cons, List.length_nil, Nat.reduceAdd] at h37l
          obtain ⟨w23, h38, h⟩ := bind_some h
          have h39 := splice_en (En.int .i64) h38
          simp -implicitDefEqProofs only [go_sem, Nat.reduceAdd, Nat.reduceSub, Nat.reduceMul, Nat.reduceLT, Nat.reduceLeDiff, Nat.reduceEqDiff, Nat.reduceBEq] at h39
          have h38l : j4 + 1 ≤ w18.length := (setJ_some.1 h38).1
          obtain rfl := Option.some.inj h
          simp -implicitDefEqProofs only [go_sem, Nat.reduceAdd, Nat.reduceSub, Nat.reduceMul, Nat.reduceLT, Nat.reduceLeDiff, Nat.reduceEqDiff, Nat.reduceBEq, hc33, h7, h34, h34l, h36, h37, h37l, h39, h38l, mkSl]
          exact ⟨_, rfl, rfl⟩
        · rw [if_neg hc33] at h
          replace hc33 := (Bool.not_eq_true _).mp hc33
          obtain rfl := Option.some.inj h
          simp -implicitDefEqProofs only [go_sem, Nat.reduceAdd, Nat.reduceSub, Nat.reduceMul, Nat.reduceLT, Nat.reduceLeDiff, Nat.reduceEqDiff, Nat.reduceBEq, hc33, mkSl]
          exact ⟨_, rfl, rfl⟩
      · rw [if_neg hc26] at h
        replace hc26 := (Bool.not_eq_true _).mp hc26
        simp -implicitDefEqProofs only [go_sem, Nat.reduceAdd, Nat.reduceSub, Nat.reduceMul, Nat.reduceLT, Nat.reduceLeDiff, Nat.reduceEqDiff, Nat.reduceBEq, hc11, hc26, mkSl]
        obtain ⟨r24, h40, h⟩ := bind_some h
        refine Vc.mono (expr_two_ok h40) ?_
        rintro _ _ rfl
        by_cases hc41 : r24 = true
        · rw [if_pos hc41] at h
          obtain ⟨x25, h42, h⟩ := bind_some h
          have h42l := lt_of_get h42
          try simp only [List.length_cons, List.length_nil, Nat.reduceAdd] at h42l
          obtain ⟨j26, h43, h⟩ := bind_some h
          have h44 := vindexAddr_mref (P := Tryz.prog) (t := 24) (k := .i64) (id := 0) (ag := false) h43 (by simp -implicitDefEqProofs only [go_sem, Nat.reduceAdd, Nat.reduceSub, Nat.reduceMul, Nat.reduceLT, Nat.reduceLeDiff, Nat.reduceEqDiff, Nat.reduceBEq, Option.map_some])
          try simp -implicitDefEqProofs only [go_sem, Nat.reduceAdd, Nat.reduceSub, Nat.reduceMul, Nat.reduceLT, Nat.reduceLeDiff, Nat.reduceEqDiff, Nat.reduceBEq] at h44
          obtain ⟨x27, h45, h⟩ := bind_some h
          have h45l := lt_of_get h45
          try simp only [List.length_cons, List.length_nil, Nat.reduceAdd] at h45l
          obtain ⟨w28, h46, h⟩ := bind_some h
          have h47 := splice_en (En.int .i64) h46
          simp -implicitDefEqProofs only [go_sem, Nat.reduceAdd, Nat.reduceSub, Nat.reduceMul, Nat.reduceLT, Nat.reduceLeDiff, Nat.reduceEqDiff, Nat.reduceBEq] at h47
          have h46l : j4 + 1 ≤ w5.length := (setJ_some.1 h46).1
          obtain rfl := Option.some.inj h
          simp -implicitDefEqProofs only [go_sem, Nat.reduceAdd, Nat.reduceSub, Nat.reduceMul, Nat.reduceLT, Nat.reduceLeDiff, Nat.reduceEqDiff, Nat.reduceBEq, hc41, h7, h42, h42l, h44, h45, h45l, h47, h46l, mkSl]
          exact ⟨_, rfl, rfl⟩
        · rw [if_neg hc41] at h
          replace hc41 := (Bool.not_eq_true _).mp hc41
          obtain rfl := Option.some.inj h
          simp -implicitDefEqProofs only [go_sem, Nat.reduceAdd, Nat.reduceSub, Nat.reduceMul, Nat.reduceLT, Nat.reduceLeDiff, Nat.reduceEqDiff, Nat.reduceBEq, hc41, mkSl]
          exact ⟨_, rfl, rfl⟩
  · rw [if_neg hc4] at h
    obtain ⟨z29, h48, h⟩ := bind_some h
    obtain rfl := Option.some.inj h
    obtain rfl := hx3 _ rfl
    simp -implicitDefEqProofs only [go_sem, Nat.reduceAdd, Nat.reduceSub, Nat.reduceMul, Nat.reduceLT, Nat.reduceLeDiff, Nat.reduceEqDiff, Nat.reduceBEq, hc4, h48, mkSl]
theorem expr_Expr_Size_ok {a0 : List ExprNode} {r : Int} (h : expr_Expr_Size a0 = some r) :
  Vc cfg 134 [.sl .view (a0.map ExprNode.en.enc)] [] fun v _ => v = .lit (.int .i64 r) := by
  refine Vc_of (fn := Tryz.f134) rfl Tryz.func134 rfl Tryz.ntmps134 Tryz.results134 (by kernel_rfl) ?_
  conv => arg 3; whnf
  unfold expr_Expr_Size at h
  by_cases hc1 : 32 < (a0.length : Int)
  · rw [if_pos hc1] at h
    obtain rfl := Option.some.inj h
    simp -implicitDefEqProofs only [go_sem, Nat.reduceAdd, Nat.reduceSub, Nat.reduceMul, Nat.reduceLT, Nat.reduceLeDiff, Nat.reduceEqDiff, Nat.reduceBEq, hc1]
  · rw [if_neg hc1] at h
    simp -implicitDefEqProofs only [go_sem, Nat.reduceAdd, Nat.reduceSub, Nat.reduceMul, Nat.reduceLT, Nat.reduceLeDiff, Nat.reduceEqDiff, Nat.reduceBEq, hc1]
    obtain ⟨r1, h2, h⟩ := bind_some h
    refine Vc.mono (expr_Expr_depths_ok h2) ?_
    rintro _ _ rfl
    simp -implicitDefEqProofs only [go_sem, Nat.reduceAdd, Nat.reduceSub, Nat.reduceMul, Nat.reduceLT, Nat.reduceLeDiff, Nat.reduceEqDiff, Nat.reduceBEq]
    refine wpLoop_run' (step := expr_Expr_Size_l0_step r1) (fun s2 => mkSl 18 [(9, .sl .view (r1.map (En.int .i64).enc)), (10, .lit (.int .i64 (r1.length : Int))), (11, .lit (.int .i64 s2))]) (fun s2 => []) h (by kernel_rfl) (by first | rfl | simp -implicitDefEqProofs only [go_sem, Nat.reduceAdd, Nat.reduceSub, Nat.reduceMul, Nat.reduceLT, Nat.reduceLeDiff, Nat.reduceEqDiff, Nat.reduceBEq, mkSl]) (by first | rfl | simp -implicitDefEqProofs only [go_sem, Nat.reduceAdd, Nat.reduceSub, Nat.reduceMul, Nat.reduceLT, Nat.reduceLeDiff, Nat.reduceEqDiff, Nat.reduceBEq]) ?_
    clear h
    intro s2 xx3 h hx4
    unfold expr_Expr_Size_l0_step at h
    by_cases hc5 : s2 < (r1.length : Int)
    · rw [if_pos hc5] at h
      obtain ⟨x3, h6, h⟩ := bind_some h
      by_cases hc7 : 8 < x3
      · rw [if_pos hc7] at h
        obtain rfl := Option.some.inj h
        obtain rfl := hx4 _ rfl
        simp -implicitDefEqProofs only [go_sem, Nat.reduceAdd, Nat.reduceSub, Nat.reduceMul, Nat.reduceLT, Nat.reduceLeDiff, Nat.reduceEqDiff, Nat.reduceBEq, hc5, h6, hc7, mkSl]
      · rw [if_neg hc7] at h
        obtain rfl := Option.some.inj h
        simp -implicitDefEqProofs only [go_sem, Nat.reduceAdd, Nat.reduceSub, Nat.reduceMul, Nat.reduceLT, Nat.reduceLeDiff, Nat.reduceEqDiff, Nat.reduceBEq, hc5, h6, hc7, mkSl]
        exact ⟨_, rfl, rfl⟩
    · rw [if_neg hc5] at h
      obtain rfl := Option.some.inj h
      obtain rfl := hx4 _ rfl
      simp -implicitDefEqProofs only [go_sem, Nat.reduceAdd, Nat.reduceSub, Nat.reduceMul, Nat.reduceLT, Nat.reduceLeDiff, Nat.reduceEqDiff, Nat.reduceBEq, hc5, mkSl]
end Go.Proofs.YtilmjbljkkbakaaGreatDoor
