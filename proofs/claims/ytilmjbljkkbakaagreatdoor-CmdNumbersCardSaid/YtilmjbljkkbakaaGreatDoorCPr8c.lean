/-
  A part of the proof: lemmas.
-/
import Derived.Test.YtilmjbljkkbakaaGreatDoorCFactsc
import Derived.Test.YtilmjbljkkbakaaGreatDoorCFunsc
import Derived.Test.YtilmjbljkkbakaaGreatDoorCPr0c
import Derived.Test.YtilmjbljkkbakaaGreatDoorCPr3c
import Derived.Test.YtilmjbljkkbakaaGreatDoorCPr4c
import Derived.Test.YtilmjbljkkbakaaGreatDoorCPr7c
set_option linter.unusedSimpArgs false
set_option linter.unusedVariables false
set_option linter.unusedSectionVars false
set_option linter.unnecessarySimpa false
set_option linter.deprecated false
/-! The functions' proofs. -/
namespace Go.Proofs.YtilmjbljkkbakaaGreatDoor
open Go.Wv
set_option linter.unusedSimpArgs false
set_option linter.unusedVariables false
set_option maxRecDepth 10000
set_option maxHeartbeats 20000000
theorem expr_Read_ok {a0 : List UInt8} {r : (List ExprNode) × Int} (h : expr_Read a0 = some r) :
  Vc cfg 80 [.lit (.string (bs a0))] [] fun v _ => v = .tup [.sl .view (r.1.map ExprNode.en.enc), .lit (.int .i64 r.2)] := by
  refine Vc_of (fn := Tryz.f80) rfl Tryz.func80 rfl Tryz.ntmps80 Tryz.results80 (by kernel_rfl) ?_
  conv => arg 3; whnf
  unfold expr_Read at h
  simp -implicitDefEqProofs only [go_sem, Nat.reduceAdd, Nat.reduceSub, Nat.reduceMul, Nat.reduceLT, Nat.reduceLeDiff, Nat.reduceEqDiff, Nat.reduceBEq]
  obtain ⟨r1, h1, h⟩ := bind_some h
  refine Vc.mono (tok_Lex_ok h1) ?_
  rintro _ _ rfl
  by_cases hc2 : (r1.2.1 != 0) = true
  · rw [if_pos hc2] at h
    obtain rfl := Option.some.inj h
    simp -implicitDefEqProofs only [go_sem, Nat.reduceAdd, Nat.reduceSub, Nat.reduceMul, Nat.reduceLT, Nat.reduceLeDiff, Nat.reduceEqDiff, Nat.reduceBEq, hc2]
  · rw [if_neg hc2] at h
    replace hc2 := (Bool.not_eq_true _).mp hc2
    simp -implicitDefEqProofs only [go_sem, Nat.reduceAdd, Nat.reduceSub, Nat.reduceMul, Nat.reduceLT, Nat.reduceLeDiff, Nat.reduceEqDiff, Nat.reduceBEq, hc2]
    obtain ⟨r2, h3, h⟩ := bind_some h
    refine Vc.mono (expr_Parse_ok h3) ?_
    rintro _ _ rfl
    by_cases hc4 : (r2.2.2 != 0) = true
    · rw [if_pos hc4] at h
      obtain rfl := Option.some.inj h
      simp -implicitDefEqProofs only [go_sem, Nat.reduceAdd, Nat.reduceSub, Nat.reduceMul, Nat.reduceLT, Nat.reduceLeDiff, Nat.reduceEqDiff, Nat.reduceBEq, hc4]
    · rw [if_neg hc4] at h
      replace hc4 := (Bool.not_eq_true _).mp hc4
      by_cases hc5 : r2.2.1 < (r1.1.length : Int)
      · rw [if_pos hc5] at h
        obtain rfl := Option.some.inj h
        simp -implicitDefEqProofs only [go_sem, Nat.reduceAdd, Nat.reduceSub, Nat.reduceMul, Nat.reduceLT, Nat.reduceLeDiff, Nat.reduceEqDiff, Nat.reduceBEq, hc4, hc5]
      · rw [if_neg hc5] at h
        obtain rfl := Option.some.inj h
        simp -implicitDefEqProofs only [go_sem, Nat.reduceAdd, Nat.reduceSub, Nat.reduceMul, Nat.reduceLT, Nat.reduceLeDiff, Nat.reduceEqDiff, Nat.reduceBEq, hc4, hc5]
theorem cmd_Command_rest_ok {p0 : CmdCommand} {a1 : List UInt8} {B : List Blk} {i0 : Nat} {r : Int × CmdCommand} (h : cmd_Command_rest p0 a1 = some r) (hBi0 : B[i0]? = some (.var [.lit (.int .i64 p0.Kind), .sl .view (p0.N.map (En.int .i64).enc), .lit (.string (bs p0.Name)), .lit (.int .i64 p0.Break.Kind), .lit (.string (bs p0.Break.Name)), .lit (.int .i64 p0.Break.N), .sl .view (p0.Break.If.map ExprNode.en.enc), .lit (.bool p0.Break.Off), .sl .view (p0.Watch.map ExprNode.en.enc)])) :
  Vc cfg 46 [.ptr i0 0, .lit (.string (bs a1))] B fun v B' => v = .lit (.int .i64 r.1) ∧ B' = B.set i0 (.var [.lit (.int .i64 r.2.Kind), .sl .view (r.2.N.map (En.int .i64).enc), .lit (.string (bs r.2.Name)), .lit (.int .i64 r.2.Break.Kind), .lit (.string (bs r.2.Break.Name)), .lit (.int .i64 r.2.Break.N), .sl .view (r.2.Break.If.map ExprNode.en.enc), .lit (.bool r.2.Break.Off), .sl .view (r.2.Watch.map ExprNode.en.enc)]) := by
  refine Vc_of (fn := Tryz.f46) rfl Tryz.func46 rfl Tryz.ntmps46 Tryz.results46 (by kernel_rfl) ?_
  conv => arg 3; whnf
  unfold cmd_Command_rest at h
  have hii0 : i0 < B.length := lt_of_get hBi0
  by_cases hc1 : (p0.Kind == 23) = true
  · rw [if_pos hc1] at h
    simp -implicitDefEqProofs only [go_sem, Nat.reduceAdd, Nat.reduceSub, Nat.reduceMul, Nat.reduceLT, Nat.reduceLeDiff, Nat.reduceEqDiff, Nat.reduceBEq, hc1, hBi0, hii0]
    obtain ⟨r2, h2, h⟩ := bind_some h
    refine Vc.mono (act_Event_ok h2) ?_
    rintro _ _ rfl
    by_cases hc3 : r2 = true
    · rw [if_pos hc3] at h
      obtain rfl := Option.some.inj h
      simp -implicitDefEqProofs only [go_sem, Nat.reduceAdd, Nat.reduceSub, Nat.reduceMul, Nat.reduceLT, Nat.reduceLeDiff, Nat.reduceEqDiff, Nat.reduceBEq, hc3, hBi0, hii0]
    · rw [if_neg hc3] at h
      replace hc3 := (Bool.not_eq_true _).mp hc3
      obtain rfl := Option.some.inj h
      simp -implicitDefEqProofs only [go_sem, Nat.reduceAdd, Nat.reduceSub, Nat.reduceMul, Nat.reduceLT, Nat.reduceLeDiff, Nat.reduceEqDiff, Nat.reduceBEq, hc3, hBi0, hii0]
  · rw [if_neg hc1] at h
    replace hc1 := (Bool.not_eq_true _).mp hc1
    by_cases hc4 : (p0.Kind == 24) = true
    · rw [if_pos hc4] at h
      simp -implicitDefEqProofs only [go_sem, Nat.reduceAdd, Nat.reduceSub, Nat.reduceMul, Nat.reduceLT, Nat.reduceLeDiff, Nat.reduceEqDiff, Nat.reduceBEq, hc1, hc4, hBi0, hii0]
      obtain ⟨r3, h5, h⟩ := bind_some h
      refine Vc.mono (brk_Parse_ok h5) ?_
      rintro _ _ rfl
      obtain rfl := Option.some.inj h
      simp -implicitDefEqProofs only [go_sem, Nat.reduceAdd, Nat.reduceSub, Nat.reduceMul, Nat.reduceLT, Nat.reduceLeDiff, Nat.reduceEqDiff, Nat.reduceBEq, hBi0, hii0]
    · rw [if_neg hc4] at h
      replace hc4 := (Bool.not_eq_true _).mp hc4
      by_cases hc6 : (p0.Kind == 25) = true
      · rw [if_pos hc6] at h
        simp -implicitDefEqProofs only [go_sem, Nat.reduceAdd, Nat.reduceSub, Nat.reduceMul, Nat.reduceLT, Nat.reduceLeDiff, Nat.reduceEqDiff, Nat.reduceBEq, hc1, hc4, hc6, hBi0, hii0]
        obtain ⟨r4, h7, h⟩ := bind_some h
        refine Vc.mono (expr_Read_ok h7) ?_
        rintro _ _ rfl
        obtain rfl := Option.some.inj h
        simp -implicitDefEqProofs only [go_sem, Nat.reduceAdd, Nat.reduceSub, Nat.reduceMul, Nat.reduceLT, Nat.reduceLeDiff, Nat.reduceEqDiff, Nat.reduceBEq, hBi0, hii0]
      · rw [if_neg hc6] at h
        replace hc6 := (Bool.not_eq_true _).mp hc6
        obtain rfl := Option.some.inj h
        simp -implicitDefEqProofs only [go_sem, Nat.reduceAdd, Nat.reduceSub, Nat.reduceMul, Nat.reduceLT, Nat.reduceLeDiff, Nat.reduceEqDiff, Nat.reduceBEq, hc1, hc4, hc6, hBi0, hii0]
theorem strings_Count_ok {a0 : List UInt8} {a1 : List UInt8} {r : Int} (h : strings_Count a0 a1 = some r) :
  Vc cfg 106 [.lit (.string (bs a0)), .lit (.string (bs a1))] [] fun v _ => v = .lit (.int .i64 r) :=
  Vc_ext (e := countX) rfl (countX_of h) rfl
theorem strings_Index_ok {a0 : List UInt8} {a1 : List UInt8} {r : Int} (h : strings_Index a0 a1 = some r) :
  Vc cfg 107 [.lit (.string (bs a0)), .lit (.string (bs a1))] [] fun v _ => v = .lit (.int .i64 r) := by
  refine Vc_of (fn := Tryz.f107) rfl Tryz.func107 rfl Tryz.ntmps107 Tryz.results107 (by kernel_rfl) ?_
  conv => arg 3; whnf
  unfold strings_Index at h
  simp -implicitDefEqProofs only [go_sem, Nat.reduceAdd, Nat.reduceSub, Nat.reduceMul, Nat.reduceLT, Nat.reduceLeDiff, Nat.reduceEqDiff, Nat.reduceBEq]
  obtain ⟨r2, h1, h⟩ := bind_some h
  refine Vc.mono (stringslite_Index_ok h1) ?_
  rintro _ _ rfl
  obtain rfl := Option.some.inj h
  simp -implicitDefEqProofs only [go_sem, Nat.reduceAdd, Nat.reduceSub, Nat.reduceMul, Nat.reduceLT, Nat.reduceLeDiff, Nat.reduceEqDiff, Nat.reduceBEq]
theorem strings_genSplit_ok {a0 : List UInt8} {a1 : List UInt8} {a2 : Int} {a3 : Int} {r : (List (List UInt8))} (h : strings_genSplit a0 a1 a2 a3 = some r) :
  Vc cfg 63 [.lit (.string (bs a0)), .lit (.string (bs a1)), .lit (.int .i64 a2), .lit (.int .i64 a3)] [] fun v _ => v = .sl .view (r.map En.str.enc) := by
  refine Vc_of (fn := Tryz.f63) rfl Tryz.func63 rfl Tryz.ntmps63 Tryz.results63 (by kernel_rfl) ?_
  conv => arg 3; whnf
  unfold strings_genSplit at h
  by_cases hc1 : (a3 == 0) = true
  · rw [if_pos hc1] at h
    obtain rfl := Option.some.inj h
    simp -implicitDefEqProofs only [go_sem, Nat.reduceAdd, Nat.reduceSub, Nat.reduceMul, Nat.reduceLT, Nat.reduceLeDiff, Nat.reduceEqDiff, Nat.reduceBEq, hc1]
  · rw [if_neg hc1] at h
    replace hc1 := (Bool.not_eq_true _).mp hc1
    by_cases hc2 : (a1 == []) = true
    · rw [if_pos hc2] at h
      cases h
    · rw [if_neg hc2] at h
      replace hc2 := (Bool.not_eq_true _).mp hc2
      simp -implicitDefEqProofs only [go_sem, Nat.reduceAdd, Nat.reduceSub, Nat.reduceMul, Nat.reduceLT, Nat.reduceLeDiff, Nat.reduceEqDiff, Nat.reduceBEq, hc1, hc2]
      obtain ⟨xx3, h5, hk6, hx4⟩ := jn_some h
      clear h
      refine seqK_join (x := xx3) (fun s4 => mkSl 66 [(0, .lit (.string (bs a0))), (1, .lit (.string (bs a1))), (2, .lit (.int .i64 a2)), (3, .lit (.int .i64 s4))]) (fun s4 => []) ?_ ?_
      · clear hk6
        unfold strings_genSplit_j0 at h5
        have h := h5
        clear h5
        by_cases hc7 : a3 < 0
        · rw [if_pos hc7] at h
          simp -implicitDefEqProofs only [go_sem, Nat.reduceAdd, Nat.reduceSub, Nat.reduceMul, Nat.reduceLT, Nat.reduceLeDiff, Nat.reduceEqDiff, Nat.reduceBEq, hc7]
          obtain ⟨r5, h8, h⟩ := bind_some h
          refine Vc.mono (strings_Count_ok h8) ?_
          rintro _ _ rfl
          obtain rfl := Option.some.inj h
          simp -implicitDefEqProofs only [go_sem, Nat.reduceAdd, Nat.reduceSub, Nat.reduceMul, Nat.reduceLT, Nat.reduceLeDiff, Nat.reduceEqDiff, Nat.reduceBEq]
          exact ⟨_, rfl, rfl⟩
        · rw [if_neg hc7] at h
          obtain rfl := Option.some.inj h
          simp -implicitDefEqProofs only [go_sem, Nat.reduceAdd, Nat.reduceSub, Nat.reduceMul, Nat.reduceLT, Nat.reduceLeDiff, Nat.reduceEqDiff, Nat.reduceBEq, hc7]
          exact ⟨_, rfl, rfl⟩
      · intro s4 hi9
        have h := hk6 _ hi9
        clear h5 hx4 hk6 hi9
        obtain ⟨z6, h10, h⟩ := bind_some h
        obtain ⟨⟨h10a, h10b, h10c⟩, h10e⟩ := mkA_some.1 h10
        have h10d := congrArg (List.map En.str.enc) h10e
        rw [List.map_replicate] at h10d
        try simp -implicitDefEqProofs only [go_sem, Nat.reduceAdd, Nat.reduceSub, Nat.reduceMul, Nat.reduceLT, Nat.reduceLeDiff, Nat.reduceEqDiff, Nat.reduceBEq, Int.toNat_natCast] at h10a h10b h10c h10d
        try replace h10d := h10d.symm
        simp -implicitDefEqProofs only [go_sem, Nat.reduceAdd, Nat.reduceSub, Nat.reduceMul, Nat.reduceLT, Nat.reduceLeDiff, Nat.reduceEqDiff, Nat.reduceBEq, h10a, h10b, h10c, h10d, Int.toNat_natCast, Nat.le_refl, mkSl]
        refine wpLoop_run' (step := strings_genSplit_l1_step a0 a1 a2 s4) (fun s7 => mkSl 66 [(0, .lit (.string (bs s7.1))), (1, .lit (.string (bs a1))), (2, .lit (.int .i64 a2)), (3, .lit (.int .i64 ((IntKind.i64.wrap ((if (IntKind.i64.wrap ((a0.length : Int) + 1)) < s4 then (IntKind.i64.wrap ((a0.length : Int) + 1)) else s4) - 1))))), (9, .mref 0 false 1 0 (((if (IntKind.i64.wrap ((a0.length : Int) + 1)) < s4 then (IntKind.i64.wrap ((a0.length : Int) + 1)) else s4)).toNat)), (10, .lit (.int .i64 s7.2.1))]) (fun s7 => [.var (s7.2.2.map En.str.enc)]) h (by kernel_rfl) (by first | rfl | simp -implicitDefEqProofs only [go_sem, Nat.reduceAdd, Nat.reduceSub, Nat.reduceMul, Nat.reduceLT, Nat.reduceLeDiff, Nat.reduceEqDiff, Nat.reduceBEq, mkSl, mkSl]) (by first | rfl | simp -implicitDefEqProofs only [go_sem, Nat.reduceAdd, Nat.reduceSub, Nat.reduceMul, Nat.reduceLT, Nat.reduceLeDiff, Nat.reduceEqDiff, Nat.reduceBEq, mkSl]) ?_
        clear h
        intro s7 xx11 h hx12
        unfold strings_genSplit_l1_step at h
        by_cases hc13 : s7.2.1 < (IntKind.i64.wrap ((if (IntKind.i64.wrap ((a0.length : Int) + 1)) < s4 then (IntKind.i64.wrap ((a0.length : Int) + 1)) else s4) - 1))
        · rw [if_pos hc13] at h
          simp -implicitDefEqProofs only [go_sem, Nat.reduceAdd, Nat.reduceSub, Nat.reduceMul, Nat.reduceLT, Nat.reduceLeDiff, Nat.reduceEqDiff, Nat.reduceBEq, hc13, mkSl]
          obtain ⟨r8, h14, h⟩ := bind_some h
          refine Vc.mono (strings_Index_ok h14) ?_
          rintro _ _ rfl
          by_cases hc15 : r8 < 0
          · rw [if_pos hc15] at h
            obtain ⟨j9, h16, h⟩ := bind_some h
            have h17 := vindexAddr_mref (P := Tryz.prog) (t := 30) (k := .i64) (id := 0) (ag := false) h16 (by simp -implicitDefEqProofs only [go_sem, Nat.reduceAdd, Nat.reduceSub, Nat.reduceMul, Nat.reduceLT, Nat.reduceLeDiff, Nat.reduceEqDiff, Nat.reduceBEq, Option.map_some])
            try simp -implicitDefEqProofs only [go_sem, Nat.reduceAdd, Nat.reduceSub, Nat.reduceMul, Nat.reduceLT, Nat.reduceLeDiff, Nat.reduceEqDiff, Nat.reduceBEq] at h17
            obtain ⟨w10, h18, h⟩ := bind_some h
            have h19 := splice_en En.str h18
            simp -implicitDefEqProofs only [go_sem, Nat.reduceAdd, Nat.reduceSub, Nat.reduceMul, Nat.reduceLT, Nat.reduceLeDiff, Nat.reduceEqDiff, Nat.reduceBEq] at h19
            have h18l : j9 + 1 ≤ s7.2.2.length := (setJ_some.1 h18).1
            obtain ⟨j11, h20, h⟩ := bind_some h
            have h21 := vslice_mref (P := Tryz.prog) (t := 30) (id := 0) (ag := false) (k := .i64) h20 (by simp -implicitDefEqProofs only [go_sem, Nat.reduceAdd, Nat.reduceSub, Nat.reduceMul, Nat.reduceLT, Nat.reduceLeDiff, Nat.reduceEqDiff, Nat.reduceBEq, Option.map_some])
            try simp -implicitDefEqProofs only [go_sem, Nat.reduceAdd, Nat.reduceSub, Nat.reduceMul, Nat.reduceLT, Nat.reduceLeDiff, Nat.reduceEqDiff, Nat.reduceBEq] at h21
            obtain ⟨z12, h22, h⟩ := bind_some h
            obtain rfl := Option.some.inj h
            obtain rfl := hx12 _ rfl
            simp -implicitDefEqProofs only [go_sem, Nat.reduceAdd, Nat.reduceSub, Nat.reduceMul, Nat.reduceLT, Nat.reduceLeDiff, Nat.reduceEqDiff, Nat.reduceBEq, hc15, h17, h19, h18l, h21, h22, mkSl]
          · rw [if_neg hc15] at h
            obtain ⟨m13, h23, h⟩ := bind_some h
            obtain ⟨j14, h24, h⟩ := bind_some h
            have h25 := vindexAddr_mref (P := Tryz.prog) (t := 30) (k := .i64) (id := 0) (ag := false) h24 (by simp -implicitDefEqProofs only [go_sem, Nat.reduceAdd, Nat.reduceSub, Nat.reduceMul, Nat.reduceLT, Nat.reduceLeDiff, Nat.reduceEqDiff, Nat.reduceBEq, Option.map_some])
            try simp -implicitDefEqProofs only [go_sem, Nat.reduceAdd, Nat.reduceSub, Nat.reduceMul, Nat.reduceLT, Nat.reduceLeDiff, Nat.reduceEqDiff, Nat.reduceBEq] at h25
            obtain ⟨w15, h26, h⟩ := bind_some h
            have h27 := splice_en En.str h26
            simp -implicitDefEqProofs only [go_sem, Nat.reduceAdd, Nat.reduceSub, Nat.reduceMul, Nat.reduceLT, Nat.reduceLeDiff, Nat.reduceEqDiff, Nat.reduceBEq] at h27
            have h26l : j14 + 1 ≤ s7.2.2.length := (setJ_some.1 h26).1
            obtain ⟨m16, h28, h⟩ := bind_some h
            obtain rfl := Option.some.inj h
            simp -implicitDefEqProofs only [go_sem, Nat.reduceAdd, Nat.reduceSub, Nat.reduceMul, Nat.reduceLT, Nat.reduceLeDiff, Nat.reduceEqDiff, Nat.reduceBEq, hc15, h23, h25, h27, h26l, h28, mkSl]
            exact ⟨_, rfl, rfl⟩
        · rw [if_neg hc13] at h
          obtain ⟨j17, h29, h⟩ := bind_some h
          have h30 := vindexAddr_mref (P := Tryz.prog) (t := 30) (k := .i64) (id := 0) (ag := false) h29 (by simp -implicitDefEqProofs only [go_sem, Nat.reduceAdd, Nat.reduceSub, Nat.reduceMul, Nat.reduceLT, Nat.reduceLeDiff, Nat.reduceEqDiff, Nat.reduceBEq, Option.map_some])
          try simp -implicitDefEqProofs only [go_sem, Nat.reduceAdd, Nat.reduceSub, Nat.reduceMul, Nat.reduceLT, Nat.reduceLeDiff, Nat.reduceEqDiff, Nat.reduceBEq] at h30
          obtain ⟨w18, h31, h⟩ := bind_some h
          have h32 := splice_en En.str h31
          simp -implicitDefEqProofs only [go_sem, Nat.reduceAdd, Nat.reduceSub, Nat.reduceMul, Nat.reduceLT, Nat.reduceLeDiff, Nat.reduceEqDiff, Nat.reduceBEq] at h32
          have h31l : j17 + 1 ≤ s7.2.2.length := (setJ_some.1 h31).1
          obtain ⟨j19, h33, h⟩ := bind_some h
          have h34 := vslice_mref (P := Tryz.prog) (t := 30) (id := 0) (ag := false) (k := .i64) h33 (by simp -implicitDefEqProofs only [go_sem, Nat.reduceAdd, Nat.reduceSub, Nat.reduceMul, Nat.reduceLT, Nat.reduceLeDiff, Nat.reduceEqDiff, Nat.reduceBEq, Option.map_some])
          try simp -implicitDefEqProofs only [go_sem, Nat.reduceAdd, Nat.reduceSub, Nat.reduceMul, Nat.reduceLT, Nat.reduceLeDiff, Nat.reduceEqDiff, Nat.reduceBEq] at h34
          obtain ⟨z20, h35, h⟩ := bind_some h
          obtain rfl := Option.some.inj h
          obtain rfl := hx12 _ rfl
          simp -implicitDefEqProofs only [go_sem, Nat.reduceAdd, Nat.reduceSub, Nat.reduceMul, Nat.reduceLT, Nat.reduceLeDiff, Nat.reduceEqDiff, Nat.reduceBEq, hc13, h30, h32, h31l, h34, h35, mkSl]
end Go.Proofs.YtilmjbljkkbakaaGreatDoor
