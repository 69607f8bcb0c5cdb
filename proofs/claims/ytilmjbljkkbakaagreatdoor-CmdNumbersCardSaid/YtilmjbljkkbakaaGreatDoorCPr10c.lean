/-
  A part of the proof: lemmas.
-/
import Derived.Test.YtilmjbljkkbakaaGreatDoorCFactsc
import Derived.Test.YtilmjbljkkbakaaGreatDoorCFunsc
import Derived.Test.YtilmjbljkkbakaaGreatDoorCPr0c
import Derived.Test.YtilmjbljkkbakaaGreatDoorCPr4c
import Derived.Test.YtilmjbljkkbakaaGreatDoorCPr6c
import Derived.Test.YtilmjbljkkbakaaGreatDoorCPr8c
import Derived.Test.YtilmjbljkkbakaaGreatDoorCPr9c
set_option linter.unusedSimpArgs false
set_option linter.unusedVariables false
set_option linter.unusedSectionVars false
set_option linter.unnecessarySimpa false
set_option linter.deprecated false
/-! The functions' proofs. -/
namespace Go.Proofs.YtilmjbljkkbakaaGreatDoor
open Go.Wv
set_option linter.unusedSimpArgs false
set_option linter.unusedVariables false
set_option maxRecDepth 10000
set_option maxHeartbeats 20000000
theorem cmd_Parse_ok {a0 : List UInt8} {r : CmdCommand × Int} (h : cmd_Parse a0 = some r) :
  Vc cfg 24 [.lit (.string (bs a0))] [] fun v _ => v = .tup [.agg [.lit (.int .i64 r.1.Kind), .sl .view (r.1.N.map (En.int .i64).enc), .lit (.string (bs r.1.Name)), .lit (.int .i64 r.1.Break.Kind), .lit (.string (bs r.1.Break.Name)), .lit (.int .i64 r.1.Break.N), .sl .view (r.1.Break.If.map ExprNode.en.enc), .lit (.bool r.1.Break.Off), .sl .view (r.1.Watch.map ExprNode.en.enc)], .lit (.int .i64 r.2)] := by
  refine Vc_of (fn := Tryz.f24) rfl Tryz.func24 rfl Tryz.ntmps24 Tryz.results24 (by kernel_rfl) ?_
  conv => arg 3; whnf
  unfold cmd_Parse at h
  simp -implicitDefEqProofs only [go_sem, Nat.reduceAdd, Nat.reduceSub, Nat.reduceMul, Nat.reduceLT, Nat.reduceLeDiff, Nat.reduceEqDiff, Nat.reduceBEq]
  obtain ⟨r1, h1, h⟩ := bind_some h
  refine Vc.mono (strings_Cut_ok h1) ?_
  rintro _ _ rfl
  simp -implicitDefEqProofs only [go_sem, Nat.reduceAdd, Nat.reduceSub, Nat.reduceMul, Nat.reduceLT, Nat.reduceLeDiff, Nat.reduceEqDiff, Nat.reduceBEq]
  obtain ⟨r2, h2, h⟩ := bind_some h
  refine Vc.mono (cmd_kindOf_ok h2) ?_
  rintro _ _ rfl
  by_cases hc3 : (r2 == 0) = true
  · rw [if_pos hc3] at h
    obtain rfl := Option.some.inj h
    simp -implicitDefEqProofs only [go_sem, Nat.reduceAdd, Nat.reduceSub, Nat.reduceMul, Nat.reduceLT, Nat.reduceLeDiff, Nat.reduceEqDiff, Nat.reduceBEq, hc3]
  · rw [if_neg hc3] at h
    replace hc3 := (Bool.not_eq_true _).mp hc3
    by_cases hc4 : 23 ≤ r2
    · rw [if_pos hc4] at h
      simp -implicitDefEqProofs only [go_sem, Nat.reduceAdd, Nat.reduceSub, Nat.reduceMul, Nat.reduceLT, Nat.reduceLeDiff, Nat.reduceEqDiff, Nat.reduceBEq, hc3, hc4]
      obtain ⟨r3, h5, h⟩ := bind_some h
      refine Vc.mono (cmd_Command_rest_ok h5 (by simp -implicitDefEqProofs only [go_sem, Nat.reduceAdd, Nat.reduceSub, Nat.reduceMul, Nat.reduceLT, Nat.reduceLeDiff, Nat.reduceEqDiff, Nat.reduceBEq])) ?_
      rintro _ _ ⟨rfl, rfl⟩
      by_cases hc6 : (r3.1 != 0) = true
      · rw [if_pos hc6] at h
        obtain rfl := Option.some.inj h
        simp -implicitDefEqProofs only [go_sem, Nat.reduceAdd, Nat.reduceSub, Nat.reduceMul, Nat.reduceLT, Nat.reduceLeDiff, Nat.reduceEqDiff, Nat.reduceBEq, hc6]
      · rw [if_neg hc6] at h
        replace hc6 := (Bool.not_eq_true _).mp hc6
        obtain rfl := Option.some.inj h
        simp -implicitDefEqProofs only [go_sem, Nat.reduceAdd, Nat.reduceSub, Nat.reduceMul, Nat.reduceLT, Nat.reduceLeDiff, Nat.reduceEqDiff, Nat.reduceBEq, hc6]
    · rw [if_neg hc4] at h
      simp -implicitDefEqProofs only [go_sem, Nat.reduceAdd, Nat.reduceSub, Nat.reduceMul, Nat.reduceLT, Nat.reduceLeDiff, Nat.reduceEqDiff, Nat.reduceBEq, hc3, hc4]
      obtain ⟨xx7, h9, hk10, hx8⟩ := jn_some h
      clear h
      refine seqK_join (x := xx7) (fun s4 => mkSl 52 [(2, .ptr 0 0), (7, .ptr 1 0), (9, .sl .view (s4.map En.str.enc))]) (fun s4 => [.var [.lit (.int .i64 0), .sl .view (([] : List Int).map (En.int .i64).enc), .lit (.string (bs [])), .lit (.int .i64 0), .lit (.string (bs [])), .lit (.int .i64 0), .sl .view (([] : List ExprNode).map ExprNode.en.enc), .lit (.bool false), .sl .view (([] : List ExprNode).map ExprNode.en.enc)], .var [.lit (.int .i64 r2), .sl .view (([] : List Int).map (En.int .i64).enc), .lit (.string (bs [])), .lit (.int .i64 0), .lit (.string (bs [])), .lit (.int .i64 0), .sl .view (([] : List ExprNode).map ExprNode.en.enc), .lit (.bool false), .sl .view (([] : List ExprNode).map ExprNode.en.enc)]]) ?_ ?_
      · clear hk10
        unfold cmd_Parse_j0 at h9
        have h := h9
        clear h9
        by_cases hc11 : r1.2.2 = true
        · rw [if_pos hc11] at h
          simp -implicitDefEqProofs only [go_sem, Nat.reduceAdd, Nat.reduceSub, Nat.reduceMul, Nat.reduceLT, Nat.reduceLeDiff, Nat.reduceEqDiff, Nat.reduceBEq, hc11]
          obtain ⟨r5, h12, h⟩ := bind_some h
          refine Vc.mono (strings_Split_ok h12) ?_
          rintro _ _ rfl
          obtain rfl := Option.some.inj h
          simp -implicitDefEqProofs only [go_sem, Nat.reduceAdd, Nat.reduceSub, Nat.reduceMul, Nat.reduceLT, Nat.reduceLeDiff, Nat.reduceEqDiff, Nat.reduceBEq]
          first | exact ⟨_, rfl, rfl⟩ | exact ⟨_, rfl, by simp only [hc11]⟩
        · rw [if_neg hc11] at h
          replace hc11 := (Bool.not_eq_true _).mp hc11
          obtain rfl := Option.some.inj h
          simp -implicitDefEqProofs only [go_sem, Nat.reduceAdd, Nat.reduceSub, Nat.reduceMul, Nat.reduceLT, Nat.reduceLeDiff, Nat.reduceEqDiff, Nat.reduceBEq, hc11]
          first | exact ⟨_, rfl, rfl⟩ | exact ⟨_, rfl, by simp only [hc11]⟩
      · intro s4 hi13
        have h := hk10 _ hi13
        clear h9 hx8 hk10 hi13
        simp -implicitDefEqProofs only [go_sem, Nat.reduceAdd, Nat.reduceSub, Nat.reduceMul, Nat.reduceLT, Nat.reduceLeDiff, Nat.reduceEqDiff, Nat.reduceBEq, mkSl]
        obtain ⟨r6, h14, h⟩ := bind_some h
        refine Vc.mono (cmd_numbers_ok h14) ?_
        rintro _ _ rfl
        by_cases hc15 : (r6.2 != 0) = true
        · rw [if_pos hc15] at h
          obtain rfl := Option.some.inj h
          simp -implicitDefEqProofs only [go_sem, Nat.reduceAdd, Nat.reduceSub, Nat.reduceMul, Nat.reduceLT, Nat.reduceLeDiff, Nat.reduceEqDiff, Nat.reduceBEq, hc15, mkSl]
        · rw [if_neg hc15] at h
          replace hc15 := (Bool.not_eq_true _).mp hc15
          obtain rfl := Option.some.inj h
          simp -implicitDefEqProofs only [go_sem, Nat.reduceAdd, Nat.reduceSub, Nat.reduceMul, Nat.reduceLT, Nat.reduceLeDiff, Nat.reduceEqDiff, Nat.reduceBEq, hc15, mkSl]
theorem strconv_Itoa_ok {a0 : Int} {r : (List UInt8)} (h : strconv_Itoa a0 = some r) :
  Vc cfg 73 [.lit (.int .i64 a0)] [] fun v _ => v = .lit (.string (bs r)) :=
  Vc_ext (e := itoaX) rfl (itoaX_of h) rfl
theorem strings_Join_ok {a0 : List (List UInt8)} {a1 : List UInt8} {r : (List UInt8)} (h : strings_Join a0 a1 = some r) :
  Vc cfg 76 [.sl .view (a0.map En.str.enc), .lit (.string (bs a1))] [] fun v _ => v = .lit (.string (bs r)) :=
  Vc_ext (e := joinX) rfl (joinX_of h) rfl
theorem expr_tight_ok {a0 : Int} {r : Int} (h : expr_tight a0 = some r) :
  Vc cfg 140 [.lit (.int .i64 a0)] [] fun v _ => v = .lit (.int .i64 r) := by
  refine Vc_of (fn := Tryz.f140) rfl Tryz.func140 rfl Tryz.ntmps140 Tryz.results140 (by kernel_rfl) ?_
  conv => arg 3; whnf
  unfold expr_tight at h
  simp -implicitDefEqProofs only [go_sem, Nat.reduceAdd, Nat.reduceSub, Nat.reduceMul, Nat.reduceLT, Nat.reduceLeDiff, Nat.reduceEqDiff, Nat.reduceBEq]
  obtain ⟨r1, h1, h⟩ := bind_some h
  refine Vc.mono (expr_one_ok h1) ?_
  rintro _ _ rfl
  by_cases hc2 : r1 = true
  · rw [if_pos hc2] at h
    simp -implicitDefEqProofs only [go_sem, Nat.reduceAdd, Nat.reduceSub, Nat.reduceMul, Nat.reduceLT, Nat.reduceLeDiff, Nat.reduceEqDiff, Nat.reduceBEq, hc2]
    obtain ⟨r2, h3, h⟩ := bind_some h
    refine Vc.mono (expr_levels_ok h3) ?_
    rintro _ _ rfl
    obtain rfl := Option.some.inj h
    simp -implicitDefEqProofs only [go_sem, Nat.reduceAdd, Nat.reduceSub, Nat.reduceMul, Nat.reduceLT, Nat.reduceLeDiff, Nat.reduceEqDiff, Nat.reduceBEq]
  · rw [if_neg hc2] at h
    replace hc2 := (Bool.not_eq_true _).mp hc2
    simp -implicitDefEqProofs only [go_sem, Nat.reduceAdd, Nat.reduceSub, Nat.reduceMul, Nat.reduceLT, Nat.reduceLeDiff, Nat.reduceEqDiff, Nat.reduceBEq, hc2]
    obtain ⟨xx4, h6, hk7, hx5⟩ := jn_some h
    clear h
    refine seqK_join (x := xx4) (fun s3 => mkSl 34 []) (fun s3 => []) ?_ ?_
    · clear hk7
      unfold expr_tight_j0 at h6
      have h := h6
      clear h6
      simp -implicitDefEqProofs only [go_sem, Nat.reduceAdd, Nat.reduceSub, Nat.reduceMul, Nat.reduceLT, Nat.reduceLeDiff, Nat.reduceEqDiff, Nat.reduceBEq]
      obtain ⟨r4, h8, h⟩ := bind_some h
      refine Vc.mono (expr_levels_ok h8) ?_
      rintro _ _ rfl
      simp -implicitDefEqProofs only [go_sem, Nat.reduceAdd, Nat.reduceSub, Nat.reduceMul, Nat.reduceLT, Nat.reduceLeDiff, Nat.reduceEqDiff, Nat.reduceBEq]
      refine wpLoop_run' (step := expr_tight_l1_step a0 r4) (fun s5 => mkSl 34 [(0, .lit (.int .i64 a0)), (11, .sl .view (r4.map ExprLevel.en.enc)), (12, .lit (.int .i64 (r4.length : Int))), (13, .lit (.int .i64 s5))]) (fun s5 => []) h (by kernel_rfl) (by first | rfl | simp -implicitDefEqProofs only [go_sem, Nat.reduceAdd, Nat.reduceSub, Nat.reduceMul, Nat.reduceLT, Nat.reduceLeDiff, Nat.reduceEqDiff, Nat.reduceBEq, mkSl]) (by first | rfl | simp -implicitDefEqProofs only [go_sem, Nat.reduceAdd, Nat.reduceSub, Nat.reduceMul, Nat.reduceLT, Nat.reduceLeDiff, Nat.reduceEqDiff, Nat.reduceBEq]) ?_
      clear h
      intro s5 xx9 h hx10
      unfold expr_tight_l1_step at h
      by_cases hc11 : s5 < (r4.length : Int)
      · rw [if_pos hc11] at h
        obtain ⟨x6, h12, h⟩ := bind_some h
        simp -implicitDefEqProofs only [go_sem, Nat.reduceAdd, Nat.reduceSub, Nat.reduceMul, Nat.reduceLT, Nat.reduceLeDiff, Nat.reduceEqDiff, Nat.reduceBEq, hc11, h12, mkSl]
        refine wpLoop_run' (step := expr_tight_l2_step a0 s5 x6) (fun s7 => mkSl 34 [(0, .lit (.int .i64 a0)), (3, .lit (.int .i64 s5)), (11, .sl .view (r4.map ExprLevel.en.enc)), (12, .lit (.int .i64 (r4.length : Int))), (13, .lit (.int .i64 s5)), (19, .sl .view (x6.ops.map (En.int .i64).enc)), (20, .lit (.int .i64 (x6.ops.length : Int))), (21, .lit (.int .i64 s7))]) (fun s7 => [.var [.sl .view (x6.signs.map En.str.enc), .sl .view (x6.ops.map (En.int .i64).enc), .lit (.bool x6.once)]]) h (by kernel_rfl) (by first | rfl | simp -implicitDefEqProofs only [go_sem, Nat.reduceAdd, Nat.reduceSub, Nat.reduceMul, Nat.reduceLT, Nat.reduceLeDiff, Nat.reduceEqDiff, Nat.reduceBEq, mkSl, mkSl]) (by first | rfl | simp -implicitDefEqProofs only [go_sem, Nat.reduceAdd, Nat.reduceSub, Nat.reduceMul, Nat.reduceLT, Nat.reduceLeDiff, Nat.reduceEqDiff, Nat.reduceBEq, mkSl]) ?_
        clear h
        intro s7 xx13 h hx14
        unfold expr_tight_l2_step at h
        by_cases hc15 : s7 < (x6.ops.length : Int)
        · rw [if_pos hc15] at h
          obtain ⟨x8, h16, h⟩ := bind_some h
          by_cases hc17 : (x8 == a0) = true
          · rw [if_pos hc17] at h
            obtain rfl := Option.some.inj h
            obtain rfl := hx14 _ rfl
            obtain rfl := hx10 _ rfl
            obtain rfl := hx5 _ rfl
            simp -implicitDefEqProofs only [go_sem, Nat.reduceAdd, Nat.reduceSub, Nat.reduceMul, Nat.reduceLT, Nat.reduceLeDiff, Nat.reduceEqDiff, Nat.reduceBEq, hc15, h16, hc17, mkSl]
          · rw [if_neg hc17] at h
            replace hc17 := (Bool.not_eq_true _).mp hc17
            obtain rfl := Option.some.inj h
            simp -implicitDefEqProofs only [go_sem, Nat.reduceAdd, Nat.reduceSub, Nat.reduceMul, Nat.reduceLT, Nat.reduceLeDiff, Nat.reduceEqDiff, Nat.reduceBEq, hc15, h16, hc17, mkSl]
            exact ⟨_, rfl, rfl⟩
        · rw [if_neg hc15] at h
          obtain rfl := Option.some.inj h
          obtain rfl := hx14 _ rfl
          simp -implicitDefEqProofs only [go_sem, Nat.reduceAdd, Nat.reduceSub, Nat.reduceMul, Nat.reduceLT, Nat.reduceLeDiff, Nat.reduceEqDiff, Nat.reduceBEq, hc15, mkSl]
          exact ⟨_, rfl, rfl⟩
      · rw [if_neg hc11] at h
        obtain rfl := Option.some.inj h
        obtain rfl := hx10 _ rfl
        simp -implicitDefEqProofs only [go_sem, Nat.reduceAdd, Nat.reduceSub, Nat.reduceMul, Nat.reduceLT, Nat.reduceLeDiff, Nat.reduceEqDiff, Nat.reduceBEq, hc11, mkSl]
        all_goals first | exact ⟨_, rfl, rfl⟩ | trivial | exact ⟨(), trivial⟩
    · intro s3 hi18
      have h := hk7 _ hi18
      clear h6 hx5 hk7 hi18
      simp -implicitDefEqProofs only [go_sem, Nat.reduceAdd, Nat.reduceSub, Nat.reduceMul, Nat.reduceLT, Nat.reduceLeDiff, Nat.reduceEqDiff, Nat.reduceBEq, mkSl]
      obtain ⟨r9, h19, h⟩ := bind_some h
      refine Vc.mono (expr_levels_ok h19) ?_
      rintro _ _ rfl
      obtain rfl := Option.some.inj h
      simp -implicitDefEqProofs only [go_sem, Nat.reduceAdd, Nat.reduceSub, Nat.reduceMul, Nat.reduceLT, Nat.reduceLeDiff, Nat.reduceEqDiff, Nat.reduceBEq, mkSl]
theorem internal_strconv_small_ok {a0 : Int} {r : (List UInt8)} (h : internal_strconv_small a0 = some r) :
  Vc cfg 149 [.lit (.int .i64 a0)] [] fun v _ => v = .lit (.string (bs r)) := by
  refine Vc_of (fn := Tryz.f149) rfl Tryz.func149 rfl Tryz.ntmps149 Tryz.results149 (by kernel_rfl) ?_
  conv => arg 3; whnf
  unfold internal_strconv_small at h
  by_cases hc1 : a0 < 10
  · rw [if_pos hc1] at h
    obtain ⟨m1, h2, h⟩ := bind_some h
    obtain rfl := Option.some.inj h
    simp -implicitDefEqProofs only [go_sem, Nat.reduceAdd, Nat.reduceSub, Nat.reduceMul, Nat.reduceLT, Nat.reduceLeDiff, Nat.reduceEqDiff, Nat.reduceBEq, hc1, h2]
  · rw [if_neg hc1] at h
    obtain ⟨m2, h3, h⟩ := bind_some h
    obtain rfl := Option.some.inj h
    simp -implicitDefEqProofs only [go_sem, Nat.reduceAdd, Nat.reduceSub, Nat.reduceMul, Nat.reduceLT, Nat.reduceLeDiff, Nat.reduceEqDiff, Nat.reduceBEq, hc1, h3]
theorem internal_strconv_FormatInt_ok {a0 : Int} {a1 : Int} {r : (List UInt8)} (h : internal_strconv_FormatInt a0 a1 = some r) :
  Vc cfg 123 [.lit (.int .i64 a0), .lit (.int .i64 a1)] [] fun v _ => v = .lit (.string (bs r)) := by
  refine Vc_of (fn := Tryz.f123) rfl Tryz.func123 rfl Tryz.ntmps123 Tryz.results123 (by kernel_rfl) ?_
  conv => arg 3; whnf
  unfold internal_strconv_FormatInt at h
  by_cases hc1 : (a1 == 10) = true
  · rw [if_pos hc1] at h
    by_cases hc2 : 0 ≤ a0
    · rw [if_pos hc2] at h
      by_cases hc3 : a0 < 100
      · rw [if_pos hc3] at h
        simp -implicitDefEqProofs only [go_sem, Nat.reduceAdd, Nat.reduceSub, Nat.reduceMul, Nat.reduceLT, Nat.reduceLeDiff, Nat.reduceEqDiff, Nat.reduceBEq, hc1, hc2, hc3]
        obtain ⟨r2, h4, h⟩ := bind_some h
        refine Vc.mono (internal_strconv_small_ok h4) ?_
        rintro _ _ rfl
        obtain rfl := Option.some.inj h
        simp -implicitDefEqProofs only [go_sem, Nat.reduceAdd, Nat.reduceSub, Nat.reduceMul, Nat.reduceLT, Nat.reduceLeDiff, Nat.reduceEqDiff, Nat.reduceBEq]
      · rw [if_neg hc3] at h
        simp -implicitDefEqProofs only [go_sem, Nat.reduceAdd, Nat.reduceSub, Nat.reduceMul, Nat.reduceLT, Nat.reduceLeDiff, Nat.reduceEqDiff, Nat.reduceBEq, hc1, hc2, hc3]
        obtain ⟨xx5, h7, hk8, hx6⟩ := jn_some h
        clear h
        refine seqK_join (x := xx5) (fun s3 => mkSl 54 [(0, .lit (.int .i64 a0)), (5, .ptr 0 0), (6, .lit (.int .u64 s3))]) (fun s3 => [.var [.lit (.int .u8 0), .lit (.int .u8 0), .lit (.int .u8 0), .lit (.int .u8 0), .lit (.int .u8 0), .lit (.int .u8 0), .lit (.int .u8 0), .lit (.int .u8 0), .lit (.int .u8 0), .lit (.int .u8 0), .lit (.int .u8 0), .lit (.int .u8 0), .lit (.int .u8 0), .lit (.int .u8 0), .lit (.int .u8 0), .lit (.int .u8 0), .lit (.int .u8 0), .lit (.int .u8 0), .lit (.int .u8 0), .lit (.int .u8 0), .lit (.int .u8 0), .lit (.int .u8 0), .lit (.int .u8 0), .lit (.int .u8 0)]]) ?_ ?_
        · clear hk8
          unfold internal_strconv_FormatInt_j0 at h7
          have h := h7
          clear h7
          by_cases hc9 : a0 < 0
          · rw [if_pos hc9] at h
            obtain rfl := Option.some.inj h
            simp -implicitDefEqProofs only [go_sem, Nat.reduceAdd, Nat.reduceSub, Nat.reduceMul, Nat.reduceLT, Nat.reduceLeDiff, Nat.reduceEqDiff, Nat.reduceBEq, hc9]
            exact ⟨_, rfl, rfl⟩
          · rw [if_neg hc9] at h
            obtain rfl := Option.some.inj h
            simp -implicitDefEqProofs only [go_sem, Nat.reduceAdd, Nat.reduceSub, Nat.reduceMul, Nat.reduceLT, Nat.reduceLeDiff, Nat.reduceEqDiff, Nat.reduceBEq, hc9]
            exact ⟨_, rfl, rfl⟩
        · intro s3 hi10
          have h := hk8 _ hi10
          clear h7 hx6 hk8 hi10
          cases h
    · rw [if_neg hc2] at h
      simp -implicitDefEqProofs only [go_sem, Nat.reduceAdd, Nat.reduceSub, Nat.reduceMul, Nat.reduceLT, Nat.reduceLeDiff, Nat.reduceEqDiff, Nat.reduceBEq, hc1, hc2]
      obtain ⟨xx11, h13, hk14, hx12⟩ := jn_some h
      clear h
      refine seqK_join (x := xx11) (fun s4 => mkSl 54 [(0, .lit (.int .i64 a0)), (5, .ptr 0 0), (6, .lit (.int .u64 s4))]) (fun s4 => [.var [.lit (.int .u8 0), .lit (.int .u8 0), .lit (.int .u8 0), .lit (.int .u8 0), .lit (.int .u8 0), .lit (.int .u8 0), .lit (.int .u8 0), .lit (.int .u8 0), .lit (.int .u8 0), .lit (.int .u8 0), .lit (.int .u8 0), .lit (.int .u8 0), .lit (.int .u8 0), .lit (.int .u8 0), .lit (.int .u8 0), .lit (.int .u8 0), .lit (.int .u8 0), .lit (.int .u8 0), .lit (.int .u8 0), .lit (.int .u8 0), .lit (.int .u8 0), .lit (.int .u8 0), .lit (.int .u8 0), .lit (.int .u8 0)]]) ?_ ?_
      · clear hk14
        unfold internal_strconv_FormatInt_j1 at h13
        have h := h13
        clear h13
        by_cases hc15 : a0 < 0
        · rw [if_pos hc15] at h
          obtain rfl := Option.some.inj h
          simp -implicitDefEqProofs only [go_sem, Nat.reduceAdd, Nat.reduceSub, Nat.reduceMul, Nat.reduceLT, Nat.reduceLeDiff, Nat.reduceEqDiff, Nat.reduceBEq, hc15]
          exact ⟨_, rfl, rfl⟩
        · rw [if_neg hc15] at h
          obtain rfl := Option.some.inj h
          simp -implicitDefEqProofs only [go_sem, Nat.reduceAdd, Nat.reduceSub, Nat.reduceMul, Nat.reduceLT, Nat.reduceLeDiff, Nat.reduceEqDiff, Nat.reduceBEq, hc15]
          exact ⟨_, rfl, rfl⟩
      · intro s4 hi16
        have h := hk14 _ hi16
        clear h13 hx12 hk14 hi16
        cases h
  · rw [if_neg hc1] at h
    replace hc1 := (Bool.not_eq_true _).mp hc1
    cases h
end Go.Proofs.YtilmjbljkkbakaaGreatDoor
