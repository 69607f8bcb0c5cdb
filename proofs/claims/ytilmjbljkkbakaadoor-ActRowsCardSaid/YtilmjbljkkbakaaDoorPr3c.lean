/-
  A part of the proof: lemmas.
-/
import Derived.Test.YtilmjbljkkbakaaDoorFactsc
import Derived.Test.YtilmjbljkkbakaaDoorFunsc
import Derived.Test.YtilmjbljkkbakaaDoorPr1c
import Derived.Test.YtilmjbljkkbakaaDoorPr2c
set_option linter.unusedSimpArgs false
set_option linter.unusedVariables false
set_option linter.unusedSectionVars false
set_option linter.unnecessarySimpa false
set_option linter.deprecated false
/-! The functions' proofs. -/
namespace Go.Proofs.YtilmjbljkkbakaaDoor
open Go.Wv
set_option linter.unusedSimpArgs false
set_option linter.unusedVariables false
set_option maxRecDepth 10000
set_option maxHeartbeats 20000000
theorem act_Take_ok {a0 : List TokToken} {a1 : Int} {r : (List ActAct) × Int × Int} (h : act_Take a0 a1 = some r) :
  Vc cfg 11 [.sl .view (a0.map TokToken.en.enc), .lit (.int .i64 a1)] [] fun v _ => v = .tup [.sl .view (r.1.map ActAct.en.enc), .lit (.int .i64 r.2.1), .lit (.int .i64 r.2.2)] := by
  refine Vc_of (fn := Tryd.f11) rfl Tryd.func11 rfl Tryd.ntmps11 Tryd.results11 (by kernel_rfl) ?_
  conv => arg 3; whnf
  unfold act_Take at h
  by_cases hc1 : a1 < 0
  · rw [if_pos hc1] at h
    obtain rfl := Option.some.inj h
    simp -implicitDefEqProofs only [go_sem, Nat.reduceAdd, Nat.reduceSub, Nat.reduceMul, Nat.reduceLT, Nat.reduceLeDiff, Nat.reduceEqDiff, Nat.reduceBEq, hc1]
  · rw [if_neg hc1] at h
    by_cases hc2 : (a0.length : Int) < a1
    · rw [if_pos hc2] at h
      obtain rfl := Option.some.inj h
      simp -implicitDefEqProofs only [go_sem, Nat.reduceAdd, Nat.reduceSub, Nat.reduceMul, Nat.reduceLT, Nat.reduceLeDiff, Nat.reduceEqDiff, Nat.reduceBEq, hc1, hc2]
    · rw [if_neg hc2] at h
      simp -implicitDefEqProofs only [go_sem, Nat.reduceAdd, Nat.reduceSub, Nat.reduceMul, Nat.reduceLT, Nat.reduceLeDiff, Nat.reduceEqDiff, Nat.reduceBEq, hc1, hc2]
      refine wpLoop_run' (step := act_Take_l0_step) (fun s2 => mkSl 49 [(7, .ptr 0 0), (8, .sl .own (s2.1.map ActAct.en.enc)), (9, .lit (.bool s2.2.1))]) (fun s2 => [.var [.sl .view (s2.2.2.1.map TokToken.en.enc), .lit (.int .i64 s2.2.2.2.1), .lit (.int .i64 s2.2.2.2.2)]]) h (by kernel_rfl) (by first | rfl | simp -implicitDefEqProofs only [go_sem, Nat.reduceAdd, Nat.reduceSub, Nat.reduceMul, Nat.reduceLT, Nat.reduceLeDiff, Nat.reduceEqDiff, Nat.reduceBEq, mkSl]) (by first | rfl | simp -implicitDefEqProofs only [go_sem, Nat.reduceAdd, Nat.reduceSub, Nat.reduceMul, Nat.reduceLT, Nat.reduceLeDiff, Nat.reduceEqDiff, Nat.reduceBEq]) ?_
      clear h
      intro s2 xx3 h hx4
      unfold act_Take_l0_step at h
      by_cases hc5 : s2.2.1 = true
      · rw [if_pos hc5] at h
        by_cases hc6 : ((s2.1.length : Int) == 8) = true
        · rw [if_pos hc6] at h
          obtain rfl := Option.some.inj h
          obtain rfl := hx4 _ rfl
          simp -implicitDefEqProofs only [go_sem, Nat.reduceAdd, Nat.reduceSub, Nat.reduceMul, Nat.reduceLT, Nat.reduceLeDiff, Nat.reduceEqDiff, Nat.reduceBEq, hc5, hc6, mkSl]
        · rw [if_neg hc6] at h
          replace hc6 := (Bool.not_eq_true _).mp hc6
          simp -implicitDefEqProofs only [go_sem, Nat.reduceAdd, Nat.reduceSub, Nat.reduceMul, Nat.reduceLT, Nat.reduceLeDiff, Nat.reduceEqDiff, Nat.reduceBEq, hc5, hc6, mkSl]
          obtain ⟨r3, h7, h⟩ := bind_some h
          refine Vc.mono (act_reader_act_ok h7 (by simp -implicitDefEqProofs only [go_sem, Nat.reduceAdd, Nat.reduceSub, Nat.reduceMul, Nat.reduceLT, Nat.reduceLeDiff, Nat.reduceEqDiff, Nat.reduceBEq, mkSl])) ?_
          rintro _ _ ⟨rfl, rfl⟩
          by_cases hc8 : (r3.2.e != 0) = true
          · rw [if_pos hc8] at h
            obtain rfl := Option.some.inj h
            obtain rfl := hx4 _ rfl
            simp -implicitDefEqProofs only [go_sem, Nat.reduceAdd, Nat.reduceSub, Nat.reduceMul, Nat.reduceLT, Nat.reduceLeDiff, Nat.reduceEqDiff, Nat.reduceBEq, hc8, mkSl]
          · rw [if_neg hc8] at h
            replace hc8 := (Bool.not_eq_true _).mp hc8
            obtain ⟨l4, h9, h⟩ := bind_some h
            have h10 := vappend_en ActAct.en (P := Tryd.prog) (t := 35) (f := .own) h9 (by simp -implicitDefEqProofs only [go_sem, Nat.reduceAdd, Nat.reduceSub, Nat.reduceMul, Nat.reduceLT, Nat.reduceLeDiff, Nat.reduceEqDiff, Nat.reduceBEq, Option.map_some])
            simp -implicitDefEqProofs only [go_sem, Nat.reduceAdd, Nat.reduceSub, Nat.reduceMul, Nat.reduceLT, Nat.reduceLeDiff, Nat.reduceEqDiff, Nat.reduceBEq] at h10
            simp -implicitDefEqProofs only [go_sem, Nat.reduceAdd, Nat.reduceSub, Nat.reduceMul, Nat.reduceLT, Nat.reduceLeDiff, Nat.reduceEqDiff, Nat.reduceBEq, hc8, h10, mkSl]
            obtain ⟨r5, h11, h⟩ := bind_some h
            refine Vc.mono (act_reader_take_ok h11 (by simp -implicitDefEqProofs only [go_sem, Nat.reduceAdd, Nat.reduceSub, Nat.reduceMul, Nat.reduceLT, Nat.reduceLeDiff, Nat.reduceEqDiff, Nat.reduceBEq, mkSl])) ?_
            rintro _ _ ⟨rfl, rfl⟩
            obtain rfl := Option.some.inj h
            simp -implicitDefEqProofs only [go_sem, Nat.reduceAdd, Nat.reduceSub, Nat.reduceMul, Nat.reduceLT, Nat.reduceLeDiff, Nat.reduceEqDiff, Nat.reduceBEq, mkSl]
            exact ⟨_, rfl, rfl⟩
      · rw [if_neg hc5] at h
        replace hc5 := (Bool.not_eq_true _).mp hc5
        obtain rfl := Option.some.inj h
        obtain rfl := hx4 _ rfl
        simp -implicitDefEqProofs only [go_sem, Nat.reduceAdd, Nat.reduceSub, Nat.reduceMul, Nat.reduceLT, Nat.reduceLeDiff, Nat.reduceEqDiff, Nat.reduceBEq, hc5, mkSl]
theorem expr_tight_ok {a0 : Int} {r : Int} (h : expr_tight a0 = some r) :
  Vc cfg 52 [.lit (.int .i64 a0)] [] fun v _ => v = .lit (.int .i64 r) := by
  refine Vc_of (fn := Tryd.f52) rfl Tryd.func52 rfl Tryd.ntmps52 Tryd.results52 (by kernel_rfl) ?_
  conv => arg 3; whnf
  unfold expr_tight at h
  simp -implicitDefEqProofs only [go_sem, Nat.reduceAdd, Nat.reduceSub, Nat.reduceMul, Nat.reduceLT, Nat.reduceLeDiff, Nat.reduceEqDiff, Nat.reduceBEq]
  obtain ⟨r1, h1, h⟩ := bind_some h
  refine Vc.mono (expr_one_ok h1) ?_
  rintro _ _ rfl
  by_cases hc2 : r1 = true
  · rw [if_pos hc2] at h
    simp -implicitDefEqProofs only [go_sem, Nat.reduceAdd, Nat.reduceSub, Nat.reduceMul, Nat.reduceLT, Nat.reduceLeDiff, Nat.reduceEqDiff, Nat.reduceBEq, hc2]
    obtain ⟨r2, h3, h⟩ := bind_some h
    refine Vc.mono (expr_levels_ok h3) ?_
    rintro _ _ rfl
    obtain rfl := Option.some.inj h
    simp -implicitDefEqProofs only [go_sem, Nat.reduceAdd, Nat.reduceSub, Nat.reduceMul, Nat.reduceLT, Nat.reduceLeDiff, Nat.reduceEqDiff, Nat.reduceBEq]
  · rw [if_neg hc2] at h
    replace hc2 := (Bool.not_eq_true _).mp hc2
    simp -implicitDefEqProofs only [go_sem, Nat.reduceAdd, Nat.reduceSub, Nat.reduceMul, Nat.reduceLT, Nat.reduceLeDiff, Nat.reduceEqDiff, Nat.reduceBEq, hc2]
    obtain ⟨xx4, h6, hk7, hx5⟩ := jn_some h
    clear h
    refine seqK_join (x := xx4) (fun s3 => mkSl 34 []) (fun s3 => []) ?_ ?_
    · clear hk7
      unfold expr_tight_j0 at h6
      have h := h6
      clear h6
      simp -implicitDefEqProofs only [go_sem, Nat.reduceAdd, Nat.reduceSub, Nat.reduceMul, Nat.reduceLT, Nat.reduceLeDiff, Nat.reduceEqDiff, Nat.reduceBEq]
      obtain ⟨r4, h8, h⟩ := bind_some h
      refine Vc.mono (expr_levels_ok h8) ?_
      rintro _ _ rfl
      simp -implicitDefEqProofs only [go_sem, Nat.reduceAdd, Nat.reduceSub, Nat.reduceMul, Nat.reduceLT, Nat.reduceLeDiff, Nat.reduceEqDiff, Nat.reduceBEq]
      refine wpLoop_run' (step := expr_tight_l1_step a0 r4) (fun s5 => mkSl 34 [(0, .lit (.int .i64 a0)), (11, .sl .view (r4.map ExprLevel.en.enc)), (12, .lit (.int .i64 (r4.length : Int))), (13, .lit (.int .i64 s5))]) (fun s5 => []) h (by kernel_rfl) (by first | rfl | simp -implicitDefEqProofs only [go_sem, Nat.reduceAdd, Nat.reduceSub, Nat.reduceMul, Nat.reduceLT, Nat.reduceLeDiff, Nat.reduceEqDiff, Nat.reduceBEq, mkSl]) (by first | rfl | simp -implicitDefEqProofs only [go_sem, Nat.reduceAdd, Nat.reduceSub, Nat.reduceMul, Nat.reduceLT, Nat.reduceLeDiff, Nat.reduceEqDiff, Nat.reduceBEq]) ?_
      clear h
      intro s5 xx9 h hx10
      unfold expr_tight_l1_step at h
      by_cases hc11 : s5 < (r4.length : Int)
      · rw [if_pos hc11] at h
        obtain ⟨x6, h12, h⟩ := bind_some h
        simp -implicitDefEqProofs only [go_sem, Nat.reduceAdd, Nat.reduceSub, Nat.reduceMul, Nat.reduceLT, Nat.reduceLeDiff, Nat.reduceEqDiff, Nat.reduceBEq, hc11, h12, mkSl]
        refine wpLoop_run' (step := expr_tight_l2_step a0 s5 x6) (fun s7 => mkSl 34 [(0, .lit (.int .i64 a0)), (3, .lit (.int .i64 s5)), (11, .sl .view (r4.map ExprLevel.en.enc)), (12, .lit (.int .i64 (r4.length : Int))), (13, .lit (.int .i64 s5)), (19, .sl .view (x6.ops.map (En.int .i64).enc)), (20, .lit (.int .i64 (x6.ops.length : Int))), (21, .lit (.int .i64 s7))]) (fun s7 => [.var [.sl .view (x6.signs.map En.str.enc), .sl .view (x6.ops.map (En.int .i64).enc), .lit (.bool x6.once)]]) h (by kernel_rfl) (by first | rfl | simp -implicitDefEqProofs only [go_sem, Nat.reduceAdd, Nat.reduceSub, Nat.reduceMul, Nat.reduceLT, Nat.reduceLeDiff, Nat.reduceEqDiff, Nat.reduceBEq, mkSl, mkSl]) (by first | rfl | simp -implicitDefEqProofs only [go_sem, Nat.reduceAdd, Nat.reduceSub, Nat.reduceMul, Nat.reduceLT, Nat.reduceLeDiff, Nat.reduceEqDiff, Nat.reduceBEq, mkSl]) ?_
        clear h
        intro s7 xx13 h hx14
        unfold expr_tight_l2_step at h
        by_cases hc15 : s7 < (x6.ops.length : Int)
        · rw [if_pos hc15] at h
          obtain ⟨x8, h16, h⟩ := bind_some h
          by_cases hc17 : (x8 == a0) = true
          · rw [if_pos hc17] at h
            obtain rfl := Option.some.inj h
            obtain rfl := hx14 _ rfl
            obtain rfl := hx10 _ rfl
            obtain rfl := hx5 _ rfl
            simp -implicitDefEqProofs only [go_sem, Nat.reduceAdd, Nat.reduceSub, Nat.reduceMul, Nat.reduceLT, Nat.reduceLeDiff, Nat.reduceEqDiff, Nat.reduceBEq, hc15, h16, hc17, mkSl]
          · rw [if_neg hc17] at h
            replace hc17 := (Bool.not_eq_true _).mp hc17
            obtain rfl := Option.some.inj h
            simp -implicitDefEqProofs only [go_sem, Nat.reduceAdd, Nat.reduceSub, Nat.reduceMul, Nat.reduceLT, Nat.reduceLeDiff, Nat.reduceEqDiff, Nat.reduceBEq, hc15, h16, hc17, mkSl]
            exact ⟨_, rfl, rfl⟩
        · rw [if_neg hc15] at h
          obtain rfl := Option.some.inj h
          obtain rfl := hx14 _ rfl
          simp -implicitDefEqProofs only [go_sem, Nat.reduceAdd, Nat.reduceSub, Nat.reduceMul, Nat.reduceLT, Nat.reduceLeDiff, Nat.reduceEqDiff, Nat.reduceBEq, hc15, mkSl]
          exact ⟨_, rfl, rfl⟩
      · rw [if_neg hc11] at h
        obtain rfl := Option.some.inj h
        obtain rfl := hx10 _ rfl
        simp -implicitDefEqProofs only [go_sem, Nat.reduceAdd, Nat.reduceSub, Nat.reduceMul, Nat.reduceLT, Nat.reduceLeDiff, Nat.reduceEqDiff, Nat.reduceBEq, hc11, mkSl]
        all_goals first | exact ⟨_, rfl, rfl⟩ | trivial | exact ⟨(), trivial⟩
    · intro s3 hi18
      have h := hk7 _ hi18
      clear h6 hx5 hk7 hi18
      simp -implicitDefEqProofs only [go_sem, Nat.reduceAdd, Nat.reduceSub, Nat.reduceMul, Nat.reduceLT, Nat.reduceLeDiff, Nat.reduceEqDiff, Nat.reduceBEq, mkSl]
      obtain ⟨r9, h19, h⟩ := bind_some h
      refine Vc.mono (expr_levels_ok h19) ?_
      rintro _ _ rfl
      obtain rfl := Option.some.inj h
      simp -implicitDefEqProofs only [go_sem, Nat.reduceAdd, Nat.reduceSub, Nat.reduceMul, Nat.reduceLT, Nat.reduceLeDiff, Nat.reduceEqDiff, Nat.reduceBEq, mkSl]
theorem internal_strconv_small_ok {a0 : Int} {r : (List UInt8)} (h : internal_strconv_small a0 = some r) :
  Vc cfg 83 [.lit (.int .i64 a0)] [] fun v _ => v = .lit (.string (bs r)) := by
  refine Vc_of (fn := Tryd.f83) rfl Tryd.func83 rfl Tryd.ntmps83 Tryd.results83 (by kernel_rfl) ?_
  conv => arg 3; whnf
  unfold internal_strconv_small at h
  by_cases hc1 : a0 < 10
  · rw [if_pos hc1] at h
    obtain ⟨m1, h2, h⟩ := bind_some h
    obtain rfl := Option.some.inj h
    simp -implicitDefEqProofs only [go_sem, Nat.reduceAdd, Nat.reduceSub, Nat.reduceMul, Nat.reduceLT, Nat.reduceLeDiff, Nat.reduceEqDiff, Nat.reduceBEq, hc1, h2]
  · rw [if_neg hc1] at h
    obtain ⟨m2, h3, h⟩ := bind_some h
    obtain rfl := Option.some.inj h
    simp -implicitDefEqProofs only [go_sem, Nat.reduceAdd, Nat.reduceSub, Nat.reduceMul, Nat.reduceLT, Nat.reduceLeDiff, Nat.reduceEqDiff, Nat.reduceBEq, hc1, h3]
theorem internal_strconv_FormatInt_ok {a0 : Int} {a1 : Int} {r : (List UInt8)} (h : internal_strconv_FormatInt a0 a1 = some r) :
  Vc cfg 79 [.lit (.int .i64 a0), .lit (.int .i64 a1)] [] fun v _ => v = .lit (.string (bs r)) := by
  refine Vc_of (fn := Tryd.f79) rfl Tryd.func79 rfl Tryd.ntmps79 Tryd.results79 (by kernel_rfl) ?_
  conv => arg 3; whnf
  unfold internal_strconv_FormatInt at h
  by_cases hc1 : (a1 == 10) = true
  · rw [if_pos hc1] at h
    by_cases hc2 : 0 ≤ a0
    · rw [if_pos hc2] at h
      by_cases hc3 : a0 < 100
      · rw [if_pos hc3] at h
        simp -implicitDefEqProofs only [go_sem, Nat.reduceAdd, Nat.reduceSub, Nat.reduceMul, Nat.reduceLT, Nat.reduceLeDiff, Nat.reduceEqDiff, Nat.reduceBEq, hc1, hc2, hc3]
        obtain ⟨r2, h4, h⟩ := bind_some h
        refine Vc.mono (internal_strconv_small_ok h4) ?_
        rintro _ _ rfl
        obtain rfl := Option.some.inj h
        simp -implicitDefEqProofs only [go_sem, Nat.reduceAdd, Nat.reduceSub, Nat.reduceMul, Nat.reduceLT, Nat.reduceLeDiff, Nat.reduceEqDiff, Nat.reduceBEq]
      · rw [if_neg hc3] at h
        simp -implicitDefEqProofs only [go_sem, Nat.reduceAdd, Nat.reduceSub, Nat.reduceMul, Nat.reduceLT, Nat.reduceLeDiff, Nat.reduceEqDiff, Nat.reduceBEq, hc1, hc2, hc3]
        obtain ⟨xx5, h7, hk8, hx6⟩ := jn_some h
        clear h
        refine seqK_join (x := xx5) (fun s3 => mkSl 54 [(0, .lit (.int .i64 s3.1)), (5, .ptr 0 0), (6, .lit (.int .u64 s3.2))]) (fun s3 => [.var [.lit (.int .u8 0), .lit (.int .u8 0), .lit (.int .u8 0), .lit (.int .u8 0), .lit (.int .u8 0), .lit (.int .u8 0), .lit (.int .u8 0), .lit (.int .u8 0), .lit (.int .u8 0), .lit (.int .u8 0), .lit (.int .u8 0), .lit (.int .u8 0), .lit (.int .u8 0), .lit (.int .u8 0), .lit (.int .u8 0), .lit (.int .u8 0), .lit (.int .u8 0), .lit (.int .u8 0), .lit (.int .u8 0), .lit (.int .u8 0), .lit (.int .u8 0), .lit (.int .u8 0), .lit (.int .u8 0), .lit (.int .u8 0)]]) ?_ ?_
        · clear hk8
          unfold internal_strconv_FormatInt_j0 at h7
          have h := h7
          clear h7
          by_cases hc9 : a0 < 0
          · rw [if_pos hc9] at h
            obtain rfl := Option.some.inj h
            simp -implicitDefEqProofs only [go_sem, Nat.reduceAdd, Nat.reduceSub, Nat.reduceMul, Nat.reduceLT, Nat.reduceLeDiff, Nat.reduceEqDiff, Nat.reduceBEq, hc9]
            exact ⟨_, rfl, rfl⟩
          · rw [if_neg hc9] at h
            obtain rfl := Option.some.inj h
            simp -implicitDefEqProofs only [go_sem, Nat.reduceAdd, Nat.reduceSub, Nat.reduceMul, Nat.reduceLT, Nat.reduceLeDiff, Nat.reduceEqDiff, Nat.reduceBEq, hc9]
            exact ⟨_, rfl, rfl⟩
        · intro s3 hi10
          have h := hk8 _ hi10
          clear h7 hx6 hk8 hi10
          cases h
    · rw [if_neg hc2] at h
      simp -implicitDefEqProofs only [go_sem, Nat.reduceAdd, Nat.reduceSub, Nat.reduceMul, Nat.reduceLT, Nat.reduceLeDiff, Nat.reduceEqDiff, Nat.reduceBEq, hc1, hc2]
      obtain ⟨xx11, h13, hk14, hx12⟩ := jn_some h
      clear h
      refine seqK_join (x := xx11) (fun s4 => mkSl 54 [(0, .lit (.int .i64 s4.1)), (5, .ptr 0 0), (6, .lit (.int .u64 s4.2))]) (fun s4 => [.var [.lit (.int .u8 0), .lit (.int .u8 0), .lit (.int .u8 0), .lit (.int .u8 0), .lit (.int .u8 0), .lit (.int .u8 0), .lit (.int .u8 0), .lit (.int .u8 0), .lit (.int .u8 0), .lit (.int .u8 0), .lit (.int .u8 0), .lit (.int .u8 0), .lit (.int .u8 0), .lit (.int .u8 0), .lit (.int .u8 0), .lit (.int .u8 0), .lit (.int .u8 0), .lit (.int .u8 0), .lit (.int .u8 0), .lit (.int .u8 0), .lit (.int .u8 0), .lit (.int .u8 0), .lit (.int .u8 0), .lit (.int .u8 0)]]) ?_ ?_
      · clear hk14
        unfold internal_strconv_FormatInt_j1 at h13
        have h := h13
        clear h13
        by_cases hc15 : a0 < 0
        · rw [if_pos hc15] at h
          obtain rfl := Option.some.inj h
          simp -implicitDefEqProofs only [go_sem, Nat.reduceAdd, Nat.reduceSub, Nat.reduceMul, Nat.reduceLT, Nat.reduceLeDiff, Nat.reduceEqDiff, Nat.reduceBEq, hc15]
          exact ⟨_, rfl, rfl⟩
        · rw [if_neg hc15] at h
          obtain rfl := Option.some.inj h
          simp -implicitDefEqProofs only [go_sem, Nat.reduceAdd, Nat.reduceSub, Nat.reduceMul, Nat.reduceLT, Nat.reduceLeDiff, Nat.reduceEqDiff, Nat.reduceBEq, hc15]
          exact ⟨_, rfl, rfl⟩
      · intro s4 hi16
        have h := hk14 _ hi16
        clear h13 hx12 hk14 hi16
        cases h
  · rw [if_neg hc1] at h
    replace hc1 := (Bool.not_eq_true _).mp hc1
    cases h
theorem strconv_FormatInt_ok {a0 : Int} {a1 : Int} {r : (List UInt8)} (h : strconv_FormatInt a0 a1 = some r) :
  Vc cfg 65 [.lit (.int .i64 a0), .lit (.int .i64 a1)] [] fun v _ => v = .lit (.string (bs r)) := by
  refine Vc_of (fn := Tryd.f65) rfl Tryd.func65 rfl Tryd.ntmps65 Tryd.results65 (by kernel_rfl) ?_
  conv => arg 3; whnf
  unfold strconv_FormatInt at h
  simp -implicitDefEqProofs only [go_sem, Nat.reduceAdd, Nat.reduceSub, Nat.reduceMul, Nat.reduceLT, Nat.reduceLeDiff, Nat.reduceEqDiff, Nat.reduceBEq]
  obtain ⟨r2, h1, h⟩ := bind_some h
  refine Vc.mono (internal_strconv_FormatInt_ok h1) ?_
  rintro _ _ rfl
  obtain rfl := Option.some.inj h
  simp -implicitDefEqProofs only [go_sem, Nat.reduceAdd, Nat.reduceSub, Nat.reduceMul, Nat.reduceLT, Nat.reduceLeDiff, Nat.reduceEqDiff, Nat.reduceBEq]
theorem internal_strconv_FormatBool_ok {a0 : Bool} {r : (List UInt8)} (h : internal_strconv_FormatBool a0 = some r) :
  Vc cfg 82 [.lit (.bool a0)] [] fun v _ => v = .lit (.string (bs r)) := by
  refine Vc_of (fn := Tryd.f82) rfl Tryd.func82 rfl Tryd.ntmps82 Tryd.results82 (by kernel_rfl) ?_
  conv => arg 3; whnf
  unfold internal_strconv_FormatBool at h
  by_cases hc1 : a0 = true
  · rw [if_pos hc1] at h
    obtain rfl := Option.some.inj h
    simp -implicitDefEqProofs only [go_sem, Nat.reduceAdd, Nat.reduceSub, Nat.reduceMul, Nat.reduceLT, Nat.reduceLeDiff, Nat.reduceEqDiff, Nat.reduceBEq, hc1]
  · rw [if_neg hc1] at h
    replace hc1 := (Bool.not_eq_true _).mp hc1
    obtain rfl := Option.some.inj h
    simp -implicitDefEqProofs only [go_sem, Nat.reduceAdd, Nat.reduceSub, Nat.reduceMul, Nat.reduceLT, Nat.reduceLeDiff, Nat.reduceEqDiff, Nat.reduceBEq, hc1]
theorem strconv_FormatBool_ok {a0 : Bool} {r : (List UInt8)} (h : strconv_FormatBool a0 = some r) :
  Vc cfg 71 [.lit (.bool a0)] [] fun v _ => v = .lit (.string (bs r)) := by
  refine Vc_of (fn := Tryd.f71) rfl Tryd.func71 rfl Tryd.ntmps71 Tryd.results71 (by kernel_rfl) ?_
  conv => arg 3; whnf
  unfold strconv_FormatBool at h
  simp -implicitDefEqProofs only [go_sem, Nat.reduceAdd, Nat.reduceSub, Nat.reduceMul, Nat.reduceLT, Nat.reduceLeDiff, Nat.reduceEqDiff, Nat.reduceBEq]
  obtain ⟨r1, h1, h⟩ := bind_some h
  refine Vc.mono (internal_strconv_FormatBool_ok h1) ?_
  rintro _ _ rfl
  obtain rfl := Option.some.inj h
  simp -implicitDefEqProofs only [go_sem, Nat.reduceAdd, Nat.reduceSub, Nat.reduceMul, Nat.reduceLT, Nat.reduceLeDiff, Nat.reduceEqDiff, Nat.reduceBEq]
theorem val_Value_Show_ok {a0 : ValValue} {r : (List UInt8)} (h : val_Value_Show a0 = some r) :
  Vc cfg 53 [.agg [.lit (.int .i64 a0.Kind), .lit (.int .i64 a0.N), .lit (.string (bs a0.S))]] [] fun v _ => v = .lit (.string (bs r)) := by
  refine Vc_of (fn := Tryd.f53) rfl Tryd.func53 rfl Tryd.ntmps53 Tryd.results53 (by kernel_rfl) ?_
  conv => arg 3; whnf
  unfold val_Value_Show at h
  by_cases hc1 : (a0.Kind == 1) = true
  · rw [if_pos hc1] at h
    simp -implicitDefEqProofs only [go_sem, Nat.reduceAdd, Nat.reduceSub, Nat.reduceMul, Nat.reduceLT, Nat.reduceLeDiff, Nat.reduceEqDiff, Nat.reduceBEq, hc1]
    obtain ⟨r1, h2, h⟩ := bind_some h
    refine Vc.mono (strconv_FormatInt_ok h2) ?_
    rintro _ _ rfl
    obtain rfl := Option.some.inj h
    simp -implicitDefEqProofs only [go_sem, Nat.reduceAdd, Nat.reduceSub, Nat.reduceMul, Nat.reduceLT, Nat.reduceLeDiff, Nat.reduceEqDiff, Nat.reduceBEq]
  · rw [if_neg hc1] at h
    replace hc1 := (Bool.not_eq_true _).mp hc1
    by_cases hc3 : (a0.Kind == 2) = true
    · rw [if_pos hc3] at h
      simp -implicitDefEqProofs only [go_sem, Nat.reduceAdd, Nat.reduceSub, Nat.reduceMul, Nat.reduceLT, Nat.reduceLeDiff, Nat.reduceEqDiff, Nat.reduceBEq, hc1, hc3]
      obtain ⟨r2, h4, h⟩ := bind_some h
      refine Vc.mono (strconv_FormatBool_ok h4) ?_
      rintro _ _ rfl
      obtain rfl := Option.some.inj h
      simp -implicitDefEqProofs only [go_sem, Nat.reduceAdd, Nat.reduceSub, Nat.reduceMul, Nat.reduceLT, Nat.reduceLeDiff, Nat.reduceEqDiff, Nat.reduceBEq]
    · rw [if_neg hc3] at h
      replace hc3 := (Bool.not_eq_true _).mp hc3
      obtain ⟨s3, h5, h⟩ := bind_some h
      obtain ⟨s4, h6, h⟩ := bind_some h
      obtain rfl := Option.some.inj h
      simp -implicitDefEqProofs only [go_sem, Nat.reduceAdd, Nat.reduceSub, Nat.reduceMul, Nat.reduceLT, Nat.reduceLeDiff, Nat.reduceEqDiff, Nat.reduceBEq, hc1, hc3, h5, h6]
theorem expr_sign_ok {a0 : Int} {r : (List UInt8)} (h : expr_sign a0 = some r) :
  Vc cfg 55 [.lit (.int .i64 a0)] [] fun v _ => v = .lit (.string (bs r)) := by
  refine Vc_of (fn := Tryd.f55) rfl Tryd.func55 rfl Tryd.ntmps55 Tryd.results55 (by kernel_rfl) ?_
  conv => arg 3; whnf
  unfold expr_sign at h
  simp -implicitDefEqProofs only [go_sem, Nat.reduceAdd, Nat.reduceSub, Nat.reduceMul, Nat.reduceLT, Nat.reduceLeDiff, Nat.reduceEqDiff, Nat.reduceBEq]
  obtain ⟨r1, h1, h⟩ := bind_some h
  refine Vc.mono (expr_levels_ok h1) ?_
  rintro _ _ rfl
  simp -implicitDefEqProofs only [go_sem, Nat.reduceAdd, Nat.reduceSub, Nat.reduceMul, Nat.reduceLT, Nat.reduceLeDiff, Nat.reduceEqDiff, Nat.reduceBEq]
  refine wpLoop_run' (step := expr_sign_l0_step a0 r1) (fun s2 => mkSl 31 [(0, .lit (.int .i64 a0)), (7, .sl .view (r1.map ExprLevel.en.enc)), (8, .lit (.int .i64 (r1.length : Int))), (9, .lit (.int .i64 s2))]) (fun s2 => []) h (by kernel_rfl) (by first | rfl | simp -implicitDefEqProofs only [go_sem, Nat.reduceAdd, Nat.reduceSub, Nat.reduceMul, Nat.reduceLT, Nat.reduceLeDiff, Nat.reduceEqDiff, Nat.reduceBEq, mkSl]) (by first | rfl | simp -implicitDefEqProofs only [go_sem, Nat.reduceAdd, Nat.reduceSub, Nat.reduceMul, Nat.reduceLT, Nat.reduceLeDiff, Nat.reduceEqDiff, Nat.reduceBEq]) ?_
  clear h
  intro s2 xx2 h hx3
  unfold expr_sign_l0_step at h
  by_cases hc4 : s2 < (r1.length : Int)
  · rw [if_pos hc4] at h
    obtain ⟨x3, h5, h⟩ := bind_some h
    simp -implicitDefEqProofs only [go_sem, Nat.reduceAdd, Nat.reduceSub, Nat.reduceMul, Nat.reduceLT, Nat.reduceLeDiff, Nat.reduceEqDiff, Nat.reduceBEq, hc4, h5, mkSl]
    refine wpLoop_run' (step := expr_sign_l1_step a0 s2 x3) (fun s4 => mkSl 31 [(0, .lit (.int .i64 a0)), (4, .ptr 0 0), (7, .sl .view (r1.map ExprLevel.en.enc)), (8, .lit (.int .i64 (r1.length : Int))), (9, .lit (.int .i64 s2)), (14, .sl .view (x3.ops.map (En.int .i64).enc)), (15, .lit (.int .i64 (x3.ops.length : Int))), (16, .lit (.int .i64 s4))]) (fun s4 => [.var [.sl .view (x3.signs.map En.str.enc), .sl .view (x3.ops.map (En.int .i64).enc), .lit (.bool x3.once)]]) h (by kernel_rfl) (by first | rfl | simp -implicitDefEqProofs only [go_sem, Nat.reduceAdd, Nat.reduceSub, Nat.reduceMul, Nat.reduceLT, Nat.reduceLeDiff, Nat.reduceEqDiff, Nat.reduceBEq, mkSl, mkSl]) (by first | rfl | simp -implicitDefEqProofs only [go_sem, Nat.reduceAdd, Nat.reduceSub, Nat.reduceMul, Nat.reduceLT, Nat.reduceLeDiff, Nat.reduceEqDiff, Nat.reduceBEq, mkSl]) ?_
    clear h
    intro s4 xx6 h hx7
    unfold expr_sign_l1_step at h
    by_cases hc8 : s4 < (x3.ops.length : Int)
    · rw [if_pos hc8] at h
      obtain ⟨x5, h9, h⟩ := bind_some h
      by_cases hc10 : (x5 == a0) = true
      · rw [if_pos hc10] at h
        obtain ⟨x6, h11, h⟩ := bind_some h
        obtain rfl := Option.some.inj h
        obtain rfl := hx7 _ rfl
        obtain rfl := hx3 _ rfl
        simp -implicitDefEqProofs only [go_sem, Nat.reduceAdd, Nat.reduceSub, Nat.reduceMul, Nat.reduceLT, Nat.reduceLeDiff, Nat.reduceEqDiff, Nat.reduceBEq, hc8, h9, hc10, h11, mkSl]
      · rw [if_neg hc10] at h
        replace hc10 := (Bool.not_eq_true _).mp hc10
        obtain rfl := Option.some.inj h
        simp -implicitDefEqProofs only [go_sem, Nat.reduceAdd, Nat.reduceSub, Nat.reduceMul, Nat.reduceLT, Nat.reduceLeDiff, Nat.reduceEqDiff, Nat.reduceBEq, hc8, h9, hc10, mkSl]
        exact ⟨_, rfl, rfl⟩
    · rw [if_neg hc8] at h
      obtain rfl := Option.some.inj h
      obtain rfl := hx7 _ rfl
      simp -implicitDefEqProofs only [go_sem, Nat.reduceAdd, Nat.reduceSub, Nat.reduceMul, Nat.reduceLT, Nat.reduceLeDiff, Nat.reduceEqDiff, Nat.reduceBEq, hc8, mkSl]
      exact ⟨_, rfl, rfl⟩
  · rw [if_neg hc4] at h
    obtain rfl := Option.some.inj h
    obtain rfl := hx3 _ rfl
    simp -implicitDefEqProofs only [go_sem, Nat.reduceAdd, Nat.reduceSub, Nat.reduceMul, Nat.reduceLT, Nat.reduceLeDiff, Nat.reduceEqDiff, Nat.reduceBEq, hc4, mkSl]
def expr_Expr_node_spec (F : (List ExprNode) → Int → Option ((List UInt8))) : Prop := ∀ {a0 : List ExprNode} {a1 : Int} {r : (List UInt8)} (h : F a0 a1 = some r), Vc cfg 28 [.sl .view (a0.map ExprNode.en.enc), .lit (.int .i64 a1)] [] fun v _ => v = .lit (.string (bs r))
def expr_Expr_part_spec (F : (List ExprNode) → Int → Int → Option ((List UInt8))) : Prop := ∀ {a0 : List ExprNode} {a1 : Int} {a2 : Int} {r : (List UInt8)} (h : F a0 a1 a2 = some r), Vc cfg 54 [.sl .view (a0.map ExprNode.en.enc), .lit (.int .i64 a1), .lit (.int .i64 a2)] [] fun v _ => v = .lit (.string (bs r))
theorem expr_Expr_node_F_ok {R : expr_Expr_node_Rec} {a0 : List ExprNode} {a1 : Int} {r : (List UInt8)} (hR_expr_Expr_node : expr_Expr_node_spec R.expr_Expr_node) (hR_expr_Expr_part : expr_Expr_part_spec R.expr_Expr_part) (h : expr_Expr_node_F R a0 a1 = some r) :
  Vc cfg 28 [.sl .view (a0.map ExprNode.en.enc), .lit (.int .i64 a1)] [] fun v _ => v = .lit (.string (bs r)) := by
  refine Vc_of (fn := Tryd.f28) rfl Tryd.func28 rfl Tryd.ntmps28 Tryd.results28 (by kernel_rfl) ?_
  conv => arg 3; whnf
  unfold expr_Expr_node_F at h
  obtain ⟨x2, h1, h⟩ := bind_some h
  simp -implicitDefEqProofs only [go_sem, Nat.reduceAdd, Nat.reduceSub, Nat.reduceMul, Nat.reduceLT, Nat.reduceLeDiff, Nat.reduceEqDiff, Nat.reduceBEq, h1]
  obtain ⟨r3, h2, h⟩ := bind_some h
  refine Vc.mono (expr_tight_ok h2) ?_
  rintro _ _ rfl
  by_cases hc3 : (x2.Op == 0) = true
  · rw [if_pos hc3] at h
    simp -implicitDefEqProofs only [go_sem, Nat.reduceAdd, Nat.reduceSub, Nat.reduceMul, Nat.reduceLT, Nat.reduceLeDiff, Nat.reduceEqDiff, Nat.reduceBEq, hc3]
    obtain ⟨r4, h4, h⟩ := bind_some h
    refine Vc.mono (val_Value_Show_ok h4) ?_
    rintro _ _ rfl
    obtain rfl := Option.some.inj h
    simp -implicitDefEqProofs only [go_sem, Nat.reduceAdd, Nat.reduceSub, Nat.reduceMul, Nat.reduceLT, Nat.reduceLeDiff, Nat.reduceEqDiff, Nat.reduceBEq]
  · rw [if_neg hc3] at h
    replace hc3 := (Bool.not_eq_true _).mp hc3
    by_cases hc5 : (x2.Op == 16) = true
    · rw [if_pos hc5] at h
      obtain rfl := Option.some.inj h
      simp -implicitDefEqProofs only [go_sem, Nat.reduceAdd, Nat.reduceSub, Nat.reduceMul, Nat.reduceLT, Nat.reduceLeDiff, Nat.reduceEqDiff, Nat.reduceBEq, hc3, hc5]
    · rw [if_neg hc5] at h
      replace hc5 := (Bool.not_eq_true _).mp hc5
      by_cases hc6 : (x2.Op == 17) = true
      · rw [if_pos hc6] at h
        obtain ⟨s5, h7, h⟩ := bind_some h
        obtain ⟨s6, h8, h⟩ := bind_some h
        obtain rfl := Option.some.inj h
        simp -implicitDefEqProofs only [go_sem, Nat.reduceAdd, Nat.reduceSub, Nat.reduceMul, Nat.reduceLT, Nat.reduceLeDiff, Nat.reduceEqDiff, Nat.reduceBEq, hc3, hc5, hc6, h7, h8]
      · rw [if_neg hc6] at h
        replace hc6 := (Bool.not_eq_true _).mp hc6
        by_cases hc9 : (x2.Op == 1) = true
        · rw [if_pos hc9] at h
          simp -implicitDefEqProofs only [go_sem, Nat.reduceAdd, Nat.reduceSub, Nat.reduceMul, Nat.reduceLT, Nat.reduceLeDiff, Nat.reduceEqDiff, Nat.reduceBEq, hc3, hc5, hc6, hc9]
          obtain ⟨r7, h10, h⟩ := bind_some h
          refine Vc.mono (hR_expr_Expr_part h10) ?_
          rintro _ _ rfl
          obtain ⟨s8, h11, h⟩ := bind_some h
          obtain rfl := Option.some.inj h
          simp -implicitDefEqProofs only [go_sem, Nat.reduceAdd, Nat.reduceSub, Nat.reduceMul, Nat.reduceLT, Nat.reduceLeDiff, Nat.reduceEqDiff, Nat.reduceBEq, h11]
        · rw [if_neg hc9] at h
          replace hc9 := (Bool.not_eq_true _).mp hc9
          by_cases hc12 : (x2.Op == 2) = true
          · rw [if_pos hc12] at h
            simp -implicitDefEqProofs only [go_sem, Nat.reduceAdd, Nat.reduceSub, Nat.reduceMul, Nat.reduceLT, Nat.reduceLeDiff, Nat.reduceEqDiff, Nat.reduceBEq, hc3, hc5, hc6, hc9, hc12]
            obtain ⟨r9, h13, h⟩ := bind_some h
            refine Vc.mono (hR_expr_Expr_part h13) ?_
            rintro _ _ rfl
            obtain ⟨s10, h14, h⟩ := bind_some h
            obtain rfl := Option.some.inj h
            simp -implicitDefEqProofs only [go_sem, Nat.reduceAdd, Nat.reduceSub, Nat.reduceMul, Nat.reduceLT, Nat.reduceLeDiff, Nat.reduceEqDiff, Nat.reduceBEq, h14]
          · rw [if_neg hc12] at h
            replace hc12 := (Bool.not_eq_true _).mp hc12
            simp -implicitDefEqProofs only [go_sem, Nat.reduceAdd, Nat.reduceSub, Nat.reduceMul, Nat.reduceLT, Nat.reduceLeDiff, Nat.reduceEqDiff, Nat.reduceBEq, hc3, hc5, hc6, hc9, hc12]
            obtain ⟨xx15, h17, hk18, hx16⟩ := jn_some h
            clear h
            refine seqK_join (x := xx15) (fun s11 => mkSl 85 [(0, .sl .view (s11.1.map ExprNode.en.enc)), (5, .ptr 0 0), (6, .lit (.int .i64 r3)), (7, .lit (.int .i64 s11.2))]) (fun s11 => [.var [.lit (.int .i64 x2.Op), .lit (.int .i64 x2.V.Kind), .lit (.int .i64 x2.V.N), .lit (.string (bs x2.V.S)), .lit (.string (bs x2.Name)), .lit (.int .i64 x2.L), .lit (.int .i64 x2.R)]]) ?_ ?_
            · clear hk18
              unfold expr_Expr_node_j0 at h17
              have h := h17
              clear h17
              by_cases hc19 : 8 ≤ x2.Op
              · rw [if_pos hc19] at h
                by_cases hc20 : x2.Op ≤ 13
                · rw [if_pos hc20] at h
                  obtain rfl := Option.some.inj h
                  simp -implicitDefEqProofs only [go_sem, Nat.reduceAdd, Nat.reduceSub, Nat.reduceMul, Nat.reduceLT, Nat.reduceLeDiff, Nat.reduceEqDiff, Nat.reduceBEq, hc19, hc20]
                  exact ⟨_, rfl, rfl⟩
                · rw [if_neg hc20] at h
                  obtain rfl := Option.some.inj h
                  simp -implicitDefEqProofs only [go_sem, Nat.reduceAdd, Nat.reduceSub, Nat.reduceMul, Nat.reduceLT, Nat.reduceLeDiff, Nat.reduceEqDiff, Nat.reduceBEq, hc19, hc20]
                  exact ⟨_, rfl, rfl⟩
              · rw [if_neg hc19] at h
                obtain rfl := Option.some.inj h
                simp -implicitDefEqProofs only [go_sem, Nat.reduceAdd, Nat.reduceSub, Nat.reduceMul, Nat.reduceLT, Nat.reduceLeDiff, Nat.reduceEqDiff, Nat.reduceBEq, hc19]
                exact ⟨_, rfl, rfl⟩
            · intro s11 hi21
              have h := hk18 _ hi21
              clear h17 hx16 hk18 hi21
              simp -implicitDefEqProofs only [go_sem, Nat.reduceAdd, Nat.reduceSub, Nat.reduceMul, Nat.reduceLT, Nat.reduceLeDiff, Nat.reduceEqDiff, Nat.reduceBEq, mkSl]
              obtain ⟨r12, h22, h⟩ := bind_some h
              refine Vc.mono (hR_expr_Expr_part h22) ?_
              rintro _ _ rfl
              obtain ⟨s13, h23, h⟩ := bind_some h
              simp -implicitDefEqProofs only [go_sem, Nat.reduceAdd, Nat.reduceSub, Nat.reduceMul, Nat.reduceLT, Nat.reduceLeDiff, Nat.reduceEqDiff, Nat.reduceBEq, h23, mkSl]
              obtain ⟨r14, h24, h⟩ := bind_some h
              refine Vc.mono (expr_sign_ok h24) ?_
              rintro _ _ rfl
              obtain ⟨s15, h25, h⟩ := bind_some h
              obtain ⟨s16, h26, h⟩ := bind_some h
              simp -implicitDefEqProofs only [go_sem, Nat.reduceAdd, Nat.reduceSub, Nat.reduceMul, Nat.reduceLT, Nat.reduceLeDiff, Nat.reduceEqDiff, Nat.reduceBEq, h25, h26, mkSl]
              obtain ⟨r17, h27, h⟩ := bind_some h
              refine Vc.mono (hR_expr_Expr_part h27) ?_
              rintro _ _ rfl
              obtain ⟨s18, h28, h⟩ := bind_some h
              obtain rfl := Option.some.inj h
              simp -implicitDefEqProofs only [go_sem, Nat.reduceAdd, Nat.reduceSub, Nat.reduceMul, Nat.reduceLT, Nat.reduceLeDiff, Nat.reduceEqDiff, Nat.reduceBEq, h28, mkSl]
theorem expr_Expr_part_F_ok {R : expr_Expr_node_Rec} {a0 : List ExprNode} {a1 : Int} {a2 : Int} {r : (List UInt8)} (hR_expr_Expr_node : expr_Expr_node_spec R.expr_Expr_node) (hR_expr_Expr_part : expr_Expr_part_spec R.expr_Expr_part) (h : expr_Expr_part_F R a0 a1 a2 = some r) :
  Vc cfg 54 [.sl .view (a0.map ExprNode.en.enc), .lit (.int .i64 a1), .lit (.int .i64 a2)] [] fun v _ => v = .lit (.string (bs r)) := by
  refine Vc_of (fn := Tryd.f54) rfl Tryd.func54 rfl Tryd.ntmps54 Tryd.results54 (by kernel_rfl) ?_
  conv => arg 3; whnf
  unfold expr_Expr_part_F at h
  simp -implicitDefEqProofs only [go_sem, Nat.reduceAdd, Nat.reduceSub, Nat.reduceMul, Nat.reduceLT, Nat.reduceLeDiff, Nat.reduceEqDiff, Nat.reduceBEq]
  obtain ⟨r3, h1, h⟩ := bind_some h
  refine Vc.mono (hR_expr_Expr_node h1) ?_
  rintro _ _ rfl
  obtain ⟨x4, h2, h⟩ := bind_some h
  simp -implicitDefEqProofs only [go_sem, Nat.reduceAdd, Nat.reduceSub, Nat.reduceMul, Nat.reduceLT, Nat.reduceLeDiff, Nat.reduceEqDiff, Nat.reduceBEq, h2]
  obtain ⟨r5, h3, h⟩ := bind_some h
  refine Vc.mono (expr_tight_ok h3) ?_
  rintro _ _ rfl
  by_cases hc4 : r5 < a2
  · rw [if_pos hc4] at h
    obtain ⟨s6, h5, h⟩ := bind_some h
    obtain ⟨s7, h6, h⟩ := bind_some h
    obtain rfl := Option.some.inj h
    simp -implicitDefEqProofs only [go_sem, Nat.reduceAdd, Nat.reduceSub, Nat.reduceMul, Nat.reduceLT, Nat.reduceLeDiff, Nat.reduceEqDiff, Nat.reduceBEq, hc4, h5, h6]
  · rw [if_neg hc4] at h
    obtain rfl := Option.some.inj h
    simp -implicitDefEqProofs only [go_sem, Nat.reduceAdd, Nat.reduceSub, Nat.reduceMul, Nat.reduceLT, Nat.reduceLeDiff, Nat.reduceEqDiff, Nat.reduceBEq, hc4]
theorem expr_Expr_node_specs : ∀ k, expr_Expr_node_spec (expr_Expr_node_rec k).expr_Expr_node ∧ expr_Expr_part_spec (expr_Expr_node_rec k).expr_Expr_part
  | 0 => ⟨(by unfold expr_Expr_node_spec; intros; rename_i h; cases h), (by unfold expr_Expr_part_spec; intros; rename_i h; cases h)⟩
  | k + 1 => by
    obtain ⟨q28, q54⟩ := expr_Expr_node_specs k
    exact ⟨expr_Expr_node_F_ok q28 q54, expr_Expr_part_F_ok q28 q54⟩
theorem expr_Expr_node_ok : expr_Expr_node_spec expr_Expr_node := by
  try unfold expr_Expr_node_spec
  intros
  rename_i h
  obtain ⟨k0, h0⟩ := (expr_Expr_node_lim _ _).1 _ h
  exact (expr_Expr_node_specs k0).1 (h0 k0 (Nat.le_refl _))
theorem expr_Expr_part_ok : expr_Expr_part_spec expr_Expr_part := by
  try unfold expr_Expr_part_spec
  intros
  rename_i h
  obtain ⟨k0, h0⟩ := (expr_Expr_part_lim _ _ _).1 _ h
  exact (expr_Expr_node_specs k0).2 (h0 k0 (Nat.le_refl _))
theorem expr_Expr_Show_ok {a0 : List ExprNode} {r : (List UInt8)} (h : expr_Expr_Show a0 = some r) :
  Vc cfg 15 [.sl .view (a0.map ExprNode.en.enc)] [] fun v _ => v = .lit (.string (bs r)) := by
  refine Vc_of (fn := Tryd.f15) rfl Tryd.func15 rfl Tryd.ntmps15 Tryd.results15 (by kernel_rfl) ?_
  conv => arg 3; whnf
  unfold expr_Expr_Show at h
  by_cases hc1 : ((a0.length : Int) == 0) = true
  · rw [if_pos hc1] at h
    obtain rfl := Option.some.inj h
    simp -implicitDefEqProofs only [go_sem, Nat.reduceAdd, Nat.reduceSub, Nat.reduceMul, Nat.reduceLT, Nat.reduceLeDiff, Nat.reduceEqDiff, Nat.reduceBEq, hc1]
  · rw [if_neg hc1] at h
    replace hc1 := (Bool.not_eq_true _).mp hc1
    simp -implicitDefEqProofs only [go_sem, Nat.reduceAdd, Nat.reduceSub, Nat.reduceMul, Nat.reduceLT, Nat.reduceLeDiff, Nat.reduceEqDiff, Nat.reduceBEq, hc1]
    obtain ⟨r1, h2, h⟩ := bind_some h
    refine Vc.mono (expr_Expr_node_ok h2) ?_
    rintro _ _ rfl
    obtain rfl := Option.some.inj h
    simp -implicitDefEqProofs only [go_sem, Nat.reduceAdd, Nat.reduceSub, Nat.reduceMul, Nat.reduceLT, Nat.reduceLeDiff, Nat.reduceEqDiff, Nat.reduceBEq]
theorem act_Act_show_ok {a0 : ActAct} {r : (List UInt8)} (h : act_Act_show a0 = some r) :
  Vc cfg 42 [.agg [.lit (.int .i64 a0.Kind), .sl .view (a0.If.map ExprNode.en.enc), .lit (.string (bs a0.Name)), .sl .view (a0.X.map ExprNode.en.enc), .lit (.int .i64 a0.N)]] [] fun v _ => v = .lit (.string (bs r)) := by
  refine Vc_of (fn := Tryd.f42) rfl Tryd.func42 rfl Tryd.ntmps42 Tryd.results42 (by kernel_rfl) ?_
  conv => arg 3; whnf
  unfold act_Act_show at h
  simp -implicitDefEqProofs only [go_sem, Nat.reduceAdd, Nat.reduceSub, Nat.reduceMul, Nat.reduceLT, Nat.reduceLeDiff, Nat.reduceEqDiff, Nat.reduceBEq]
  obtain ⟨r1, h1, h⟩ := bind_some h
  refine Vc.mono (act_word_ok h1) ?_
  rintro _ _ rfl
  simp -implicitDefEqProofs only [go_sem, Nat.reduceAdd, Nat.reduceSub, Nat.reduceMul, Nat.reduceLT, Nat.reduceLeDiff, Nat.reduceEqDiff, Nat.reduceBEq]
  obtain ⟨xx2, h4, hk5, hx3⟩ := jn_some h
  clear h
  refine seqK_join (x := xx2) (fun s2 => mkSl 46 [(1, .ptr 0 0), (3, .lit (.string (bs s2.1)))]) (fun s2 => [.var [.lit (.int .i64 s2.2.1), .sl .view (s2.2.2.1.map ExprNode.en.enc), .lit (.string (bs s2.2.2.2.1)), .sl .view (s2.2.2.2.2.1.map ExprNode.en.enc), .lit (.int .i64 s2.2.2.2.2.2)]]) ?_ ?_
  · clear hk5
    unfold act_Act_show_j0 at h4
    have h := h4
    clear h4
    by_cases hc6 : (a0.Name == []) = true
    · rw [if_pos hc6] at h
      obtain rfl := Option.some.inj h
      simp -implicitDefEqProofs only [go_sem, Nat.reduceAdd, Nat.reduceSub, Nat.reduceMul, Nat.reduceLT, Nat.reduceLeDiff, Nat.reduceEqDiff, Nat.reduceBEq, hc6]
      exact ⟨_, rfl, rfl⟩
    · rw [if_neg hc6] at h
      replace hc6 := (Bool.not_eq_true _).mp hc6
      obtain ⟨s3, h7, h⟩ := bind_some h
      obtain ⟨s4, h8, h⟩ := bind_some h
      obtain rfl := Option.some.inj h
      simp -implicitDefEqProofs only [go_sem, Nat.reduceAdd, Nat.reduceSub, Nat.reduceMul, Nat.reduceLT, Nat.reduceLeDiff, Nat.reduceEqDiff, Nat.reduceBEq, hc6, h7, h8]
      exact ⟨_, rfl, rfl⟩
  · intro s2 hi9
    have h := hk5 _ hi9
    clear h4 hx3 hk5 hi9
    simp -implicitDefEqProofs only [go_sem, Nat.reduceAdd, Nat.reduceSub, Nat.reduceMul, Nat.reduceLT, Nat.reduceLeDiff, Nat.reduceEqDiff, Nat.reduceBEq, mkSl]
    obtain ⟨xx10, h12, hk13, hx11⟩ := jn_some h
    clear h
    refine seqK_join (x := xx10) (fun s5 => mkSl 46 [(1, .ptr 0 0), (3, .lit (.string (bs s5)))]) (fun s5 => [.var [.lit (.int .i64 s2.2.1), .sl .view (s2.2.2.1.map ExprNode.en.enc), .lit (.string (bs s2.2.2.2.1)), .sl .view (s2.2.2.2.2.1.map ExprNode.en.enc), .lit (.int .i64 s2.2.2.2.2.2)]]) ?_ ?_
    · clear hk13
      unfold act_Act_show_j1 at h12
      have h := h12
      clear h12
      by_cases hc14 : 0 < (s2.2.2.2.2.1.length : Int)
      · rw [if_pos hc14] at h
        simp -implicitDefEqProofs only [go_sem, Nat.reduceAdd, Nat.reduceSub, Nat.reduceMul, Nat.reduceLT, Nat.reduceLeDiff, Nat.reduceEqDiff, Nat.reduceBEq, hc14, mkSl]
        obtain ⟨r6, h15, h⟩ := bind_some h
        refine Vc.mono (expr_Expr_Show_ok h15) ?_
        rintro _ _ rfl
        obtain ⟨s7, h16, h⟩ := bind_some h
        obtain ⟨s8, h17, h⟩ := bind_some h
        obtain rfl := Option.some.inj h
        simp -implicitDefEqProofs only [go_sem, Nat.reduceAdd, Nat.reduceSub, Nat.reduceMul, Nat.reduceLT, Nat.reduceLeDiff, Nat.reduceEqDiff, Nat.reduceBEq, h16, h17, mkSl]
        exact ⟨_, rfl, rfl⟩
      · rw [if_neg hc14] at h
        obtain rfl := Option.some.inj h
        simp -implicitDefEqProofs only [go_sem, Nat.reduceAdd, Nat.reduceSub, Nat.reduceMul, Nat.reduceLT, Nat.reduceLeDiff, Nat.reduceEqDiff, Nat.reduceBEq, hc14, mkSl]
        exact ⟨_, rfl, rfl⟩
    · intro s5 hi18
      have h := hk13 _ hi18
      clear h12 hx11 hk13 hi18
      simp -implicitDefEqProofs only [go_sem, Nat.reduceAdd, Nat.reduceSub, Nat.reduceMul, Nat.reduceLT, Nat.reduceLeDiff, Nat.reduceEqDiff, Nat.reduceBEq, mkSl]
      obtain ⟨xx19, h21, hk22, hx20⟩ := jn_some h
      clear h
      refine seqK_join (x := xx19) (fun s9 => mkSl 46 [(1, .ptr 0 0), (3, .lit (.string (bs s9)))]) (fun s9 => [.var [.lit (.int .i64 s2.2.1), .sl .view (s2.2.2.1.map ExprNode.en.enc), .lit (.string (bs s2.2.2.2.1)), .sl .view (s2.2.2.2.2.1.map ExprNode.en.enc), .lit (.int .i64 s2.2.2.2.2.2)]]) ?_ ?_
      · clear hk22
        unfold act_Act_show_j2 at h21
        have h := h21
        clear h21
        by_cases hc23 : (s2.2.1 == 3) = true
        · rw [if_pos hc23] at h
          simp -implicitDefEqProofs only [go_sem, Nat.reduceAdd, Nat.reduceSub, Nat.reduceMul, Nat.reduceLT, Nat.reduceLeDiff, Nat.reduceEqDiff, Nat.reduceBEq, hc23, mkSl]
          obtain ⟨r10, h24, h⟩ := bind_some h
          refine Vc.mono (strconv_FormatInt_ok h24) ?_
          rintro _ _ rfl
          obtain ⟨s11, h25, h⟩ := bind_some h
          obtain ⟨s12, h26, h⟩ := bind_some h
          obtain rfl := Option.some.inj h
          simp -implicitDefEqProofs only [go_sem, Nat.reduceAdd, Nat.reduceSub, Nat.reduceMul, Nat.reduceLT, Nat.reduceLeDiff, Nat.reduceEqDiff, Nat.reduceBEq, h25, h26, mkSl]
          exact ⟨_, rfl, rfl⟩
        · rw [if_neg hc23] at h
          replace hc23 := (Bool.not_eq_true _).mp hc23
          obtain rfl := Option.some.inj h
          simp -implicitDefEqProofs only [go_sem, Nat.reduceAdd, Nat.reduceSub, Nat.reduceMul, Nat.reduceLT, Nat.reduceLeDiff, Nat.reduceEqDiff, Nat.reduceBEq, hc23, mkSl]
          exact ⟨_, rfl, rfl⟩
      · intro s9 hi27
        have h := hk22 _ hi27
        clear h21 hx20 hk22 hi27
        by_cases hc28 : 0 < (s2.2.2.1.length : Int)
        · rw [if_pos hc28] at h
          simp -implicitDefEqProofs only [go_sem, Nat.reduceAdd, Nat.reduceSub, Nat.reduceMul, Nat.reduceLT, Nat.reduceLeDiff, Nat.reduceEqDiff, Nat.reduceBEq, hc28, mkSl]
          obtain ⟨r13, h29, h⟩ := bind_some h
          refine Vc.mono (expr_Expr_Show_ok h29) ?_
          rintro _ _ rfl
          obtain ⟨s14, h30, h⟩ := bind_some h
          obtain ⟨s15, h31, h⟩ := bind_some h
          obtain ⟨s16, h32, h⟩ := bind_some h
          obtain rfl := Option.some.inj h
          simp -implicitDefEqProofs only [go_sem, Nat.reduceAdd, Nat.reduceSub, Nat.reduceMul, Nat.reduceLT, Nat.reduceLeDiff, Nat.reduceEqDiff, Nat.reduceBEq, h30, h31, h32, mkSl]
        · rw [if_neg hc28] at h
          obtain rfl := Option.some.inj h
          simp -implicitDefEqProofs only [go_sem, Nat.reduceAdd, Nat.reduceSub, Nat.reduceMul, Nat.reduceLT, Nat.reduceLeDiff, Nat.reduceEqDiff, Nat.reduceBEq, hc28, mkSl]
theorem strings_Join_ok {a0 : List (List UInt8)} {a1 : List UInt8} {r : (List UInt8)} (h : strings_Join a0 a1 = some r) :
  Vc cfg 43 [.sl .view (a0.map En.str.enc), .lit (.string (bs a1))] [] fun v _ => v = .lit (.string (bs r)) :=
  Vc_ext (e := joinX) rfl (joinX_of h) rfl
theorem act_Show_ok {a0 : List ActAct} {r : (List UInt8)} (h : act_Show a0 = some r) :
  Vc cfg 22 [.sl .view (a0.map ActAct.en.enc)] [] fun v _ => v = .lit (.string (bs r)) := by
  refine Vc_of (fn := Tryd.f22) rfl Tryd.func22 rfl Tryd.ntmps22 Tryd.results22 (by kernel_rfl) ?_
  conv => arg 3; whnf
  unfold act_Show at h
  simp -implicitDefEqProofs only [go_sem, Nat.reduceAdd, Nat.reduceSub, Nat.reduceMul, Nat.reduceLT, Nat.reduceLeDiff, Nat.reduceEqDiff, Nat.reduceBEq]
  obtain ⟨xx1, h3, hk4, hx2⟩ := jn_some h
  clear h
  refine seqK_join (x := xx1) (fun s1 => mkSl 20 [(3, .sl .own (s1.map En.str.enc))]) (fun s1 => []) ?_ ?_
  · clear hk4
    unfold act_Show_j0 at h3
    have h := h3
    clear h3
    simp -implicitDefEqProofs only [go_sem, Nat.reduceAdd, Nat.reduceSub, Nat.reduceMul, Nat.reduceLT, Nat.reduceLeDiff, Nat.reduceEqDiff, Nat.reduceBEq]
    refine wpLoop_run' (step := act_Show_l1_step a0) (fun s2 => mkSl 20 [(3, .sl .own (s2.1.map En.str.enc)), (6, .sl .view (a0.map ActAct.en.enc)), (7, .lit (.int .i64 (a0.length : Int))), (8, .lit (.int .i64 s2.2))]) (fun s2 => []) h (by kernel_rfl) (by first | rfl | simp -implicitDefEqProofs only [go_sem, Nat.reduceAdd, Nat.reduceSub, Nat.reduceMul, Nat.reduceLT, Nat.reduceLeDiff, Nat.reduceEqDiff, Nat.reduceBEq, mkSl]) (by first | rfl | simp -implicitDefEqProofs only [go_sem, Nat.reduceAdd, Nat.reduceSub, Nat.reduceMul, Nat.reduceLT, Nat.reduceLeDiff, Nat.reduceEqDiff, Nat.reduceBEq]) ?_
    clear h
    intro s2 xx5 h hx6
    unfold act_Show_l1_step at h
    by_cases hc7 : s2.2 < (a0.length : Int)
    · rw [if_pos hc7] at h
      obtain ⟨x3, h8, h⟩ := bind_some h
      simp -implicitDefEqProofs only [go_sem, Nat.reduceAdd, Nat.reduceSub, Nat.reduceMul, Nat.reduceLT, Nat.reduceLeDiff, Nat.reduceEqDiff, Nat.reduceBEq, hc7, h8, mkSl]
      obtain ⟨r4, h9, h⟩ := bind_some h
      refine Vc.mono (act_Act_show_ok h9) ?_
      rintro _ _ rfl
      obtain ⟨l5, h10, h⟩ := bind_some h
      have h11 := vappend_en En.str (P := Tryd.prog) (t := 81) (f := .own) h10 (by simp -implicitDefEqProofs only [go_sem, Nat.reduceAdd, Nat.reduceSub, Nat.reduceMul, Nat.reduceLT, Nat.reduceLeDiff, Nat.reduceEqDiff, Nat.reduceBEq, Option.map_some])
      simp -implicitDefEqProofs only [go_sem, Nat.reduceAdd, Nat.reduceSub, Nat.reduceMul, Nat.reduceLT, Nat.reduceLeDiff, Nat.reduceEqDiff, Nat.reduceBEq] at h11
      obtain rfl := Option.some.inj h
      simp -implicitDefEqProofs only [go_sem, Nat.reduceAdd, Nat.reduceSub, Nat.reduceMul, Nat.reduceLT, Nat.reduceLeDiff, Nat.reduceEqDiff, Nat.reduceBEq, h11, mkSl]
      exact ⟨_, rfl, rfl⟩
    · rw [if_neg hc7] at h
      obtain rfl := Option.some.inj h
      obtain rfl := hx6 _ rfl
      simp -implicitDefEqProofs only [go_sem, Nat.reduceAdd, Nat.reduceSub, Nat.reduceMul, Nat.reduceLT, Nat.reduceLeDiff, Nat.reduceEqDiff, Nat.reduceBEq, hc7, mkSl]
      exact ⟨_, rfl, rfl⟩
  · intro s1 hi12
    have h := hk4 _ hi12
    clear h3 hx2 hk4 hi12
    simp -implicitDefEqProofs only [go_sem, Nat.reduceAdd, Nat.reduceSub, Nat.reduceMul, Nat.reduceLT, Nat.reduceLeDiff, Nat.reduceEqDiff, Nat.reduceBEq, mkSl]
    obtain ⟨r6, h13, h⟩ := bind_some h
    refine Vc.mono (strings_Join_ok h13) ?_
    rintro _ _ rfl
    obtain rfl := Option.some.inj h
    simp -implicitDefEqProofs only [go_sem, Nat.reduceAdd, Nat.reduceSub, Nat.reduceMul, Nat.reduceLT, Nat.reduceLeDiff, Nat.reduceEqDiff, Nat.reduceBEq, mkSl]
end Go.Proofs.YtilmjbljkkbakaaDoor
