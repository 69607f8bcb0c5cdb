/-
  A part of the proof: lemmas.
-/
import Derived.Test.YtilmjbljkkbakaaGreatDoorCFactsc
import Derived.Test.YtilmjbljkkbakaaGreatDoorCFunsc
import Derived.Test.YtilmjbljkkbakaaGreatDoorCPr0c
import Derived.Test.YtilmjbljkkbakaaGreatDoorCPr3c
set_option linter.unusedSimpArgs false
set_option linter.unusedVariables false
set_option linter.unusedSectionVars false
set_option linter.unnecessarySimpa false
set_option linter.deprecated false
/-! The functions' proofs. -/
namespace Go.Proofs.YtilmjbljkkbakaaGreatDoor
open Go.Wv
set_option linter.unusedSimpArgs false
set_option linter.unusedVariables false
set_option maxRecDepth 10000
set_option maxHeartbeats 20000000
theorem wref31_Split_ok {a0 : List UInt8} {r : (List (List UInt8))} (h : wref31_Split a0 = some r) :
  Vc cfg 27 [.lit (.string (bs a0))] [] fun v _ => v = .sl .view (r.map En.str.enc) := by
  refine Vc_of (fn := Tryz.f27) rfl Tryz.func27 rfl Tryz.ntmps27 Tryz.results27 (by kernel_rfl) ?_
  conv => arg 3; whnf
  unfold wref31_Split at h
  simp -implicitDefEqProofs only [go_sem, Nat.reduceAdd, Nat.reduceSub, Nat.reduceMul, Nat.reduceLT, Nat.reduceLeDiff, Nat.reduceEqDiff, Nat.reduceBEq]
  refine wpLoop_run' (step := wref31_Split_l0_step a0) (fun s1 => mkSl 31 [(0, .lit (.string (bs a0))), (3, .sl .own (s1.1.map En.str.enc)), (4, .lit (.int .i64 s1.2.1)), (5, .lit (.int .i64 s1.2.2))]) (fun s1 => []) h (by kernel_rfl) (by first | rfl | simp -implicitDefEqProofs only [go_sem, Nat.reduceAdd, Nat.reduceSub, Nat.reduceMul, Nat.reduceLT, Nat.reduceLeDiff, Nat.reduceEqDiff, Nat.reduceBEq, mkSl]) (by first | rfl | simp -implicitDefEqProofs only [go_sem, Nat.reduceAdd, Nat.reduceSub, Nat.reduceMul, Nat.reduceLT, Nat.reduceLeDiff, Nat.reduceEqDiff, Nat.reduceBEq]) ?_
  clear h
  intro s1 xx1 h hx2
  unfold wref31_Split_l0_step at h
  by_cases hc3 : s1.2.2 < (a0.length : Int)
  · rw [if_pos hc3] at h
    obtain ⟨c2, h4, h⟩ := bind_some h
    by_cases hc5 : ((c2.toNat : Int) == 32) = true
    · rw [if_pos hc5] at h
      obtain ⟨m3, h6, h⟩ := bind_some h
      obtain ⟨l4, h7, h⟩ := bind_some h
      have h8 := vappend_en En.str (P := Tryz.prog) (t := 30) (f := .own) h7 (by simp -implicitDefEqProofs only [go_sem, Nat.reduceAdd, Nat.reduceSub, Nat.reduceMul, Nat.reduceLT, Nat.reduceLeDiff, Nat.reduceEqDiff, Nat.reduceBEq, Option.map_some])
      simp -implicitDefEqProofs only [go_sem, Nat.reduceAdd, Nat.reduceSub, Nat.reduceMul, Nat.reduceLT, Nat.reduceLeDiff, Nat.reduceEqDiff, Nat.reduceBEq] at h8
      obtain rfl := Option.some.inj h
      simp -implicitDefEqProofs only [go_sem, Nat.reduceAdd, Nat.reduceSub, Nat.reduceMul, Nat.reduceLT, Nat.reduceLeDiff, Nat.reduceEqDiff, Nat.reduceBEq, hc3, h4, hc5, h6, h8, mkSl]
      exact ⟨_, rfl, rfl⟩
    · rw [if_neg hc5] at h
      replace hc5 := (Bool.not_eq_true _).mp hc5
      obtain rfl := Option.some.inj h
      simp -implicitDefEqProofs only [go_sem, Nat.reduceAdd, Nat.reduceSub, Nat.reduceMul, Nat.reduceLT, Nat.reduceLeDiff, Nat.reduceEqDiff, Nat.reduceBEq, hc3, h4, hc5, mkSl]
      exact ⟨_, rfl, rfl⟩
  · rw [if_neg hc3] at h
    obtain ⟨m5, h9, h⟩ := bind_some h
    obtain ⟨l6, h10, h⟩ := bind_some h
    have h11 := vappend_en En.str (P := Tryz.prog) (t := 30) (f := .own) h10 (by simp -implicitDefEqProofs only [go_sem, Nat.reduceAdd, Nat.reduceSub, Nat.reduceMul, Nat.reduceLT, Nat.reduceLeDiff, Nat.reduceEqDiff, Nat.reduceBEq, Option.map_some])
    simp -implicitDefEqProofs only [go_sem, Nat.reduceAdd, Nat.reduceSub, Nat.reduceMul, Nat.reduceLT, Nat.reduceLeDiff, Nat.reduceEqDiff, Nat.reduceBEq] at h11
    obtain rfl := Option.some.inj h
    obtain rfl := hx2 _ rfl
    simp -implicitDefEqProofs only [go_sem, Nat.reduceAdd, Nat.reduceSub, Nat.reduceMul, Nat.reduceLT, Nat.reduceLeDiff, Nat.reduceEqDiff, Nat.reduceBEq, hc3, h9, h11, mkSl]
theorem wref02_letter_ok {a0 : Int} {r : Bool} (h : wref02_letter a0 = some r) :
  Vc cfg 87 [.lit (.int .u8 a0)] [] fun v _ => v = .lit (.bool r) := by
  refine Vc_of (fn := Tryz.f87) rfl Tryz.func87 rfl Tryz.ntmps87 Tryz.results87 (by kernel_rfl) ?_
  conv => arg 3; whnf
  unfold wref02_letter at h
  by_cases hc1 : 97 ≤ a0
  · rw [if_pos hc1] at h
    obtain rfl := Option.some.inj h
    simp -implicitDefEqProofs only [go_sem, Nat.reduceAdd, Nat.reduceSub, Nat.reduceMul, Nat.reduceLT, Nat.reduceLeDiff, Nat.reduceEqDiff, Nat.reduceBEq, hc1]
  · rw [if_neg hc1] at h
    obtain rfl := Option.some.inj h
    simp -implicitDefEqProofs only [go_sem, Nat.reduceAdd, Nat.reduceSub, Nat.reduceMul, Nat.reduceLT, Nat.reduceLeDiff, Nat.reduceEqDiff, Nat.reduceBEq, hc1]
theorem wref02_inner_ok {a0 : Int} {r : Bool} (h : wref02_inner a0 = some r) :
  Vc cfg 83 [.lit (.int .u8 a0)] [] fun v _ => v = .lit (.bool r) := by
  refine Vc_of (fn := Tryz.f83) rfl Tryz.func83 rfl Tryz.ntmps83 Tryz.results83 (by kernel_rfl) ?_
  conv => arg 3; whnf
  unfold wref02_inner at h
  simp -implicitDefEqProofs only [go_sem, Nat.reduceAdd, Nat.reduceSub, Nat.reduceMul, Nat.reduceLT, Nat.reduceLeDiff, Nat.reduceEqDiff, Nat.reduceBEq]
  obtain ⟨r1, h1, h⟩ := bind_some h
  refine Vc.mono (wref02_letter_ok h1) ?_
  rintro _ _ rfl
  by_cases hc2 : r1 = true
  · rw [if_pos hc2] at h
    obtain rfl := Option.some.inj h
    simp -implicitDefEqProofs only [go_sem, Nat.reduceAdd, Nat.reduceSub, Nat.reduceMul, Nat.reduceLT, Nat.reduceLeDiff, Nat.reduceEqDiff, Nat.reduceBEq, hc2]
  · rw [if_neg hc2] at h
    replace hc2 := (Bool.not_eq_true _).mp hc2
    by_cases hc3 : 48 ≤ a0
    · rw [if_pos hc3] at h
      by_cases hc4 : a0 ≤ 57
      · rw [if_pos hc4] at h
        obtain rfl := Option.some.inj h
        simp -implicitDefEqProofs only [go_sem, Nat.reduceAdd, Nat.reduceSub, Nat.reduceMul, Nat.reduceLT, Nat.reduceLeDiff, Nat.reduceEqDiff, Nat.reduceBEq, hc2, hc3, hc4]
      · rw [if_neg hc4] at h
        obtain rfl := Option.some.inj h
        simp -implicitDefEqProofs only [go_sem, Nat.reduceAdd, Nat.reduceSub, Nat.reduceMul, Nat.reduceLT, Nat.reduceLeDiff, Nat.reduceEqDiff, Nat.reduceBEq, hc2, hc3, hc4]
    · rw [if_neg hc3] at h
      obtain rfl := Option.some.inj h
      simp -implicitDefEqProofs only [go_sem, Nat.reduceAdd, Nat.reduceSub, Nat.reduceMul, Nat.reduceLT, Nat.reduceLeDiff, Nat.reduceEqDiff, Nat.reduceBEq, hc2, hc3]
theorem wref02_word_ok {a0 : List UInt8} {a1 : Int} {r : Int} (h : wref02_word a0 a1 = some r) :
  Vc cfg 48 [.lit (.string (bs a0)), .lit (.int .i64 a1)] [] fun v _ => v = .lit (.int .i64 r) := by
  refine Vc_of (fn := Tryz.f48) rfl Tryz.func48 rfl Tryz.ntmps48 Tryz.results48 (by kernel_rfl) ?_
  conv => arg 3; whnf
  unfold wref02_word at h
  simp -implicitDefEqProofs only [go_sem, Nat.reduceAdd, Nat.reduceSub, Nat.reduceMul, Nat.reduceLT, Nat.reduceLeDiff, Nat.reduceEqDiff, Nat.reduceBEq]
  refine wpLoop_run' (step := wref02_word_l0_step a0 a1) (fun s2 => mkSl 23 [(0, .lit (.string (bs a0))), (1, .lit (.int .i64 a1)), (5, .lit (.int .i64 s2))]) (fun s2 => []) h (by kernel_rfl) (by first | rfl | simp -implicitDefEqProofs only [go_sem, Nat.reduceAdd, Nat.reduceSub, Nat.reduceMul, Nat.reduceLT, Nat.reduceLeDiff, Nat.reduceEqDiff, Nat.reduceBEq, mkSl]) (by first | rfl | simp -implicitDefEqProofs only [go_sem, Nat.reduceAdd, Nat.reduceSub, Nat.reduceMul, Nat.reduceLT, Nat.reduceLeDiff, Nat.reduceEqDiff, Nat.reduceBEq]) ?_
  clear h
  intro s2 xx1 h hx2
  unfold wref02_word_l0_step at h
  by_cases hc3 : (IntKind.i64.wrap (a1 + s2)) < (a0.length : Int)
  · rw [if_pos hc3] at h
    obtain ⟨c3, h4, h⟩ := bind_some h
    simp -implicitDefEqProofs only [go_sem, Nat.reduceAdd, Nat.reduceSub, Nat.reduceMul, Nat.reduceLT, Nat.reduceLeDiff, Nat.reduceEqDiff, Nat.reduceBEq, hc3, h4, mkSl]
    obtain ⟨r4, h5, h⟩ := bind_some h
    refine Vc.mono (wref02_inner_ok h5) ?_
    rintro _ _ rfl
    by_cases hc6 : r4 = true
    · rw [if_pos hc6] at h
      obtain rfl := Option.some.inj h
      simp -implicitDefEqProofs only [go_sem, Nat.reduceAdd, Nat.reduceSub, Nat.reduceMul, Nat.reduceLT, Nat.reduceLeDiff, Nat.reduceEqDiff, Nat.reduceBEq, hc3, hc6, mkSl]
      exact ⟨_, rfl, rfl⟩
    · rw [if_neg hc6] at h
      replace hc6 := (Bool.not_eq_true _).mp hc6
      obtain rfl := Option.some.inj h
      obtain rfl := hx2 _ rfl
      simp -implicitDefEqProofs only [go_sem, Nat.reduceAdd, Nat.reduceSub, Nat.reduceMul, Nat.reduceLT, Nat.reduceLeDiff, Nat.reduceEqDiff, Nat.reduceBEq, hc3, hc6, mkSl]
  · rw [if_neg hc3] at h
    obtain rfl := Option.some.inj h
    obtain rfl := hx2 _ rfl
    simp -implicitDefEqProofs only [go_sem, Nat.reduceAdd, Nat.reduceSub, Nat.reduceMul, Nat.reduceLT, Nat.reduceLeDiff, Nat.reduceEqDiff, Nat.reduceBEq, hc3, mkSl]
theorem wref02_Means_ok {a0 : List UInt8} {r : Bool} (h : wref02_Means a0 = some r) :
  Vc cfg 28 [.lit (.string (bs a0))] [] fun v _ => v = .lit (.bool r) := by
  refine Vc_of (fn := Tryz.f28) rfl Tryz.func28 rfl Tryz.ntmps28 Tryz.results28 (by kernel_rfl) ?_
  conv => arg 3; whnf
  unfold wref02_Means at h
  simp -implicitDefEqProofs only [go_sem, Nat.reduceAdd, Nat.reduceSub, Nat.reduceMul, Nat.reduceLT, Nat.reduceLeDiff, Nat.reduceEqDiff, Nat.reduceBEq]
  refine wpLoop_run' (step := wref02_Means_l0_step a0) (fun s1 => mkSl 36 [(0, .lit (.string (bs a0))), (3, .lit (.string (bs [32, 99, 104, 97, 114, 116, 32, 118, 97, 114, 32, 115, 116, 97, 116, 101, 32, 112, 97, 114, 97, 108, 108, 101, 108, 32, 102, 105, 110, 97, 108, 32, 100, 101, 101, 112, 32, 115, 104, 97, 108, 108, 111, 119, 32, 101, 110, 116, 101, 114, 32, 101, 120, 105, 116, 32, 111, 110, 32, 97, 117, 116, 111, 32, 101, 110, 100, 32, 105, 102, 32, 103, 111, 32, 105, 110, 110, 101, 114, 32, 100, 111, 32, 115, 101, 116, 32, 114, 97, 105, 115, 101, 32, 115, 101, 110, 100, 32, 99, 97, 110, 99, 101, 108, 32, 108, 111, 103, 32, 116, 114, 117, 101, 32, 102, 97, 108, 115, 101, 32, 110, 111, 116, 32, 97, 110, 100, 32, 111, 114, 32, 105, 110, 32]))), (4, .lit (.int .i64 s1))]) (fun s1 => []) h (by kernel_rfl) (by first | rfl | simp -implicitDefEqProofs only [go_sem, Nat.reduceAdd, Nat.reduceSub, Nat.reduceMul, Nat.reduceLT, Nat.reduceLeDiff, Nat.reduceEqDiff, Nat.reduceBEq, mkSl]) (by first | rfl | simp -implicitDefEqProofs only [go_sem, Nat.reduceAdd, Nat.reduceSub, Nat.reduceMul, Nat.reduceLT, Nat.reduceLeDiff, Nat.reduceEqDiff, Nat.reduceBEq]) ?_
  clear h
  intro s1 xx1 h hx2
  unfold wref02_Means_l0_step at h
  by_cases hc3 : (IntKind.i64.wrap ((IntKind.i64.wrap (s1 + (a0.length : Int))) + 2)) ≤ 134
  · rw [if_pos hc3] at h
    obtain ⟨m2, h4, h⟩ := bind_some h
    obtain ⟨s3, h5, h⟩ := bind_some h
    obtain ⟨s4, h6, h⟩ := bind_some h
    by_cases hc7 : (m2 == s4) = true
    · rw [if_pos hc7] at h
      by_cases hc8 : (a0 == []) = true
      · rw [if_pos hc8] at h
        obtain rfl := Option.some.inj h
        obtain rfl := hx2 _ rfl
        simp -implicitDefEqProofs only [go_sem, Nat.reduceAdd, Nat.reduceSub, Nat.reduceMul, Nat.reduceLT, Nat.reduceLeDiff, Nat.reduceEqDiff, Nat.reduceBEq, hc3, h4, h5, h6, hc7, hc8, mkSl]
      · rw [if_neg hc8] at h
        replace hc8 := (Bool.not_eq_true _).mp hc8
        simp -implicitDefEqProofs only [go_sem, Nat.reduceAdd, Nat.reduceSub, Nat.reduceMul, Nat.reduceLT, Nat.reduceLeDiff, Nat.reduceEqDiff, Nat.reduceBEq, hc3, h4, h5, h6, hc7, hc8, mkSl]
        obtain ⟨r5, h9, h⟩ := bind_some h
        refine Vc.mono (wref02_word_ok h9) ?_
        rintro _ _ rfl
        obtain rfl := Option.some.inj h
        obtain rfl := hx2 _ rfl
        simp -implicitDefEqProofs only [go_sem, Nat.reduceAdd, Nat.reduceSub, Nat.reduceMul, Nat.reduceLT, Nat.reduceLeDiff, Nat.reduceEqDiff, Nat.reduceBEq, hc8, mkSl]
    · rw [if_neg hc7] at h
      replace hc7 := (Bool.not_eq_true _).mp hc7
      obtain rfl := Option.some.inj h
      simp -implicitDefEqProofs only [go_sem, Nat.reduceAdd, Nat.reduceSub, Nat.reduceMul, Nat.reduceLT, Nat.reduceLeDiff, Nat.reduceEqDiff, Nat.reduceBEq, hc3, h4, h5, h6, hc7, mkSl]
      exact ⟨_, rfl, rfl⟩
  · rw [if_neg hc3] at h
    obtain rfl := Option.some.inj h
    obtain rfl := hx2 _ rfl
    simp -implicitDefEqProofs only [go_sem, Nat.reduceAdd, Nat.reduceSub, Nat.reduceMul, Nat.reduceLT, Nat.reduceLeDiff, Nat.reduceEqDiff, Nat.reduceBEq, hc3, mkSl]
theorem cmd_Is_ok {a0 : List UInt8} {a1 : List Int} {r : Bool} (h : cmd_Is a0 a1 = some r) :
  Vc cfg 29 [.lit (.string (bs a0)), .sl .view (a1.map (En.int .i64).enc)] [] fun v _ => v = .lit (.bool r) := by
  refine Vc_of (fn := Tryz.f29) rfl Tryz.func29 rfl Tryz.ntmps29 Tryz.results29 (by kernel_rfl) ?_
  conv => arg 3; whnf
  unfold cmd_Is at h
  simp -implicitDefEqProofs only [go_sem, Nat.reduceAdd, Nat.reduceSub, Nat.reduceMul, Nat.reduceLT, Nat.reduceLeDiff, Nat.reduceEqDiff, Nat.reduceBEq]
  obtain ⟨r2, h1, h⟩ := bind_some h
  refine Vc.mono (strings_Cut_ok h1) ?_
  rintro _ _ rfl
  simp -implicitDefEqProofs only [go_sem, Nat.reduceAdd, Nat.reduceSub, Nat.reduceMul, Nat.reduceLT, Nat.reduceLeDiff, Nat.reduceEqDiff, Nat.reduceBEq]
  obtain ⟨xx2, h4, hk5, hx3⟩ := jn_some h
  clear h
  refine seqK_join (x := xx2) (fun s3 => mkSl 43 [(1, .sl .view (a1.map (En.int .i64).enc)), (5, .lit (.string (bs r2.1)))]) (fun s3 => []) ?_ ?_
  · clear hk5
    unfold cmd_Is_j0 at h4
    have h := h4
    clear h4
    simp -implicitDefEqProofs only [go_sem, Nat.reduceAdd, Nat.reduceSub, Nat.reduceMul, Nat.reduceLT, Nat.reduceLeDiff, Nat.reduceEqDiff, Nat.reduceBEq]
    refine wpLoop_run' (step := cmd_Is_l1_step a1 r2) (fun s4 => mkSl 43 [(1, .sl .view (a1.map (En.int .i64).enc)), (5, .lit (.string (bs r2.1))), (16, .sl .view (a1.map (En.int .i64).enc)), (17, .lit (.int .i64 (a1.length : Int))), (18, .lit (.int .i64 s4))]) (fun s4 => []) h (by kernel_rfl) (by first | rfl | simp -implicitDefEqProofs only [go_sem, Nat.reduceAdd, Nat.reduceSub, Nat.reduceMul, Nat.reduceLT, Nat.reduceLeDiff, Nat.reduceEqDiff, Nat.reduceBEq, mkSl]) (by first | rfl | simp -implicitDefEqProofs only [go_sem, Nat.reduceAdd, Nat.reduceSub, Nat.reduceMul, Nat.reduceLT, Nat.reduceLeDiff, Nat.reduceEqDiff, Nat.reduceBEq]) ?_
    clear h
    intro s4 xx6 h hx7
    unfold cmd_Is_l1_step at h
    by_cases hc8 : s4 < (a1.length : Int)
    · rw [if_pos hc8] at h
      obtain ⟨x5, h9, h⟩ := bind_some h
      by_cases hc10 : 1 ≤ x5
      · rw [if_pos hc10] at h
        by_cases hc11 : x5 ≤ 25
        · rw [if_pos hc11] at h
          obtain ⟨j6, h12, h⟩ := bind_some h
          have h13 := vindexAddr_tab (P := Tryz.prog) (t := 72) (k := .i64) (cs := tab1V) (off := 0) h12 (by simp -implicitDefEqProofs only [go_sem, Nat.reduceAdd, Nat.reduceSub, Nat.reduceMul, Nat.reduceLT, Nat.reduceLeDiff, Nat.reduceEqDiff, Nat.reduceBEq, Option.map_some])
          try simp -implicitDefEqProofs only [go_sem, Nat.reduceAdd, Nat.reduceSub, Nat.reduceMul, Nat.reduceLT, Nat.reduceLeDiff, Nat.reduceEqDiff, Nat.reduceBEq] at h13
          obtain ⟨x7, h14, h⟩ := bind_some h
          have h14l := lt_of_get h14
          try simp only [List.length_cons, List.length_nil, Nat.reduceAdd] at h14l
          by_cases hc15 : (x7 == r2.1) = true
          · rw [if_pos hc15] at h
            obtain rfl := Option.some.inj h
            obtain rfl := hx7 _ rfl
            obtain rfl := hx3 _ rfl
            simp -implicitDefEqProofs only [go_sem, Nat.reduceAdd, Nat.reduceSub, Nat.reduceMul, Nat.reduceLT, Nat.reduceLeDiff, Nat.reduceEqDiff, Nat.reduceBEq, hc8, h9, hc10, hc11, h13, h14, h14l, hc15, mkSl]
          · rw [if_neg hc15] at h
            replace hc15 := (Bool.not_eq_true _).mp hc15
            obtain rfl := Option.some.inj h
            simp -implicitDefEqProofs only [go_sem, Nat.reduceAdd, Nat.reduceSub, Nat.reduceMul, Nat.reduceLT, Nat.reduceLeDiff, Nat.reduceEqDiff, Nat.reduceBEq, hc8, h9, hc10, hc11, h13, h14, h14l, hc15, mkSl]
            exact ⟨_, rfl, rfl⟩
        · rw [if_neg hc11] at h
          obtain rfl := Option.some.inj h
          simp -implicitDefEqProofs only [go_sem, Nat.reduceAdd, Nat.reduceSub, Nat.reduceMul, Nat.reduceLT, Nat.reduceLeDiff, Nat.reduceEqDiff, Nat.reduceBEq, hc8, h9, hc10, hc11, mkSl]
          exact ⟨_, rfl, rfl⟩
      · rw [if_neg hc10] at h
        obtain rfl := Option.some.inj h
        simp -implicitDefEqProofs only [go_sem, Nat.reduceAdd, Nat.reduceSub, Nat.reduceMul, Nat.reduceLT, Nat.reduceLeDiff, Nat.reduceEqDiff, Nat.reduceBEq, hc8, h9, hc10, mkSl]
        exact ⟨_, rfl, rfl⟩
    · rw [if_neg hc8] at h
      obtain rfl := Option.some.inj h
      obtain rfl := hx7 _ rfl
      simp -implicitDefEqProofs only [go_sem, Nat.reduceAdd, Nat.reduceSub, Nat.reduceMul, Nat.reduceLT, Nat.reduceLeDiff, Nat.reduceEqDiff, Nat.reduceBEq, hc8, mkSl]
      all_goals first | exact ⟨_, rfl, rfl⟩ | trivial | exact ⟨(), trivial⟩
  · intro s3 hi16
    have h := hk5 _ hi16
    clear h4 hx3 hk5 hi16
    simp -implicitDefEqProofs only [go_sem, Nat.reduceAdd, Nat.reduceSub, Nat.reduceMul, Nat.reduceLT, Nat.reduceLeDiff, Nat.reduceEqDiff, Nat.reduceBEq, mkSl]
    obtain ⟨r8, h17, h⟩ := bind_some h
    refine Vc.mono (tok_Means_ok h17) ?_
    rintro _ _ rfl
    by_cases hc18 : r8 = true
    · rw [if_pos hc18] at h
      obtain rfl := Option.some.inj h
      simp -implicitDefEqProofs only [go_sem, Nat.reduceAdd, Nat.reduceSub, Nat.reduceMul, Nat.reduceLT, Nat.reduceLeDiff, Nat.reduceEqDiff, Nat.reduceBEq, hc18, mkSl]
    · rw [if_neg hc18] at h
      replace hc18 := (Bool.not_eq_true _).mp hc18
      obtain rfl := Option.some.inj h
      simp -implicitDefEqProofs only [go_sem, Nat.reduceAdd, Nat.reduceSub, Nat.reduceMul, Nat.reduceLT, Nat.reduceLeDiff, Nat.reduceEqDiff, Nat.reduceBEq, hc18, mkSl]
end Go.Proofs.YtilmjbljkkbakaaGreatDoor
