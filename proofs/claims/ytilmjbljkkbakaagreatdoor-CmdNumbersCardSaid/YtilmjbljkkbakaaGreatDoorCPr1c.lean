/-
  A part of the proof: lemmas.
-/
import Derived.Test.YtilmjbljkkbakaaGreatDoorCFactsc
import Derived.Test.YtilmjbljkkbakaaGreatDoorCFunsc
import Derived.Test.YtilmjbljkkbakaaGreatDoorCPr0c
set_option linter.unusedSimpArgs false
set_option linter.unusedVariables false
set_option linter.unusedSectionVars false
set_option linter.unnecessarySimpa false
set_option linter.deprecated false
/-! The functions' proofs. -/
namespace Go.Proofs.YtilmjbljkkbakaaGreatDoor
open Go.Wv
set_option linter.unusedSimpArgs false
set_option linter.unusedVariables false
set_option maxRecDepth 10000
set_option maxHeartbeats 20000000
theorem tok_reader_word_ok {p0 : TokReader} {B : List Blk} {i0 : Nat} {r : (List UInt8) × TokReader} (h : tok_reader_word p0 = some r) (hBi0 : B[i0]? = some (.var [.lit (.string (bs p0.s)), .lit (.int .i64 p0.at_)])) :
  Vc cfg 127 [.ptr i0 0] B fun v B' => v = .lit (.string (bs r.1)) ∧ B' = B.set i0 (.var [.lit (.string (bs r.2.s)), .lit (.int .i64 r.2.at_)]) := by
  refine Vc_of (fn := Tryz.f127) rfl Tryz.func127 rfl Tryz.ntmps127 Tryz.results127 (by kernel_rfl) ?_
  conv => arg 3; whnf
  unfold tok_reader_word at h
  have hii0 : i0 < B.length := lt_of_get hBi0
  simp -implicitDefEqProofs only [go_sem, Nat.reduceAdd, Nat.reduceSub, Nat.reduceMul, Nat.reduceLT, Nat.reduceLeDiff, Nat.reduceEqDiff, Nat.reduceBEq, hBi0, hii0]
  obtain ⟨r1, h1, h⟩ := bind_some h
  refine Vc.mono (tok_reader_while_at153_ok h1 (by simp -implicitDefEqProofs only [go_sem, Nat.reduceAdd, Nat.reduceSub, Nat.reduceMul, Nat.reduceLT, Nat.reduceLeDiff, Nat.reduceEqDiff, Nat.reduceBEq, hBi0, hii0])) ?_
  rintro _ _ ⟨rfl, rfl⟩
  obtain rfl := Option.some.inj h
  simp -implicitDefEqProofs only [go_sem, Nat.reduceAdd, Nat.reduceSub, Nat.reduceMul, Nat.reduceLT, Nat.reduceLeDiff, Nat.reduceEqDiff, Nat.reduceBEq, hBi0, hii0]
theorem tok_reader_path_ok {p0 : TokReader} {B : List Blk} {i0 : Nat} {r : TokToken × Int × TokReader} (h : tok_reader_path p0 = some r) (hBi0 : B[i0]? = some (.var [.lit (.string (bs p0.s)), .lit (.int .i64 p0.at_)])) :
  Vc cfg 93 [.ptr i0 0] B fun v B' => v = .tup [.agg [.lit (.int .i64 r.1.Kind), .lit (.string (bs r.1.Text)), .lit (.int .i64 r.1.N), .lit (.int .i64 r.1.At)], .lit (.int .i64 r.2.1)] ∧ B' = B.set i0 (.var [.lit (.string (bs r.2.2.s)), .lit (.int .i64 r.2.2.at_)]) := by
  refine Vc_of (fn := Tryz.f93) rfl Tryz.func93 rfl Tryz.ntmps93 Tryz.results93 (by kernel_rfl) ?_
  conv => arg 3; whnf
  unfold tok_reader_path at h
  have hii0 : i0 < B.length := lt_of_get hBi0
  simp -implicitDefEqProofs only [go_sem, Nat.reduceAdd, Nat.reduceSub, Nat.reduceMul, Nat.reduceLT, Nat.reduceLeDiff, Nat.reduceEqDiff, Nat.reduceBEq, hBi0, hii0]
  obtain ⟨r1, h1, h⟩ := bind_some h
  refine Vc.mono (tok_reader_word_ok h1 (by simp -implicitDefEqProofs only [go_sem, Nat.reduceAdd, Nat.reduceSub, Nat.reduceMul, Nat.reduceLT, Nat.reduceLeDiff, Nat.reduceEqDiff, Nat.reduceBEq, hBi0, hii0])) ?_
  rintro _ _ ⟨rfl, rfl⟩
  by_cases hc2 : 16 < (r1.1.length : Int)
  · rw [if_pos hc2] at h
    obtain rfl := Option.some.inj h
    simp -implicitDefEqProofs only [go_sem, Nat.reduceAdd, Nat.reduceSub, Nat.reduceMul, Nat.reduceLT, Nat.reduceLeDiff, Nat.reduceEqDiff, Nat.reduceBEq, hc2, hBi0, hii0]
  · rw [if_neg hc2] at h
    simp -implicitDefEqProofs only [go_sem, Nat.reduceAdd, Nat.reduceSub, Nat.reduceMul, Nat.reduceLT, Nat.reduceLeDiff, Nat.reduceEqDiff, Nat.reduceBEq, hc2, hBi0, hii0]
    refine wpLoop_run' (step := tok_reader_path_l0_step r1) (fun s2 => mkSl 82 [(0, .ptr i0 0), (2, .ptr B.length 0), (5, .ptr (B.length + 1) 0)]) (fun s2 => B.set i0 (.var [.lit (.string (bs s2.2.2.1)), .lit (.int .i64 s2.2.2.2)]) ++ [.var [.lit (.int .i64 0), .lit (.string (bs [])), .lit (.int .i64 0), .lit (.int .i64 0)], .var [.lit (.int .i64 s2.1), .lit (.string (bs s2.2.1)), .lit (.int .i64 0), .lit (.int .i64 r1.2.at_)]]) h (by kernel_rfl) (by first | rfl | simp -implicitDefEqProofs only [go_sem, Nat.reduceAdd, Nat.reduceSub, Nat.reduceMul, Nat.reduceLT, Nat.reduceLeDiff, Nat.reduceEqDiff, Nat.reduceBEq, mkSl, hBi0, hii0]) (by first | rfl | simp -implicitDefEqProofs only [go_sem, Nat.reduceAdd, Nat.reduceSub, Nat.reduceMul, Nat.reduceLT, Nat.reduceLeDiff, Nat.reduceEqDiff, Nat.reduceBEq, hBi0, hii0]) ?_
    clear h
    intro s2 xx3 h hx4
    unfold tok_reader_path_l0_step at h
    by_cases hc5 : (IntKind.i64.wrap (s2.2.2.2 + 1)) < (s2.2.2.1.length : Int)
    · rw [if_pos hc5] at h
      obtain ⟨c3, h6, h⟩ := bind_some h
      by_cases hc7 : ((c3.toNat : Int) == 46) = true
      · rw [if_pos hc7] at h
        obtain ⟨c4, h8, h⟩ := bind_some h
        simp -implicitDefEqProofs only [go_sem, Nat.reduceAdd, Nat.reduceSub, Nat.reduceMul, Nat.reduceLT, Nat.reduceLeDiff, Nat.reduceEqDiff, Nat.reduceBEq, hc5, h6, hc7, h8, hBi0, hii0, mkSl]
        obtain ⟨r5, h9, h⟩ := bind_some h
        refine Vc.mono (tok_small_ok h9) ?_
        rintro _ _ rfl
        by_cases hc10 : r5 = true
        · rw [if_pos hc10] at h
          simp -implicitDefEqProofs only [go_sem, Nat.reduceAdd, Nat.reduceSub, Nat.reduceMul, Nat.reduceLT, Nat.reduceLeDiff, Nat.reduceEqDiff, Nat.reduceBEq, hc7, hc10, hBi0, hii0, mkSl]
          obtain ⟨r6, h11, h⟩ := bind_some h
          refine Vc.mono (tok_reader_word_ok h11 (by simp -implicitDefEqProofs only [go_sem, Nat.reduceAdd, Nat.reduceSub, Nat.reduceMul, Nat.reduceLT, Nat.reduceLeDiff, Nat.reduceEqDiff, Nat.reduceBEq, hBi0, hii0, mkSl])) ?_
          rintro _ _ ⟨rfl, rfl⟩
          obtain ⟨s7, h12, h⟩ := bind_some h
          obtain ⟨s8, h13, h⟩ := bind_some h
          by_cases hc14 : 16 < (r6.1.length : Int)
          · rw [if_pos hc14] at h
            obtain rfl := Option.some.inj h
            obtain rfl := hx4 _ rfl
            simp -implicitDefEqProofs only [go_sem, Nat.reduceAdd, Nat.reduceSub, Nat.reduceMul, Nat.reduceLT, Nat.reduceLeDiff, Nat.reduceEqDiff, Nat.reduceBEq, h12, h13, hc14, hBi0, hii0, mkSl]
          · rw [if_neg hc14] at h
            obtain rfl := Option.some.inj h
            simp -implicitDefEqProofs only [go_sem, Nat.reduceAdd, Nat.reduceSub, Nat.reduceMul, Nat.reduceLT, Nat.reduceLeDiff, Nat.reduceEqDiff, Nat.reduceBEq, h12, h13, hc14, hBi0, hii0, mkSl]
            exact ⟨_, rfl, rfl⟩
        · rw [if_neg hc10] at h
          replace hc10 := (Bool.not_eq_true _).mp hc10
          by_cases hc15 : 32 < (s2.2.1.length : Int)
          · rw [if_pos hc15] at h
            obtain rfl := Option.some.inj h
            obtain rfl := hx4 _ rfl
            simp -implicitDefEqProofs only [go_sem, Nat.reduceAdd, Nat.reduceSub, Nat.reduceMul, Nat.reduceLT, Nat.reduceLeDiff, Nat.reduceEqDiff, Nat.reduceBEq, hc7, hc10, hc15, hBi0, hii0, mkSl]
          · rw [if_neg hc15] at h
            obtain rfl := Option.some.inj h
            obtain rfl := hx4 _ rfl
            simp -implicitDefEqProofs only [go_sem, Nat.reduceAdd, Nat.reduceSub, Nat.reduceMul, Nat.reduceLT, Nat.reduceLeDiff, Nat.reduceEqDiff, Nat.reduceBEq, hc7, hc10, hc15, hBi0, hii0, mkSl]
      · rw [if_neg hc7] at h
        replace hc7 := (Bool.not_eq_true _).mp hc7
        by_cases hc16 : 32 < (s2.2.1.length : Int)
        · rw [if_pos hc16] at h
          obtain rfl := Option.some.inj h
          obtain rfl := hx4 _ rfl
          simp -implicitDefEqProofs only [go_sem, Nat.reduceAdd, Nat.reduceSub, Nat.reduceMul, Nat.reduceLT, Nat.reduceLeDiff, Nat.reduceEqDiff, Nat.reduceBEq, hc5, h6, hc7, hc16, hBi0, hii0, mkSl]
        · rw [if_neg hc16] at h
          obtain rfl := Option.some.inj h
          obtain rfl := hx4 _ rfl
          simp -implicitDefEqProofs only [go_sem, Nat.reduceAdd, Nat.reduceSub, Nat.reduceMul, Nat.reduceLT, Nat.reduceLeDiff, Nat.reduceEqDiff, Nat.reduceBEq, hc5, h6, hc7, hc16, hBi0, hii0, mkSl]
    · rw [if_neg hc5] at h
      by_cases hc17 : 32 < (s2.2.1.length : Int)
      · rw [if_pos hc17] at h
        obtain rfl := Option.some.inj h
        obtain rfl := hx4 _ rfl
        simp -implicitDefEqProofs only [go_sem, Nat.reduceAdd, Nat.reduceSub, Nat.reduceMul, Nat.reduceLT, Nat.reduceLeDiff, Nat.reduceEqDiff, Nat.reduceBEq, hc5, hc17, hBi0, hii0, mkSl]
      · rw [if_neg hc17] at h
        obtain rfl := Option.some.inj h
        obtain rfl := hx4 _ rfl
        simp -implicitDefEqProofs only [go_sem, Nat.reduceAdd, Nat.reduceSub, Nat.reduceMul, Nat.reduceLT, Nat.reduceLeDiff, Nat.reduceEqDiff, Nat.reduceBEq, hc5, hc17, hBi0, hii0, mkSl]
theorem tok_reader_while_at94_ok {p0 : TokReader} {B : List Blk} {i0 : Nat} {r : (List UInt8) × TokReader} (h : tok_reader_while_at94 p0 = some r) (hBi0 : B[i0]? = some (.var [.lit (.string (bs p0.s)), .lit (.int .i64 p0.at_)])) :
  Vc cfg 54 [.ptr i0 0, .lit (.func (.func 94) #[] #[])] B fun v B' => v = .lit (.string (bs r.1)) ∧ B' = B.set i0 (.var [.lit (.string (bs r.2.s)), .lit (.int .i64 r.2.at_)]) := by
  refine Vc_of (fn := Tryz.f54) rfl Tryz.func54 rfl Tryz.ntmps54 Tryz.results54 (by kernel_rfl) ?_
  conv => arg 3; whnf
  unfold tok_reader_while_at94 at h
  have hii0 : i0 < B.length := lt_of_get hBi0
  simp -implicitDefEqProofs only [go_sem, Nat.reduceAdd, Nat.reduceSub, Nat.reduceMul, Nat.reduceLT, Nat.reduceLeDiff, Nat.reduceEqDiff, Nat.reduceBEq, hBi0, hii0]
  refine wpLoop_run' (step := tok_reader_while_at94_l0_step p0) (fun s1 => mkSl 50 [(0, .ptr i0 0), (1, .lit (.func (.func 94) #[] #[])), (5, .lit (.int .i64 p0.at_))]) (fun s1 => B.set i0 (.var [.lit (.string (bs p0.s)), .lit (.int .i64 s1)])) h (by kernel_rfl) (by first | rfl | simp -implicitDefEqProofs only [go_sem, Nat.reduceAdd, Nat.reduceSub, Nat.reduceMul, Nat.reduceLT, Nat.reduceLeDiff, Nat.reduceEqDiff, Nat.reduceBEq, mkSl, hBi0, hii0]) (by first | rfl | simp -implicitDefEqProofs only [go_sem, Nat.reduceAdd, Nat.reduceSub, Nat.reduceMul, Nat.reduceLT, Nat.reduceLeDiff, Nat.reduceEqDiff, Nat.reduceBEq, hBi0, hii0]) ?_
  clear h
  intro s1 xx1 h hx2
  unfold tok_reader_while_at94_l0_step at h
  by_cases hc3 : s1 < (p0.s.length : Int)
  · rw [if_pos hc3] at h
    obtain ⟨c2, h4, h⟩ := bind_some h
    simp -implicitDefEqProofs only [go_sem, Nat.reduceAdd, Nat.reduceSub, Nat.reduceMul, Nat.reduceLT, Nat.reduceLeDiff, Nat.reduceEqDiff, Nat.reduceBEq, hc3, h4, hBi0, hii0, mkSl]
    obtain ⟨r3, h5, h⟩ := bind_some h
    refine Vc.mono (tok_digit_ok h5) ?_
    rintro _ _ rfl
    by_cases hc6 : r3 = true
    · rw [if_pos hc6] at h
      obtain rfl := Option.some.inj h
      simp -implicitDefEqProofs only [go_sem, Nat.reduceAdd, Nat.reduceSub, Nat.reduceMul, Nat.reduceLT, Nat.reduceLeDiff, Nat.reduceEqDiff, Nat.reduceBEq, hc3, hc6, hBi0, hii0, mkSl]
      exact ⟨_, rfl, rfl⟩
    · rw [if_neg hc6] at h
      replace hc6 := (Bool.not_eq_true _).mp hc6
      obtain ⟨m4, h7, h⟩ := bind_some h
      obtain rfl := Option.some.inj h
      obtain rfl := hx2 _ rfl
      simp -implicitDefEqProofs only [go_sem, Nat.reduceAdd, Nat.reduceSub, Nat.reduceMul, Nat.reduceLT, Nat.reduceLeDiff, Nat.reduceEqDiff, Nat.reduceBEq, hc3, hc6, h7, hBi0, hii0, mkSl]
  · rw [if_neg hc3] at h
    obtain ⟨m5, h8, h⟩ := bind_some h
    obtain rfl := Option.some.inj h
    obtain rfl := hx2 _ rfl
    simp -implicitDefEqProofs only [go_sem, Nat.reduceAdd, Nat.reduceSub, Nat.reduceMul, Nat.reduceLT, Nat.reduceLeDiff, Nat.reduceEqDiff, Nat.reduceBEq, hc3, h8, hBi0, hii0, mkSl]
theorem tok_reader_number_ok {p0 : TokReader} {B : List Blk} {i0 : Nat} {r : TokToken × Int × TokReader} (h : tok_reader_number p0 = some r) (hBi0 : B[i0]? = some (.var [.lit (.string (bs p0.s)), .lit (.int .i64 p0.at_)])) :
  Vc cfg 95 [.ptr i0 0] B fun v B' => v = .tup [.agg [.lit (.int .i64 r.1.Kind), .lit (.string (bs r.1.Text)), .lit (.int .i64 r.1.N), .lit (.int .i64 r.1.At)], .lit (.int .i64 r.2.1)] ∧ B' = B.set i0 (.var [.lit (.string (bs r.2.2.s)), .lit (.int .i64 r.2.2.at_)]) := by
  refine Vc_of (fn := Tryz.f95) rfl Tryz.func95 rfl Tryz.ntmps95 Tryz.results95 (by kernel_rfl) ?_
  conv => arg 3; whnf
  unfold tok_reader_number at h
  have hii0 : i0 < B.length := lt_of_get hBi0
  simp -implicitDefEqProofs only [go_sem, Nat.reduceAdd, Nat.reduceSub, Nat.reduceMul, Nat.reduceLT, Nat.reduceLeDiff, Nat.reduceEqDiff, Nat.reduceBEq, hBi0, hii0]
  obtain ⟨r1, h1, h⟩ := bind_some h
  refine Vc.mono (tok_reader_while_at94_ok h1 (by simp -implicitDefEqProofs only [go_sem, Nat.reduceAdd, Nat.reduceSub, Nat.reduceMul, Nat.reduceLT, Nat.reduceLeDiff, Nat.reduceEqDiff, Nat.reduceBEq, hBi0, hii0])) ?_
  rintro _ _ ⟨rfl, rfl⟩
  by_cases hc2 : 1 < (r1.1.length : Int)
  · rw [if_pos hc2] at h
    obtain ⟨c2, h3, h⟩ := bind_some h
    by_cases hc4 : ((c2.toNat : Int) == 48) = true
    · rw [if_pos hc4] at h
      obtain rfl := Option.some.inj h
      simp -implicitDefEqProofs only [go_sem, Nat.reduceAdd, Nat.reduceSub, Nat.reduceMul, Nat.reduceLT, Nat.reduceLeDiff, Nat.reduceEqDiff, Nat.reduceBEq, hc2, h3, hc4, hBi0, hii0]
    · rw [if_neg hc4] at h
      replace hc4 := (Bool.not_eq_true _).mp hc4
      obtain ⟨b3, h5, h⟩ := bind_some h
      simp -implicitDefEqProofs only [go_sem, Nat.reduceAdd, Nat.reduceSub, Nat.reduceMul, Nat.reduceLT, Nat.reduceLeDiff, Nat.reduceEqDiff, Nat.reduceBEq, hc2, h3, hc4, h5, hBi0, hii0]
      refine wpLoop_run' (step := tok_reader_number_l0_step r1 b3) (fun s4 => mkSl 44 [(2, .ptr B.length 0), (4, .lit (.string (bs r1.1))), (5, .lit (.int .i64 s4.1)), (21, .sl .view (b3.map (En.int .u8).enc)), (22, .lit (.int .i64 (b3.length : Int))), (23, .lit (.int .i64 s4.2))]) (fun s4 => B.set i0 (.var [.lit (.string (bs r1.2.s)), .lit (.int .i64 r1.2.at_)]) ++ [.var [.lit (.int .i64 0), .lit (.string (bs [])), .lit (.int .i64 0), .lit (.int .i64 0)]]) h (by kernel_rfl) (by first | rfl | simp -implicitDefEqProofs only [go_sem, Nat.reduceAdd, Nat.reduceSub, Nat.reduceMul, Nat.reduceLT, Nat.reduceLeDiff, Nat.reduceEqDiff, Nat.reduceBEq, mkSl, hBi0, hii0]) (by first | rfl | simp -implicitDefEqProofs only [go_sem, Nat.reduceAdd, Nat.reduceSub, Nat.reduceMul, Nat.reduceLT, Nat.reduceLeDiff, Nat.reduceEqDiff, Nat.reduceBEq, hBi0, hii0]) ?_
      clear h
      intro s4 xx6 h hx7
      unfold tok_reader_number_l0_step at h
      by_cases hc8 : s4.2 < (b3.length : Int)
      · rw [if_pos hc8] at h
        obtain ⟨x5, h9, h⟩ := bind_some h
        obtain ⟨q6, h10, h⟩ := bind_some h
        by_cases hc11 : q6 < s4.1
        · rw [if_pos hc11] at h
          obtain rfl := Option.some.inj h
          obtain rfl := hx7 _ rfl
          simp -implicitDefEqProofs only [go_sem, Nat.reduceAdd, Nat.reduceSub, Nat.reduceMul, Nat.reduceLT, Nat.reduceLeDiff, Nat.reduceEqDiff, Nat.reduceBEq, hc8, h9, h10, hc11, hBi0, hii0, mkSl]
        · rw [if_neg hc11] at h
          obtain rfl := Option.some.inj h
          simp -implicitDefEqProofs only [go_sem, Nat.reduceAdd, Nat.reduceSub, Nat.reduceMul, Nat.reduceLT, Nat.reduceLeDiff, Nat.reduceEqDiff, Nat.reduceBEq, hc8, h9, h10, hc11, hBi0, hii0, mkSl]
          exact ⟨_, rfl, rfl⟩
      · rw [if_neg hc8] at h
        obtain rfl := Option.some.inj h
        obtain rfl := hx7 _ rfl
        simp -implicitDefEqProofs only [go_sem, Nat.reduceAdd, Nat.reduceSub, Nat.reduceMul, Nat.reduceLT, Nat.reduceLeDiff, Nat.reduceEqDiff, Nat.reduceBEq, hc8, hBi0, hii0, mkSl]
  · rw [if_neg hc2] at h
    obtain ⟨b7, h12, h⟩ := bind_some h
    simp -implicitDefEqProofs only [go_sem, Nat.reduceAdd, Nat.reduceSub, Nat.reduceMul, Nat.reduceLT, Nat.reduceLeDiff, Nat.reduceEqDiff, Nat.reduceBEq, hc2, h12, hBi0, hii0, mkSl]
    refine wpLoop_run' (step := tok_reader_number_l1_step r1 b7) (fun s8 => mkSl 44 [(2, .ptr B.length 0), (4, .lit (.string (bs r1.1))), (5, .lit (.int .i64 s8.1)), (21, .sl .view (b7.map (En.int .u8).enc)), (22, .lit (.int .i64 (b7.length : Int))), (23, .lit (.int .i64 s8.2))]) (fun s8 => B.set i0 (.var [.lit (.string (bs r1.2.s)), .lit (.int .i64 r1.2.at_)]) ++ [.var [.lit (.int .i64 0), .lit (.string (bs [])), .lit (.int .i64 0), .lit (.int .i64 0)]]) h (by kernel_rfl) (by first | rfl | simp -implicitDefEqProofs only [go_sem, Nat.reduceAdd, Nat.reduceSub, Nat.reduceMul, Nat.reduceLT, Nat.reduceLeDiff, Nat.reduceEqDiff, Nat.reduceBEq, mkSl, hBi0, hii0, mkSl]) (by first | rfl | simp -implicitDefEqProofs only [go_sem, Nat.reduceAdd, Nat.reduceSub, Nat.reduceMul, Nat.reduceLT, Nat.reduceLeDiff, Nat.reduceEqDiff, Nat.reduceBEq, hBi0, hii0, mkSl]) ?_
    clear h
    intro s8 xx13 h hx14
    unfold tok_reader_number_l1_step at h
    by_cases hc15 : s8.2 < (b7.length : Int)
    · rw [if_pos hc15] at h
      obtain ⟨x9, h16, h⟩ := bind_some h
      obtain ⟨q10, h17, h⟩ := bind_some h
      by_cases hc18 : q10 < s8.1
      · rw [if_pos hc18] at h
        obtain rfl := Option.some.inj h
        obtain rfl := hx14 _ rfl
        simp -implicitDefEqProofs only [go_sem, Nat.reduceAdd, Nat.reduceSub, Nat.reduceMul, Nat.reduceLT, Nat.reduceLeDiff, Nat.reduceEqDiff, Nat.reduceBEq, hc15, h16, h17, hc18, hBi0, hii0, mkSl]
      · rw [if_neg hc18] at h
        obtain rfl := Option.some.inj h
        simp -implicitDefEqProofs only [go_sem, Nat.reduceAdd, Nat.reduceSub, Nat.reduceMul, Nat.reduceLT, Nat.reduceLeDiff, Nat.reduceEqDiff, Nat.reduceBEq, hc15, h16, h17, hc18, hBi0, hii0, mkSl]
        exact ⟨_, rfl, rfl⟩
    · rw [if_neg hc15] at h
      obtain rfl := Option.some.inj h
      obtain rfl := hx14 _ rfl
      simp -implicitDefEqProofs only [go_sem, Nat.reduceAdd, Nat.reduceSub, Nat.reduceMul, Nat.reduceLT, Nat.reduceLeDiff, Nat.reduceEqDiff, Nat.reduceBEq, hc15, hBi0, hii0, mkSl]
end Go.Proofs.YtilmjbljkkbakaaGreatDoor
