/-
  A part of the proof: lemmas.
-/
import Derived.Test.YtilmjbljkkbakaaDoorFactsc
import Derived.Test.YtilmjbljkkbakaaDoorFunsc
set_option linter.unusedSimpArgs false
set_option linter.unusedVariables false
set_option linter.unusedSectionVars false
set_option linter.unnecessarySimpa false
set_option linter.deprecated false
/-! The functions' proofs. -/
namespace Go.Proofs.YtilmjbljkkbakaaDoor
open Go.Wv
set_option linter.unusedSimpArgs false
set_option linter.unusedVariables false
set_option maxRecDepth 10000
set_option maxHeartbeats 20000000
theorem tok_Lex_1_ok {a0 : Int} {r : Bool} (h : tok_Lex_1 a0 = some r) :
  Vc cfg 18 [.lit (.int .u8 a0)] [] fun v _ => v = .lit (.bool r) := by
  refine Vc_of (fn := Tryd.f18) rfl Tryd.func18 rfl Tryd.ntmps18 Tryd.results18 (by kernel_rfl) ?_
  conv => arg 3; whnf
  unfold tok_Lex_1 at h
  obtain rfl := Option.some.inj h
  simp -implicitDefEqProofs only [go_sem, Nat.reduceAdd, Nat.reduceSub, Nat.reduceMul, Nat.reduceLT, Nat.reduceLeDiff, Nat.reduceEqDiff, Nat.reduceBEq]
theorem tok_reader_while_at18_ok {p0 : TokReader} {B : List Blk} {i0 : Nat} {r : (List UInt8) × TokReader} (h : tok_reader_while_at18 p0 = some r) (hBi0 : B[i0]? = some (.var [.lit (.string (bs p0.s)), .lit (.int .i64 p0.at_)])) :
  Vc cfg 17 [.ptr i0 0, .lit (.func (.func 18) #[] #[])] B fun v B' => v = .lit (.string (bs r.1)) ∧ B' = B.set i0 (.var [.lit (.string (bs r.2.s)), .lit (.int .i64 r.2.at_)]) := by
  refine Vc_of (fn := Tryd.f17) rfl Tryd.func17 rfl Tryd.ntmps17 Tryd.results17 (by kernel_rfl) ?_
  conv => arg 3; whnf
  unfold tok_reader_while_at18 at h
  have hii0 : i0 < B.length := lt_of_get hBi0
  simp -implicitDefEqProofs only [go_sem, Nat.reduceAdd, Nat.reduceSub, Nat.reduceMul, Nat.reduceLT, Nat.reduceLeDiff, Nat.reduceEqDiff, Nat.reduceBEq, hBi0, hii0]
  refine wpLoop_run' (step := tok_reader_while_at18_l0_step p0) (fun s1 => mkSl 50 [(0, .ptr i0 0), (1, .lit (.func (.func 18) #[] #[])), (5, .lit (.int .i64 p0.at_))]) (fun s1 => B.set i0 (.var [.lit (.string (bs p0.s)), .lit (.int .i64 s1)])) h (by kernel_rfl) (by first | rfl | simp -implicitDefEqProofs only [go_sem, Nat.reduceAdd, Nat.reduceSub, Nat.reduceMul, Nat.reduceLT, Nat.reduceLeDiff, Nat.reduceEqDiff, Nat.reduceBEq, mkSl, hBi0, hii0]) (by first | rfl | simp -implicitDefEqProofs only [go_sem, Nat.reduceAdd, Nat.reduceSub, Nat.reduceMul, Nat.reduceLT, Nat.reduceLeDiff, Nat.reduceEqDiff, Nat.reduceBEq, hBi0, hii0]) ?_
  clear h
  intro s1 xx1 h hx2
  unfold tok_reader_while_at18_l0_step at h
  by_cases hc3 : s1 < (p0.s.length : Int)
  · rw [if_pos hc3] at h
    obtain ⟨c2, h4, h⟩ := bind_some h
    simp -implicitDefEqProofs only [go_sem, Nat.reduceAdd, Nat.reduceSub, Nat.reduceMul, Nat.reduceLT, Nat.reduceLeDiff, Nat.reduceEqDiff, Nat.reduceBEq, hc3, h4, hBi0, hii0, mkSl]
    obtain ⟨r3, h5, h⟩ := bind_some h
    refine Vc.mono (tok_Lex_1_ok h5) ?_
    rintro _ _ rfl
    by_cases hc6 : r3 = true
    · rw [if_pos hc6] at h
      obtain rfl := Option.some.inj h
      simp -implicitDefEqProofs only [go_sem, Nat.reduceAdd, Nat.reduceSub, Nat.reduceMul, Nat.reduceLT, Nat.reduceLeDiff, Nat.reduceEqDiff, Nat.reduceBEq, hc3, hc6, hBi0, hii0, mkSl]
      exact ⟨_, rfl, rfl⟩
    · rw [if_neg hc6] at h
      replace hc6 := (Bool.not_eq_true _).mp hc6
      obtain ⟨m4, h7, h⟩ := bind_some h
      obtain rfl := Option.some.inj h
      obtain rfl := hx2 _ rfl
      simp -implicitDefEqProofs only [go_sem, Nat.reduceAdd, Nat.reduceSub, Nat.reduceMul, Nat.reduceLT, Nat.reduceLeDiff, Nat.reduceEqDiff, Nat.reduceBEq, hc3, hc6, h7, hBi0, hii0, mkSl]
  · rw [if_neg hc3] at h
    obtain ⟨m5, h8, h⟩ := bind_some h
    obtain rfl := Option.some.inj h
    obtain rfl := hx2 _ rfl
    simp -implicitDefEqProofs only [go_sem, Nat.reduceAdd, Nat.reduceSub, Nat.reduceMul, Nat.reduceLT, Nat.reduceLeDiff, Nat.reduceEqDiff, Nat.reduceBEq, hc3, h8, hBi0, hii0, mkSl]
theorem tok_small_ok {a0 : Int} {r : Bool} (h : tok_small a0 = some r) :
  Vc cfg 31 [.lit (.int .u8 a0)] [] fun v _ => v = .lit (.bool r) := by
  refine Vc_of (fn := Tryd.f31) rfl Tryd.func31 rfl Tryd.ntmps31 Tryd.results31 (by kernel_rfl) ?_
  conv => arg 3; whnf
  unfold tok_small at h
  by_cases hc1 : 97 ≤ a0
  · rw [if_pos hc1] at h
    obtain rfl := Option.some.inj h
    simp -implicitDefEqProofs only [go_sem, Nat.reduceAdd, Nat.reduceSub, Nat.reduceMul, Nat.reduceLT, Nat.reduceLeDiff, Nat.reduceEqDiff, Nat.reduceBEq, hc1]
  · rw [if_neg hc1] at h
    obtain rfl := Option.some.inj h
    simp -implicitDefEqProofs only [go_sem, Nat.reduceAdd, Nat.reduceSub, Nat.reduceMul, Nat.reduceLT, Nat.reduceLeDiff, Nat.reduceEqDiff, Nat.reduceBEq, hc1]
theorem tok_digit_ok {a0 : Int} {r : Bool} (h : tok_digit a0 = some r) :
  Vc cfg 33 [.lit (.int .u8 a0)] [] fun v _ => v = .lit (.bool r) := by
  refine Vc_of (fn := Tryd.f33) rfl Tryd.func33 rfl Tryd.ntmps33 Tryd.results33 (by kernel_rfl) ?_
  conv => arg 3; whnf
  unfold tok_digit at h
  by_cases hc1 : 48 ≤ a0
  · rw [if_pos hc1] at h
    obtain rfl := Option.some.inj h
    simp -implicitDefEqProofs only [go_sem, Nat.reduceAdd, Nat.reduceSub, Nat.reduceMul, Nat.reduceLT, Nat.reduceLeDiff, Nat.reduceEqDiff, Nat.reduceBEq, hc1]
  · rw [if_neg hc1] at h
    obtain rfl := Option.some.inj h
    simp -implicitDefEqProofs only [go_sem, Nat.reduceAdd, Nat.reduceSub, Nat.reduceMul, Nat.reduceLT, Nat.reduceLeDiff, Nat.reduceEqDiff, Nat.reduceBEq, hc1]
theorem tok_reader_word_1_ok {a0 : Int} {r : Bool} (h : tok_reader_word_1 a0 = some r) :
  Vc cfg 72 [.lit (.int .u8 a0)] [] fun v _ => v = .lit (.bool r) := by
  refine Vc_of (fn := Tryd.f72) rfl Tryd.func72 rfl Tryd.ntmps72 Tryd.results72 (by kernel_rfl) ?_
  conv => arg 3; whnf
  unfold tok_reader_word_1 at h
  simp -implicitDefEqProofs only [go_sem, Nat.reduceAdd, Nat.reduceSub, Nat.reduceMul, Nat.reduceLT, Nat.reduceLeDiff, Nat.reduceEqDiff, Nat.reduceBEq]
  obtain ⟨r1, h1, h⟩ := bind_some h
  refine Vc.mono (tok_small_ok h1) ?_
  rintro _ _ rfl
  by_cases hc2 : r1 = true
  · rw [if_pos hc2] at h
    obtain rfl := Option.some.inj h
    simp -implicitDefEqProofs only [go_sem, Nat.reduceAdd, Nat.reduceSub, Nat.reduceMul, Nat.reduceLT, Nat.reduceLeDiff, Nat.reduceEqDiff, Nat.reduceBEq, hc2]
  · rw [if_neg hc2] at h
    replace hc2 := (Bool.not_eq_true _).mp hc2
    simp -implicitDefEqProofs only [go_sem, Nat.reduceAdd, Nat.reduceSub, Nat.reduceMul, Nat.reduceLT, Nat.reduceLeDiff, Nat.reduceEqDiff, Nat.reduceBEq, hc2]
    obtain ⟨r2, h3, h⟩ := bind_some h
    refine Vc.mono (tok_digit_ok h3) ?_
    rintro _ _ rfl
    by_cases hc4 : r2 = true
    · rw [if_pos hc4] at h
      obtain rfl := Option.some.inj h
      simp -implicitDefEqProofs only [go_sem, Nat.reduceAdd, Nat.reduceSub, Nat.reduceMul, Nat.reduceLT, Nat.reduceLeDiff, Nat.reduceEqDiff, Nat.reduceBEq, hc2, hc4]
    · rw [if_neg hc4] at h
      replace hc4 := (Bool.not_eq_true _).mp hc4
      obtain rfl := Option.some.inj h
      simp -implicitDefEqProofs only [go_sem, Nat.reduceAdd, Nat.reduceSub, Nat.reduceMul, Nat.reduceLT, Nat.reduceLeDiff, Nat.reduceEqDiff, Nat.reduceBEq, hc2, hc4]
theorem tok_reader_while_at72_ok {p0 : TokReader} {B : List Blk} {i0 : Nat} {r : (List UInt8) × TokReader} (h : tok_reader_while_at72 p0 = some r) (hBi0 : B[i0]? = some (.var [.lit (.string (bs p0.s)), .lit (.int .i64 p0.at_)])) :
  Vc cfg 17 [.ptr i0 0, .lit (.func (.func 72) #[] #[])] B fun v B' => v = .lit (.string (bs r.1)) ∧ B' = B.set i0 (.var [.lit (.string (bs r.2.s)), .lit (.int .i64 r.2.at_)]) := by
  refine Vc_of (fn := Tryd.f17) rfl Tryd.func17 rfl Tryd.ntmps17 Tryd.results17 (by kernel_rfl) ?_
  conv => arg 3; whnf
  unfold tok_reader_while_at72 at h
  have hii0 : i0 < B.length := lt_of_get hBi0
  simp -implicitDefEqProofs only [go_sem, Nat.reduceAdd, Nat.reduceSub, Nat.reduceMul, Nat.reduceLT, Nat.reduceLeDiff, Nat.reduceEqDiff, Nat.reduceBEq, hBi0, hii0]
  refine wpLoop_run' (step := tok_reader_while_at72_l0_step p0) (fun s1 => mkSl 50 [(0, .ptr i0 0), (1, .lit (.func (.func 72) #[] #[])), (5, .lit (.int .i64 p0.at_))]) (fun s1 => B.set i0 (.var [.lit (.string (bs p0.s)), .lit (.int .i64 s1)])) h (by kernel_rfl) (by first | rfl | simp -implicitDefEqProofs only [go_sem, Nat.reduceAdd, Nat.reduceSub, Nat.reduceMul, Nat.reduceLT, Nat.reduceLeDiff, Nat.reduceEqDiff, Nat.reduceBEq, mkSl, hBi0, hii0]) (by first | rfl | simp -implicitDefEqProofs only [go_sem, Nat.reduceAdd, Nat.reduceSub, Nat.reduceMul, Nat.reduceLT, Nat.reduceLeDiff, Nat.reduceEqDiff, Nat.reduceBEq, hBi0, hii0]) ?_
  clear h
  intro s1 xx1 h hx2
  unfold tok_reader_while_at72_l0_step at h
  by_cases hc3 : s1 < (p0.s.length : Int)
  · rw [if_pos hc3] at h
    obtain ⟨c2, h4, h⟩ := bind_some h
    simp -implicitDefEqProofs only [go_sem, Nat.reduceAdd, Nat.reduceSub, Nat.reduceMul, Nat.reduceLT, Nat.reduceLeDiff, Nat.reduceEqDiff, Nat.reduceBEq, hc3, h4, hBi0, hii0, mkSl]
    obtain ⟨r3, h5, h⟩ := bind_some h
    refine Vc.mono (tok_reader_word_1_ok h5) ?_
    rintro _ _ rfl
    by_cases hc6 : r3 = true
    · rw [if_pos hc6] at h
      obtain rfl := Option.some.inj h
      simp -implicitDefEqProofs only [go_sem, Nat.reduceAdd, Nat.reduceSub, Nat.reduceMul, Nat.reduceLT, Nat.reduceLeDiff, Nat.reduceEqDiff, Nat.reduceBEq, hc3, hc6, hBi0, hii0, mkSl]
      exact ⟨_, rfl, rfl⟩
    · rw [if_neg hc6] at h
      replace hc6 := (Bool.not_eq_true _).mp hc6
      obtain ⟨m4, h7, h⟩ := bind_some h
      obtain rfl := Option.some.inj h
      obtain rfl := hx2 _ rfl
      simp -implicitDefEqProofs only [go_sem, Nat.reduceAdd, Nat.reduceSub, Nat.reduceMul, Nat.reduceLT, Nat.reduceLeDiff, Nat.reduceEqDiff, Nat.reduceBEq, hc3, hc6, h7, hBi0, hii0, mkSl]
  · rw [if_neg hc3] at h
    obtain ⟨m5, h8, h⟩ := bind_some h
    obtain rfl := Option.some.inj h
    obtain rfl := hx2 _ rfl
    simp -implicitDefEqProofs only [go_sem, Nat.reduceAdd, Nat.reduceSub, Nat.reduceMul, Nat.reduceLT, Nat.reduceLeDiff, Nat.reduceEqDiff, Nat.reduceBEq, hc3, h8, hBi0, hii0, mkSl]
theorem tok_reader_word_ok {p0 : TokReader} {B : List Blk} {i0 : Nat} {r : (List UInt8) × TokReader} (h : tok_reader_word p0 = some r) (hBi0 : B[i0]? = some (.var [.lit (.string (bs p0.s)), .lit (.int .i64 p0.at_)])) :
  Vc cfg 59 [.ptr i0 0] B fun v B' => v = .lit (.string (bs r.1)) ∧ B' = B.set i0 (.var [.lit (.string (bs r.2.s)), .lit (.int .i64 r.2.at_)]) := by
  refine Vc_of (fn := Tryd.f59) rfl Tryd.func59 rfl Tryd.ntmps59 Tryd.results59 (by kernel_rfl) ?_
  conv => arg 3; whnf
  unfold tok_reader_word at h
  have hii0 : i0 < B.length := lt_of_get hBi0
  simp -implicitDefEqProofs only [go_sem, Nat.reduceAdd, Nat.reduceSub, Nat.reduceMul, Nat.reduceLT, Nat.reduceLeDiff, Nat.reduceEqDiff, Nat.reduceBEq, hBi0, hii0]
  obtain ⟨r1, h1, h⟩ := bind_some h
  refine Vc.mono (tok_reader_while_at72_ok h1 (by simp -implicitDefEqProofs only [go_sem, Nat.reduceAdd, Nat.reduceSub, Nat.reduceMul, Nat.reduceLT, Nat.reduceLeDiff, Nat.reduceEqDiff, Nat.reduceBEq, hBi0, hii0])) ?_
  rintro _ _ ⟨rfl, rfl⟩
  obtain rfl := Option.some.inj h
  simp -implicitDefEqProofs only [go_sem, Nat.reduceAdd, Nat.reduceSub, Nat.reduceMul, Nat.reduceLT, Nat.reduceLeDiff, Nat.reduceEqDiff, Nat.reduceBEq, hBi0, hii0]
theorem tok_reader_path_ok {p0 : TokReader} {B : List Blk} {i0 : Nat} {r : TokToken × Int × TokReader} (h : tok_reader_path p0 = some r) (hBi0 : B[i0]? = some (.var [.lit (.string (bs p0.s)), .lit (.int .i64 p0.at_)])) :
  Vc cfg 32 [.ptr i0 0] B fun v B' => v = .tup [.agg [.lit (.int .i64 r.1.Kind), .lit (.string (bs r.1.Text)), .lit (.int .i64 r.1.N), .lit (.int .i64 r.1.At)], .lit (.int .i64 r.2.1)] ∧ B' = B.set i0 (.var [.lit (.string (bs r.2.2.s)), .lit (.int .i64 r.2.2.at_)]) := by
  refine Vc_of (fn := Tryd.f32) rfl Tryd.func32 rfl Tryd.ntmps32 Tryd.results32 (by kernel_rfl) ?_
  conv => arg 3; whnf
  unfold tok_reader_path at h
  have hii0 : i0 < B.length := lt_of_get hBi0
  simp -implicitDefEqProofs only [go_sem, Nat.reduceAdd, Nat.reduceSub, Nat.reduceMul, Nat.reduceLT, Nat.reduceLeDiff, Nat.reduceEqDiff, Nat.reduceBEq, hBi0, hii0]
  obtain ⟨r1, h1, h⟩ := bind_some h
  refine Vc.mono (tok_reader_word_ok h1 (by simp -implicitDefEqProofs only [go_sem, Nat.reduceAdd, Nat.reduceSub, Nat.reduceMul, Nat.reduceLT, Nat.reduceLeDiff, Nat.reduceEqDiff, Nat.reduceBEq, hBi0, hii0])) ?_
  rintro _ _ ⟨rfl, rfl⟩
  by_cases hc2 : 16 < (r1.1.length : Int)
  · rw [if_pos hc2] at h
    obtain rfl := Option.some.inj h
    simp -implicitDefEqProofs only [go_sem, Nat.reduceAdd, Nat.reduceSub, Nat.reduceMul, Nat.reduceLT, Nat.reduceLeDiff, Nat.reduceEqDiff, Nat.reduceBEq, hc2, hBi0, hii0]
  · rw [if_neg hc2] at h
    simp -implicitDefEqProofs only [go_sem, Nat.reduceAdd, Nat.reduceSub, Nat.reduceMul, Nat.reduceLT, Nat.reduceLeDiff, Nat.reduceEqDiff, Nat.reduceBEq, hc2, hBi0, hii0]
    refine wpLoop_run' (step := tok_reader_path_l0_step r1) (fun s2 => mkSl 82 [(0, .ptr i0 0), (2, .ptr B.length 0), (5, .ptr (B.length + 1) 0)]) (fun s2 => B.set i0 (.var [.lit (.string (bs s2.2.2.1)), .lit (.int .i64 s2.2.2.2)]) ++ [.var [.lit (.int .i64 0), .lit (.string (bs [])), .lit (.int .i64 0), .lit (.int .i64 0)], .var [.lit (.int .i64 s2.1), .lit (.string (bs s2.2.1)), .lit (.int .i64 0), .lit (.int .i64 r1.2.at_)]]) h (by kernel_rfl) (by first | rfl | simp -implicitDefEqProofs only [go_sem, Nat.reduceAdd, Nat.reduceSub, Nat.reduceMul, Nat.reduceLT, Nat.reduceLeDiff, Nat.reduceEqDiff, Nat.reduceBEq, mkSl, hBi0, hii0]) (by first | rfl | simp -implicitDefEqProofs only [go_sem, Nat.reduceAdd, Nat.reduceSub, Nat.reduceMul, Nat.reduceLT, Nat.reduceLeDiff, Nat.reduceEqDiff, Nat.reduceBEq, hBi0, hii0]) ?_
    clear h
    intro s2 xx3 h hx4
    unfold tok_reader_path_l0_step at h
    by_cases hc5 : (IntKind.i64.wrap (s2.2.2.2 + 1)) < (s2.2.2.1.length : Int)
    · rw [if_pos hc5] at h
      obtain ⟨c3, h6, h⟩ := bind_some h
      by_cases hc7 : ((c3.toNat : Int) == 46) = true
      · rw [if_pos hc7] at h
        obtain ⟨c4, h8, h⟩ := bind_some h
        simp -implicitDefEqProofs only [go_sem, Nat.reduceAdd, Nat.reduceSub, Nat.reduceMul, Nat.reduceLT, Nat.reduceLeDiff, Nat.reduceEqDiff, Nat.reduceBEq, hc5, h6, hc7, h8, hBi0, hii0, mkSl]
        obtain ⟨r5, h9, h⟩ := bind_some h
        refine Vc.mono (tok_small_ok h9) ?_
        rintro _ _ rfl
        by_cases hc10 : r5 = true
        · rw [if_pos hc10] at h
          simp -implicitDefEqProofs only [go_sem, Nat.reduceAdd, Nat.reduceSub, Nat.reduceMul, Nat.reduceLT, Nat.reduceLeDiff, Nat.reduceEqDiff, Nat.reduceBEq, hc7, hc10, hBi0, hii0, mkSl]
          obtain ⟨r6, h11, h⟩ := bind_some h
          refine Vc.mono (tok_reader_word_ok h11 (by simp -implicitDefEqProofs only [go_sem, Nat.reduceAdd, Nat.reduceSub, Nat.reduceMul, Nat.reduceLT, Nat.reduceLeDiff, Nat.reduceEqDiff, Nat.reduceBEq, hBi0, hii0, mkSl])) ?_
          rintro _ _ ⟨rfl, rfl⟩
          obtain ⟨s7, h12, h⟩ := bind_some h
          obtain ⟨s8, h13, h⟩ := bind_some h
          by_cases hc14 : 16 < (r6.1.length : Int)
          · rw [if_pos hc14] at h
            obtain rfl := Option.some.inj h
            obtain rfl := hx4 _ rfl
            simp -implicitDefEqProofs only [go_sem, Nat.reduceAdd, Nat.reduceSub, Nat.reduceMul, Nat.reduceLT, Nat.reduceLeDiff, Nat.reduceEqDiff, Nat.reduceBEq, h12, h13, hc14, hBi0, hii0, mkSl]
          · rw [if_neg hc14] at h
            obtain rfl := Option.some.inj h
            simp -implicitDefEqProofs only [go_sem, Nat.reduceAdd, Nat.reduceSub, Nat.reduceMul, Nat.reduceLT, Nat.reduceLeDiff, Nat.reduceEqDiff, Nat.reduceBEq, h12, h13, hc14, hBi0, hii0, mkSl]
            exact ⟨_, rfl, rfl⟩
        · rw [if_neg hc10] at h
          replace hc10 := (Bool.not_eq_true _).mp hc10
          by_cases hc15 : 32 < (s2.2.1.length : Int)
          · rw [if_pos hc15] at h
            obtain rfl := Option.some.inj h
            obtain rfl := hx4 _ rfl
            simp -implicitDefEqProofs only [go_sem, Nat.reduceAdd, Nat.reduceSub, Nat.reduceMul, Nat.reduceLT, Nat.reduceLeDiff, Nat.reduceEqDiff, Nat.reduceBEq, hc7, hc10, hc15, hBi0, hii0, mkSl]
          · rw [if_neg hc15] at h
            obtain rfl := Option.some.inj h
            obtain rfl := hx4 _ rfl
            simp -implicitDefEqProofs only [go_sem, Nat.reduceAdd, Nat.reduceSub, Nat.reduceMul, Nat.reduceLT, Nat.reduceLeDiff, Nat.reduceEqDiff, Nat.reduceBEq, hc7, hc10, hc15, hBi0, hii0, mkSl]
      · rw [if_neg hc7] at h
        replace hc7 := (Bool.not_eq_true _).mp hc7
        by_cases hc16 : 32 < (s2.2.1.length : Int)
        · rw [if_pos hc16] at h
          obtain rfl := Option.some.inj h
          obtain rfl := hx4 _ rfl
          simp -implicitDefEqProofs only [go_sem, Nat.reduceAdd, Nat.reduceSub, Nat.reduceMul, Nat.reduceLT, Nat.reduceLeDiff, Nat.reduceEqDiff, Nat.reduceBEq, hc5, h6, hc7, hc16, hBi0, hii0, mkSl]
        · rw [if_neg hc16] at h
          obtain rfl := Option.some.inj h
          obtain rfl := hx4 _ rfl
          simp -implicitDefEqProofs only [go_sem, Nat.reduceAdd, Nat.reduceSub, Nat.reduceMul, Nat.reduceLT, Nat.reduceLeDiff, Nat.reduceEqDiff, Nat.reduceBEq, hc5, h6, hc7, hc16, hBi0, hii0, mkSl]
    · rw [if_neg hc5] at h
      by_cases hc17 : 32 < (s2.2.1.length : Int)
      · rw [if_pos hc17] at h
        obtain rfl := Option.some.inj h
        obtain rfl := hx4 _ rfl
        simp -implicitDefEqProofs only [go_sem, Nat.reduceAdd, Nat.reduceSub, Nat.reduceMul, Nat.reduceLT, Nat.reduceLeDiff, Nat.reduceEqDiff, Nat.reduceBEq, hc5, hc17, hBi0, hii0, mkSl]
      · rw [if_neg hc17] at h
        obtain rfl := Option.some.inj h
        obtain rfl := hx4 _ rfl
        simp -implicitDefEqProofs only [go_sem, Nat.reduceAdd, Nat.reduceSub, Nat.reduceMul, Nat.reduceLT, Nat.reduceLeDiff, Nat.reduceEqDiff, Nat.reduceBEq, hc5, hc17, hBi0, hii0, mkSl]
theorem tok_reader_while_at33_ok {p0 : TokReader} {B : List Blk} {i0 : Nat} {r : (List UInt8) × TokReader} (h : tok_reader_while_at33 p0 = some r) (hBi0 : B[i0]? = some (.var [.lit (.string (bs p0.s)), .lit (.int .i64 p0.at_)])) :
  Vc cfg 17 [.ptr i0 0, .lit (.func (.func 33) #[] #[])] B fun v B' => v = .lit (.string (bs r.1)) ∧ B' = B.set i0 (.var [.lit (.string (bs r.2.s)), .lit (.int .i64 r.2.at_)]) := by
  refine Vc_of (fn := Tryd.f17) rfl Tryd.func17 rfl Tryd.ntmps17 Tryd.results17 (by kernel_rfl) ?_
  conv => arg 3; whnf
  unfold tok_reader_while_at33 at h
  have hii0 : i0 < B.length := lt_of_get hBi0
  simp -implicitDefEqProofs only [go_sem, Nat.reduceAdd, Nat.reduceSub, Nat.reduceMul, Nat.reduceLT, Nat.reduceLeDiff, Nat.reduceEqDiff, Nat.reduceBEq, hBi0, hii0]
  refine wpLoop_run' (step := tok_reader_while_at33_l0_step p0) (fun s1 => mkSl 50 [(0, .ptr i0 0), (1, .lit (.func (.func 33) #[] #[])), (5, .lit (.int .i64 p0.at_))]) (fun s1 => B.set i0 (.var [.lit (.string (bs p0.s)), .lit (.int .i64 s1)])) h (by kernel_rfl) (by first | rfl | simp -implicitDefEqProofs only [go_sem, Nat.reduceAdd, Nat.reduceSub, Nat.reduceMul, Nat.reduceLT, Nat.reduceLeDiff, Nat.reduceEqDiff, Nat.reduceBEq, mkSl, hBi0, hii0]) (by first | rfl | simp -implicitDefEqProofs only [go_sem, Nat.reduceAdd, Nat.reduceSub, Nat.reduceMul, Nat.reduceLT, Nat.reduceLeDiff, Nat.reduceEqDiff, Nat.reduceBEq, hBi0, hii0]) ?_
  clear h
  intro s1 xx1 h hx2
  unfold tok_reader_while_at33_l0_step at h
  by_cases hc3 : s1 < (p0.s.length : Int)
  · rw [if_pos hc3] at h
    obtain ⟨c2, h4, h⟩ := bind_some h
    simp -implicitDefEqProofs only [go_sem, Nat.reduceAdd, Nat.reduceSub, Nat.reduceMul, Nat.reduceLT, Nat.reduceLeDiff, Nat.reduceEqDiff, Nat.reduceBEq, hc3, h4, hBi0, hii0, mkSl]
    obtain ⟨r3, h5, h⟩ := bind_some h
    refine Vc.mono (tok_digit_ok h5) ?_
    rintro _ _ rfl
    by_cases hc6 : r3 = true
    · rw [if_pos hc6] at h
      obtain rfl := Option.some.inj h
      simp -implicitDefEqProofs only [go_sem, Nat.reduceAdd, Nat.reduceSub, Nat.reduceMul, Nat.reduceLT, Nat.reduceLeDiff, Nat.reduceEqDiff, Nat.reduceBEq, hc3, hc6, hBi0, hii0, mkSl]
      exact ⟨_, rfl, rfl⟩
    · rw [if_neg hc6] at h
      replace hc6 := (Bool.not_eq_true _).mp hc6
      obtain ⟨m4, h7, h⟩ := bind_some h
      obtain rfl := Option.some.inj h
      obtain rfl := hx2 _ rfl
      simp -implicitDefEqProofs only [go_sem, Nat.reduceAdd, Nat.reduceSub, Nat.reduceMul, Nat.reduceLT, Nat.reduceLeDiff, Nat.reduceEqDiff, Nat.reduceBEq, hc3, hc6, h7, hBi0, hii0, mkSl]
  · rw [if_neg hc3] at h
    obtain ⟨m5, h8, h⟩ := bind_some h
    obtain rfl := Option.some.inj h
    obtain rfl := hx2 _ rfl
    simp -implicitDefEqProofs only [go_sem, Nat.reduceAdd, Nat.reduceSub, Nat.reduceMul, Nat.reduceLT, Nat.reduceLeDiff, Nat.reduceEqDiff, Nat.reduceBEq, hc3, h8, hBi0, hii0, mkSl]
theorem tok_reader_number_ok {p0 : TokReader} {B : List Blk} {i0 : Nat} {r : TokToken × Int × TokReader} (h : tok_reader_number p0 = some r) (hBi0 : B[i0]? = some (.var [.lit (.string (bs p0.s)), .lit (.int .i64 p0.at_)])) :
  Vc cfg 34 [.ptr i0 0] B fun v B' => v = .tup [.agg [.lit (.int .i64 r.1.Kind), .lit (.string (bs r.1.Text)), .lit (.int .i64 r.1.N), .lit (.int .i64 r.1.At)], .lit (.int .i64 r.2.1)] ∧ B' = B.set i0 (.var [.lit (.string (bs r.2.2.s)), .lit (.int .i64 r.2.2.at_)]) := by
  refine Vc_of (fn := Tryd.f34) rfl Tryd.func34 rfl Tryd.ntmps34 Tryd.results34 (by kernel_rfl) ?_
  conv => arg 3; whnf
  unfold tok_reader_number at h
  have hii0 : i0 < B.length := lt_of_get hBi0
  simp -implicitDefEqProofs only [go_sem, Nat.reduceAdd, Nat.reduceSub, Nat.reduceMul, Nat.reduceLT, Nat.reduceLeDiff, Nat.reduceEqDiff, Nat.reduceBEq, hBi0, hii0]
  obtain ⟨r1, h1, h⟩ := bind_some h
  refine Vc.mono (tok_reader_while_at33_ok h1 (by simp -implicitDefEqProofs only [go_sem, Nat.reduceAdd, Nat.reduceSub, Nat.reduceMul, Nat.reduceLT, Nat.reduceLeDiff, Nat.reduceEqDiff, Nat.reduceBEq, hBi0, hii0])) ?_
  rintro _ _ ⟨rfl, rfl⟩
  by_cases hc2 : 1 < (r1.1.length : Int)
  · rw [if_pos hc2] at h
    obtain ⟨c2, h3, h⟩ := bind_some h
    by_cases hc4 : ((c2.toNat : Int) == 48) = true
    · rw [if_pos hc4] at h
      obtain rfl := Option.some.inj h
      simp -implicitDefEqProofs only [go_sem, Nat.reduceAdd, Nat.reduceSub, Nat.reduceMul, Nat.reduceLT, Nat.reduceLeDiff, Nat.reduceEqDiff, Nat.reduceBEq, hc2, h3, hc4, hBi0, hii0]
    · rw [if_neg hc4] at h
      replace hc4 := (Bool.not_eq_true _).mp hc4
      obtain ⟨b3, h5, h⟩ := bind_some h
      simp -implicitDefEqProofs only [go_sem, Nat.reduceAdd, Nat.reduceSub, Nat.reduceMul, Nat.reduceLT, Nat.reduceLeDiff, Nat.reduceEqDiff, Nat.reduceBEq, hc2, h3, hc4, h5, hBi0, hii0]
      refine wpLoop_run' (step := tok_reader_number_l0_step r1 b3) (fun s4 => mkSl 44 [(2, .ptr B.length 0), (4, .lit (.string (bs r1.1))), (5, .lit (.int .i64 s4.1)), (21, .sl .view (b3.map (En.int .u8).enc)), (22, .lit (.int .i64 (b3.length : Int))), (23, .lit (.int .i64 s4.2))]) (fun s4 => B.set i0 (.var [.lit (.string (bs r1.2.s)), .lit (.int .i64 r1.2.at_)]) ++ [.var [.lit (.int .i64 0), .lit (.string (bs [])), .lit (.int .i64 0), .lit (.int .i64 0)]]) h (by kernel_rfl) (by first | rfl | simp -implicitDefEqProofs only [go_sem, Nat.reduceAdd, Nat.reduceSub, Nat.reduceMul, Nat.reduceLT, Nat.reduceLeDiff, Nat.reduceEqDiff, Nat.reduceBEq, mkSl, hBi0, hii0]) (by first | rfl | simp -implicitDefEqProofs only [go_sem, Nat.reduceAdd, Nat.reduceSub, Nat.reduceMul, Nat.reduceLT, Nat.reduceLeDiff, Nat.reduceEqDiff, Nat.reduceBEq, hBi0, hii0]) ?_
      clear h
      intro s4 xx6 h hx7
      unfold tok_reader_number_l0_step at h
      by_cases hc8 : s4.2 < (b3.length : Int)
      · rw [if_pos hc8] at h
        obtain ⟨x5, h9, h⟩ := bind_some h
        obtain ⟨q6, h10, h⟩ := bind_some h
        by_cases hc11 : q6 < s4.1
        · rw [if_pos hc11] at h
          obtain rfl := Option.some.inj h
          obtain rfl := hx7 _ rfl
          simp -implicitDefEqProofs only [go_sem, Nat.reduceAdd, Nat.reduceSub, Nat.reduceMul, Nat.reduceLT, Nat.reduceLeDiff, Nat.reduceEqDiff, Nat.reduceBEq, hc8, h9, h10, hc11, hBi0, hii0, mkSl]
        · rw [if_neg hc11] at h
          obtain rfl := Option.some.inj h
          simp -implicitDefEqProofs only [go_sem, Nat.reduceAdd, Nat.reduceSub, Nat.reduceMul, Nat.reduceLT, Nat.reduceLeDiff, Nat.reduceEqDiff, Nat.reduceBEq, hc8, h9, h10, hc11, hBi0, hii0, mkSl]
          exact ⟨_, rfl, rfl⟩
      · rw [if_neg hc8] at h
        obtain rfl := Option.some.inj h
        obtain rfl := hx7 _ rfl
        simp -implicitDefEqProofs only [go_sem, Nat.reduceAdd, Nat.reduceSub, Nat.reduceMul, Nat.reduceLT, Nat.reduceLeDiff, Nat.reduceEqDiff, Nat.reduceBEq, hc8, hBi0, hii0, mkSl]
  · rw [if_neg hc2] at h
    obtain ⟨b7, h12, h⟩ := bind_some h
    simp -implicitDefEqProofs only [go_sem, Nat.reduceAdd, Nat.reduceSub, Nat.reduceMul, Nat.reduceLT, Nat.reduceLeDiff, Nat.reduceEqDiff, Nat.reduceBEq, hc2, h12, hBi0, hii0, mkSl]
    refine wpLoop_run' (step := tok_reader_number_l1_step r1 b7) (fun s8 => mkSl 44 [(2, .ptr B.length 0), (4, .lit (.string (bs r1.1))), (5, .lit (.int .i64 s8.1)), (21, .sl .view (b7.map (En.int .u8).enc)), (22, .lit (.int .i64 (b7.length : Int))), (23, .lit (.int .i64 s8.2))]) (fun s8 => B.set i0 (.var [.lit (.string (bs r1.2.s)), .lit (.int .i64 r1.2.at_)]) ++ [.var [.lit (.int .i64 0), .lit (.string (bs [])), .lit (.int .i64 0), .lit (.int .i64 0)]]) h (by kernel_rfl) (by first | rfl | simp -implicitDefEqProofs only [go_sem, Nat.reduceAdd, Nat.reduceSub, Nat.reduceMul, Nat.reduceLT, Nat.reduceLeDiff, Nat.reduceEqDiff, Nat.reduceBEq, mkSl, hBi0, hii0, mkSl]) (by first | rfl | simp -implicitDefEqProofs only [go_sem, Nat.reduceAdd, Nat.reduceSub, Nat.reduceMul, Nat.reduceLT, Nat.reduceLeDiff, Nat.reduceEqDiff, Nat.reduceBEq, hBi0, hii0, mkSl]) ?_
    clear h
    intro s8 xx13 h hx14
    unfold tok_reader_number_l1_step at h
    by_cases hc15 : s8.2 < (b7.length : Int)
    · rw [if_pos hc15] at h
      obtain ⟨x9, h16, h⟩ := bind_some h
      obtain ⟨q10, h17, h⟩ := bind_some h
      by_cases hc18 : q10 < s8.1
      · rw [if_pos hc18] at h
        obtain rfl := Option.some.inj h
        obtain rfl := hx14 _ rfl
        simp -implicitDefEqProofs only [go_sem, Nat.reduceAdd, Nat.reduceSub, Nat.reduceMul, Nat.reduceLT, Nat.reduceLeDiff, Nat.reduceEqDiff, Nat.reduceBEq, hc15, h16, h17, hc18, hBi0, hii0, mkSl]
      · rw [if_neg hc18] at h
        obtain rfl := Option.some.inj h
        simp -implicitDefEqProofs only [go_sem, Nat.reduceAdd, Nat.reduceSub, Nat.reduceMul, Nat.reduceLT, Nat.reduceLeDiff, Nat.reduceEqDiff, Nat.reduceBEq, hc15, h16, h17, hc18, hBi0, hii0, mkSl]
        exact ⟨_, rfl, rfl⟩
    · rw [if_neg hc15] at h
      obtain rfl := Option.some.inj h
      obtain rfl := hx14 _ rfl
      simp -implicitDefEqProofs only [go_sem, Nat.reduceAdd, Nat.reduceSub, Nat.reduceMul, Nat.reduceLT, Nat.reduceLeDiff, Nat.reduceEqDiff, Nat.reduceBEq, hc15, hBi0, hii0, mkSl]
theorem tok_reader_quote_1_ok {a0 : Int} {r : Bool} (h : tok_reader_quote_1 a0 = some r) :
  Vc cfg 60 [.lit (.int .u8 a0)] [] fun v _ => v = .lit (.bool r) := by
  refine Vc_of (fn := Tryd.f60) rfl Tryd.func60 rfl Tryd.ntmps60 Tryd.results60 (by kernel_rfl) ?_
  conv => arg 3; whnf
  unfold tok_reader_quote_1 at h
  obtain rfl := Option.some.inj h
  simp -implicitDefEqProofs only [go_sem, Nat.reduceAdd, Nat.reduceSub, Nat.reduceMul, Nat.reduceLT, Nat.reduceLeDiff, Nat.reduceEqDiff, Nat.reduceBEq]
theorem tok_reader_while_at60_ok {p0 : TokReader} {B : List Blk} {i0 : Nat} {r : (List UInt8) × TokReader} (h : tok_reader_while_at60 p0 = some r) (hBi0 : B[i0]? = some (.var [.lit (.string (bs p0.s)), .lit (.int .i64 p0.at_)])) :
  Vc cfg 17 [.ptr i0 0, .lit (.func (.func 60) #[] #[])] B fun v B' => v = .lit (.string (bs r.1)) ∧ B' = B.set i0 (.var [.lit (.string (bs r.2.s)), .lit (.int .i64 r.2.at_)]) := by
  refine Vc_of (fn := Tryd.f17) rfl Tryd.func17 rfl Tryd.ntmps17 Tryd.results17 (by kernel_rfl) ?_
  conv => arg 3; whnf
  unfold tok_reader_while_at60 at h
  have hii0 : i0 < B.length := lt_of_get hBi0
  simp -implicitDefEqProofs only [go_sem, Nat.reduceAdd, Nat.reduceSub, Nat.reduceMul, Nat.reduceLT, Nat.reduceLeDiff, Nat.reduceEqDiff, Nat.reduceBEq, hBi0, hii0]
  refine wpLoop_run' (step := tok_reader_while_at60_l0_step p0) (fun s1 => mkSl 50 [(0, .ptr i0 0), (1, .lit (.func (.func 60) #[] #[])), (5, .lit (.int .i64 p0.at_))]) (fun s1 => B.set i0 (.var [.lit (.string (bs p0.s)), .lit (.int .i64 s1)])) h (by kernel_rfl) (by first | rfl | simp -implicitDefEqProofs only [go_sem, Nat.reduceAdd, Nat.reduceSub, Nat.reduceMul, Nat.reduceLT, Nat.reduceLeDiff, Nat.reduceEqDiff, Nat.reduceBEq, mkSl, hBi0, hii0]) (by first | rfl | simp -implicitDefEqProofs only [go_sem, Nat.reduceAdd, Nat.reduceSub, Nat.reduceMul, Nat.reduceLT, Nat.reduceLeDiff, Nat.reduceEqDiff, Nat.reduceBEq, hBi0, hii0]) ?_
  clear h
  intro s1 xx1 h hx2
  unfold tok_reader_while_at60_l0_step at h
  by_cases hc3 : s1 < (p0.s.length : Int)
  · rw [if_pos hc3] at h
    obtain ⟨c2, h4, h⟩ := bind_some h
    simp -implicitDefEqProofs only [go_sem, Nat.reduceAdd, Nat.reduceSub, Nat.reduceMul, Nat.reduceLT, Nat.reduceLeDiff, Nat.reduceEqDiff, Nat.reduceBEq, hc3, h4, hBi0, hii0, mkSl]
    obtain ⟨r3, h5, h⟩ := bind_some h
    refine Vc.mono (tok_reader_quote_1_ok h5) ?_
    rintro _ _ rfl
    by_cases hc6 : r3 = true
    · rw [if_pos hc6] at h
      obtain rfl := Option.some.inj h
      simp -implicitDefEqProofs only [go_sem, Nat.reduceAdd, Nat.reduceSub, Nat.reduceMul, Nat.reduceLT, Nat.reduceLeDiff, Nat.reduceEqDiff, Nat.reduceBEq, hc3, hc6, hBi0, hii0, mkSl]
      exact ⟨_, rfl, rfl⟩
    · rw [if_neg hc6] at h
      replace hc6 := (Bool.not_eq_true _).mp hc6
      obtain ⟨m4, h7, h⟩ := bind_some h
      obtain rfl := Option.some.inj h
      obtain rfl := hx2 _ rfl
      simp -implicitDefEqProofs only [go_sem, Nat.reduceAdd, Nat.reduceSub, Nat.reduceMul, Nat.reduceLT, Nat.reduceLeDiff, Nat.reduceEqDiff, Nat.reduceBEq, hc3, hc6, h7, hBi0, hii0, mkSl]
  · rw [if_neg hc3] at h
    obtain ⟨m5, h8, h⟩ := bind_some h
    obtain rfl := Option.some.inj h
    obtain rfl := hx2 _ rfl
    simp -implicitDefEqProofs only [go_sem, Nat.reduceAdd, Nat.reduceSub, Nat.reduceMul, Nat.reduceLT, Nat.reduceLeDiff, Nat.reduceEqDiff, Nat.reduceBEq, hc3, h8, hBi0, hii0, mkSl]
theorem val_Plain_ok {a0 : List UInt8} {r : Bool} (h : val_Plain a0 = some r) :
  Vc cfg 61 [.lit (.string (bs a0))] [] fun v _ => v = .lit (.bool r) := by
  refine Vc_of (fn := Tryd.f61) rfl Tryd.func61 rfl Tryd.ntmps61 Tryd.results61 (by kernel_rfl) ?_
  conv => arg 3; whnf
  unfold val_Plain at h
  obtain ⟨b1, h1, h⟩ := bind_some h
  simp -implicitDefEqProofs only [go_sem, Nat.reduceAdd, Nat.reduceSub, Nat.reduceMul, Nat.reduceLT, Nat.reduceLeDiff, Nat.reduceEqDiff, Nat.reduceBEq, h1]
  refine wpLoop_run' (step := val_Plain_l0_step a0 b1) (fun s2 => mkSl 26 [(0, .lit (.string (bs a0))), (6, .sl .view (b1.map (En.int .u8).enc)), (7, .lit (.int .i64 (b1.length : Int))), (8, .lit (.int .i64 s2))]) (fun s2 => []) h (by kernel_rfl) (by first | rfl | simp -implicitDefEqProofs only [go_sem, Nat.reduceAdd, Nat.reduceSub, Nat.reduceMul, Nat.reduceLT, Nat.reduceLeDiff, Nat.reduceEqDiff, Nat.reduceBEq, mkSl]) (by first | rfl | simp -implicitDefEqProofs only [go_sem, Nat.reduceAdd, Nat.reduceSub, Nat.reduceMul, Nat.reduceLT, Nat.reduceLeDiff, Nat.reduceEqDiff, Nat.reduceBEq]) ?_
  clear h
  intro s2 xx2 h hx3
  unfold val_Plain_l0_step at h
  by_cases hc4 : s2 < (b1.length : Int)
  · rw [if_pos hc4] at h
    obtain ⟨x3, h5, h⟩ := bind_some h
    by_cases hc6 : x3 < 32
    · rw [if_pos hc6] at h
      obtain rfl := Option.some.inj h
      obtain rfl := hx3 _ rfl
      simp -implicitDefEqProofs only [go_sem, Nat.reduceAdd, Nat.reduceSub, Nat.reduceMul, Nat.reduceLT, Nat.reduceLeDiff, Nat.reduceEqDiff, Nat.reduceBEq, hc4, h5, hc6, mkSl]
    · rw [if_neg hc6] at h
      by_cases hc7 : 126 < x3
      · rw [if_pos hc7] at h
        obtain rfl := Option.some.inj h
        obtain rfl := hx3 _ rfl
        simp -implicitDefEqProofs only [go_sem, Nat.reduceAdd, Nat.reduceSub, Nat.reduceMul, Nat.reduceLT, Nat.reduceLeDiff, Nat.reduceEqDiff, Nat.reduceBEq, hc4, h5, hc6, hc7, mkSl]
      · rw [if_neg hc7] at h
        by_cases hc8 : (x3 == 39) = true
        · rw [if_pos hc8] at h
          obtain rfl := Option.some.inj h
          obtain rfl := hx3 _ rfl
          simp -implicitDefEqProofs only [go_sem, Nat.reduceAdd, Nat.reduceSub, Nat.reduceMul, Nat.reduceLT, Nat.reduceLeDiff, Nat.reduceEqDiff, Nat.reduceBEq, hc4, h5, hc6, hc7, hc8, mkSl]
        · rw [if_neg hc8] at h
          replace hc8 := (Bool.not_eq_true _).mp hc8
          obtain rfl := Option.some.inj h
          simp -implicitDefEqProofs only [go_sem, Nat.reduceAdd, Nat.reduceSub, Nat.reduceMul, Nat.reduceLT, Nat.reduceLeDiff, Nat.reduceEqDiff, Nat.reduceBEq, hc4, h5, hc6, hc7, hc8, mkSl]
          exact ⟨_, rfl, rfl⟩
  · rw [if_neg hc4] at h
    obtain rfl := Option.some.inj h
    obtain rfl := hx3 _ rfl
    simp -implicitDefEqProofs only [go_sem, Nat.reduceAdd, Nat.reduceSub, Nat.reduceMul, Nat.reduceLT, Nat.reduceLeDiff, Nat.reduceEqDiff, Nat.reduceBEq, hc4, mkSl]
theorem tok_reader_quote_ok {p0 : TokReader} {B : List Blk} {i0 : Nat} {r : TokToken × Int × TokReader} (h : tok_reader_quote p0 = some r) (hBi0 : B[i0]? = some (.var [.lit (.string (bs p0.s)), .lit (.int .i64 p0.at_)])) :
  Vc cfg 35 [.ptr i0 0] B fun v B' => v = .tup [.agg [.lit (.int .i64 r.1.Kind), .lit (.string (bs r.1.Text)), .lit (.int .i64 r.1.N), .lit (.int .i64 r.1.At)], .lit (.int .i64 r.2.1)] ∧ B' = B.set i0 (.var [.lit (.string (bs r.2.2.s)), .lit (.int .i64 r.2.2.at_)]) := by
  refine Vc_of (fn := Tryd.f35) rfl Tryd.func35 rfl Tryd.ntmps35 Tryd.results35 (by kernel_rfl) ?_
  conv => arg 3; whnf
  unfold tok_reader_quote at h
  have hii0 : i0 < B.length := lt_of_get hBi0
  simp -implicitDefEqProofs only [go_sem, Nat.reduceAdd, Nat.reduceSub, Nat.reduceMul, Nat.reduceLT, Nat.reduceLeDiff, Nat.reduceEqDiff, Nat.reduceBEq, hBi0, hii0]
  obtain ⟨r1, h1, h⟩ := bind_some h
  refine Vc.mono (tok_reader_while_at60_ok h1 (by simp -implicitDefEqProofs only [go_sem, Nat.reduceAdd, Nat.reduceSub, Nat.reduceMul, Nat.reduceLT, Nat.reduceLeDiff, Nat.reduceEqDiff, Nat.reduceBEq, hBi0, hii0])) ?_
  rintro _ _ ⟨rfl, rfl⟩
  by_cases hc2 : (r1.2.at_ == (r1.2.s.length : Int)) = true
  · rw [if_pos hc2] at h
    obtain rfl := Option.some.inj h
    simp -implicitDefEqProofs only [go_sem, Nat.reduceAdd, Nat.reduceSub, Nat.reduceMul, Nat.reduceLT, Nat.reduceLeDiff, Nat.reduceEqDiff, Nat.reduceBEq, hc2, hBi0, hii0]
  · rw [if_neg hc2] at h
    replace hc2 := (Bool.not_eq_true _).mp hc2
    by_cases hc3 : 48 < (r1.1.length : Int)
    · rw [if_pos hc3] at h
      obtain rfl := Option.some.inj h
      simp -implicitDefEqProofs only [go_sem, Nat.reduceAdd, Nat.reduceSub, Nat.reduceMul, Nat.reduceLT, Nat.reduceLeDiff, Nat.reduceEqDiff, Nat.reduceBEq, hc2, hc3, hBi0, hii0]
    · rw [if_neg hc3] at h
      simp -implicitDefEqProofs only [go_sem, Nat.reduceAdd, Nat.reduceSub, Nat.reduceMul, Nat.reduceLT, Nat.reduceLeDiff, Nat.reduceEqDiff, Nat.reduceBEq, hc2, hc3, hBi0, hii0]
      obtain ⟨r2, h4, h⟩ := bind_some h
      refine Vc.mono (val_Plain_ok h4) ?_
      rintro _ _ rfl
      by_cases hc5 : r2 = true
      · rw [if_pos hc5] at h
        obtain rfl := Option.some.inj h
        simp -implicitDefEqProofs only [go_sem, Nat.reduceAdd, Nat.reduceSub, Nat.reduceMul, Nat.reduceLT, Nat.reduceLeDiff, Nat.reduceEqDiff, Nat.reduceBEq, hc5, hBi0, hii0]
      · rw [if_neg hc5] at h
        replace hc5 := (Bool.not_eq_true _).mp hc5
        obtain rfl := Option.some.inj h
        simp -implicitDefEqProofs only [go_sem, Nat.reduceAdd, Nat.reduceSub, Nat.reduceMul, Nat.reduceLT, Nat.reduceLeDiff, Nat.reduceEqDiff, Nat.reduceBEq, hc5, hBi0, hii0]
theorem internal_stringslite_HasPrefix_ok {a0 : List UInt8} {a1 : List UInt8} {r : Bool} (h : internal_stringslite_HasPrefix a0 a1 = some r) :
  Vc cfg 73 [.lit (.string (bs a0)), .lit (.string (bs a1))] [] fun v _ => v = .lit (.bool r) := by
  refine Vc_of (fn := Tryd.f73) rfl Tryd.func73 rfl Tryd.ntmps73 Tryd.results73 (by kernel_rfl) ?_
  conv => arg 3; whnf
  unfold internal_stringslite_HasPrefix at h
  by_cases hc1 : (a1.length : Int) ≤ (a0.length : Int)
  · rw [if_pos hc1] at h
    obtain ⟨m2, h2, h⟩ := bind_some h
    obtain rfl := Option.some.inj h
    simp -implicitDefEqProofs only [go_sem, Nat.reduceAdd, Nat.reduceSub, Nat.reduceMul, Nat.reduceLT, Nat.reduceLeDiff, Nat.reduceEqDiff, Nat.reduceBEq, hc1, h2]
  · rw [if_neg hc1] at h
    obtain rfl := Option.some.inj h
    simp -implicitDefEqProofs only [go_sem, Nat.reduceAdd, Nat.reduceSub, Nat.reduceMul, Nat.reduceLT, Nat.reduceLeDiff, Nat.reduceEqDiff, Nat.reduceBEq, hc1]
theorem strings_HasPrefix_ok {a0 : List UInt8} {a1 : List UInt8} {r : Bool} (h : strings_HasPrefix a0 a1 = some r) :
  Vc cfg 62 [.lit (.string (bs a0)), .lit (.string (bs a1))] [] fun v _ => v = .lit (.bool r) := by
  refine Vc_of (fn := Tryd.f62) rfl Tryd.func62 rfl Tryd.ntmps62 Tryd.results62 (by kernel_rfl) ?_
  conv => arg 3; whnf
  unfold strings_HasPrefix at h
  simp -implicitDefEqProofs only [go_sem, Nat.reduceAdd, Nat.reduceSub, Nat.reduceMul, Nat.reduceLT, Nat.reduceLeDiff, Nat.reduceEqDiff, Nat.reduceBEq]
  obtain ⟨r2, h1, h⟩ := bind_some h
  refine Vc.mono (internal_stringslite_HasPrefix_ok h1) ?_
  rintro _ _ rfl
  obtain rfl := Option.some.inj h
  simp -implicitDefEqProofs only [go_sem, Nat.reduceAdd, Nat.reduceSub, Nat.reduceMul, Nat.reduceLT, Nat.reduceLeDiff, Nat.reduceEqDiff, Nat.reduceBEq]
theorem tok_reader_sign_ok {p0 : TokReader} {B : List Blk} {i0 : Nat} {r : TokToken × Int × TokReader} (h : tok_reader_sign p0 = some r) (hBi0 : B[i0]? = some (.var [.lit (.string (bs p0.s)), .lit (.int .i64 p0.at_)])) :
  Vc cfg 36 [.ptr i0 0] B fun v B' => v = .tup [.agg [.lit (.int .i64 r.1.Kind), .lit (.string (bs r.1.Text)), .lit (.int .i64 r.1.N), .lit (.int .i64 r.1.At)], .lit (.int .i64 r.2.1)] ∧ B' = B.set i0 (.var [.lit (.string (bs r.2.2.s)), .lit (.int .i64 r.2.2.at_)]) := by
  refine Vc_of (fn := Tryd.f36) rfl Tryd.func36 rfl Tryd.ntmps36 Tryd.results36 (by kernel_rfl) ?_
  conv => arg 3; whnf
  unfold tok_reader_sign at h
  have hii0 : i0 < B.length := lt_of_get hBi0
  simp -implicitDefEqProofs only [go_sem, Nat.reduceAdd, Nat.reduceSub, Nat.reduceMul, Nat.reduceLT, Nat.reduceLeDiff, Nat.reduceEqDiff, Nat.reduceBEq, hBi0, hii0]
  refine wpLoop_run' (step := tok_reader_sign_l0_step p0) (fun s1 => mkSl 34 [(0, .ptr i0 0), (2, .ptr B.length 0), (6, .agg tab0V), (7, .lit (.int .i64 s1))]) (fun s1 => B ++ [.var [.lit (.int .i64 0), .lit (.string (bs [])), .lit (.int .i64 0), .lit (.int .i64 0)]]) h (by kernel_rfl) (by first | rfl | simp -implicitDefEqProofs only [go_sem, Nat.reduceAdd, Nat.reduceSub, Nat.reduceMul, Nat.reduceLT, Nat.reduceLeDiff, Nat.reduceEqDiff, Nat.reduceBEq, mkSl, hBi0, hii0]) (by first | rfl | simp -implicitDefEqProofs only [go_sem, Nat.reduceAdd, Nat.reduceSub, Nat.reduceMul, Nat.reduceLT, Nat.reduceLeDiff, Nat.reduceEqDiff, Nat.reduceBEq, hBi0, hii0]) ?_
  clear h
  intro s1 xx1 h hx2
  unfold tok_reader_sign_l0_step at h
  by_cases hc3 : s1 < 15
  · rw [if_pos hc3] at h
    obtain ⟨x2, h4, h⟩ := bind_some h
    obtain ⟨m3, h5, h⟩ := bind_some h
    simp -implicitDefEqProofs only [go_sem, Nat.reduceAdd, Nat.reduceSub, Nat.reduceMul, Nat.reduceLT, Nat.reduceLeDiff, Nat.reduceEqDiff, Nat.reduceBEq, hc3, h4, h5, hBi0, hii0, mkSl]
    obtain ⟨r4, h6, h⟩ := bind_some h
    refine Vc.mono (strings_HasPrefix_ok h6) ?_
    rintro _ _ rfl
    by_cases hc7 : r4 = true
    · rw [if_pos hc7] at h
      obtain rfl := Option.some.inj h
      obtain rfl := hx2 _ rfl
      simp -implicitDefEqProofs only [go_sem, Nat.reduceAdd, Nat.reduceSub, Nat.reduceMul, Nat.reduceLT, Nat.reduceLeDiff, Nat.reduceEqDiff, Nat.reduceBEq, hc7, hBi0, hii0, mkSl]
    · rw [if_neg hc7] at h
      replace hc7 := (Bool.not_eq_true _).mp hc7
      obtain rfl := Option.some.inj h
      simp -implicitDefEqProofs only [go_sem, Nat.reduceAdd, Nat.reduceSub, Nat.reduceMul, Nat.reduceLT, Nat.reduceLeDiff, Nat.reduceEqDiff, Nat.reduceBEq, hc7, hBi0, hii0, mkSl]
      exact ⟨_, rfl, rfl⟩
  · rw [if_neg hc3] at h
    obtain rfl := Option.some.inj h
    obtain rfl := hx2 _ rfl
    simp -implicitDefEqProofs only [go_sem, Nat.reduceAdd, Nat.reduceSub, Nat.reduceMul, Nat.reduceLT, Nat.reduceLeDiff, Nat.reduceEqDiff, Nat.reduceBEq, hc3, hBi0, hii0, mkSl]
theorem tok_reader_token_ok {p0 : TokReader} {B : List Blk} {i0 : Nat} {r : TokToken × Int × TokReader} (h : tok_reader_token p0 = some r) (hBi0 : B[i0]? = some (.var [.lit (.string (bs p0.s)), .lit (.int .i64 p0.at_)])) :
  Vc cfg 19 [.ptr i0 0] B fun v B' => v = .tup [.agg [.lit (.int .i64 r.1.Kind), .lit (.string (bs r.1.Text)), .lit (.int .i64 r.1.N), .lit (.int .i64 r.1.At)], .lit (.int .i64 r.2.1)] ∧ B' = B.set i0 (.var [.lit (.string (bs r.2.2.s)), .lit (.int .i64 r.2.2.at_)]) := by
  refine Vc_of (fn := Tryd.f19) rfl Tryd.func19 rfl Tryd.ntmps19 Tryd.results19 (by kernel_rfl) ?_
  conv => arg 3; whnf
  unfold tok_reader_token at h
  have hii0 : i0 < B.length := lt_of_get hBi0
  obtain ⟨c1, h1, h⟩ := bind_some h
  simp -implicitDefEqProofs only [go_sem, Nat.reduceAdd, Nat.reduceSub, Nat.reduceMul, Nat.reduceLT, Nat.reduceLeDiff, Nat.reduceEqDiff, Nat.reduceBEq, h1, hBi0, hii0]
  obtain ⟨r2, h2, h⟩ := bind_some h
  refine Vc.mono (tok_small_ok h2) ?_
  rintro _ _ rfl
  by_cases hc3 : r2 = true
  · rw [if_pos hc3] at h
    simp -implicitDefEqProofs only [go_sem, Nat.reduceAdd, Nat.reduceSub, Nat.reduceMul, Nat.reduceLT, Nat.reduceLeDiff, Nat.reduceEqDiff, Nat.reduceBEq, hc3, hBi0, hii0]
    obtain ⟨r3, h4, h⟩ := bind_some h
    refine Vc.mono (tok_reader_path_ok h4 (by simp -implicitDefEqProofs only [go_sem, Nat.reduceAdd, Nat.reduceSub, Nat.reduceMul, Nat.reduceLT, Nat.reduceLeDiff, Nat.reduceEqDiff, Nat.reduceBEq, hBi0, hii0])) ?_
    rintro _ _ ⟨rfl, rfl⟩
    obtain rfl := Option.some.inj h
    simp -implicitDefEqProofs only [go_sem, Nat.reduceAdd, Nat.reduceSub, Nat.reduceMul, Nat.reduceLT, Nat.reduceLeDiff, Nat.reduceEqDiff, Nat.reduceBEq, hBi0, hii0]
  · rw [if_neg hc3] at h
    replace hc3 := (Bool.not_eq_true _).mp hc3
    simp -implicitDefEqProofs only [go_sem, Nat.reduceAdd, Nat.reduceSub, Nat.reduceMul, Nat.reduceLT, Nat.reduceLeDiff, Nat.reduceEqDiff, Nat.reduceBEq, hc3, hBi0, hii0]
    obtain ⟨r4, h5, h⟩ := bind_some h
    refine Vc.mono (tok_digit_ok h5) ?_
    rintro _ _ rfl
    by_cases hc6 : r4 = true
    · rw [if_pos hc6] at h
      simp -implicitDefEqProofs only [go_sem, Nat.reduceAdd, Nat.reduceSub, Nat.reduceMul, Nat.reduceLT, Nat.reduceLeDiff, Nat.reduceEqDiff, Nat.reduceBEq, hc6, hBi0, hii0]
      obtain ⟨r5, h7, h⟩ := bind_some h
      refine Vc.mono (tok_reader_number_ok h7 (by simp -implicitDefEqProofs only [go_sem, Nat.reduceAdd, Nat.reduceSub, Nat.reduceMul, Nat.reduceLT, Nat.reduceLeDiff, Nat.reduceEqDiff, Nat.reduceBEq, hBi0, hii0])) ?_
      rintro _ _ ⟨rfl, rfl⟩
      obtain rfl := Option.some.inj h
      simp -implicitDefEqProofs only [go_sem, Nat.reduceAdd, Nat.reduceSub, Nat.reduceMul, Nat.reduceLT, Nat.reduceLeDiff, Nat.reduceEqDiff, Nat.reduceBEq, hBi0, hii0]
    · rw [if_neg hc6] at h
      replace hc6 := (Bool.not_eq_true _).mp hc6
      by_cases hc8 : ((c1.toNat : Int) == 39) = true
      · rw [if_pos hc8] at h
        simp -implicitDefEqProofs only [go_sem, Nat.reduceAdd, Nat.reduceSub, Nat.reduceMul, Nat.reduceLT, Nat.reduceLeDiff, Nat.reduceEqDiff, Nat.reduceBEq, hc6, hc8, hBi0, hii0]
        obtain ⟨r6, h9, h⟩ := bind_some h
        refine Vc.mono (tok_reader_quote_ok h9 (by simp -implicitDefEqProofs only [go_sem, Nat.reduceAdd, Nat.reduceSub, Nat.reduceMul, Nat.reduceLT, Nat.reduceLeDiff, Nat.reduceEqDiff, Nat.reduceBEq, hBi0, hii0])) ?_
        rintro _ _ ⟨rfl, rfl⟩
        obtain rfl := Option.some.inj h
        simp -implicitDefEqProofs only [go_sem, Nat.reduceAdd, Nat.reduceSub, Nat.reduceMul, Nat.reduceLT, Nat.reduceLeDiff, Nat.reduceEqDiff, Nat.reduceBEq, hBi0, hii0]
      · rw [if_neg hc8] at h
        replace hc8 := (Bool.not_eq_true _).mp hc8
        simp -implicitDefEqProofs only [go_sem, Nat.reduceAdd, Nat.reduceSub, Nat.reduceMul, Nat.reduceLT, Nat.reduceLeDiff, Nat.reduceEqDiff, Nat.reduceBEq, hc6, hc8, hBi0, hii0]
        obtain ⟨r7, h10, h⟩ := bind_some h
        refine Vc.mono (tok_reader_sign_ok h10 (by simp -implicitDefEqProofs only [go_sem, Nat.reduceAdd, Nat.reduceSub, Nat.reduceMul, Nat.reduceLT, Nat.reduceLeDiff, Nat.reduceEqDiff, Nat.reduceBEq, hBi0, hii0])) ?_
        rintro _ _ ⟨rfl, rfl⟩
        obtain rfl := Option.some.inj h
        simp -implicitDefEqProofs only [go_sem, Nat.reduceAdd, Nat.reduceSub, Nat.reduceMul, Nat.reduceLT, Nat.reduceLeDiff, Nat.reduceEqDiff, Nat.reduceBEq, hBi0, hii0]
theorem tok_Lex_ok {a0 : List UInt8} {r : (List TokToken) × Int × Int} (h : tok_Lex a0 = some r) :
  Vc cfg 6 [.lit (.string (bs a0))] [] fun v _ => v = .tup [.sl .view (r.1.map TokToken.en.enc), .lit (.int .i64 r.2.1), .lit (.int .i64 r.2.2)] := by
  refine Vc_of (fn := Tryd.f6) rfl Tryd.func6 rfl Tryd.ntmps6 Tryd.results6 (by kernel_rfl) ?_
  conv => arg 3; whnf
  unfold tok_Lex at h
  simp -implicitDefEqProofs only [go_sem, Nat.reduceAdd, Nat.reduceSub, Nat.reduceMul, Nat.reduceLT, Nat.reduceLeDiff, Nat.reduceEqDiff, Nat.reduceBEq]
  refine wpLoop_run' (step := tok_Lex_l0_step) (fun s1 => mkSl 49 [(5, .ptr 0 0), (6, .sl .own (s1.1.map TokToken.en.enc))]) (fun s1 => [.var [.lit (.string (bs s1.2.1)), .lit (.int .i64 s1.2.2)]]) h (by kernel_rfl) (by first | rfl | simp -implicitDefEqProofs only [go_sem, Nat.reduceAdd, Nat.reduceSub, Nat.reduceMul, Nat.reduceLT, Nat.reduceLeDiff, Nat.reduceEqDiff, Nat.reduceBEq, mkSl]) (by first | rfl | simp -implicitDefEqProofs only [go_sem, Nat.reduceAdd, Nat.reduceSub, Nat.reduceMul, Nat.reduceLT, Nat.reduceLeDiff, Nat.reduceEqDiff, Nat.reduceBEq]) ?_
  clear h
  intro s1 xx1 h hx2
  unfold tok_Lex_l0_step at h
  simp -implicitDefEqProofs only [go_sem, Nat.reduceAdd, Nat.reduceSub, Nat.reduceMul, Nat.reduceLT, Nat.reduceLeDiff, Nat.reduceEqDiff, Nat.reduceBEq, mkSl]
  obtain ⟨r2, h3, h⟩ := bind_some h
  refine Vc.mono (tok_reader_while_at18_ok h3 (by simp -implicitDefEqProofs only [go_sem, Nat.reduceAdd, Nat.reduceSub, Nat.reduceMul, Nat.reduceLT, Nat.reduceLeDiff, Nat.reduceEqDiff, Nat.reduceBEq, mkSl])) ?_
  rintro _ _ ⟨rfl, rfl⟩
  by_cases hc4 : (r2.2.at_ == (r2.2.s.length : Int)) = true
  · rw [if_pos hc4] at h
    obtain rfl := Option.some.inj h
    obtain rfl := hx2 _ rfl
    simp -implicitDefEqProofs only [go_sem, Nat.reduceAdd, Nat.reduceSub, Nat.reduceMul, Nat.reduceLT, Nat.reduceLeDiff, Nat.reduceEqDiff, Nat.reduceBEq, hc4, mkSl]
  · rw [if_neg hc4] at h
    replace hc4 := (Bool.not_eq_true _).mp hc4
    by_cases hc5 : ((s1.1.length : Int) == 120) = true
    · rw [if_pos hc5] at h
      obtain rfl := Option.some.inj h
      obtain rfl := hx2 _ rfl
      simp -implicitDefEqProofs only [go_sem, Nat.reduceAdd, Nat.reduceSub, Nat.reduceMul, Nat.reduceLT, Nat.reduceLeDiff, Nat.reduceEqDiff, Nat.reduceBEq, hc4, hc5, mkSl]
    · rw [if_neg hc5] at h
      replace hc5 := (Bool.not_eq_true _).mp hc5
      simp -implicitDefEqProofs only [go_sem, Nat.reduceAdd, Nat.reduceSub, Nat.reduceMul, Nat.reduceLT, Nat.reduceLeDiff, Nat.reduceEqDiff, Nat.reduceBEq, hc4, hc5, mkSl]
      obtain ⟨r3, h6, h⟩ := bind_some h
      refine Vc.mono (tok_reader_token_ok h6 (by simp -implicitDefEqProofs only [go_sem, Nat.reduceAdd, Nat.reduceSub, Nat.reduceMul, Nat.reduceLT, Nat.reduceLeDiff, Nat.reduceEqDiff, Nat.reduceBEq, mkSl])) ?_
      rintro _ _ ⟨rfl, rfl⟩
      by_cases hc7 : (r3.2.1 != 0) = true
      · rw [if_pos hc7] at h
        obtain rfl := Option.some.inj h
        obtain rfl := hx2 _ rfl
        simp -implicitDefEqProofs only [go_sem, Nat.reduceAdd, Nat.reduceSub, Nat.reduceMul, Nat.reduceLT, Nat.reduceLeDiff, Nat.reduceEqDiff, Nat.reduceBEq, hc7, mkSl]
      · rw [if_neg hc7] at h
        replace hc7 := (Bool.not_eq_true _).mp hc7
        obtain ⟨l4, h8, h⟩ := bind_some h
        have h9 := vappend_en TokToken.en (P := Tryd.prog) (t := 23) (f := .own) h8 (by simp -implicitDefEqProofs only [go_sem, Nat.reduceAdd, Nat.reduceSub, Nat.reduceMul, Nat.reduceLT, Nat.reduceLeDiff, Nat.reduceEqDiff, Nat.reduceBEq, Option.map_some])
        simp -implicitDefEqProofs only [go_sem, Nat.reduceAdd, Nat.reduceSub, Nat.reduceMul, Nat.reduceLT, Nat.reduceLeDiff, Nat.reduceEqDiff, Nat.reduceBEq] at h9
        obtain rfl := Option.some.inj h
        simp -implicitDefEqProofs only [go_sem, Nat.reduceAdd, Nat.reduceSub, Nat.reduceMul, Nat.reduceLT, Nat.reduceLeDiff, Nat.reduceEqDiff, Nat.reduceBEq, hc7, h9, mkSl]
        exact ⟨_, rfl, rfl⟩
end Go.Proofs.YtilmjbljkkbakaaDoor
