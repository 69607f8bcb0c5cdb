/-
  A part of the proof: lemmas.
-/
import Derived.Test.YtilmjbljkkbakaaGreatDoorCFactsc
import Derived.Test.YtilmjbljkkbakaaGreatDoorCFunsc
import Derived.Test.YtilmjbljkkbakaaGreatDoorCPr0c
import Derived.Test.YtilmjbljkkbakaaGreatDoorCPr1c
set_option linter.unusedSimpArgs false
set_option linter.unusedVariables false
set_option linter.unusedSectionVars false
set_option linter.unnecessarySimpa false
set_option linter.deprecated false
/-! The functions' proofs. -/
namespace Go.Proofs.YtilmjbljkkbakaaGreatDoor
open Go.Wv
set_option linter.unusedSimpArgs false
set_option linter.unusedVariables false
set_option maxRecDepth 10000
set_option maxHeartbeats 20000000
theorem tok_reader_quote_1_ok {a0 : Int} {r : Bool} (h : tok_reader_quote_1 a0 = some r) :
  Vc cfg 128 [.lit (.int .u8 a0)] [] fun v _ => v = .lit (.bool r) := by
  refine Vc_of (fn := Tryz.f128) rfl Tryz.func128 rfl Tryz.ntmps128 Tryz.results128 (by kernel_rfl) ?_
  conv => arg 3; whnf
  unfold tok_reader_quote_1 at h
  obtain rfl := Option.some.inj h
  simp -implicitDefEqProofs only [go_sem, Nat.reduceAdd, Nat.reduceSub, Nat.reduceMul, Nat.reduceLT, Nat.reduceLeDiff, Nat.reduceEqDiff, Nat.reduceBEq]
theorem tok_reader_while_at128_ok {p0 : TokReader} {B : List Blk} {i0 : Nat} {r : (List UInt8) × TokReader} (h : tok_reader_while_at128 p0 = some r) (hBi0 : B[i0]? = some (.var [.lit (.string (bs p0.s)), .lit (.int .i64 p0.at_)])) :
  Vc cfg 54 [.ptr i0 0, .lit (.func (.func 128) #[] #[])] B fun v B' => v = .lit (.string (bs r.1)) ∧ B' = B.set i0 (.var [.lit (.string (bs r.2.s)), .lit (.int .i64 r.2.at_)]) := by
  refine Vc_of (fn := Tryz.f54) rfl Tryz.func54 rfl Tryz.ntmps54 Tryz.results54 (by kernel_rfl) ?_
  conv => arg 3; whnf
  unfold tok_reader_while_at128 at h
  have hii0 : i0 < B.length := lt_of_get hBi0
  simp -implicitDefEqProofs only [go_sem, Nat.reduceAdd, Nat.reduceSub, Nat.reduceMul, Nat.reduceLT, Nat.reduceLeDiff, Nat.reduceEqDiff, Nat.reduceBEq, hBi0, hii0]
  refine wpLoop_run' (step := tok_reader_while_at128_l0_step p0) (fun s1 => mkSl 50 [(0, .ptr i0 0), (1, .lit (.func (.func 128) #[] #[])), (5, .lit (.int .i64 p0.at_))]) (fun s1 => B.set i0 (.var [.lit (.string (bs p0.s)), .lit (.int .i64 s1)])) h (by kernel_rfl) (by first | rfl | simp -implicitDefEqProofs only [go_sem, Nat.reduceAdd, Nat.reduceSub, Nat.reduceMul, Nat.reduceLT, Nat.reduceLeDiff, Nat.reduceEqDiff, Nat.reduceBEq, mkSl, hBi0, hii0]) (by first | rfl | simp -implicitDefEqProofs only [go_sem, Nat.reduceAdd, Nat.reduceSub, Nat.reduceMul, Nat.reduceLT, Nat.reduceLeDiff, Nat.reduceEqDiff, Nat.reduceBEq, hBi0, hii0]) ?_
  clear h
  intro s1 xx1 h hx2
  unfold tok_reader_while_at128_l0_step at h
  by_cases hc3 : s1 < (p0.s.length : Int)
  · rw [if_pos hc3] at h
    obtain ⟨c2, h4, h⟩ := bind_some h
    simp -implicitDefEqProofs only [go_sem, Nat.reduceAdd, Nat.reduceSub, Nat.reduceMul, Nat.reduceLT, Nat.reduceLeDiff, Nat.reduceEqDiff, Nat.reduceBEq, hc3, h4, hBi0, hii0, mkSl]
    obtain ⟨r3, h5, h⟩ := bind_some h
    refine Vc.mono (tok_reader_quote_1_ok h5) ?_
    rintro _ _ rfl
    by_cases hc6 : r3 = true
    · rw [if_pos hc6] at h
      obtain rfl := Option.some.inj h
      simp -implicitDefEqProofs only [go_sem, Nat.reduceAdd, Nat.reduceSub, Nat.reduceMul, Nat.reduceLT, Nat.reduceLeDiff, Nat.reduceEqDiff, Nat.reduceBEq, hc3, hc6, hBi0, hii0, mkSl]
      exact ⟨_, rfl, rfl⟩
    · rw [if_neg hc6] at h
      replace hc6 := (Bool.not_eq_true _).mp hc6
      obtain ⟨m4, h7, h⟩ := bind_some h
      obtain rfl := Option.some.inj h
      obtain rfl := hx2 _ rfl
      simp -implicitDefEqProofs only [go_sem, Nat.reduceAdd, Nat.reduceSub, Nat.reduceMul, Nat.reduceLT, Nat.reduceLeDiff, Nat.reduceEqDiff, Nat.reduceBEq, hc3, hc6, h7, hBi0, hii0, mkSl]
  · rw [if_neg hc3] at h
    obtain ⟨m5, h8, h⟩ := bind_some h
    obtain rfl := Option.some.inj h
    obtain rfl := hx2 _ rfl
    simp -implicitDefEqProofs only [go_sem, Nat.reduceAdd, Nat.reduceSub, Nat.reduceMul, Nat.reduceLT, Nat.reduceLeDiff, Nat.reduceEqDiff, Nat.reduceBEq, hc3, h8, hBi0, hii0, mkSl]
theorem val_Plain_ok {a0 : List UInt8} {r : Bool} (h : val_Plain a0 = some r) :
  Vc cfg 129 [.lit (.string (bs a0))] [] fun v _ => v = .lit (.bool r) := by
  refine Vc_of (fn := Tryz.f129) rfl Tryz.func129 rfl Tryz.ntmps129 Tryz.results129 (by kernel_rfl) ?_
  conv => arg 3; whnf
  unfold val_Plain at h
  obtain ⟨b1, h1, h⟩ := bind_some h
  simp -implicitDefEqProofs only [go_sem, Nat.reduceAdd, Nat.reduceSub, Nat.reduceMul, Nat.reduceLT, Nat.reduceLeDiff, Nat.reduceEqDiff, Nat.reduceBEq, h1]
  refine wpLoop_run' (step := val_Plain_l0_step a0 b1) (fun s2 => mkSl 26 [(0, .lit (.string (bs a0))), (6, .sl .view (b1.map (En.int .u8).enc)), (7, .lit (.int .i64 (b1.length : Int))), (8, .lit (.int .i64 s2))]) (fun s2 => []) h (by kernel_rfl) (by first | rfl | simp -implicitDefEqProofs only [go_sem, Nat.reduceAdd, Nat.reduceSub, Nat.reduceMul, Nat.reduceLT, Nat.reduceLeDiff, Nat.reduceEqDiff, Nat.reduceBEq, mkSl]) (by first | rfl | simp -implicitDefEqProofs only [go_sem, Nat.reduceAdd, Nat.reduceSub, Nat.reduceMul, Nat.reduceLT, Nat.reduceLeDiff, Nat.reduceEqDiff, Nat.reduceBEq]) ?_
  clear h
  intro s2 xx2 h hx3
  unfold val_Plain_l0_step at h
  by_cases hc4 : s2 < (b1.length : Int)
  · rw [if_pos hc4] at h
    obtain ⟨x3, h5, h⟩ := bind_some h
    by_cases hc6 : x3 < 32
    · rw [if_pos hc6] at h
      obtain rfl := Option.some.inj h
      obtain rfl := hx3 _ rfl
      simp -implicitDefEqProofs only [go_sem, Nat.reduceAdd, Nat.reduceSub, Nat.reduceMul, Nat.reduceLT, Nat.reduceLeDiff, Nat.reduceEqDiff, Nat.reduceBEq, hc4, h5, hc6, mkSl]
    · rw [if_neg hc6] at h
      by_cases hc7 : 126 < x3
      · rw [if_pos hc7] at h
        obtain rfl := Option.some.inj h
        obtain rfl := hx3 _ rfl
        simp -implicitDefEqProofs only [go_sem, Nat.reduceAdd, Nat.reduceSub, Nat.reduceMul, Nat.reduceLT, Nat.reduceLeDiff, Nat.reduceEqDiff, Nat.reduceBEq, hc4, h5, hc6, hc7, mkSl]
      · rw [if_neg hc7] at h
        by_cases hc8 : (x3 == 39) = true
        · rw [if_pos hc8] at h
          obtain rfl := Option.some.inj h
          obtain rfl := hx3 _ rfl
          simp -implicitDefEqProofs only [go_sem, Nat.reduceAdd, Nat.reduceSub, Nat.reduceMul, Nat.reduceLT, Nat.reduceLeDiff, Nat.reduceEqDiff, Nat.reduceBEq, hc4, h5, hc6, hc7, hc8, mkSl]
        · rw [if_neg hc8] at h
          replace hc8 := (Bool.not_eq_true _).mp hc8
          obtain rfl := Option.some.inj h
          simp -implicitDefEqProofs only [go_sem, Nat.reduceAdd, Nat.reduceSub, Nat.reduceMul, Nat.reduceLT, Nat.reduceLeDiff, Nat.reduceEqDiff, Nat.reduceBEq, hc4, h5, hc6, hc7, hc8, mkSl]
          exact ⟨_, rfl, rfl⟩
  · rw [if_neg hc4] at h
    obtain rfl := Option.some.inj h
    obtain rfl := hx3 _ rfl
    simp -implicitDefEqProofs only [go_sem, Nat.reduceAdd, Nat.reduceSub, Nat.reduceMul, Nat.reduceLT, Nat.reduceLeDiff, Nat.reduceEqDiff, Nat.reduceBEq, hc4, mkSl]
theorem tok_reader_quote_ok {p0 : TokReader} {B : List Blk} {i0 : Nat} {r : TokToken × Int × TokReader} (h : tok_reader_quote p0 = some r) (hBi0 : B[i0]? = some (.var [.lit (.string (bs p0.s)), .lit (.int .i64 p0.at_)])) :
  Vc cfg 96 [.ptr i0 0] B fun v B' => v = .tup [.agg [.lit (.int .i64 r.1.Kind), .lit (.string (bs r.1.Text)), .lit (.int .i64 r.1.N), .lit (.int .i64 r.1.At)], .lit (.int .i64 r.2.1)] ∧ B' = B.set i0 (.var [.lit (.string (bs r.2.2.s)), .lit (.int .i64 r.2.2.at_)]) := by
  refine Vc_of (fn := Tryz.f96) rfl Tryz.func96 rfl Tryz.ntmps96 Tryz.results96 (by kernel_rfl) ?_
  conv => arg 3; whnf
  unfold tok_reader_quote at h
  have hii0 : i0 < B.length := lt_of_get hBi0
  simp -implicitDefEqProofs only [go_sem, Nat.reduceAdd, Nat.reduceSub, Nat.reduceMul, Nat.reduceLT, Nat.reduceLeDiff, Nat.reduceEqDiff, Nat.reduceBEq, hBi0, hii0]
  obtain ⟨r1, h1, h⟩ := bind_some h
  refine Vc.mono (tok_reader_while_at128_ok h1 (by simp -implicitDefEqProofs only [go_sem, Nat.reduceAdd, Nat.reduceSub, Nat.reduceMul, Nat.reduceLT, Nat.reduceLeDiff, Nat.reduceEqDiff, Nat.reduceBEq, hBi0, hii0])) ?_
  rintro _ _ ⟨rfl, rfl⟩
  by_cases hc2 : (r1.2.at_ == (r1.2.s.length : Int)) = true
  · rw [if_pos hc2] at h
    obtain rfl := Option.some.inj h
    simp -implicitDefEqProofs only [go_sem, Nat.reduceAdd, Nat.reduceSub, Nat.reduceMul, Nat.reduceLT, Nat.reduceLeDiff, Nat.reduceEqDiff, Nat.reduceBEq, hc2, hBi0, hii0]
  · rw [if_neg hc2] at h
    replace hc2 := (Bool.not_eq_true _).mp hc2
    by_cases hc3 : 48 < (r1.1.length : Int)
    · rw [if_pos hc3] at h
      obtain rfl := Option.some.inj h
      simp -implicitDefEqProofs only [go_sem, Nat.reduceAdd, Nat.reduceSub, Nat.reduceMul, Nat.reduceLT, Nat.reduceLeDiff, Nat.reduceEqDiff, Nat.reduceBEq, hc2, hc3, hBi0, hii0]
    · rw [if_neg hc3] at h
      simp -implicitDefEqProofs only [go_sem, Nat.reduceAdd, Nat.reduceSub, Nat.reduceMul, Nat.reduceLT, Nat.reduceLeDiff, Nat.reduceEqDiff, Nat.reduceBEq, hc2, hc3, hBi0, hii0]
      obtain ⟨r2, h4, h⟩ := bind_some h
      refine Vc.mono (val_Plain_ok h4) ?_
      rintro _ _ rfl
      by_cases hc5 : r2 = true
      · rw [if_pos hc5] at h
        obtain rfl := Option.some.inj h
        simp -implicitDefEqProofs only [go_sem, Nat.reduceAdd, Nat.reduceSub, Nat.reduceMul, Nat.reduceLT, Nat.reduceLeDiff, Nat.reduceEqDiff, Nat.reduceBEq, hc5, hBi0, hii0]
      · rw [if_neg hc5] at h
        replace hc5 := (Bool.not_eq_true _).mp hc5
        obtain rfl := Option.some.inj h
        simp -implicitDefEqProofs only [go_sem, Nat.reduceAdd, Nat.reduceSub, Nat.reduceMul, Nat.reduceLT, Nat.reduceLeDiff, Nat.reduceEqDiff, Nat.reduceBEq, hc5, hBi0, hii0]
theorem internal_stringslite_HasPrefix_ok {a0 : List UInt8} {a1 : List UInt8} {r : Bool} (h : internal_stringslite_HasPrefix a0 a1 = some r) :
  Vc cfg 154 [.lit (.string (bs a0)), .lit (.string (bs a1))] [] fun v _ => v = .lit (.bool r) := by
  refine Vc_of (fn := Tryz.f154) rfl Tryz.func154 rfl Tryz.ntmps154 Tryz.results154 (by kernel_rfl) ?_
  conv => arg 3; whnf
  unfold internal_stringslite_HasPrefix at h
  by_cases hc1 : (a1.length : Int) ≤ (a0.length : Int)
  · rw [if_pos hc1] at h
    obtain ⟨m2, h2, h⟩ := bind_some h
    obtain rfl := Option.some.inj h
    simp -implicitDefEqProofs only [go_sem, Nat.reduceAdd, Nat.reduceSub, Nat.reduceMul, Nat.reduceLT, Nat.reduceLeDiff, Nat.reduceEqDiff, Nat.reduceBEq, hc1, h2]
  · rw [if_neg hc1] at h
    obtain rfl := Option.some.inj h
    simp -implicitDefEqProofs only [go_sem, Nat.reduceAdd, Nat.reduceSub, Nat.reduceMul, Nat.reduceLT, Nat.reduceLeDiff, Nat.reduceEqDiff, Nat.reduceBEq, hc1]
theorem strings_HasPrefix_ok {a0 : List UInt8} {a1 : List UInt8} {r : Bool} (h : strings_HasPrefix a0 a1 = some r) :
  Vc cfg 130 [.lit (.string (bs a0)), .lit (.string (bs a1))] [] fun v _ => v = .lit (.bool r) := by
  refine Vc_of (fn := Tryz.f130) rfl Tryz.func130 rfl Tryz.ntmps130 Tryz.results130 (by kernel_rfl) ?_
  conv => arg 3; whnf
  unfold strings_HasPrefix at h
  simp -implicitDefEqProofs only [go_sem, Nat.reduceAdd, Nat.reduceSub, Nat.reduceMul, Nat.reduceLT, Nat.reduceLeDiff, Nat.reduceEqDiff, Nat.reduceBEq]
  obtain ⟨r2, h1, h⟩ := bind_some h
  refine Vc.mono (internal_stringslite_HasPrefix_ok h1) ?_
  rintro _ _ rfl
  obtain rfl := Option.some.inj h
  simp -implicitDefEqProofs only [go_sem, Nat.reduceAdd, Nat.reduceSub, Nat.reduceMul, Nat.reduceLT, Nat.reduceLeDiff, Nat.reduceEqDiff, Nat.reduceBEq]
theorem tok_reader_sign_ok {p0 : TokReader} {B : List Blk} {i0 : Nat} {r : TokToken × Int × TokReader} (h : tok_reader_sign p0 = some r) (hBi0 : B[i0]? = some (.var [.lit (.string (bs p0.s)), .lit (.int .i64 p0.at_)])) :
  Vc cfg 97 [.ptr i0 0] B fun v B' => v = .tup [.agg [.lit (.int .i64 r.1.Kind), .lit (.string (bs r.1.Text)), .lit (.int .i64 r.1.N), .lit (.int .i64 r.1.At)], .lit (.int .i64 r.2.1)] ∧ B' = B.set i0 (.var [.lit (.string (bs r.2.2.s)), .lit (.int .i64 r.2.2.at_)]) := by
  refine Vc_of (fn := Tryz.f97) rfl Tryz.func97 rfl Tryz.ntmps97 Tryz.results97 (by kernel_rfl) ?_
  conv => arg 3; whnf
  unfold tok_reader_sign at h
  have hii0 : i0 < B.length := lt_of_get hBi0
  simp -implicitDefEqProofs only [go_sem, Nat.reduceAdd, Nat.reduceSub, Nat.reduceMul, Nat.reduceLT, Nat.reduceLeDiff, Nat.reduceEqDiff, Nat.reduceBEq, hBi0, hii0]
  refine wpLoop_run' (step := tok_reader_sign_l0_step p0) (fun s1 => mkSl 34 [(0, .ptr i0 0), (2, .ptr B.length 0), (6, .agg tab3V), (7, .lit (.int .i64 s1))]) (fun s1 => B ++ [.var [.lit (.int .i64 0), .lit (.string (bs [])), .lit (.int .i64 0), .lit (.int .i64 0)]]) h (by kernel_rfl) (by first | rfl | simp -implicitDefEqProofs only [go_sem, Nat.reduceAdd, Nat.reduceSub, Nat.reduceMul, Nat.reduceLT, Nat.reduceLeDiff, Nat.reduceEqDiff, Nat.reduceBEq, mkSl, hBi0, hii0]) (by first | rfl | simp -implicitDefEqProofs only [go_sem, Nat.reduceAdd, Nat.reduceSub, Nat.reduceMul, Nat.reduceLT, Nat.reduceLeDiff, Nat.reduceEqDiff, Nat.reduceBEq, hBi0, hii0]) ?_
  clear h
  intro s1 xx1 h hx2
  unfold tok_reader_sign_l0_step at h
  by_cases hc3 : s1 < 15
  · rw [if_pos hc3] at h
    obtain ⟨x2, h4, h⟩ := bind_some h
    obtain ⟨m3, h5, h⟩ := bind_some h
    simp -implicitDefEqProofs only [go_sem, Nat.reduceAdd, Nat.reduceSub, Nat.reduceMul, Nat.reduceLT, Nat.reduceLeDiff, Nat.reduceEqDiff, Nat.reduceBEq, hc3, h4, h5, hBi0, hii0, mkSl]
    obtain ⟨r4, h6, h⟩ := bind_some h
    refine Vc.mono (strings_HasPrefix_ok h6) ?_
    rintro _ _ rfl
    by_cases hc7 : r4 = true
    · rw [if_pos hc7] at h
      obtain rfl := Option.some.inj h
      obtain rfl := hx2 _ rfl
      simp -implicitDefEqProofs only [go_sem, Nat.reduceAdd, Nat.reduceSub, Nat.reduceMul, Nat.reduceLT, Nat.reduceLeDiff, Nat.reduceEqDiff, Nat.reduceBEq, hc7, hBi0, hii0, mkSl]
    · rw [if_neg hc7] at h
      replace hc7 := (Bool.not_eq_true _).mp hc7
      obtain rfl := Option.some.inj h
      simp -implicitDefEqProofs only [go_sem, Nat.reduceAdd, Nat.reduceSub, Nat.reduceMul, Nat.reduceLT, Nat.reduceLeDiff, Nat.reduceEqDiff, Nat.reduceBEq, hc7, hBi0, hii0, mkSl]
      exact ⟨_, rfl, rfl⟩
  · rw [if_neg hc3] at h
    obtain rfl := Option.some.inj h
    obtain rfl := hx2 _ rfl
    simp -implicitDefEqProofs only [go_sem, Nat.reduceAdd, Nat.reduceSub, Nat.reduceMul, Nat.reduceLT, Nat.reduceLeDiff, Nat.reduceEqDiff, Nat.reduceBEq, hc3, hBi0, hii0, mkSl]
theorem tok_reader_token_ok {p0 : TokReader} {B : List Blk} {i0 : Nat} {r : TokToken × Int × TokReader} (h : tok_reader_token p0 = some r) (hBi0 : B[i0]? = some (.var [.lit (.string (bs p0.s)), .lit (.int .i64 p0.at_)])) :
  Vc cfg 56 [.ptr i0 0] B fun v B' => v = .tup [.agg [.lit (.int .i64 r.1.Kind), .lit (.string (bs r.1.Text)), .lit (.int .i64 r.1.N), .lit (.int .i64 r.1.At)], .lit (.int .i64 r.2.1)] ∧ B' = B.set i0 (.var [.lit (.string (bs r.2.2.s)), .lit (.int .i64 r.2.2.at_)]) := by
  refine Vc_of (fn := Tryz.f56) rfl Tryz.func56 rfl Tryz.ntmps56 Tryz.results56 (by kernel_rfl) ?_
  conv => arg 3; whnf
  unfold tok_reader_token at h
  have hii0 : i0 < B.length := lt_of_get hBi0
  obtain ⟨c1, h1, h⟩ := bind_some h
  simp -implicitDefEqProofs only [go_sem, Nat.reduceAdd, Nat.reduceSub, Nat.reduceMul, Nat.reduceLT, Nat.reduceLeDiff, Nat.reduceEqDiff, Nat.reduceBEq, h1, hBi0, hii0]
  obtain ⟨r2, h2, h⟩ := bind_some h
  refine Vc.mono (tok_small_ok h2) ?_
  rintro _ _ rfl
  by_cases hc3 : r2 = true
  · rw [if_pos hc3] at h
    simp -implicitDefEqProofs only [go_sem, Nat.reduceAdd, Nat.reduceSub, Nat.reduceMul, Nat.reduceLT, Nat.reduceLeDiff, Nat.reduceEqDiff, Nat.reduceBEq, hc3, hBi0, hii0]
    obtain ⟨r3, h4, h⟩ := bind_some h
    refine Vc.mono (tok_reader_path_ok h4 (by simp -implicitDefEqProofs only [go_sem, Nat.reduceAdd, Nat.reduceSub, Nat.reduceMul, Nat.reduceLT, Nat.reduceLeDiff, Nat.reduceEqDiff, Nat.reduceBEq, hBi0, hii0])) ?_
    rintro _ _ ⟨rfl, rfl⟩
    obtain rfl := Option.some.inj h
    simp -implicitDefEqProofs only [go_sem, Nat.reduceAdd, Nat.reduceSub, Nat.reduceMul, Nat.reduceLT, Nat.reduceLeDiff, Nat.reduceEqDiff, Nat.reduceBEq, hBi0, hii0]
  · rw [if_neg hc3] at h
    replace hc3 := (Bool.not_eq_true _).mp hc3
    simp -implicitDefEqProofs only [go_sem, Nat.reduceAdd, Nat.reduceSub, Nat.reduceMul, Nat.reduceLT, Nat.reduceLeDiff, Nat.reduceEqDiff, Nat.reduceBEq, hc3, hBi0, hii0]
    obtain ⟨r4, h5, h⟩ := bind_some h
    refine Vc.mono (tok_digit_ok h5) ?_
    rintro _ _ rfl
    by_cases hc6 : r4 = true
    · rw [if_pos hc6] at h
      simp -implicitDefEqProofs only [go_sem, Nat.reduceAdd, Nat.reduceSub, Nat.reduceMul, Nat.reduceLT, Nat.reduceLeDiff, Nat.reduceEqDiff, Nat.reduceBEq, hc6, hBi0, hii0]
      obtain ⟨r5, h7, h⟩ := bind_some h
      refine Vc.mono (tok_reader_number_ok h7 (by simp -implicitDefEqProofs only [go_sem, Nat.reduceAdd, Nat.reduceSub, Nat.reduceMul, Nat.reduceLT, Nat.reduceLeDiff, Nat.reduceEqDiff, Nat.reduceBEq, hBi0, hii0])) ?_
      rintro _ _ ⟨rfl, rfl⟩
      obtain rfl := Option.some.inj h
      simp -implicitDefEqProofs only [go_sem, Nat.reduceAdd, Nat.reduceSub, Nat.reduceMul, Nat.reduceLT, Nat.reduceLeDiff, Nat.reduceEqDiff, Nat.reduceBEq, hBi0, hii0]
    · rw [if_neg hc6] at h
      replace hc6 := (Bool.not_eq_true _).mp hc6
      by_cases hc8 : ((c1.toNat : Int) == 39) = true
      · rw [if_pos hc8] at h
        simp -implicitDefEqProofs only [go_sem, Nat.reduceAdd, Nat.reduceSub, Nat.reduceMul, Nat.reduceLT, Nat.reduceLeDiff, Nat.reduceEqDiff, Nat.reduceBEq, hc6, hc8, hBi0, hii0]
        obtain ⟨r6, h9, h⟩ := bind_some h
        refine Vc.mono (tok_reader_quote_ok h9 (by simp -implicitDefEqProofs only [go_sem, Nat.reduceAdd, Nat.reduceSub, Nat.reduceMul, Nat.reduceLT, Nat.reduceLeDiff, Nat.reduceEqDiff, Nat.reduceBEq, hBi0, hii0])) ?_
        rintro _ _ ⟨rfl, rfl⟩
        obtain rfl := Option.some.inj h
        simp -implicitDefEqProofs only [go_sem, Nat.reduceAdd, Nat.reduceSub, Nat.reduceMul, Nat.reduceLT, Nat.reduceLeDiff, Nat.reduceEqDiff, Nat.reduceBEq, hBi0, hii0]
      · rw [if_neg hc8] at h
        replace hc8 := (Bool.not_eq_true _).mp hc8
        simp -implicitDefEqProofs only [go_sem, Nat.reduceAdd, Nat.reduceSub, Nat.reduceMul, Nat.reduceLT, Nat.reduceLeDiff, Nat.reduceEqDiff, Nat.reduceBEq, hc6, hc8, hBi0, hii0]
        obtain ⟨r7, h10, h⟩ := bind_some h
        refine Vc.mono (tok_reader_sign_ok h10 (by simp -implicitDefEqProofs only [go_sem, Nat.reduceAdd, Nat.reduceSub, Nat.reduceMul, Nat.reduceLT, Nat.reduceLeDiff, Nat.reduceEqDiff, Nat.reduceBEq, hBi0, hii0])) ?_
        rintro _ _ ⟨rfl, rfl⟩
        obtain rfl := Option.some.inj h
        simp -implicitDefEqProofs only [go_sem, Nat.reduceAdd, Nat.reduceSub, Nat.reduceMul, Nat.reduceLT, Nat.reduceLeDiff, Nat.reduceEqDiff, Nat.reduceBEq, hBi0, hii0]
end Go.Proofs.YtilmjbljkkbakaaGreatDoor
