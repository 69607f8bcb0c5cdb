/-
  A part of the proof: lemmas.
-/
import Derived.Test.YtilmjbljkkbakaaGreatDoorCFactsc
import Derived.Test.YtilmjbljkkbakaaGreatDoorCFunsc
set_option linter.unusedSimpArgs false
set_option linter.unusedVariables false
set_option linter.unusedSectionVars false
set_option linter.unnecessarySimpa false
set_option linter.deprecated false
/-! The functions' proofs. -/
namespace Go.Proofs.YtilmjbljkkbakaaGreatDoor
open Go.Wv
set_option linter.unusedSimpArgs false
set_option linter.unusedVariables false
set_option maxRecDepth 10000
set_option maxHeartbeats 20000000
theorem stringslite_Index_ok {a0 : List UInt8} {a1 : List UInt8} {r : Int} (h : stringslite_Index a0 a1 = some r) :
  Vc cfg 119 [.lit (.string (bs a0)), .lit (.string (bs a1))] [] fun v _ => v = .lit (.int .i64 r) :=
  Vc_ext (e := indexX) rfl (indexX_of h) rfl
theorem internal_stringslite_Cut_ok {a0 : List UInt8} {a1 : List UInt8} {r : (List UInt8) × (List UInt8) × Bool} (h : internal_stringslite_Cut a0 a1 = some r) :
  Vc cfg 77 [.lit (.string (bs a0)), .lit (.string (bs a1))] [] fun v _ => v = .tup [.lit (.string (bs r.1)), .lit (.string (bs r.2.1)), .lit (.bool r.2.2)] := by
  refine Vc_of (fn := Tryz.f77) rfl Tryz.func77 rfl Tryz.ntmps77 Tryz.results77 (by kernel_rfl) ?_
  conv => arg 3; whnf
  unfold internal_stringslite_Cut at h
  simp -implicitDefEqProofs only [go_sem, Nat.reduceAdd, Nat.reduceSub, Nat.reduceMul, Nat.reduceLT, Nat.reduceLeDiff, Nat.reduceEqDiff, Nat.reduceBEq]
  obtain ⟨r2, h1, h⟩ := bind_some h
  refine Vc.mono (stringslite_Index_ok h1) ?_
  rintro _ _ rfl
  by_cases hc2 : 0 ≤ r2
  · rw [if_pos hc2] at h
    obtain ⟨m3, h3, h⟩ := bind_some h
    obtain ⟨m4, h4, h⟩ := bind_some h
    obtain rfl := Option.some.inj h
    simp -implicitDefEqProofs only [go_sem, Nat.reduceAdd, Nat.reduceSub, Nat.reduceMul, Nat.reduceLT, Nat.reduceLeDiff, Nat.reduceEqDiff, Nat.reduceBEq, hc2, h3, h4]
  · rw [if_neg hc2] at h
    obtain rfl := Option.some.inj h
    simp -implicitDefEqProofs only [go_sem, Nat.reduceAdd, Nat.reduceSub, Nat.reduceMul, Nat.reduceLT, Nat.reduceLeDiff, Nat.reduceEqDiff, Nat.reduceBEq, hc2]
theorem strings_Cut_ok {a0 : List UInt8} {a1 : List UInt8} {r : (List UInt8) × (List UInt8) × Bool} (h : strings_Cut a0 a1 = some r) :
  Vc cfg 44 [.lit (.string (bs a0)), .lit (.string (bs a1))] [] fun v _ => v = .tup [.lit (.string (bs r.1)), .lit (.string (bs r.2.1)), .lit (.bool r.2.2)] := by
  refine Vc_of (fn := Tryz.f44) rfl Tryz.func44 rfl Tryz.ntmps44 Tryz.results44 (by kernel_rfl) ?_
  conv => arg 3; whnf
  unfold strings_Cut at h
  simp -implicitDefEqProofs only [go_sem, Nat.reduceAdd, Nat.reduceSub, Nat.reduceMul, Nat.reduceLT, Nat.reduceLeDiff, Nat.reduceEqDiff, Nat.reduceBEq]
  obtain ⟨r2, h1, h⟩ := bind_some h
  refine Vc.mono (internal_stringslite_Cut_ok h1) ?_
  rintro _ _ rfl
  obtain rfl := Option.some.inj h
  simp -implicitDefEqProofs only [go_sem, Nat.reduceAdd, Nat.reduceSub, Nat.reduceMul, Nat.reduceLT, Nat.reduceLeDiff, Nat.reduceEqDiff, Nat.reduceBEq]
theorem cmd_kindOf_ok {a0 : List UInt8} {r : Int} (h : cmd_kindOf a0 = some r) :
  Vc cfg 45 [.lit (.string (bs a0))] [] fun v _ => v = .lit (.int .i64 r) := by
  refine Vc_of (fn := Tryz.f45) rfl Tryz.func45 rfl Tryz.ntmps45 Tryz.results45 (by kernel_rfl) ?_
  conv => arg 3; whnf
  unfold cmd_kindOf at h
  simp -implicitDefEqProofs only [go_sem, Nat.reduceAdd, Nat.reduceSub, Nat.reduceMul, Nat.reduceLT, Nat.reduceLeDiff, Nat.reduceEqDiff, Nat.reduceBEq]
  refine wpLoop_run' (step := cmd_kindOf_l0_step a0) (fun s1 => mkSl 14 [(0, .lit (.string (bs a0))), (3, .lit (.int .i64 s1))]) (fun s1 => []) h (by kernel_rfl) (by first | rfl | simp -implicitDefEqProofs only [go_sem, Nat.reduceAdd, Nat.reduceSub, Nat.reduceMul, Nat.reduceLT, Nat.reduceLeDiff, Nat.reduceEqDiff, Nat.reduceBEq, mkSl]) (by first | rfl | simp -implicitDefEqProofs only [go_sem, Nat.reduceAdd, Nat.reduceSub, Nat.reduceMul, Nat.reduceLT, Nat.reduceLeDiff, Nat.reduceEqDiff, Nat.reduceBEq]) ?_
  clear h
  intro s1 xx1 h hx2
  unfold cmd_kindOf_l0_step at h
  by_cases hc3 : s1 ≤ 25
  · rw [if_pos hc3] at h
    obtain ⟨j2, h4, h⟩ := bind_some h
    have h5 := vindexAddr_tab (P := Tryz.prog) (t := 72) (k := .i64) (cs := tab1V) (off := 0) h4 (by simp -implicitDefEqProofs only [go_sem, Nat.reduceAdd, Nat.reduceSub, Nat.reduceMul, Nat.reduceLT, Nat.reduceLeDiff, Nat.reduceEqDiff, Nat.reduceBEq, Option.map_some])
    try simp -implicitDefEqProofs only [go_sem, Nat.reduceAdd, Nat.reduceSub, Nat.reduceMul, Nat.reduceLT, Nat.reduceLeDiff, Nat.reduceEqDiff, Nat.reduceBEq] at h5
    obtain ⟨x3, h6, h⟩ := bind_some h
    have h6l := lt_of_get h6
    try simp only [List.length_cons, List.length_nil, Nat.reduceAdd] at h6l
    by_cases hc7 : (x3 == a0) = true
    · rw [if_pos hc7] at h
      obtain rfl := Option.some.inj h
      obtain rfl := hx2 _ rfl
      simp -implicitDefEqProofs only [go_sem, Nat.reduceAdd, Nat.reduceSub, Nat.reduceMul, Nat.reduceLT, Nat.reduceLeDiff, Nat.reduceEqDiff, Nat.reduceBEq, hc3, h5, h6, h6l, hc7, mkSl]
    · rw [if_neg hc7] at h
      replace hc7 := (Bool.not_eq_true _).mp hc7
      obtain rfl := Option.some.inj h
      simp -implicitDefEqProofs only [go_sem, Nat.reduceAdd, Nat.reduceSub, Nat.reduceMul, Nat.reduceLT, Nat.reduceLeDiff, Nat.reduceEqDiff, Nat.reduceBEq, hc3, h5, h6, h6l, hc7, mkSl]
      exact ⟨_, rfl, rfl⟩
  · rw [if_neg hc3] at h
    obtain rfl := Option.some.inj h
    obtain rfl := hx2 _ rfl
    simp -implicitDefEqProofs only [go_sem, Nat.reduceAdd, Nat.reduceSub, Nat.reduceMul, Nat.reduceLT, Nat.reduceLeDiff, Nat.reduceEqDiff, Nat.reduceBEq, hc3, mkSl]
theorem tok_Lex_1_ok {a0 : Int} {r : Bool} (h : tok_Lex_1 a0 = some r) :
  Vc cfg 55 [.lit (.int .u8 a0)] [] fun v _ => v = .lit (.bool r) := by
  refine Vc_of (fn := Tryz.f55) rfl Tryz.func55 rfl Tryz.ntmps55 Tryz.results55 (by kernel_rfl) ?_
  conv => arg 3; whnf
  unfold tok_Lex_1 at h
  obtain rfl := Option.some.inj h
  simp -implicitDefEqProofs only [go_sem, Nat.reduceAdd, Nat.reduceSub, Nat.reduceMul, Nat.reduceLT, Nat.reduceLeDiff, Nat.reduceEqDiff, Nat.reduceBEq]
theorem tok_reader_while_at55_ok {p0 : TokReader} {B : List Blk} {i0 : Nat} {r : (List UInt8) × TokReader} (h : tok_reader_while_at55 p0 = some r) (hBi0 : B[i0]? = some (.var [.lit (.string (bs p0.s)), .lit (.int .i64 p0.at_)])) :
  Vc cfg 54 [.ptr i0 0, .lit (.func (.func 55) #[] #[])] B fun v B' => v = .lit (.string (bs r.1)) ∧ B' = B.set i0 (.var [.lit (.string (bs r.2.s)), .lit (.int .i64 r.2.at_)]) := by
  refine Vc_of (fn := Tryz.f54) rfl Tryz.func54 rfl Tryz.ntmps54 Tryz.results54 (by kernel_rfl) ?_
  conv => arg 3; whnf
  unfold tok_reader_while_at55 at h
  have hii0 : i0 < B.length := lt_of_get hBi0
  simp -implicitDefEqProofs only [go_sem, Nat.reduceAdd, Nat.reduceSub, Nat.reduceMul, Nat.reduceLT, Nat.reduceLeDiff, Nat.reduceEqDiff, Nat.reduceBEq, hBi0, hii0]
  refine wpLoop_run' (step := tok_reader_while_at55_l0_step p0) (fun s1 => mkSl 50 [(0, .ptr i0 0), (1, .lit (.func (.func 55) #[] #[])), (5, .lit (.int .i64 p0.at_))]) (fun s1 => B.set i0 (.var [.lit (.string (bs p0.s)), .lit (.int .i64 s1)])) h (by kernel_rfl) (by first | rfl | simp -implicitDefEqProofs only [go_sem, Nat.reduceAdd, Nat.reduceSub, Nat.reduceMul, Nat.reduceLT, Nat.reduceLeDiff, Nat.reduceEqDiff, Nat.reduceBEq, mkSl, hBi0, hii0]) (by first | rfl | simp -implicitDefEqProofs only [go_sem, Nat.reduceAdd, Nat.reduceSub, Nat.reduceMul, Nat.reduceLT, Nat.reduceLeDiff, Nat.reduceEqDiff, Nat.reduceBEq, hBi0, hii0]) ?_
  clear h
  intro s1 xx1 h hx2
  unfold tok_reader_while_at55_l0_step at h
  by_cases hc3 : s1 < (p0.s.length : Int)
  · rw [if_pos hc3] at h
    obtain ⟨c2, h4, h⟩ := bind_some h
    simp -implicitDefEqProofs only [go_sem, Nat.reduceAdd, Nat.reduceSub, Nat.reduceMul, Nat.reduceLT, Nat.reduceLeDiff, Nat.reduceEqDiff, Nat.reduceBEq, hc3, h4, hBi0, hii0, mkSl]
    obtain ⟨r3, h5, h⟩ := bind_some h
    refine Vc.mono (tok_Lex_1_ok h5) ?_
    rintro _ _ rfl
    by_cases hc6 : r3 = true
    · rw [if_pos hc6] at h
      obtain rfl := Option.some.inj h
      simp -implicitDefEqProofs only [go_sem, Nat.reduceAdd, Nat.reduceSub, Nat.reduceMul, Nat.reduceLT, Nat.reduceLeDiff, Nat.reduceEqDiff, Nat.reduceBEq, hc3, hc6, hBi0, hii0, mkSl]
      exact ⟨_, rfl, rfl⟩
    · rw [if_neg hc6] at h
      replace hc6 := (Bool.not_eq_true _).mp hc6
      obtain ⟨m4, h7, h⟩ := bind_some h
      obtain rfl := Option.some.inj h
      obtain rfl := hx2 _ rfl
      simp -implicitDefEqProofs only [go_sem, Nat.reduceAdd, Nat.reduceSub, Nat.reduceMul, Nat.reduceLT, Nat.reduceLeDiff, Nat.reduceEqDiff, Nat.reduceBEq, hc3, hc6, h7, hBi0, hii0, mkSl]
  · rw [if_neg hc3] at h
    obtain ⟨m5, h8, h⟩ := bind_some h
    obtain rfl := Option.some.inj h
    obtain rfl := hx2 _ rfl
    simp -implicitDefEqProofs only [go_sem, Nat.reduceAdd, Nat.reduceSub, Nat.reduceMul, Nat.reduceLT, Nat.reduceLeDiff, Nat.reduceEqDiff, Nat.reduceBEq, hc3, h8, hBi0, hii0, mkSl]
theorem tok_small_ok {a0 : Int} {r : Bool} (h : tok_small a0 = some r) :
  Vc cfg 92 [.lit (.int .u8 a0)] [] fun v _ => v = .lit (.bool r) := by
  refine Vc_of (fn := Tryz.f92) rfl Tryz.func92 rfl Tryz.ntmps92 Tryz.results92 (by kernel_rfl) ?_
  conv => arg 3; whnf
  unfold tok_small at h
  by_cases hc1 : 97 ≤ a0
  · rw [if_pos hc1] at h
    obtain rfl := Option.some.inj h
    simp -implicitDefEqProofs only [go_sem, Nat.reduceAdd, Nat.reduceSub, Nat.reduceMul, Nat.reduceLT, Nat.reduceLeDiff, Nat.reduceEqDiff, Nat.reduceBEq, hc1]
  · rw [if_neg hc1] at h
    obtain rfl := Option.some.inj h
    simp -implicitDefEqProofs only [go_sem, Nat.reduceAdd, Nat.reduceSub, Nat.reduceMul, Nat.reduceLT, Nat.reduceLeDiff, Nat.reduceEqDiff, Nat.reduceBEq, hc1]
theorem tok_digit_ok {a0 : Int} {r : Bool} (h : tok_digit a0 = some r) :
  Vc cfg 94 [.lit (.int .u8 a0)] [] fun v _ => v = .lit (.bool r) := by
  refine Vc_of (fn := Tryz.f94) rfl Tryz.func94 rfl Tryz.ntmps94 Tryz.results94 (by kernel_rfl) ?_
  conv => arg 3; whnf
  unfold tok_digit at h
  by_cases hc1 : 48 ≤ a0
  · rw [if_pos hc1] at h
    obtain rfl := Option.some.inj h
    simp -implicitDefEqProofs only [go_sem, Nat.reduceAdd, Nat.reduceSub, Nat.reduceMul, Nat.reduceLT, Nat.reduceLeDiff, Nat.reduceEqDiff, Nat.reduceBEq, hc1]
  · rw [if_neg hc1] at h
    obtain rfl := Option.some.inj h
    simp -implicitDefEqProofs only [go_sem, Nat.reduceAdd, Nat.reduceSub, Nat.reduceMul, Nat.reduceLT, Nat.reduceLeDiff, Nat.reduceEqDiff, Nat.reduceBEq, hc1]
theorem tok_reader_word_1_ok {a0 : Int} {r : Bool} (h : tok_reader_word_1 a0 = some r) :
  Vc cfg 153 [.lit (.int .u8 a0)] [] fun v _ => v = .lit (.bool r) := by
  refine Vc_of (fn := Tryz.f153) rfl Tryz.func153 rfl Tryz.ntmps153 Tryz.results153 (by kernel_rfl) ?_
  conv => arg 3; whnf
  unfold tok_reader_word_1 at h
  simp -implicitDefEqProofs only [go_sem, Nat.reduceAdd, Nat.reduceSub, Nat.reduceMul, Nat.reduceLT, Nat.reduceLeDiff, Nat.reduceEqDiff, Nat.reduceBEq]
  obtain ⟨r1, h1, h⟩ := bind_some h
  refine Vc.mono (tok_small_ok h1) ?_
  rintro _ _ rfl
  by_cases hc2 : r1 = true
  · rw [if_pos hc2] at h
    obtain rfl := Option.some.inj h
    simp -implicitDefEqProofs only [go_sem, Nat.reduceAdd, Nat.reduceSub, Nat.reduceMul, Nat.reduceLT, Nat.reduceLeDiff, Nat.reduceEqDiff, Nat.reduceBEq, hc2]
  · rw [if_neg hc2] at h
    replace hc2 := (Bool.not_eq_true _).mp hc2
    simp -implicitDefEqProofs only [go_sem, Nat.reduceAdd, Nat.reduceSub, Nat.reduceMul, Nat.reduceLT, Nat.reduceLeDiff, Nat.reduceEqDiff, Nat.reduceBEq, hc2]
    obtain ⟨r2, h3, h⟩ := bind_some h
    refine Vc.mono (tok_digit_ok h3) ?_
    rintro _ _ rfl
    by_cases hc4 : r2 = true
    · rw [if_pos hc4] at h
      obtain rfl := Option.some.inj h
      simp -implicitDefEqProofs only [go_sem, Nat.reduceAdd, Nat.reduceSub, Nat.reduceMul, Nat.reduceLT, Nat.reduceLeDiff, Nat.reduceEqDiff, Nat.reduceBEq, hc2, hc4]
    · rw [if_neg hc4] at h
      replace hc4 := (Bool.not_eq_true _).mp hc4
      obtain rfl := Option.some.inj h
      simp -implicitDefEqProofs only [go_sem, Nat.reduceAdd, Nat.reduceSub, Nat.reduceMul, Nat.reduceLT, Nat.reduceLeDiff, Nat.reduceEqDiff, Nat.reduceBEq, hc2, hc4]
theorem tok_reader_while_at153_ok {p0 : TokReader} {B : List Blk} {i0 : Nat} {r : (List UInt8) × TokReader} (h : tok_reader_while_at153 p0 = some r) (hBi0 : B[i0]? = some (.var [.lit (.string (bs p0.s)), .lit (.int .i64 p0.at_)])) :
  Vc cfg 54 [.ptr i0 0, .lit (.func (.func 153) #[] #[])] B fun v B' => v = .lit (.string (bs r.1)) ∧ B' = B.set i0 (.var [.lit (.string (bs r.2.s)), .lit (.int .i64 r.2.at_)]) := by
  refine Vc_of (fn := Tryz.f54) rfl Tryz.func54 rfl Tryz.ntmps54 Tryz.results54 (by kernel_rfl) ?_
  conv => arg 3; whnf
  unfold tok_reader_while_at153 at h
  have hii0 : i0 < B.length := lt_of_get hBi0
  simp -implicitDefEqProofs only [go_sem, Nat.reduceAdd, Nat.reduceSub, Nat.reduceMul, Nat.reduceLT, Nat.reduceLeDiff, Nat.reduceEqDiff, Nat.reduceBEq, hBi0, hii0]
  refine wpLoop_run' (step := tok_reader_while_at153_l0_step p0) (fun s1 => mkSl 50 [(0, .ptr i0 0), (1, .lit (.func (.func 153) #[] #[])), (5, .lit (.int .i64 p0.at_))]) (fun s1 => B.set i0 (.var [.lit (.string (bs p0.s)), .lit (.int .i64 s1)])) h (by kernel_rfl) (by first | rfl | simp -implicitDefEqProofs only [go_sem, Nat.reduceAdd, Nat.reduceSub, Nat.reduceMul, Nat.reduceLT, Nat.reduceLeDiff, Nat.reduceEqDiff, Nat.reduceBEq, mkSl, hBi0, hii0]) (by first | rfl | simp -implicitDefEqProofs only [go_sem, Nat.reduceAdd, Nat.reduceSub, Nat.reduceMul, Nat.reduceLT, Nat.reduceLeDiff, Nat.reduceEqDiff, Nat.reduceBEq, hBi0, hii0]) ?_
  clear h
  intro s1 xx1 h hx2
  unfold tok_reader_while_at153_l0_step at h
  by_cases hc3 : s1 < (p0.s.length : Int)
  · rw [if_pos hc3] at h
    obtain ⟨c2, h4, h⟩ := bind_some h
    simp -implicitDefEqProofs only [go_sem, Nat.reduceAdd, Nat.reduceSub, Nat.reduceMul, Nat.reduceLT, Nat.reduceLeDiff, Nat.reduceEqDiff, Nat.reduceBEq, hc3, h4, hBi0, hii0, mkSl]
    obtain ⟨r3, h5, h⟩ := bind_some h
    refine Vc.mono (tok_reader_word_1_ok h5) ?_
    rintro _ _ rfl
    by_cases hc6 : r3 = true
    · rw [if_pos hc6] at h
      obtain rfl := Option.some.inj h
      simp -implicitDefEqProofs only [go_sem, Nat.reduceAdd, Nat.reduceSub, Nat.reduceMul, Nat.reduceLT, Nat.reduceLeDiff, Nat.reduceEqDiff, Nat.reduceBEq, hc3, hc6, hBi0, hii0, mkSl]
      exact ⟨_, rfl, rfl⟩
    · rw [if_neg hc6] at h
      replace hc6 := (Bool.not_eq_true _).mp hc6
      obtain ⟨m4, h7, h⟩ := bind_some h
      obtain rfl := Option.some.inj h
      obtain rfl := hx2 _ rfl
      simp -implicitDefEqProofs only [go_sem, Nat.reduceAdd, Nat.reduceSub, Nat.reduceMul, Nat.reduceLT, Nat.reduceLeDiff, Nat.reduceEqDiff, Nat.reduceBEq, hc3, hc6, h7, hBi0, hii0, mkSl]
  · rw [if_neg hc3] at h
    obtain ⟨m5, h8, h⟩ := bind_some h
    obtain rfl := Option.some.inj h
    obtain rfl := hx2 _ rfl
    simp -implicitDefEqProofs only [go_sem, Nat.reduceAdd, Nat.reduceSub, Nat.reduceMul, Nat.reduceLT, Nat.reduceLeDiff, Nat.reduceEqDiff, Nat.reduceBEq, hc3, h8, hBi0, hii0, mkSl]
end Go.Proofs.YtilmjbljkkbakaaGreatDoor
