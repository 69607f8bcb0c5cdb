/-
  A part of the proof: lemmas.
-/
import Derived.Test.YtilmjbljkkbakaaGreatDoorCFactsc
import Derived.Test.YtilmjbljkkbakaaGreatDoorCFunsc
import Derived.Test.YtilmjbljkkbakaaGreatDoorCPr13c
import Derived.Test.YtilmjbljkkbakaaGreatDoorCPr14c
set_option linter.unusedSimpArgs false
set_option linter.unusedVariables false
set_option linter.unusedSectionVars false
set_option linter.unnecessarySimpa false
set_option linter.deprecated false
/-! The functions' proofs. -/
namespace Go.Proofs.YtilmjbljkkbakaaGreatDoor
open Go.Wv
set_option linter.unusedSimpArgs false
set_option linter.unusedVariables false
set_option maxRecDepth 10000
set_option maxHeartbeats 20000000
theorem wlaw31_CmdIs_ok {a0 : List UInt8} {a1 : List Int} {r : Bool} (h : wlaw31_CmdIs a0 a1 = some r) :
  Vc cfg 7 [.lit (.string (bs a0)), .sl .view (a1.map (En.int .i64).enc)] [] fun v _ => v = .lit (.bool r) := by
  refine Vc_of (fn := Tryz.f7) rfl Tryz.func7 rfl Tryz.ntmps7 Tryz.results7 (by kernel_rfl) ?_
  conv => arg 3; whnf
  unfold wlaw31_CmdIs at h
  simp -implicitDefEqProofs only [go_sem, Nat.reduceAdd, Nat.reduceSub, Nat.reduceMul, Nat.reduceLT, Nat.reduceLeDiff, Nat.reduceEqDiff, Nat.reduceBEq]
  obtain ⟨r2, h1, h⟩ := bind_some h
  refine Vc.mono (wlaw31_anchor_ok h1) ?_
  rintro _ _ rfl
  by_cases hc2 : r2 = true
  · rw [if_pos hc2] at h
    by_cases hc3 : 800 < (a0.length : Int)
    · rw [if_pos hc3] at h
      obtain rfl := Option.some.inj h
      simp -implicitDefEqProofs only [go_sem, Nat.reduceAdd, Nat.reduceSub, Nat.reduceMul, Nat.reduceLT, Nat.reduceLeDiff, Nat.reduceEqDiff, Nat.reduceBEq, hc2, hc3]
    · rw [if_neg hc3] at h
      by_cases hc4 : 50 < (a1.length : Int)
      · rw [if_pos hc4] at h
        obtain rfl := Option.some.inj h
        simp -implicitDefEqProofs only [go_sem, Nat.reduceAdd, Nat.reduceSub, Nat.reduceMul, Nat.reduceLT, Nat.reduceLeDiff, Nat.reduceEqDiff, Nat.reduceBEq, hc2, hc3, hc4]
      · rw [if_neg hc4] at h
        simp -implicitDefEqProofs only [go_sem, Nat.reduceAdd, Nat.reduceSub, Nat.reduceMul, Nat.reduceLT, Nat.reduceLeDiff, Nat.reduceEqDiff, Nat.reduceBEq, hc2, hc3, hc4]
        obtain ⟨r3, h5, h⟩ := bind_some h
        refine Vc.mono (wref31_Split_ok h5) ?_
        rintro _ _ rfl
        obtain ⟨x4, h6, h⟩ := bind_some h
        simp -implicitDefEqProofs only [go_sem, Nat.reduceAdd, Nat.reduceSub, Nat.reduceMul, Nat.reduceLT, Nat.reduceLeDiff, Nat.reduceEqDiff, Nat.reduceBEq, h6]
        obtain ⟨r5, h7, h⟩ := bind_some h
        refine Vc.mono (wref31_Words_ok h7) ?_
        rintro _ _ rfl
        simp -implicitDefEqProofs only [go_sem, Nat.reduceAdd, Nat.reduceSub, Nat.reduceMul, Nat.reduceLT, Nat.reduceLeDiff, Nat.reduceEqDiff, Nat.reduceBEq, tabF25V_def]
        obtain ⟨xx8, h10, hk11, hx9⟩ := jn_some h
        clear h
        refine seqK_join (x := xx8) (fun s6 => mkSl 58 [(0, .lit (.string (bs a0))), (1, .sl .view (a1.map (En.int .i64).enc)), (5, .lit (.string (bs x4))), (7, .lit (.bool s6))]) (fun s6 => [.var [.lit (.string (bs [])), .lit (.string (bs [108, 111, 97, 100])), .lit (.string (bs [105, 109, 112, 111, 114, 116])), .lit (.string (bs [101, 120, 112, 111, 114, 116])), .lit (.string (bs [115, 104, 111, 119])), .lit (.string (bs [98, 114, 101, 97, 107, 115])), .lit (.string (bs [119, 97, 116, 99, 104, 101, 115])), .lit (.string (bs [98, 114, 97, 110, 99, 104, 101, 115])), .lit (.string (bs [99, 111, 118, 101, 114])), .lit (.string (bs [108, 105, 110, 116])), .lit (.string (bs [115, 116, 101, 112])), .lit (.string (bs [98, 97, 99, 107])), .lit (.string (bs [114, 117, 110])), .lit (.string (bs [114, 98, 97, 99, 107])), .lit (.string (bs [106, 117, 109, 112])), .lit (.string (bs [116, 105, 99, 107])), .lit (.string (bs [98, 114, 97, 110, 99, 104])), .lit (.string (bs [117, 110, 98, 114, 101, 97, 107])), .lit (.string (bs [101, 110, 97, 98, 108, 101])), .lit (.string (bs [100, 105, 115, 97, 98, 108, 101])), .lit (.string (bs [117, 110, 119, 97, 116, 99, 104])), .lit (.string (bs [100, 105, 102, 102])), .lit (.string (bs [99, 97, 112, 115])), .lit (.string (bs [115, 101, 110, 100])), .lit (.string (bs [98, 114, 101, 97, 107])), .lit (.string (bs [119, 97, 116, 99, 104]))]]) ?_ ?_
        · clear hk11
          unfold wlaw31_CmdIs_j0 at h10
          have h := h10
          clear h10
          simp -implicitDefEqProofs only [go_sem, Nat.reduceAdd, Nat.reduceSub, Nat.reduceMul, Nat.reduceLT, Nat.reduceLeDiff, Nat.reduceEqDiff, Nat.reduceBEq]
          refine wpLoop_run' (step := wlaw31_CmdIs_l1_step a1 x4) (fun s7 => mkSl 58 [(0, .lit (.string (bs a0))), (1, .sl .view (a1.map (En.int .i64).enc)), (5, .lit (.string (bs x4))), (6, .ptr 0 0), (7, .lit (.bool s7.1)), (25, .sl .view (a1.map (En.int .i64).enc)), (26, .lit (.int .i64 (a1.length : Int))), (27, .lit (.int .i64 s7.2))]) (fun s7 => [.var [.lit (.string (bs [])), .lit (.string (bs [108, 111, 97, 100])), .lit (.string (bs [105, 109, 112, 111, 114, 116])), .lit (.string (bs [101, 120, 112, 111, 114, 116])), .lit (.string (bs [115, 104, 111, 119])), .lit (.string (bs [98, 114, 101, 97, 107, 115])), .lit (.string (bs [119, 97, 116, 99, 104, 101, 115])), .lit (.string (bs [98, 114, 97, 110, 99, 104, 101, 115])), .lit (.string (bs [99, 111, 118, 101, 114])), .lit (.string (bs [108, 105, 110, 116])), .lit (.string (bs [115, 116, 101, 112])), .lit (.string (bs [98, 97, 99, 107])), .lit (.string (bs [114, 117, 110])), .lit (.string (bs [114, 98, 97, 99, 107])), .lit (.string (bs [106, 117, 109, 112])), .lit (.string (bs [116, 105, 99, 107])), .lit (.string (bs [98, 114, 97, 110, 99, 104])), .lit (.string (bs [117, 110, 98, 114, 101, 97, 107])), .lit (.string (bs [101, 110, 97, 98, 108, 101])), .lit (.string (bs [100, 105, 115, 97, 98, 108, 101])), .lit (.string (bs [117, 110, 119, 97, 116, 99, 104])), .lit (.string (bs [100, 105, 102, 102])), .lit (.string (bs [99, 97, 112, 115])), .lit (.string (bs [115, 101, 110, 100])), .lit (.string (bs [98, 114, 101, 97, 107])), .lit (.string (bs [119, 97, 116, 99, 104]))]]) h (by kernel_rfl) (by first | rfl | simp -implicitDefEqProofs only [go_sem, Nat.reduceAdd, Nat.reduceSub, Nat.reduceMul, Nat.reduceLT, Nat.reduceLeDiff, Nat.reduceEqDiff, Nat.reduceBEq, mkSl]) (by first | rfl | simp -implicitDefEqProofs only [go_sem, Nat.reduceAdd, Nat.reduceSub, Nat.reduceMul, Nat.reduceLT, Nat.reduceLeDiff, Nat.reduceEqDiff, Nat.reduceBEq]) ?_
          clear h
          intro s7 xx12 h hx13
          unfold wlaw31_CmdIs_l1_step at h
          by_cases hc14 : s7.2 < (a1.length : Int)
          · rw [if_pos hc14] at h
            obtain ⟨x8, h15, h⟩ := bind_some h
            by_cases hc16 : s7.1 = true
            · rw [if_pos hc16] at h
              obtain rfl := Option.some.inj h
              simp -implicitDefEqProofs only [go_sem, Nat.reduceAdd, Nat.reduceSub, Nat.reduceMul, Nat.reduceLT, Nat.reduceLeDiff, Nat.reduceEqDiff, Nat.reduceBEq, hc14, h15, hc16, mkSl]
              first | exact ⟨_, rfl, rfl⟩ | exact ⟨_, rfl, by simp only [hc16]⟩
            · rw [if_neg hc16] at h
              replace hc16 := (Bool.not_eq_true _).mp hc16
              by_cases hc17 : 1 ≤ x8
              · rw [if_pos hc17] at h
                by_cases hc18 : x8 < 26
                · rw [if_pos hc18] at h
                  obtain ⟨j9, h19, h⟩ := bind_some h
                  have h20 := vindexAddr_arr (P := Tryz.prog) (t := 72) (k := .i64) (id := 0) (off := 0) h19 (by simp -implicitDefEqProofs only [go_sem, Nat.reduceAdd, Nat.reduceSub, Nat.reduceMul, Nat.reduceLT, Nat.reduceLeDiff, Nat.reduceEqDiff, Nat.reduceBEq, Option.map_some])
                  try simp -implicitDefEqProofs only [go_sem, Nat.reduceAdd, Nat.reduceSub, Nat.reduceMul, Nat.reduceLT, Nat.reduceLeDiff, Nat.reduceEqDiff, Nat.reduceBEq] at h20
                  obtain ⟨x10, h21, h⟩ := bind_some h
                  have h21l := lt_of_get h21
                  try simp only [List.length_cons, List.length_nil, Nat.reduceAdd] at h21l
                  have h22 := congrArg (Option.map En.str.enc) h21
                  rw [← List.getElem?_map] at h22
                  simp -implicitDefEqProofs only [go_sem, Nat.reduceAdd, Nat.reduceSub, Nat.reduceMul, Nat.reduceLT, Nat.reduceLeDiff, Nat.reduceEqDiff, Nat.reduceBEq] at h22
                  obtain rfl := Option.some.inj h
                  simp -implicitDefEqProofs only [go_sem, Nat.reduceAdd, Nat.reduceSub, Nat.reduceMul, Nat.reduceLT, Nat.reduceLeDiff, Nat.reduceEqDiff, Nat.reduceBEq, hc14, h15, hc16, hc17, hc18, h20, h21, h21l, h22, mkSl]
                  first | exact ⟨_, rfl, rfl⟩ | exact ⟨_, rfl, by simp only [hc16]⟩
                · rw [if_neg hc18] at h
                  obtain rfl := Option.some.inj h
                  simp -implicitDefEqProofs only [go_sem, Nat.reduceAdd, Nat.reduceSub, Nat.reduceMul, Nat.reduceLT, Nat.reduceLeDiff, Nat.reduceEqDiff, Nat.reduceBEq, hc14, h15, hc16, hc17, hc18, mkSl]
                  first | exact ⟨_, rfl, rfl⟩ | exact ⟨_, rfl, by simp only [hc16]⟩
              · rw [if_neg hc17] at h
                obtain rfl := Option.some.inj h
                simp -implicitDefEqProofs only [go_sem, Nat.reduceAdd, Nat.reduceSub, Nat.reduceMul, Nat.reduceLT, Nat.reduceLeDiff, Nat.reduceEqDiff, Nat.reduceBEq, hc14, h15, hc16, hc17, mkSl]
                first | exact ⟨_, rfl, rfl⟩ | exact ⟨_, rfl, by simp only [hc16]⟩
          · rw [if_neg hc14] at h
            obtain rfl := Option.some.inj h
            obtain rfl := hx13 _ rfl
            simp -implicitDefEqProofs only [go_sem, Nat.reduceAdd, Nat.reduceSub, Nat.reduceMul, Nat.reduceLT, Nat.reduceLeDiff, Nat.reduceEqDiff, Nat.reduceBEq, hc14, mkSl]
            exact ⟨_, rfl, rfl⟩
        · intro s6 hi23
          have h := hk11 _ hi23
          clear h10 hx9 hk11 hi23
          by_cases hc24 : ((a1.length : Int) == 0) = true
          · rw [if_pos hc24] at h
            simp -implicitDefEqProofs only [go_sem, Nat.reduceAdd, Nat.reduceSub, Nat.reduceMul, Nat.reduceLT, Nat.reduceLeDiff, Nat.reduceEqDiff, Nat.reduceBEq, hc24, mkSl]
            obtain ⟨r11, h25, h⟩ := bind_some h
            refine Vc.mono (wref02_Means_ok h25) ?_
            rintro _ _ rfl
            simp -implicitDefEqProofs only [go_sem, Nat.reduceAdd, Nat.reduceSub, Nat.reduceMul, Nat.reduceLT, Nat.reduceLeDiff, Nat.reduceEqDiff, Nat.reduceBEq, mkSl]
            obtain ⟨r12, h26, h⟩ := bind_some h
            refine Vc.mono (cmd_Is_ok h26) ?_
            rintro _ _ rfl
            obtain rfl := Option.some.inj h
            simp -implicitDefEqProofs only [go_sem, Nat.reduceAdd, Nat.reduceSub, Nat.reduceMul, Nat.reduceLT, Nat.reduceLeDiff, Nat.reduceEqDiff, Nat.reduceBEq, mkSl]
          · rw [if_neg hc24] at h
            replace hc24 := (Bool.not_eq_true _).mp hc24
            simp -implicitDefEqProofs only [go_sem, Nat.reduceAdd, Nat.reduceSub, Nat.reduceMul, Nat.reduceLT, Nat.reduceLeDiff, Nat.reduceEqDiff, Nat.reduceBEq, hc24, mkSl]
            obtain ⟨r13, h27, h⟩ := bind_some h
            refine Vc.mono (cmd_Is_ok h27) ?_
            rintro _ _ rfl
            obtain rfl := Option.some.inj h
            simp -implicitDefEqProofs only [go_sem, Nat.reduceAdd, Nat.reduceSub, Nat.reduceMul, Nat.reduceLT, Nat.reduceLeDiff, Nat.reduceEqDiff, Nat.reduceBEq, mkSl]
  · rw [if_neg hc2] at h
    replace hc2 := (Bool.not_eq_true _).mp hc2
    obtain rfl := Option.some.inj h
    simp -implicitDefEqProofs only [go_sem, Nat.reduceAdd, Nat.reduceSub, Nat.reduceMul, Nat.reduceLT, Nat.reduceLeDiff, Nat.reduceEqDiff, Nat.reduceBEq, hc2]
end Go.Proofs.YtilmjbljkkbakaaGreatDoor
