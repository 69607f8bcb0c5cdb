/-
  A part of the proof: lemmas.
-/
import Derived.Test.YtilmjbljkkbakaaDoorCfgc
set_option linter.unusedSimpArgs false
set_option linter.unusedVariables false
set_option linter.unusedSectionVars false
set_option linter.unnecessarySimpa false
set_option linter.deprecated false
namespace Go.Proofs.YtilmjbljkkbakaaDoor
open Go.Wv
@[go_sem] theorem take_2 (t : Nat) : cfg.take 2 t = false := rfl
@[go_sem] theorem argm_2 (i : Nat) : cfg.argm 2 i = .view := rfl
@[go_sem] theorem resm_2 : (cfg.resm 2 == VM.own) = false := rfl
@[go_sem] theorem pure_2 : cfg.pure 2 = true := rfl
@[go_sem] theorem take_3 (t : Nat) : cfg.take 3 t = false := rfl
@[go_sem] theorem argm_3 (i : Nat) : cfg.argm 3 i = .view := rfl
@[go_sem] theorem resm_3 : (cfg.resm 3 == VM.own) = false := rfl
@[go_sem] theorem pure_3 : cfg.pure 3 = true := rfl
@[go_sem] theorem take_4 (t : Nat) : cfg.take 4 t = false := rfl
@[go_sem] theorem argm_4 (i : Nat) : cfg.argm 4 i = .view := rfl
@[go_sem] theorem resm_4 : (cfg.resm 4 == VM.own) = false := rfl
@[go_sem] theorem pure_4 : cfg.pure 4 = true := rfl
@[go_sem] theorem take_5 (t : Nat) : cfg.take 5 t = false := rfl
@[go_sem] theorem argm_5 (i : Nat) : cfg.argm 5 i = .view := rfl
@[go_sem] theorem resm_5 : (cfg.resm 5 == VM.own) = false := rfl
@[go_sem] theorem pure_5 : cfg.pure 5 = true := rfl
@[go_sem] theorem take_6_10 : cfg.take 6 10 = false := rfl
@[go_sem] theorem take_6_11 : cfg.take 6 11 = false := rfl
@[go_sem] theorem take_6_13 : cfg.take 6 13 = false := rfl
@[go_sem] theorem take_6_15 : cfg.take 6 15 = false := rfl
@[go_sem] theorem take_6_18 : cfg.take 6 18 = false := rfl
@[go_sem] theorem take_6_19 : cfg.take 6 19 = false := rfl
@[go_sem] theorem take_6_22 : cfg.take 6 22 = false := rfl
@[go_sem] theorem take_6_25 : cfg.take 6 25 = false := rfl
@[go_sem] theorem take_6_26 : cfg.take 6 26 = false := rfl
@[go_sem] theorem take_6_29 : cfg.take 6 29 = false := rfl
@[go_sem] theorem take_6_30 : cfg.take 6 30 = false := rfl
@[go_sem] theorem take_6_33 : cfg.take 6 33 = false := rfl
@[go_sem] theorem take_6_34 : cfg.take 6 34 = false := rfl
@[go_sem] theorem take_6_35 : cfg.take 6 35 = false := rfl
@[go_sem] theorem take_6_37 : cfg.take 6 37 = false := rfl
@[go_sem] theorem take_6_38 : cfg.take 6 38 = false := rfl
@[go_sem] theorem take_6_39 : cfg.take 6 39 = false := rfl
@[go_sem] theorem take_6_41 : cfg.take 6 41 = false := rfl
@[go_sem] theorem take_6_42 : cfg.take 6 42 = false := rfl
@[go_sem] theorem take_6_43 : cfg.take 6 43 = false := rfl
@[go_sem] theorem take_6_45 : cfg.take 6 45 = true := rfl
@[go_sem] theorem take_6_46 : cfg.take 6 46 = false := rfl
@[go_sem] theorem argm_6 (i : Nat) : cfg.argm 6 i = .view := rfl
@[go_sem] theorem resm_6 : (cfg.resm 6 == VM.own) = false := rfl
@[go_sem] theorem pure_6 : cfg.pure 6 = true := rfl
@[go_sem] theorem keep_6_3 : cfg.keep 6 3 = some [5, 6] := rfl
@[go_sem] theorem take_7 (t : Nat) : cfg.take 7 t = false := rfl
@[go_sem] theorem argm_7 (i : Nat) : cfg.argm 7 i = .view := rfl
@[go_sem] theorem resm_7 : (cfg.resm 7 == VM.own) = false := rfl
@[go_sem] theorem pure_7 : cfg.pure 7 = true := rfl
@[go_sem] theorem take_8 (t : Nat) : cfg.take 8 t = false := rfl
@[go_sem] theorem argm_8 (i : Nat) : cfg.argm 8 i = .view := rfl
@[go_sem] theorem resm_8 : (cfg.resm 8 == VM.own) = false := rfl
@[go_sem] theorem pure_8 : cfg.pure 8 = true := rfl
@[go_sem] theorem keep_8_4 : cfg.keep 8 4 = some [1, 13, 14, 15] := rfl
@[go_sem] theorem take_9_6 : cfg.take 9 6 = false := rfl
@[go_sem] theorem take_9_8 : cfg.take 9 8 = false := rfl
@[go_sem] theorem take_9_11 : cfg.take 9 11 = false := rfl
@[go_sem] theorem take_9_12 : cfg.take 9 12 = true := rfl
@[go_sem] theorem take_9_14 : cfg.take 9 14 = false := rfl
@[go_sem] theorem take_9_16 : cfg.take 9 16 = false := rfl
@[go_sem] theorem take_9_18 : cfg.take 9 18 = false := rfl
@[go_sem] theorem take_9_20 : cfg.take 9 20 = false := rfl
@[go_sem] theorem take_9_22 : cfg.take 9 22 = false := rfl
@[go_sem] theorem take_9_23 : cfg.take 9 23 = false := rfl
@[go_sem] theorem take_9_27 : cfg.take 9 27 = false := rfl
@[go_sem] theorem argm_9 (i : Nat) : cfg.argm 9 i = .view := rfl
@[go_sem] theorem resm_9 : (cfg.resm 9 == VM.own) = false := rfl
@[go_sem] theorem pure_9 : cfg.pure 9 = true := rfl
@[go_sem] theorem keep_9_3 : cfg.keep 9 3 = some [3, 6, 7, 8] := rfl
@[go_sem] theorem take_10 (t : Nat) : cfg.take 10 t = false := rfl
@[go_sem] theorem argm_10 (i : Nat) : cfg.argm 10 i = .view := rfl
@[go_sem] theorem resm_10 : (cfg.resm 10 == VM.own) = false := rfl
@[go_sem] theorem pure_10 : cfg.pure 10 = true := rfl
@[go_sem] theorem take_11_11 : cfg.take 11 11 = false := rfl
@[go_sem] theorem take_11_13 : cfg.take 11 13 = false := rfl
@[go_sem] theorem take_11_14 : cfg.take 11 14 = false := rfl
@[go_sem] theorem take_11_15 : cfg.take 11 15 = false := rfl
@[go_sem] theorem take_11_19 : cfg.take 11 19 = false := rfl
@[go_sem] theorem take_11_20 : cfg.take 11 20 = false := rfl
@[go_sem] theorem take_11_21 : cfg.take 11 21 = false := rfl
@[go_sem] theorem take_11_23 : cfg.take 11 23 = false := rfl
@[go_sem] theorem take_11_24 : cfg.take 11 24 = false := rfl
@[go_sem] theorem take_11_26 : cfg.take 11 26 = false := rfl
@[go_sem] theorem take_11_29 : cfg.take 11 29 = false := rfl
@[go_sem] theorem take_11_31 : cfg.take 11 31 = false := rfl
@[go_sem] theorem take_11_34 : cfg.take 11 34 = false := rfl
@[go_sem] theorem take_11_36 : cfg.take 11 36 = false := rfl
@[go_sem] theorem take_11_39 : cfg.take 11 39 = false := rfl
@[go_sem] theorem take_11_40 : cfg.take 11 40 = true := rfl
@[go_sem] theorem take_11_41 : cfg.take 11 41 = false := rfl
@[go_sem] theorem take_11_44 : cfg.take 11 44 = false := rfl
@[go_sem] theorem take_11_45 : cfg.take 11 45 = false := rfl
@[go_sem] theorem take_11_48 : cfg.take 11 48 = false := rfl
@[go_sem] theorem argm_11 (i : Nat) : cfg.argm 11 i = .view := rfl
@[go_sem] theorem resm_11 : (cfg.resm 11 == VM.own) = false := rfl
@[go_sem] theorem pure_11 : cfg.pure 11 = true := rfl
@[go_sem] theorem keep_11_6 : cfg.keep 11 6 = some [7, 8, 9] := rfl
@[go_sem] theorem take_12 (t : Nat) : cfg.take 12 t = false := rfl
@[go_sem] theorem argm_12 (i : Nat) : cfg.argm 12 i = .view := rfl
@[go_sem] theorem resm_12 : (cfg.resm 12 == VM.own) = false := rfl
@[go_sem] theorem pure_12 : cfg.pure 12 = true := rfl
@[go_sem] theorem keep_12_4 : cfg.keep 12 4 = some [1, 13, 14, 15] := rfl
@[go_sem] theorem take_13_6 : cfg.take 13 6 = false := rfl
@[go_sem] theorem take_13_8 : cfg.take 13 8 = false := rfl
@[go_sem] theorem take_13_11 : cfg.take 13 11 = false := rfl
@[go_sem] theorem take_13_12 : cfg.take 13 12 = true := rfl
@[go_sem] theorem take_13_14 : cfg.take 13 14 = false := rfl
@[go_sem] theorem take_13_16 : cfg.take 13 16 = false := rfl
@[go_sem] theorem take_13_19 : cfg.take 13 19 = false := rfl
@[go_sem] theorem take_13_21 : cfg.take 13 21 = false := rfl
@[go_sem] theorem take_13_24 : cfg.take 13 24 = false := rfl
@[go_sem] theorem take_13_25 : cfg.take 13 25 = false := rfl
@[go_sem] theorem take_13_29 : cfg.take 13 29 = true := rfl
@[go_sem] theorem argm_13 (i : Nat) : cfg.argm 13 i = .view := rfl
@[go_sem] theorem resm_13 : (cfg.resm 13 == VM.own) = true := rfl
@[go_sem] theorem pure_13 : cfg.pure 13 = true := rfl
@[go_sem] theorem keep_13_3 : cfg.keep 13 3 = some [3, 6, 7, 8] := rfl
@[go_sem] theorem take_14 (t : Nat) : cfg.take 14 t = false := rfl
@[go_sem] theorem argm_14 (i : Nat) : cfg.argm 14 i = .view := rfl
@[go_sem] theorem resm_14 : (cfg.resm 14 == VM.own) = false := rfl
@[go_sem] theorem pure_14 : cfg.pure 14 = true := rfl
@[go_sem] theorem take_15 (t : Nat) : cfg.take 15 t = false := rfl
@[go_sem] theorem argm_15 (i : Nat) : cfg.argm 15 i = .view := rfl
@[go_sem] theorem resm_15 : (cfg.resm 15 == VM.own) = false := rfl
@[go_sem] theorem pure_15 : cfg.pure 15 = true := rfl
@[go_sem] theorem take_16 (t : Nat) : cfg.take 16 t = false := rfl
@[go_sem] theorem argm_16 (i : Nat) : cfg.argm 16 i = .view := rfl
@[go_sem] theorem resm_16 : (cfg.resm 16 == VM.own) = false := rfl
@[go_sem] theorem pure_16 : cfg.pure 16 = true := rfl
@[go_sem] theorem keep_16_4 : cfg.keep 16 4 = some [0, 13, 14, 15] := rfl
@[go_sem] theorem take_17 (t : Nat) : cfg.take 17 t = false := rfl
@[go_sem] theorem argm_17 (i : Nat) : cfg.argm 17 i = .view := rfl
@[go_sem] theorem resm_17 : (cfg.resm 17 == VM.own) = false := rfl
@[go_sem] theorem pure_17 : cfg.pure 17 = false := rfl
@[go_sem] theorem keep_17_2 : cfg.keep 17 2 = some [0, 1, 5] := rfl
@[go_sem] theorem take_18 (t : Nat) : cfg.take 18 t = false := rfl
@[go_sem] theorem argm_18 (i : Nat) : cfg.argm 18 i = .view := rfl
@[go_sem] theorem resm_18 : (cfg.resm 18 == VM.own) = false := rfl
@[go_sem] theorem pure_18 : cfg.pure 18 = true := rfl
@[go_sem] theorem take_19 (t : Nat) : cfg.take 19 t = false := rfl
@[go_sem] theorem argm_19 (i : Nat) : cfg.argm 19 i = .view := rfl
@[go_sem] theorem resm_19 : (cfg.resm 19 == VM.own) = false := rfl
@[go_sem] theorem pure_19 : cfg.pure 19 = false := rfl
@[go_sem] theorem take_20 (t : Nat) : cfg.take 20 t = false := rfl
@[go_sem] theorem argm_20 (i : Nat) : cfg.argm 20 i = .view := rfl
@[go_sem] theorem resm_20 : (cfg.resm 20 == VM.own) = false := rfl
@[go_sem] theorem pure_20 : cfg.pure 20 = false := rfl
@[go_sem] theorem keep_20_6 : cfg.keep 20 6 = some [0, 1, 5] := rfl
@[go_sem] theorem take_21 (t : Nat) : cfg.take 21 t = false := rfl
@[go_sem] theorem argm_21 (i : Nat) : cfg.argm 21 i = .view := rfl
@[go_sem] theorem resm_21 : (cfg.resm 21 == VM.own) = false := rfl
@[go_sem] theorem pure_21 : cfg.pure 21 = true := rfl
@[go_sem] theorem keep_21_4 : cfg.keep 21 4 = some [9, 10, 11] := rfl
@[go_sem] theorem take_22_6 : cfg.take 22 6 = false := rfl
@[go_sem] theorem take_22_8 : cfg.take 22 8 = false := rfl
@[go_sem] theorem take_22_11 : cfg.take 22 11 = false := rfl
@[go_sem] theorem take_22_12 : cfg.take 22 12 = true := rfl
@[go_sem] theorem take_22_13 : cfg.take 22 13 = false := rfl
@[go_sem] theorem take_22_18 : cfg.take 22 18 = false := rfl
@[go_sem] theorem argm_22 (i : Nat) : cfg.argm 22 i = .view := rfl
@[go_sem] theorem resm_22 : (cfg.resm 22 == VM.own) = false := rfl
@[go_sem] theorem pure_22 : cfg.pure 22 = true := rfl
@[go_sem] theorem keep_22_3 : cfg.keep 22 3 = some [3, 6, 7, 8] := rfl
@[go_sem] theorem take_23 (t : Nat) : cfg.take 23 t = false := rfl
@[go_sem] theorem argm_23 (i : Nat) : cfg.argm 23 i = .view := rfl
@[go_sem] theorem resm_23 : (cfg.resm 23 == VM.own) = false := rfl
@[go_sem] theorem pure_23 : cfg.pure 23 = true := rfl
@[go_sem] theorem take_24 (t : Nat) : cfg.take 24 t = false := rfl
@[go_sem] theorem argm_24 (i : Nat) : cfg.argm 24 i = .view := rfl
@[go_sem] theorem resm_24 : (cfg.resm 24 == VM.own) = false := rfl
@[go_sem] theorem pure_24 : cfg.pure 24 = false := rfl
@[go_sem] theorem take_25 (t : Nat) : cfg.take 25 t = false := rfl
@[go_sem] theorem argm_25 (i : Nat) : cfg.argm 25 i = .view := rfl
@[go_sem] theorem resm_25 : (cfg.resm 25 == VM.own) = false := rfl
@[go_sem] theorem pure_25 : cfg.pure 25 = false := rfl
@[go_sem] theorem keep_25_7 : cfg.keep 25 7 = some [0, 2, 3, 4] := rfl
@[go_sem] theorem take_26 (t : Nat) : cfg.take 26 t = false := rfl
@[go_sem] theorem argm_26 (i : Nat) : cfg.argm 26 i = .view := rfl
@[go_sem] theorem resm_26 : (cfg.resm 26 == VM.own) = false := rfl
@[go_sem] theorem pure_26 : cfg.pure 26 = true := rfl
@[go_sem] theorem keep_26_4 : cfg.keep 26 4 = some [0, 1, 12, 13] := rfl
@[go_sem] theorem take_27_6 : cfg.take 27 6 = false := rfl
@[go_sem] theorem take_27_8 : cfg.take 27 8 = false := rfl
@[go_sem] theorem take_27_11 : cfg.take 27 11 = false := rfl
@[go_sem] theorem take_27_12 : cfg.take 27 12 = true := rfl
@[go_sem] theorem take_27_14 : cfg.take 27 14 = false := rfl
@[go_sem] theorem take_27_16 : cfg.take 27 16 = false := rfl
@[go_sem] theorem take_27_18 : cfg.take 27 18 = false := rfl
@[go_sem] theorem take_27_20 : cfg.take 27 20 = false := rfl
@[go_sem] theorem take_27_22 : cfg.take 27 22 = false := rfl
@[go_sem] theorem take_27_23 : cfg.take 27 23 = false := rfl
@[go_sem] theorem take_27_27 : cfg.take 27 27 = false := rfl
@[go_sem] theorem argm_27 (i : Nat) : cfg.argm 27 i = .view := rfl
@[go_sem] theorem resm_27 : (cfg.resm 27 == VM.own) = false := rfl
@[go_sem] theorem pure_27 : cfg.pure 27 = true := rfl
@[go_sem] theorem keep_27_3 : cfg.keep 27 3 = some [3, 6, 7, 8] := rfl
@[go_sem] theorem take_28 (t : Nat) : cfg.take 28 t = false := rfl
@[go_sem] theorem argm_28 (i : Nat) : cfg.argm 28 i = .view := rfl
@[go_sem] theorem resm_28 : (cfg.resm 28 == VM.own) = false := rfl
@[go_sem] theorem pure_28 : cfg.pure 28 = true := rfl
@[go_sem] theorem take_29 (t : Nat) : cfg.take 29 t = false := rfl
@[go_sem] theorem argm_29 (i : Nat) : cfg.argm 29 i = .view := rfl
@[go_sem] theorem resm_29 : (cfg.resm 29 == VM.own) = false := rfl
@[go_sem] theorem pure_29 : cfg.pure 29 = true := rfl
@[go_sem] theorem take_30 (t : Nat) : cfg.take 30 t = false := rfl
@[go_sem] theorem argm_30 (i : Nat) : cfg.argm 30 i = .view := rfl
@[go_sem] theorem resm_30 : (cfg.resm 30 == VM.own) = false := rfl
@[go_sem] theorem pure_30 : cfg.pure 30 = true := rfl
@[go_sem] theorem keep_30_1 : cfg.keep 30 1 = some [0, 1] := rfl
@[go_sem] theorem take_31 (t : Nat) : cfg.take 31 t = false := rfl
@[go_sem] theorem argm_31 (i : Nat) : cfg.argm 31 i = .view := rfl
@[go_sem] theorem resm_31 : (cfg.resm 31 == VM.own) = false := rfl
@[go_sem] theorem pure_31 : cfg.pure 31 = true := rfl
@[go_sem] theorem take_32 (t : Nat) : cfg.take 32 t = false := rfl
@[go_sem] theorem argm_32 (i : Nat) : cfg.argm 32 i = .view := rfl
@[go_sem] theorem resm_32 : (cfg.resm 32 == VM.own) = false := rfl
@[go_sem] theorem pure_32 : cfg.pure 32 = false := rfl
@[go_sem] theorem keep_32_5 : cfg.keep 32 5 = some [0, 2, 5] := rfl
@[go_sem] theorem take_33 (t : Nat) : cfg.take 33 t = false := rfl
@[go_sem] theorem argm_33 (i : Nat) : cfg.argm 33 i = .view := rfl
@[go_sem] theorem resm_33 : (cfg.resm 33 == VM.own) = false := rfl
@[go_sem] theorem pure_33 : cfg.pure 33 = true := rfl
@[go_sem] theorem take_34 (t : Nat) : cfg.take 34 t = false := rfl
@[go_sem] theorem argm_34 (i : Nat) : cfg.argm 34 i = .view := rfl
@[go_sem] theorem resm_34 : (cfg.resm 34 == VM.own) = false := rfl
@[go_sem] theorem pure_34 : cfg.pure 34 = false := rfl
@[go_sem] theorem keep_34_6 : cfg.keep 34 6 = some [2, 4, 5, 21, 22, 23] := rfl
@[go_sem] theorem take_35 (t : Nat) : cfg.take 35 t = false := rfl
@[go_sem] theorem argm_35 (i : Nat) : cfg.argm 35 i = .view := rfl
@[go_sem] theorem resm_35 : (cfg.resm 35 == VM.own) = false := rfl
@[go_sem] theorem pure_35 : cfg.pure 35 = false := rfl
@[go_sem] theorem take_36 (t : Nat) : cfg.take 36 t = false := rfl
@[go_sem] theorem argm_36 (i : Nat) : cfg.argm 36 i = .view := rfl
@[go_sem] theorem resm_36 : (cfg.resm 36 == VM.own) = false := rfl
@[go_sem] theorem pure_36 : cfg.pure 36 = false := rfl
@[go_sem] theorem keep_36_2 : cfg.keep 36 2 = some [0, 2, 6, 7] := rfl
@[go_sem] theorem take_37 (t : Nat) : cfg.take 37 t = false := rfl
@[go_sem] theorem argm_37 (i : Nat) : cfg.argm 37 i = .view := rfl
@[go_sem] theorem resm_37 : (cfg.resm 37 == VM.own) = false := rfl
@[go_sem] theorem pure_37 : cfg.pure 37 = true := rfl
@[go_sem] theorem take_38 (t : Nat) : cfg.take 38 t = false := rfl
@[go_sem] theorem argm_38 (i : Nat) : cfg.argm 38 i = .view := rfl
@[go_sem] theorem resm_38 : (cfg.resm 38 == VM.own) = false := rfl
@[go_sem] theorem pure_38 : cfg.pure 38 = false := rfl
@[go_sem] theorem take_39 (t : Nat) : cfg.take 39 t = false := rfl
@[go_sem] theorem argm_39 (i : Nat) : cfg.argm 39 i = .view := rfl
@[go_sem] theorem resm_39 : (cfg.resm 39 == VM.own) = false := rfl
@[go_sem] theorem pure_39 : cfg.pure 39 = false := rfl
@[go_sem] theorem keep_39_2 : cfg.keep 39 2 = some [0, 3, 8, 9, 10] := rfl
@[go_sem] theorem take_40_5 : cfg.take 40 5 = false := rfl
@[go_sem] theorem take_40_6 : cfg.take 40 6 = false := rfl
@[go_sem] theorem take_40_9 : cfg.take 40 9 = true := rfl
@[go_sem] theorem take_40_10 : cfg.take 40 10 = false := rfl
@[go_sem] theorem argm_40 (i : Nat) : cfg.argm 40 i = .view := rfl
@[go_sem] theorem resm_40 : (cfg.resm 40 == VM.own) = false := rfl
@[go_sem] theorem pure_40 : cfg.pure 40 = false := rfl
@[go_sem] theorem take_41 (t : Nat) : cfg.take 41 t = false := rfl
@[go_sem] theorem argm_41 (i : Nat) : cfg.argm 41 i = .view := rfl
@[go_sem] theorem resm_41 : (cfg.resm 41 == VM.own) = false := rfl
@[go_sem] theorem pure_41 : cfg.pure 41 = true := rfl
@[go_sem] theorem keep_41_3 : cfg.keep 41 3 = some [3, 9, 10, 11] := rfl
@[go_sem] theorem take_42 (t : Nat) : cfg.take 42 t = false := rfl
@[go_sem] theorem argm_42 (i : Nat) : cfg.argm 42 i = .view := rfl
@[go_sem] theorem resm_42 : (cfg.resm 42 == VM.own) = false := rfl
@[go_sem] theorem pure_42 : cfg.pure 42 = true := rfl
@[go_sem] theorem take_43 (t : Nat) : cfg.take 43 t = false := rfl
@[go_sem] theorem argm_43 (i : Nat) : cfg.argm 43 i = .view := rfl
@[go_sem] theorem resm_43 : (cfg.resm 43 == VM.own) = false := rfl
@[go_sem] theorem pure_43 : cfg.pure 43 = true := rfl
@[go_sem] theorem keep_43_12 : cfg.keep 43 12 = some [0, 1, 5, 39, 40, 41] := rfl
@[go_sem] theorem keep_43_22 : cfg.keep 43 22 = some [1, 8, 63, 64, 65] := rfl
@[go_sem] theorem take_44 (t : Nat) : cfg.take 44 t = false := rfl
@[go_sem] theorem argm_44 (i : Nat) : cfg.argm 44 i = .view := rfl
@[go_sem] theorem resm_44 : (cfg.resm 44 == VM.own) = false := rfl
@[go_sem] theorem pure_44 : cfg.pure 44 = true := rfl
@[go_sem] theorem take_45 (t : Nat) : cfg.take 45 t = false := rfl
@[go_sem] theorem argm_45 (i : Nat) : cfg.argm 45 i = .view := rfl
@[go_sem] theorem resm_45 : (cfg.resm 45 == VM.own) = false := rfl
@[go_sem] theorem pure_45 : cfg.pure 45 = true := rfl
@[go_sem] theorem take_46 (t : Nat) : cfg.take 46 t = false := rfl
@[go_sem] theorem argm_46 (i : Nat) : cfg.argm 46 i = .view := rfl
@[go_sem] theorem resm_46 : (cfg.resm 46 == VM.own) = false := rfl
@[go_sem] theorem pure_46 : cfg.pure 46 = true := rfl
@[go_sem] theorem keep_46_4 : cfg.keep 46 4 = some [2, 15, 16, 17] := rfl
@[go_sem] theorem take_47 (t : Nat) : cfg.take 47 t = false := rfl
@[go_sem] theorem argm_47 (i : Nat) : cfg.argm 47 i = .view := rfl
@[go_sem] theorem resm_47 : (cfg.resm 47 == VM.own) = false := rfl
@[go_sem] theorem pure_47 : cfg.pure 47 = false := rfl
@[go_sem] theorem take_48 (t : Nat) : cfg.take 48 t = false := rfl
@[go_sem] theorem argm_48 (i : Nat) : cfg.argm 48 i = .view := rfl
@[go_sem] theorem resm_48 : (cfg.resm 48 == VM.own) = false := rfl
@[go_sem] theorem pure_48 : cfg.pure 48 = false := rfl
@[go_sem] theorem take_49 (t : Nat) : cfg.take 49 t = false := rfl
@[go_sem] theorem argm_49 (i : Nat) : cfg.argm 49 i = .view := rfl
@[go_sem] theorem resm_49 : (cfg.resm 49 == VM.own) = false := rfl
@[go_sem] theorem pure_49 : cfg.pure 49 = true := rfl
@[go_sem] theorem take_50 (t : Nat) : cfg.take 50 t = false := rfl
@[go_sem] theorem argm_50 (i : Nat) : cfg.argm 50 i = .view := rfl
@[go_sem] theorem resm_50 : (cfg.resm 50 == VM.own) = false := rfl
@[go_sem] theorem pure_50 : cfg.pure 50 = false := rfl
@[go_sem] theorem take_51 (t : Nat) : cfg.take 51 t = false := rfl
@[go_sem] theorem argm_51 (i : Nat) : cfg.argm 51 i = .view := rfl
@[go_sem] theorem resm_51 : (cfg.resm 51 == VM.own) = false := rfl
@[go_sem] theorem pure_51 : cfg.pure 51 = false := rfl
@[go_sem] theorem take_52 (t : Nat) : cfg.take 52 t = false := rfl
@[go_sem] theorem argm_52 (i : Nat) : cfg.argm 52 i = .view := rfl
@[go_sem] theorem resm_52 : (cfg.resm 52 == VM.own) = false := rfl
@[go_sem] theorem pure_52 : cfg.pure 52 = true := rfl
@[go_sem] theorem keep_52_4 : cfg.keep 52 4 = some [0, 11, 12, 13] := rfl
@[go_sem] theorem keep_52_7 : cfg.keep 52 7 = some [0, 3, 11, 12, 13, 19, 20, 21] := rfl
@[go_sem] theorem take_53 (t : Nat) : cfg.take 53 t = false := rfl
@[go_sem] theorem argm_53 (i : Nat) : cfg.argm 53 i = .view := rfl
@[go_sem] theorem resm_53 : (cfg.resm 53 == VM.own) = false := rfl
@[go_sem] theorem pure_53 : cfg.pure 53 = true := rfl
@[go_sem] theorem take_54 (t : Nat) : cfg.take 54 t = false := rfl
@[go_sem] theorem argm_54 (i : Nat) : cfg.argm 54 i = .view := rfl
@[go_sem] theorem resm_54 : (cfg.resm 54 == VM.own) = false := rfl
@[go_sem] theorem pure_54 : cfg.pure 54 = true := rfl
@[go_sem] theorem take_55 (t : Nat) : cfg.take 55 t = false := rfl
@[go_sem] theorem argm_55 (i : Nat) : cfg.argm 55 i = .view := rfl
@[go_sem] theorem resm_55 : (cfg.resm 55 == VM.own) = false := rfl
@[go_sem] theorem pure_55 : cfg.pure 55 = true := rfl
@[go_sem] theorem keep_55_2 : cfg.keep 55 2 = some [0, 7, 8, 9] := rfl
@[go_sem] theorem keep_55_5 : cfg.keep 55 5 = some [0, 4, 7, 8, 9, 14, 15, 16] := rfl
@[go_sem] theorem take_56 (t : Nat) : cfg.take 56 t = false := rfl
@[go_sem] theorem argm_56 (i : Nat) : cfg.argm 56 i = .view := rfl
@[go_sem] theorem resm_56 : (cfg.resm 56 == VM.own) = false := rfl
@[go_sem] theorem pure_56 : cfg.pure 56 = true := rfl
@[go_sem] theorem take_57 (t : Nat) : cfg.take 57 t = false := rfl
@[go_sem] theorem argm_57 (i : Nat) : cfg.argm 57 i = .view := rfl
@[go_sem] theorem resm_57 : (cfg.resm 57 == VM.own) = false := rfl
@[go_sem] theorem pure_57 : cfg.pure 57 = true := rfl
@[go_sem] theorem take_58 (t : Nat) : cfg.take 58 t = false := rfl
@[go_sem] theorem argm_58 (i : Nat) : cfg.argm 58 i = .view := rfl
@[go_sem] theorem resm_58 : (cfg.resm 58 == VM.own) = false := rfl
@[go_sem] theorem pure_58 : cfg.pure 58 = true := rfl
@[go_sem] theorem take_59 (t : Nat) : cfg.take 59 t = false := rfl
@[go_sem] theorem argm_59 (i : Nat) : cfg.argm 59 i = .view := rfl
@[go_sem] theorem resm_59 : (cfg.resm 59 == VM.own) = false := rfl
@[go_sem] theorem pure_59 : cfg.pure 59 = false := rfl
@[go_sem] theorem take_60 (t : Nat) : cfg.take 60 t = false := rfl
@[go_sem] theorem argm_60 (i : Nat) : cfg.argm 60 i = .view := rfl
@[go_sem] theorem resm_60 : (cfg.resm 60 == VM.own) = false := rfl
@[go_sem] theorem pure_60 : cfg.pure 60 = true := rfl
@[go_sem] theorem take_61 (t : Nat) : cfg.take 61 t = false := rfl
@[go_sem] theorem argm_61 (i : Nat) : cfg.argm 61 i = .view := rfl
@[go_sem] theorem resm_61 : (cfg.resm 61 == VM.own) = false := rfl
@[go_sem] theorem pure_61 : cfg.pure 61 = true := rfl
@[go_sem] theorem keep_61_2 : cfg.keep 61 2 = some [0, 6, 7, 8] := rfl
@[go_sem] theorem take_62 (t : Nat) : cfg.take 62 t = false := rfl
@[go_sem] theorem argm_62 (i : Nat) : cfg.argm 62 i = .view := rfl
@[go_sem] theorem resm_62 : (cfg.resm 62 == VM.own) = false := rfl
@[go_sem] theorem pure_62 : cfg.pure 62 = true := rfl
@[go_sem] theorem take_63 (t : Nat) : cfg.take 63 t = false := rfl
@[go_sem] theorem argm_63 (i : Nat) : cfg.argm 63 i = .view := rfl
@[go_sem] theorem resm_63 : (cfg.resm 63 == VM.own) = false := rfl
@[go_sem] theorem pure_63 : cfg.pure 63 = false := rfl
@[go_sem] theorem take_64 (t : Nat) : cfg.take 64 t = false := rfl
@[go_sem] theorem argm_64 (i : Nat) : cfg.argm 64 i = .view := rfl
@[go_sem] theorem resm_64 : (cfg.resm 64 == VM.own) = false := rfl
@[go_sem] theorem pure_64 : cfg.pure 64 = false := rfl
@[go_sem] theorem take_65 (t : Nat) : cfg.take 65 t = false := rfl
@[go_sem] theorem argm_65 (i : Nat) : cfg.argm 65 i = .view := rfl
@[go_sem] theorem resm_65 : (cfg.resm 65 == VM.own) = false := rfl
@[go_sem] theorem pure_65 : cfg.pure 65 = true := rfl
@[go_sem] theorem take_66 (t : Nat) : cfg.take 66 t = false := rfl
@[go_sem] theorem argm_66 (i : Nat) : cfg.argm 66 i = .view := rfl
@[go_sem] theorem resm_66 : (cfg.resm 66 == VM.own) = false := rfl
@[go_sem] theorem pure_66 : cfg.pure 66 = false := rfl
@[go_sem] theorem take_67_6 : cfg.take 67 6 = false := rfl
@[go_sem] theorem take_67_8 : cfg.take 67 8 = false := rfl
@[go_sem] theorem take_67_9 : cfg.take 67 9 = false := rfl
@[go_sem] theorem take_67_12 : cfg.take 67 12 = true := rfl
@[go_sem] theorem take_67_13 : cfg.take 67 13 = false := rfl
@[go_sem] theorem take_67_17 : cfg.take 67 17 = false := rfl
@[go_sem] theorem argm_67 (i : Nat) : cfg.argm 67 i = .view := rfl
@[go_sem] theorem resm_67 : (cfg.resm 67 == VM.own) = false := rfl
@[go_sem] theorem pure_67 : cfg.pure 67 = false := rfl
@[go_sem] theorem take_68 (t : Nat) : cfg.take 68 t = false := rfl
@[go_sem] theorem argm_68 (i : Nat) : cfg.argm 68 i = .view := rfl
@[go_sem] theorem resm_68 : (cfg.resm 68 == VM.own) = false := rfl
@[go_sem] theorem pure_68 : cfg.pure 68 = false := rfl
@[go_sem] theorem take_69 (t : Nat) : cfg.take 69 t = false := rfl
@[go_sem] theorem argm_69 (i : Nat) : cfg.argm 69 i = .view := rfl
@[go_sem] theorem resm_69 : (cfg.resm 69 == VM.own) = false := rfl
@[go_sem] theorem pure_69 : cfg.pure 69 = true := rfl
@[go_sem] theorem take_70 (t : Nat) : cfg.take 70 t = false := rfl
@[go_sem] theorem argm_70 (i : Nat) : cfg.argm 70 i = .view := rfl
@[go_sem] theorem resm_70 : (cfg.resm 70 == VM.own) = false := rfl
@[go_sem] theorem pure_70 : cfg.pure 70 = true := rfl
@[go_sem] theorem take_71 (t : Nat) : cfg.take 71 t = false := rfl
@[go_sem] theorem argm_71 (i : Nat) : cfg.argm 71 i = .view := rfl
@[go_sem] theorem resm_71 : (cfg.resm 71 == VM.own) = false := rfl
@[go_sem] theorem pure_71 : cfg.pure 71 = true := rfl
@[go_sem] theorem take_72 (t : Nat) : cfg.take 72 t = false := rfl
@[go_sem] theorem argm_72 (i : Nat) : cfg.argm 72 i = .view := rfl
@[go_sem] theorem resm_72 : (cfg.resm 72 == VM.own) = false := rfl
@[go_sem] theorem pure_72 : cfg.pure 72 = true := rfl
@[go_sem] theorem take_73 (t : Nat) : cfg.take 73 t = false := rfl
@[go_sem] theorem argm_73 (i : Nat) : cfg.argm 73 i = .view := rfl
@[go_sem] theorem resm_73 : (cfg.resm 73 == VM.own) = false := rfl
@[go_sem] theorem pure_73 : cfg.pure 73 = true := rfl
@[go_sem] theorem take_74 (t : Nat) : cfg.take 74 t = false := rfl
@[go_sem] theorem argm_74 (i : Nat) : cfg.argm 74 i = .view := rfl
@[go_sem] theorem resm_74 : (cfg.resm 74 == VM.own) = false := rfl
@[go_sem] theorem pure_74 : cfg.pure 74 = false := rfl
@[go_sem] theorem take_75 (t : Nat) : cfg.take 75 t = false := rfl
@[go_sem] theorem argm_75 (i : Nat) : cfg.argm 75 i = .view := rfl
@[go_sem] theorem resm_75 : (cfg.resm 75 == VM.own) = false := rfl
@[go_sem] theorem pure_75 : cfg.pure 75 = true := rfl
@[go_sem] theorem take_76 (t : Nat) : cfg.take 76 t = false := rfl
@[go_sem] theorem argm_76 (i : Nat) : cfg.argm 76 i = .view := rfl
@[go_sem] theorem resm_76 : (cfg.resm 76 == VM.own) = false := rfl
@[go_sem] theorem pure_76 : cfg.pure 76 = true := rfl
@[go_sem] theorem take_77 (t : Nat) : cfg.take 77 t = false := rfl
@[go_sem] theorem argm_77 (i : Nat) : cfg.argm 77 i = .view := rfl
@[go_sem] theorem resm_77 : (cfg.resm 77 == VM.own) = false := rfl
@[go_sem] theorem pure_77 : cfg.pure 77 = true := rfl
@[go_sem] theorem take_78 (t : Nat) : cfg.take 78 t = false := rfl
@[go_sem] theorem argm_78 (i : Nat) : cfg.argm 78 i = .view := rfl
@[go_sem] theorem resm_78 : (cfg.resm 78 == VM.own) = false := rfl
@[go_sem] theorem pure_78 : cfg.pure 78 = false := rfl
@[go_sem] theorem take_79 (t : Nat) : cfg.take 79 t = false := rfl
@[go_sem] theorem argm_79 (i : Nat) : cfg.argm 79 i = .view := rfl
@[go_sem] theorem resm_79 : (cfg.resm 79 == VM.own) = false := rfl
@[go_sem] theorem pure_79 : cfg.pure 79 = true := rfl
@[go_sem] theorem take_80 (t : Nat) : cfg.take 80 t = false := rfl
@[go_sem] theorem argm_80 (i : Nat) : cfg.argm 80 i = .view := rfl
@[go_sem] theorem resm_80 : (cfg.resm 80 == VM.own) = false := rfl
@[go_sem] theorem pure_80 : cfg.pure 80 = false := rfl
@[go_sem] theorem take_81_5 : cfg.take 81 5 = false := rfl
@[go_sem] theorem take_81_8 : cfg.take 81 8 = false := rfl
@[go_sem] theorem take_81_11 : cfg.take 81 11 = false := rfl
@[go_sem] theorem take_81_14 : cfg.take 81 14 = false := rfl
@[go_sem] theorem take_81_17 : cfg.take 81 17 = false := rfl
@[go_sem] theorem take_81_20 : cfg.take 81 20 = false := rfl
@[go_sem] theorem take_81_21 : cfg.take 81 21 = false := rfl
@[go_sem] theorem take_81_24 : cfg.take 81 24 = false := rfl
@[go_sem] theorem take_81_26 : cfg.take 81 26 = false := rfl
@[go_sem] theorem take_81_27 : cfg.take 81 27 = true := rfl
@[go_sem] theorem argm_81 (i : Nat) : cfg.argm 81 i = .view := rfl
@[go_sem] theorem resm_81 : (cfg.resm 81 == VM.own) = false := rfl
@[go_sem] theorem pure_81 : cfg.pure 81 = false := rfl
@[go_sem] theorem take_82 (t : Nat) : cfg.take 82 t = false := rfl
@[go_sem] theorem argm_82 (i : Nat) : cfg.argm 82 i = .view := rfl
@[go_sem] theorem resm_82 : (cfg.resm 82 == VM.own) = false := rfl
@[go_sem] theorem pure_82 : cfg.pure 82 = true := rfl
@[go_sem] theorem take_83 (t : Nat) : cfg.take 83 t = false := rfl
@[go_sem] theorem argm_83 (i : Nat) : cfg.argm 83 i = .view := rfl
@[go_sem] theorem resm_83 : (cfg.resm 83 == VM.own) = false := rfl
@[go_sem] theorem pure_83 : cfg.pure 83 = true := rfl
@[go_sem] theorem take_84 (t : Nat) : cfg.take 84 t = false := rfl
@[go_sem] theorem argm_84 (i : Nat) : cfg.argm 84 i = .view := rfl
@[go_sem] theorem resm_84 : (cfg.resm 84 == VM.own) = false := rfl
@[go_sem] theorem pure_84 : cfg.pure 84 = true := rfl
@[go_sem] theorem take_85 (t : Nat) : cfg.take 85 t = false := rfl
@[go_sem] theorem argm_85 (i : Nat) : cfg.argm 85 i = .view := rfl
@[go_sem] theorem resm_85 : (cfg.resm 85 == VM.own) = false := rfl
@[go_sem] theorem pure_85 : cfg.pure 85 = true := rfl
@[go_sem] theorem keep_85_1 : cfg.keep 85 1 = some [0, 1, 4] := rfl
@[go_sem] theorem take_86_19 : cfg.take 86 19 = false := rfl
@[go_sem] theorem take_86_21 : cfg.take 86 21 = false := rfl
@[go_sem] theorem take_86_22 : cfg.take 86 22 = false := rfl
@[go_sem] theorem take_86_25 : cfg.take 86 25 = false := rfl
@[go_sem] theorem take_86_26 : cfg.take 86 26 = false := rfl
@[go_sem] theorem take_86_30 : cfg.take 86 30 = false := rfl
@[go_sem] theorem take_86_31 : cfg.take 86 31 = false := rfl
@[go_sem] theorem take_86_33 : cfg.take 86 33 = false := rfl
@[go_sem] theorem take_86_35 : cfg.take 86 35 = false := rfl
@[go_sem] theorem take_86_39 : cfg.take 86 39 = false := rfl
@[go_sem] theorem take_86_41 : cfg.take 86 41 = false := rfl
@[go_sem] theorem take_86_44 : cfg.take 86 44 = false := rfl
@[go_sem] theorem take_86_45 : cfg.take 86 45 = false := rfl
@[go_sem] theorem take_86_47 : cfg.take 86 47 = false := rfl
@[go_sem] theorem take_86_49 : cfg.take 86 49 = false := rfl
@[go_sem] theorem take_86_50 : cfg.take 86 50 = false := rfl
@[go_sem] theorem take_86_51 : cfg.take 86 51 = false := rfl
@[go_sem] theorem take_86_55 : cfg.take 86 55 = false := rfl
@[go_sem] theorem take_86_56 : cfg.take 86 56 = false := rfl
@[go_sem] theorem take_86_58 : cfg.take 86 58 = false := rfl
@[go_sem] theorem take_86_60 : cfg.take 86 60 = false := rfl
@[go_sem] theorem take_86_61 : cfg.take 86 61 = false := rfl
@[go_sem] theorem take_86_64 : cfg.take 86 64 = false := rfl
@[go_sem] theorem take_86_66 : cfg.take 86 66 = false := rfl
@[go_sem] theorem take_86_67 : cfg.take 86 67 = false := rfl
@[go_sem] theorem take_86_69 : cfg.take 86 69 = false := rfl
@[go_sem] theorem take_86_71 : cfg.take 86 71 = false := rfl
@[go_sem] theorem take_86_72 : cfg.take 86 72 = false := rfl
@[go_sem] theorem take_86_74 : cfg.take 86 74 = false := rfl
@[go_sem] theorem take_86_75 : cfg.take 86 75 = false := rfl
@[go_sem] theorem take_86_76 : cfg.take 86 76 = false := rfl
@[go_sem] theorem take_86_77 : cfg.take 86 77 = false := rfl
@[go_sem] theorem take_86_82 : cfg.take 86 82 = false := rfl
@[go_sem] theorem take_86_83 : cfg.take 86 83 = false := rfl
@[go_sem] theorem take_86_85 : cfg.take 86 85 = false := rfl
@[go_sem] theorem take_86_86 : cfg.take 86 86 = false := rfl
@[go_sem] theorem take_86_89 : cfg.take 86 89 = false := rfl
@[go_sem] theorem take_86_90 : cfg.take 86 90 = false := rfl
@[go_sem] theorem take_86_92 : cfg.take 86 92 = false := rfl
@[go_sem] theorem take_86_94 : cfg.take 86 94 = false := rfl
@[go_sem] theorem take_86_95 : cfg.take 86 95 = true := rfl
@[go_sem] theorem take_86_96 : cfg.take 86 96 = false := rfl
@[go_sem] theorem take_86_99 : cfg.take 86 99 = false := rfl
@[go_sem] theorem argm_86_0 : cfg.argm 86 0 = .own := rfl
@[go_sem] theorem argm_86_1 : cfg.argm 86 1 = .view := rfl
@[go_sem] theorem argm_86_2 : cfg.argm 86 2 = .view := rfl
@[go_sem] theorem argm_86_3 : cfg.argm 86 3 = .view := rfl
@[go_sem] theorem argm_86_4 : cfg.argm 86 4 = .view := rfl
@[go_sem] theorem resm_86 : (cfg.resm 86 == VM.own) = false := rfl
@[go_sem] theorem pure_86 : cfg.pure 86 = true := rfl
@[go_sem] theorem keep_86_11 : cfg.keep 86 11 = some [0, 1, 3, 4, 10, 11, 12, 13, 14, 15, 16] := rfl
@[go_sem] theorem keep_86_18 : cfg.keep 86 18 = some [0, 1, 3, 4, 10, 11, 12, 13, 17] := rfl
@[go_sem] theorem take_89 (t : Nat) : cfg.take 89 t = false := rfl
@[go_sem] theorem argm_89 (i : Nat) : cfg.argm 89 i = .view := rfl
@[go_sem] theorem resm_89 : (cfg.resm 89 == VM.own) = false := rfl
@[go_sem] theorem pure_89 : cfg.pure 89 = true := rfl
@[go_sem] theorem take_90 (t : Nat) : cfg.take 90 t = false := rfl
@[go_sem] theorem argm_90 (i : Nat) : cfg.argm 90 i = .view := rfl
@[go_sem] theorem resm_90 : (cfg.resm 90 == VM.own) = false := rfl
@[go_sem] theorem pure_90 : cfg.pure 90 = true := rfl
@[go_sem] theorem take_91 (t : Nat) : cfg.take 91 t = false := rfl
@[go_sem] theorem argm_91 (i : Nat) : cfg.argm 91 i = .view := rfl
@[go_sem] theorem resm_91 : (cfg.resm 91 == VM.own) = false := rfl
@[go_sem] theorem pure_91 : cfg.pure 91 = true := rfl
@[go_sem] theorem take_92 (t : Nat) : cfg.take 92 t = false := rfl
@[go_sem] theorem argm_92 (i : Nat) : cfg.argm 92 i = .view := rfl
@[go_sem] theorem resm_92 : (cfg.resm 92 == VM.own) = false := rfl
@[go_sem] theorem pure_92 : cfg.pure 92 = true := rfl
@[go_sem] theorem take_93 (t : Nat) : cfg.take 93 t = false := rfl
@[go_sem] theorem argm_93 (i : Nat) : cfg.argm 93 i = .view := rfl
@[go_sem] theorem resm_93 : (cfg.resm 93 == VM.own) = false := rfl
@[go_sem] theorem pure_93 : cfg.pure 93 = true := rfl
@[go_sem] theorem take_94 (t : Nat) : cfg.take 94 t = false := rfl
@[go_sem] theorem argm_94 (i : Nat) : cfg.argm 94 i = .view := rfl
@[go_sem] theorem resm_94 : (cfg.resm 94 == VM.own) = false := rfl
@[go_sem] theorem pure_94 : cfg.pure 94 = true := rfl
@[go_sem] theorem take_95 (t : Nat) : cfg.take 95 t = false := rfl
@[go_sem] theorem argm_95 (i : Nat) : cfg.argm 95 i = .view := rfl
@[go_sem] theorem resm_95 : (cfg.resm 95 == VM.own) = false := rfl
@[go_sem] theorem pure_95 : cfg.pure 95 = true := rfl
@[go_sem] theorem take_119 (t : Nat) : cfg.take 119 t = false := rfl
@[go_sem] theorem argm_119 (i : Nat) : cfg.argm 119 i = .view := rfl
@[go_sem] theorem resm_119 : (cfg.resm 119 == VM.own) = false := rfl
@[go_sem] theorem pure_119 : cfg.pure 119 = true := rfl
end Go.Proofs.YtilmjbljkkbakaaDoor
