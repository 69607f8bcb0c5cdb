/-
  A part of the proof: lemmas.
-/
import Derived.Test.YtilmjbljkkbakaaDoorCfgc
set_option linter.unusedSimpArgs false
set_option linter.unusedVariables false
set_option linter.unusedSectionVars false
set_option linter.unnecessarySimpa false
set_option linter.deprecated false
namespace Go.Proofs.YtilmjbljkkbakaaDoor
open Go.Wv
@[go_sem] theorem argm_4 (i : Nat) : cfg.argm 4 i = .view := rfl
@[go_sem] theorem pure_4 : cfg.pure 4 = true := rfl
@[go_sem] theorem argm_6 (i : Nat) : cfg.argm 6 i = .view := rfl
@[go_sem] theorem pure_6 : cfg.pure 6 = true := rfl
@[go_sem] theorem argm_7 (i : Nat) : cfg.argm 7 i = .view := rfl
@[go_sem] theorem pure_7 : cfg.pure 7 = true := rfl
@[go_sem] theorem argm_10 (i : Nat) : cfg.argm 10 i = .view := rfl
@[go_sem] theorem pure_10 : cfg.pure 10 = true := rfl
@[go_sem] theorem argm_11 (i : Nat) : cfg.argm 11 i = .view := rfl
@[go_sem] theorem pure_11 : cfg.pure 11 = true := rfl
@[go_sem] theorem argm_12 (i : Nat) : cfg.argm 12 i = .view := rfl
@[go_sem] theorem pure_12 : cfg.pure 12 = true := rfl
@[go_sem] theorem argm_13 (i : Nat) : cfg.argm 13 i = .view := rfl
@[go_sem] theorem pure_13 : cfg.pure 13 = true := rfl
@[go_sem] theorem argm_15 (i : Nat) : cfg.argm 15 i = .view := rfl
@[go_sem] theorem pure_15 : cfg.pure 15 = true := rfl
@[go_sem] theorem argm_16 (i : Nat) : cfg.argm 16 i = .view := rfl
@[go_sem] theorem pure_16 : cfg.pure 16 = true := rfl
@[go_sem] theorem argm_17 (i : Nat) : cfg.argm 17 i = .view := rfl
@[go_sem] theorem pure_17 : cfg.pure 17 = false := rfl
@[go_sem] theorem argm_18 (i : Nat) : cfg.argm 18 i = .view := rfl
@[go_sem] theorem pure_18 : cfg.pure 18 = true := rfl
@[go_sem] theorem argm_19 (i : Nat) : cfg.argm 19 i = .view := rfl
@[go_sem] theorem pure_19 : cfg.pure 19 = false := rfl
@[go_sem] theorem argm_20 (i : Nat) : cfg.argm 20 i = .view := rfl
@[go_sem] theorem pure_20 : cfg.pure 20 = false := rfl
@[go_sem] theorem argm_21 (i : Nat) : cfg.argm 21 i = .view := rfl
@[go_sem] theorem pure_21 : cfg.pure 21 = true := rfl
@[go_sem] theorem argm_22 (i : Nat) : cfg.argm 22 i = .view := rfl
@[go_sem] theorem pure_22 : cfg.pure 22 = true := rfl
@[go_sem] theorem argm_23 (i : Nat) : cfg.argm 23 i = .view := rfl
@[go_sem] theorem pure_23 : cfg.pure 23 = true := rfl
@[go_sem] theorem argm_24 (i : Nat) : cfg.argm 24 i = .view := rfl
@[go_sem] theorem pure_24 : cfg.pure 24 = false := rfl
@[go_sem] theorem argm_25 (i : Nat) : cfg.argm 25 i = .view := rfl
@[go_sem] theorem pure_25 : cfg.pure 25 = false := rfl
@[go_sem] theorem argm_26 (i : Nat) : cfg.argm 26 i = .view := rfl
@[go_sem] theorem pure_26 : cfg.pure 26 = true := rfl
@[go_sem] theorem argm_27 (i : Nat) : cfg.argm 27 i = .view := rfl
@[go_sem] theorem pure_27 : cfg.pure 27 = true := rfl
@[go_sem] theorem argm_28 (i : Nat) : cfg.argm 28 i = .view := rfl
@[go_sem] theorem pure_28 : cfg.pure 28 = true := rfl
@[go_sem] theorem argm_29 (i : Nat) : cfg.argm 29 i = .view := rfl
@[go_sem] theorem pure_29 : cfg.pure 29 = true := rfl
@[go_sem] theorem argm_30 (i : Nat) : cfg.argm 30 i = .view := rfl
@[go_sem] theorem pure_30 : cfg.pure 30 = true := rfl
@[go_sem] theorem argm_31 (i : Nat) : cfg.argm 31 i = .view := rfl
@[go_sem] theorem pure_31 : cfg.pure 31 = true := rfl
@[go_sem] theorem argm_32 (i : Nat) : cfg.argm 32 i = .view := rfl
@[go_sem] theorem pure_32 : cfg.pure 32 = false := rfl
@[go_sem] theorem argm_33 (i : Nat) : cfg.argm 33 i = .view := rfl
@[go_sem] theorem pure_33 : cfg.pure 33 = true := rfl
@[go_sem] theorem argm_34 (i : Nat) : cfg.argm 34 i = .view := rfl
@[go_sem] theorem pure_34 : cfg.pure 34 = false := rfl
@[go_sem] theorem argm_35 (i : Nat) : cfg.argm 35 i = .view := rfl
@[go_sem] theorem pure_35 : cfg.pure 35 = false := rfl
@[go_sem] theorem argm_36 (i : Nat) : cfg.argm 36 i = .view := rfl
@[go_sem] theorem pure_36 : cfg.pure 36 = false := rfl
@[go_sem] theorem argm_37 (i : Nat) : cfg.argm 37 i = .view := rfl
@[go_sem] theorem pure_37 : cfg.pure 37 = true := rfl
@[go_sem] theorem argm_38 (i : Nat) : cfg.argm 38 i = .view := rfl
@[go_sem] theorem pure_38 : cfg.pure 38 = false := rfl
@[go_sem] theorem argm_39 (i : Nat) : cfg.argm 39 i = .view := rfl
@[go_sem] theorem pure_39 : cfg.pure 39 = false := rfl
@[go_sem] theorem argm_40 (i : Nat) : cfg.argm 40 i = .view := rfl
@[go_sem] theorem pure_40 : cfg.pure 40 = false := rfl
@[go_sem] theorem argm_41 (i : Nat) : cfg.argm 41 i = .view := rfl
@[go_sem] theorem pure_41 : cfg.pure 41 = true := rfl
@[go_sem] theorem argm_42 (i : Nat) : cfg.argm 42 i = .view := rfl
@[go_sem] theorem pure_42 : cfg.pure 42 = true := rfl
@[go_sem] theorem argm_43 (i : Nat) : cfg.argm 43 i = .view := rfl
@[go_sem] theorem pure_43 : cfg.pure 43 = true := rfl
@[go_sem] theorem argm_44 (i : Nat) : cfg.argm 44 i = .view := rfl
@[go_sem] theorem pure_44 : cfg.pure 44 = true := rfl
@[go_sem] theorem argm_45 (i : Nat) : cfg.argm 45 i = .view := rfl
@[go_sem] theorem pure_45 : cfg.pure 45 = true := rfl
@[go_sem] theorem argm_46 (i : Nat) : cfg.argm 46 i = .view := rfl
@[go_sem] theorem pure_46 : cfg.pure 46 = true := rfl
@[go_sem] theorem argm_47 (i : Nat) : cfg.argm 47 i = .view := rfl
@[go_sem] theorem pure_47 : cfg.pure 47 = false := rfl
@[go_sem] theorem argm_48 (i : Nat) : cfg.argm 48 i = .view := rfl
@[go_sem] theorem pure_48 : cfg.pure 48 = false := rfl
@[go_sem] theorem argm_49 (i : Nat) : cfg.argm 49 i = .view := rfl
@[go_sem] theorem pure_49 : cfg.pure 49 = true := rfl
@[go_sem] theorem argm_50 (i : Nat) : cfg.argm 50 i = .view := rfl
@[go_sem] theorem pure_50 : cfg.pure 50 = false := rfl
@[go_sem] theorem argm_51 (i : Nat) : cfg.argm 51 i = .view := rfl
@[go_sem] theorem pure_51 : cfg.pure 51 = false := rfl
@[go_sem] theorem argm_52 (i : Nat) : cfg.argm 52 i = .view := rfl
@[go_sem] theorem pure_52 : cfg.pure 52 = true := rfl
@[go_sem] theorem argm_53 (i : Nat) : cfg.argm 53 i = .view := rfl
@[go_sem] theorem pure_53 : cfg.pure 53 = true := rfl
@[go_sem] theorem argm_54 (i : Nat) : cfg.argm 54 i = .view := rfl
@[go_sem] theorem pure_54 : cfg.pure 54 = true := rfl
@[go_sem] theorem argm_55 (i : Nat) : cfg.argm 55 i = .view := rfl
@[go_sem] theorem pure_55 : cfg.pure 55 = true := rfl
@[go_sem] theorem argm_56 (i : Nat) : cfg.argm 56 i = .view := rfl
@[go_sem] theorem pure_56 : cfg.pure 56 = true := rfl
@[go_sem] theorem argm_57 (i : Nat) : cfg.argm 57 i = .view := rfl
@[go_sem] theorem pure_57 : cfg.pure 57 = true := rfl
@[go_sem] theorem argm_58 (i : Nat) : cfg.argm 58 i = .view := rfl
@[go_sem] theorem pure_58 : cfg.pure 58 = true := rfl
@[go_sem] theorem argm_59 (i : Nat) : cfg.argm 59 i = .view := rfl
@[go_sem] theorem pure_59 : cfg.pure 59 = false := rfl
@[go_sem] theorem argm_60 (i : Nat) : cfg.argm 60 i = .view := rfl
@[go_sem] theorem pure_60 : cfg.pure 60 = true := rfl
@[go_sem] theorem argm_61 (i : Nat) : cfg.argm 61 i = .view := rfl
@[go_sem] theorem pure_61 : cfg.pure 61 = true := rfl
@[go_sem] theorem argm_62 (i : Nat) : cfg.argm 62 i = .view := rfl
@[go_sem] theorem pure_62 : cfg.pure 62 = true := rfl
@[go_sem] theorem argm_63 (i : Nat) : cfg.argm 63 i = .view := rfl
@[go_sem] theorem pure_63 : cfg.pure 63 = false := rfl
@[go_sem] theorem argm_64 (i : Nat) : cfg.argm 64 i = .view := rfl
@[go_sem] theorem pure_64 : cfg.pure 64 = false := rfl
@[go_sem] theorem argm_65 (i : Nat) : cfg.argm 65 i = .view := rfl
@[go_sem] theorem pure_65 : cfg.pure 65 = true := rfl
@[go_sem] theorem argm_69 (i : Nat) : cfg.argm 69 i = .view := rfl
@[go_sem] theorem pure_69 : cfg.pure 69 = true := rfl
@[go_sem] theorem argm_70 (i : Nat) : cfg.argm 70 i = .view := rfl
@[go_sem] theorem pure_70 : cfg.pure 70 = true := rfl
@[go_sem] theorem argm_71 (i : Nat) : cfg.argm 71 i = .view := rfl
@[go_sem] theorem pure_71 : cfg.pure 71 = true := rfl
@[go_sem] theorem argm_72 (i : Nat) : cfg.argm 72 i = .view := rfl
@[go_sem] theorem pure_72 : cfg.pure 72 = true := rfl
@[go_sem] theorem argm_73 (i : Nat) : cfg.argm 73 i = .view := rfl
@[go_sem] theorem pure_73 : cfg.pure 73 = true := rfl
@[go_sem] theorem argm_74 (i : Nat) : cfg.argm 74 i = .view := rfl
@[go_sem] theorem pure_74 : cfg.pure 74 = false := rfl
@[go_sem] theorem argm_75 (i : Nat) : cfg.argm 75 i = .view := rfl
@[go_sem] theorem pure_75 : cfg.pure 75 = true := rfl
@[go_sem] theorem argm_76 (i : Nat) : cfg.argm 76 i = .view := rfl
@[go_sem] theorem pure_76 : cfg.pure 76 = true := rfl
@[go_sem] theorem argm_77 (i : Nat) : cfg.argm 77 i = .view := rfl
@[go_sem] theorem pure_77 : cfg.pure 77 = true := rfl
@[go_sem] theorem argm_78 (i : Nat) : cfg.argm 78 i = .view := rfl
@[go_sem] theorem pure_78 : cfg.pure 78 = false := rfl
@[go_sem] theorem argm_79 (i : Nat) : cfg.argm 79 i = .view := rfl
@[go_sem] theorem pure_79 : cfg.pure 79 = true := rfl
@[go_sem] theorem argm_82 (i : Nat) : cfg.argm 82 i = .view := rfl
@[go_sem] theorem pure_82 : cfg.pure 82 = true := rfl
@[go_sem] theorem argm_83 (i : Nat) : cfg.argm 83 i = .view := rfl
@[go_sem] theorem pure_83 : cfg.pure 83 = true := rfl
@[go_sem] theorem argm_84 (i : Nat) : cfg.argm 84 i = .view := rfl
@[go_sem] theorem pure_84 : cfg.pure 84 = true := rfl
@[go_sem] theorem argm_86_0 : cfg.argm 86 0 = .own := rfl
@[go_sem] theorem argm_86_1 : cfg.argm 86 1 = .view := rfl
@[go_sem] theorem argm_86_2 : cfg.argm 86 2 = .view := rfl
@[go_sem] theorem argm_86_3 : cfg.argm 86 3 = .view := rfl
@[go_sem] theorem argm_86_4 : cfg.argm 86 4 = .view := rfl
@[go_sem] theorem pure_86 : cfg.pure 86 = true := rfl
@[go_sem] theorem take_4 (t : Nat) : cfg.take 4 t = false := rfl
@[go_sem] theorem ext_4 : cfg.ext 4 = none := rfl
@[go_sem] theorem resm_4 : (cfg.resm 4 == VM.own) = false := rfl
@[go_sem] theorem join_4 (r : Nat) : cfg.join 4 r = none := rfl
@[go_sem] theorem take_6_10 : cfg.take 6 10 = false := rfl
@[go_sem] theorem take_6_11 : cfg.take 6 11 = false := rfl
@[go_sem] theorem take_6_13 : cfg.take 6 13 = false := rfl
@[go_sem] theorem take_6_15 : cfg.take 6 15 = false := rfl
@[go_sem] theorem take_6_18 : cfg.take 6 18 = false := rfl
@[go_sem] theorem take_6_19 : cfg.take 6 19 = false := rfl
@[go_sem] theorem take_6_22 : cfg.take 6 22 = false := rfl
@[go_sem] theorem take_6_25 : cfg.take 6 25 = false := rfl
@[go_sem] theorem take_6_26 : cfg.take 6 26 = false := rfl
@[go_sem] theorem take_6_29 : cfg.take 6 29 = false := rfl
@[go_sem] theorem take_6_30 : cfg.take 6 30 = false := rfl
@[go_sem] theorem take_6_33 : cfg.take 6 33 = false := rfl
@[go_sem] theorem take_6_34 : cfg.take 6 34 = false := rfl
@[go_sem] theorem take_6_35 : cfg.take 6 35 = false := rfl
@[go_sem] theorem take_6_37 : cfg.take 6 37 = false := rfl
@[go_sem] theorem take_6_38 : cfg.take 6 38 = false := rfl
@[go_sem] theorem take_6_39 : cfg.take 6 39 = false := rfl
@[go_sem] theorem take_6_41 : cfg.take 6 41 = false := rfl
@[go_sem] theorem take_6_42 : cfg.take 6 42 = false := rfl
@[go_sem] theorem take_6_43 : cfg.take 6 43 = false := rfl
@[go_sem] theorem take_6_45 : cfg.take 6 45 = true := rfl
@[go_sem] theorem take_6_46 : cfg.take 6 46 = false := rfl
@[go_sem] theorem ext_6 : cfg.ext 6 = none := rfl
@[go_sem] theorem resm_6 : (cfg.resm 6 == VM.own) = false := rfl
@[go_sem] theorem keep_6_3 : cfg.keep 6 3 = some [(5, false), (6, false)] := rfl
@[go_sem] theorem join_6 (r : Nat) : cfg.join 6 r = none := rfl
@[go_sem] theorem take_7 (t : Nat) : cfg.take 7 t = false := rfl
@[go_sem] theorem ext_7 : cfg.ext 7 = none := rfl
@[go_sem] theorem resm_7 : (cfg.resm 7 == VM.own) = false := rfl
@[go_sem] theorem join_7 (r : Nat) : cfg.join 7 r = none := rfl
@[go_sem] theorem take_10 (t : Nat) : cfg.take 10 t = false := rfl
@[go_sem] theorem ext_10 : cfg.ext 10 = none := rfl
@[go_sem] theorem resm_10 : (cfg.resm 10 == VM.own) = false := rfl
@[go_sem] theorem join_10 (r : Nat) : cfg.join 10 r = none := rfl
@[go_sem] theorem take_11_11 : cfg.take 11 11 = false := rfl
@[go_sem] theorem take_11_13 : cfg.take 11 13 = false := rfl
@[go_sem] theorem take_11_14 : cfg.take 11 14 = false := rfl
@[go_sem] theorem take_11_15 : cfg.take 11 15 = false := rfl
@[go_sem] theorem take_11_19 : cfg.take 11 19 = false := rfl
@[go_sem] theorem take_11_20 : cfg.take 11 20 = false := rfl
@[go_sem] theorem take_11_21 : cfg.take 11 21 = false := rfl
@[go_sem] theorem take_11_23 : cfg.take 11 23 = false := rfl
@[go_sem] theorem take_11_24 : cfg.take 11 24 = false := rfl
@[go_sem] theorem take_11_26 : cfg.take 11 26 = false := rfl
@[go_sem] theorem take_11_29 : cfg.take 11 29 = false := rfl
@[go_sem] theorem take_11_31 : cfg.take 11 31 = false := rfl
@[go_sem] theorem take_11_34 : cfg.take 11 34 = false := rfl
@[go_sem] theorem take_11_36 : cfg.take 11 36 = false := rfl
@[go_sem] theorem take_11_39 : cfg.take 11 39 = false := rfl
@[go_sem] theorem take_11_40 : cfg.take 11 40 = true := rfl
@[go_sem] theorem take_11_41 : cfg.take 11 41 = false := rfl
@[go_sem] theorem take_11_44 : cfg.take 11 44 = false := rfl
@[go_sem] theorem take_11_45 : cfg.take 11 45 = false := rfl
@[go_sem] theorem take_11_48 : cfg.take 11 48 = false := rfl
@[go_sem] theorem ext_11 : cfg.ext 11 = none := rfl
@[go_sem] theorem resm_11 : (cfg.resm 11 == VM.own) = false := rfl
@[go_sem] theorem keep_11_6 : cfg.keep 11 6 = some [(7, false), (8, false), (9, false)] := rfl
@[go_sem] theorem join_11 (r : Nat) : cfg.join 11 r = none := rfl
@[go_sem] theorem take_12 (t : Nat) : cfg.take 12 t = false := rfl
@[go_sem] theorem ext_12 : cfg.ext 12 = none := rfl
@[go_sem] theorem resm_12 : (cfg.resm 12 == VM.own) = false := rfl
@[go_sem] theorem keep_12_4 : cfg.keep 12 4 = some [(1, false), (13, false), (14, false), (15, false)] := rfl
@[go_sem] theorem join_12 (r : Nat) : cfg.join 12 r = none := rfl
@[go_sem] theorem take_13_6 : cfg.take 13 6 = false := rfl
@[go_sem] theorem take_13_8 : cfg.take 13 8 = false := rfl
@[go_sem] theorem take_13_11 : cfg.take 13 11 = false := rfl
@[go_sem] theorem take_13_12 : cfg.take 13 12 = true := rfl
@[go_sem] theorem take_13_14 : cfg.take 13 14 = false := rfl
@[go_sem] theorem take_13_16 : cfg.take 13 16 = false := rfl
@[go_sem] theorem take_13_19 : cfg.take 13 19 = false := rfl
@[go_sem] theorem take_13_21 : cfg.take 13 21 = false := rfl
@[go_sem] theorem take_13_24 : cfg.take 13 24 = false := rfl
@[go_sem] theorem take_13_25 : cfg.take 13 25 = false := rfl
@[go_sem] theorem take_13_29 : cfg.take 13 29 = true := rfl
@[go_sem] theorem ext_13 : cfg.ext 13 = none := rfl
@[go_sem] theorem resm_13 : (cfg.resm 13 == VM.own) = true := rfl
@[go_sem] theorem keep_13_3 : cfg.keep 13 3 = some [(3, false), (6, false), (7, false), (8, false)] := rfl
@[go_sem] theorem join_13 (r : Nat) : cfg.join 13 r = none := rfl
@[go_sem] theorem take_15 (t : Nat) : cfg.take 15 t = false := rfl
@[go_sem] theorem ext_15 : cfg.ext 15 = none := rfl
@[go_sem] theorem resm_15 : (cfg.resm 15 == VM.own) = false := rfl
@[go_sem] theorem join_15 (r : Nat) : cfg.join 15 r = none := rfl
@[go_sem] theorem take_16 (t : Nat) : cfg.take 16 t = false := rfl
@[go_sem] theorem ext_16 : cfg.ext 16 = none := rfl
@[go_sem] theorem resm_16 : (cfg.resm 16 == VM.own) = false := rfl
@[go_sem] theorem keep_16_4 : cfg.keep 16 4 = some [(0, false), (13, false), (14, false), (15, false)] := rfl
@[go_sem] theorem join_16_0 : cfg.join 16 0 = none := rfl
@[go_sem] theorem join_16_1 : cfg.join 16 1 = none := rfl
@[go_sem] theorem join_16_3 : cfg.join 16 3 = none := rfl
@[go_sem] theorem join_16_4 : cfg.join 16 4 = none := rfl
@[go_sem] theorem join_16_5 : cfg.join 16 5 = none := rfl
@[go_sem] theorem join_16_6 : cfg.join 16 6 = none := rfl
@[go_sem] theorem join_16_8 : cfg.join 16 8 = none := rfl
@[go_sem] theorem join_16_9 : cfg.join 16 9 = some [(0, false)] := rfl
@[go_sem] theorem take_17 (t : Nat) : cfg.take 17 t = false := rfl
@[go_sem] theorem ext_17 : cfg.ext 17 = none := rfl
@[go_sem] theorem resm_17 : (cfg.resm 17 == VM.own) = false := rfl
@[go_sem] theorem keep_17_2 : cfg.keep 17 2 = some [(0, false), (1, false), (5, false)] := rfl
@[go_sem] theorem join_17 (r : Nat) : cfg.join 17 r = none := rfl
@[go_sem] theorem take_18 (t : Nat) : cfg.take 18 t = false := rfl
@[go_sem] theorem ext_18 : cfg.ext 18 = none := rfl
@[go_sem] theorem resm_18 : (cfg.resm 18 == VM.own) = false := rfl
@[go_sem] theorem join_18 (r : Nat) : cfg.join 18 r = none := rfl
@[go_sem] theorem take_19 (t : Nat) : cfg.take 19 t = false := rfl
@[go_sem] theorem ext_19 : cfg.ext 19 = none := rfl
@[go_sem] theorem resm_19 : (cfg.resm 19 == VM.own) = false := rfl
@[go_sem] theorem join_19 (r : Nat) : cfg.join 19 r = none := rfl
@[go_sem] theorem take_20 (t : Nat) : cfg.take 20 t = false := rfl
@[go_sem] theorem ext_20 : cfg.ext 20 = none := rfl
@[go_sem] theorem resm_20 : (cfg.resm 20 == VM.own) = false := rfl
@[go_sem] theorem keep_20_6 : cfg.keep 20 6 = some [(0, false), (1, false), (5, false)] := rfl
@[go_sem] theorem join_20 (r : Nat) : cfg.join 20 r = none := rfl
@[go_sem] theorem take_21 (t : Nat) : cfg.take 21 t = false := rfl
@[go_sem] theorem ext_21 : cfg.ext 21 = none := rfl
@[go_sem] theorem resm_21 : (cfg.resm 21 == VM.own) = false := rfl
@[go_sem] theorem keep_21_4 : cfg.keep 21 4 = some [(9, false), (10, false), (11, false)] := rfl
@[go_sem] theorem join_21 (r : Nat) : cfg.join 21 r = none := rfl
@[go_sem] theorem take_22_6 : cfg.take 22 6 = false := rfl
@[go_sem] theorem take_22_8 : cfg.take 22 8 = false := rfl
@[go_sem] theorem take_22_11 : cfg.take 22 11 = false := rfl
@[go_sem] theorem take_22_12 : cfg.take 22 12 = true := rfl
@[go_sem] theorem take_22_13 : cfg.take 22 13 = false := rfl
@[go_sem] theorem take_22_18 : cfg.take 22 18 = false := rfl
@[go_sem] theorem ext_22 : cfg.ext 22 = none := rfl
@[go_sem] theorem resm_22 : (cfg.resm 22 == VM.own) = false := rfl
@[go_sem] theorem keep_22_3 : cfg.keep 22 3 = some [(3, false), (6, false), (7, false), (8, false)] := rfl
@[go_sem] theorem join_22_0 : cfg.join 22 0 = none := rfl
@[go_sem] theorem join_22_1 : cfg.join 22 1 = none := rfl
@[go_sem] theorem join_22_2 : cfg.join 22 2 = none := rfl
@[go_sem] theorem join_22_3 : cfg.join 22 3 = none := rfl
@[go_sem] theorem join_22_4 : cfg.join 22 4 = none := rfl
@[go_sem] theorem join_22_5 : cfg.join 22 5 = none := rfl
@[go_sem] theorem join_22_6 : cfg.join 22 6 = none := rfl
@[go_sem] theorem join_22_7 : cfg.join 22 7 = some [(3, false)] := rfl
@[go_sem] theorem take_23 (t : Nat) : cfg.take 23 t = false := rfl
@[go_sem] theorem ext_23 : cfg.ext 23 = none := rfl
@[go_sem] theorem resm_23 : (cfg.resm 23 == VM.own) = false := rfl
@[go_sem] theorem join_23 (r : Nat) : cfg.join 23 r = none := rfl
@[go_sem] theorem take_24 (t : Nat) : cfg.take 24 t = false := rfl
@[go_sem] theorem ext_24 : cfg.ext 24 = none := rfl
@[go_sem] theorem resm_24 : (cfg.resm 24 == VM.own) = false := rfl
@[go_sem] theorem join_24 (r : Nat) : cfg.join 24 r = none := rfl
@[go_sem] theorem take_25 (t : Nat) : cfg.take 25 t = false := rfl
@[go_sem] theorem ext_25 : cfg.ext 25 = none := rfl
@[go_sem] theorem resm_25 : (cfg.resm 25 == VM.own) = false := rfl
@[go_sem] theorem keep_25_7 : cfg.keep 25 7 = some [(0, false), (2, false), (3, false), (4, false)] := rfl
@[go_sem] theorem join_25_0 : cfg.join 25 0 = none := rfl
@[go_sem] theorem join_25_1 : cfg.join 25 1 = none := rfl
@[go_sem] theorem join_25_2 : cfg.join 25 2 = none := rfl
@[go_sem] theorem join_25_4 : cfg.join 25 4 = none := rfl
@[go_sem] theorem join_25_6 : cfg.join 25 6 = some [(0, false), (2, false), (3, false)] := rfl
@[go_sem] theorem join_25_7 : cfg.join 25 7 = none := rfl
@[go_sem] theorem join_25_8 : cfg.join 25 8 = none := rfl
@[go_sem] theorem join_25_9 : cfg.join 25 9 = none := rfl
@[go_sem] theorem join_25_11 : cfg.join 25 11 = some [(0, false), (2, false), (3, false)] := rfl
@[go_sem] theorem join_25_18 : cfg.join 25 18 = some [(0, false), (2, false), (3, false)] := rfl
@[go_sem] theorem join_25_20 : cfg.join 25 20 = some [(0, false), (2, false), (3, false)] := rfl
@[go_sem] theorem join_25_22 : cfg.join 25 22 = none := rfl
@[go_sem] theorem take_26 (t : Nat) : cfg.take 26 t = false := rfl
@[go_sem] theorem ext_26 : cfg.ext 26 = none := rfl
@[go_sem] theorem resm_26 : (cfg.resm 26 == VM.own) = false := rfl
@[go_sem] theorem keep_26_4 : cfg.keep 26 4 = some [(0, false), (1, false), (12, false), (13, false)] := rfl
@[go_sem] theorem join_26 (r : Nat) : cfg.join 26 r = none := rfl
@[go_sem] theorem take_27_6 : cfg.take 27 6 = false := rfl
@[go_sem] theorem take_27_8 : cfg.take 27 8 = false := rfl
@[go_sem] theorem take_27_11 : cfg.take 27 11 = false := rfl
@[go_sem] theorem take_27_12 : cfg.take 27 12 = true := rfl
@[go_sem] theorem take_27_14 : cfg.take 27 14 = false := rfl
@[go_sem] theorem take_27_16 : cfg.take 27 16 = false := rfl
@[go_sem] theorem take_27_18 : cfg.take 27 18 = false := rfl
@[go_sem] theorem take_27_20 : cfg.take 27 20 = false := rfl
@[go_sem] theorem take_27_22 : cfg.take 27 22 = false := rfl
@[go_sem] theorem take_27_23 : cfg.take 27 23 = false := rfl
@[go_sem] theorem take_27_27 : cfg.take 27 27 = false := rfl
@[go_sem] theorem ext_27 : cfg.ext 27 = none := rfl
@[go_sem] theorem resm_27 : (cfg.resm 27 == VM.own) = false := rfl
@[go_sem] theorem keep_27_3 : cfg.keep 27 3 = some [(3, false), (6, false), (7, false), (8, false)] := rfl
@[go_sem] theorem join_27 (r : Nat) : cfg.join 27 r = none := rfl
@[go_sem] theorem take_28 (t : Nat) : cfg.take 28 t = false := rfl
@[go_sem] theorem ext_28 : cfg.ext 28 = none := rfl
@[go_sem] theorem resm_28 : (cfg.resm 28 == VM.own) = false := rfl
@[go_sem] theorem join_28_0 : cfg.join 28 0 = none := rfl
@[go_sem] theorem join_28_1 : cfg.join 28 1 = none := rfl
@[go_sem] theorem join_28_2 : cfg.join 28 2 = none := rfl
@[go_sem] theorem join_28_3 : cfg.join 28 3 = none := rfl
@[go_sem] theorem join_28_13 : cfg.join 28 13 = none := rfl
@[go_sem] theorem join_28_14 : cfg.join 28 14 = none := rfl
@[go_sem] theorem join_28_16 : cfg.join 28 16 = some [(0, false), (5, false), (6, false), (7, false)] := rfl
@[go_sem] theorem take_29 (t : Nat) : cfg.take 29 t = false := rfl
@[go_sem] theorem ext_29 : cfg.ext 29 = none := rfl
@[go_sem] theorem resm_29 : (cfg.resm 29 == VM.own) = false := rfl
@[go_sem] theorem join_29 (r : Nat) : cfg.join 29 r = none := rfl
@[go_sem] theorem take_30 (t : Nat) : cfg.take 30 t = false := rfl
@[go_sem] theorem ext_30 : cfg.ext 30 = none := rfl
@[go_sem] theorem resm_30 : (cfg.resm 30 == VM.own) = false := rfl
@[go_sem] theorem keep_30_1 : cfg.keep 30 1 = some [(0, false), (1, false)] := rfl
@[go_sem] theorem join_30 (r : Nat) : cfg.join 30 r = none := rfl
@[go_sem] theorem take_31 (t : Nat) : cfg.take 31 t = false := rfl
@[go_sem] theorem ext_31 : cfg.ext 31 = none := rfl
@[go_sem] theorem resm_31 : (cfg.resm 31 == VM.own) = false := rfl
@[go_sem] theorem join_31 (r : Nat) : cfg.join 31 r = none := rfl
@[go_sem] theorem take_32 (t : Nat) : cfg.take 32 t = false := rfl
@[go_sem] theorem ext_32 : cfg.ext 32 = none := rfl
@[go_sem] theorem resm_32 : (cfg.resm 32 == VM.own) = false := rfl
@[go_sem] theorem keep_32_5 : cfg.keep 32 5 = some [(0, false), (2, false), (5, false)] := rfl
@[go_sem] theorem join_32 (r : Nat) : cfg.join 32 r = none := rfl
@[go_sem] theorem take_33 (t : Nat) : cfg.take 33 t = false := rfl
@[go_sem] theorem ext_33 : cfg.ext 33 = none := rfl
@[go_sem] theorem resm_33 : (cfg.resm 33 == VM.own) = false := rfl
@[go_sem] theorem join_33 (r : Nat) : cfg.join 33 r = none := rfl
@[go_sem] theorem take_34 (t : Nat) : cfg.take 34 t = false := rfl
@[go_sem] theorem ext_34 : cfg.ext 34 = none := rfl
@[go_sem] theorem resm_34 : (cfg.resm 34 == VM.own) = false := rfl
@[go_sem] theorem keep_34_6 : cfg.keep 34 6 = some [(2, false), (4, false), (5, false), (21, false), (22, false), (23, false)] := rfl
@[go_sem] theorem join_34 (r : Nat) : cfg.join 34 r = none := rfl
@[go_sem] theorem take_35 (t : Nat) : cfg.take 35 t = false := rfl
@[go_sem] theorem ext_35 : cfg.ext 35 = none := rfl
@[go_sem] theorem resm_35 : (cfg.resm 35 == VM.own) = false := rfl
@[go_sem] theorem join_35 (r : Nat) : cfg.join 35 r = none := rfl
@[go_sem] theorem take_36 (t : Nat) : cfg.take 36 t = false := rfl
@[go_sem] theorem ext_36 : cfg.ext 36 = none := rfl
@[go_sem] theorem resm_36 : (cfg.resm 36 == VM.own) = false := rfl
@[go_sem] theorem keep_36_2 : cfg.keep 36 2 = some [(0, false), (2, false), (6, false), (7, false)] := rfl
@[go_sem] theorem join_36 (r : Nat) : cfg.join 36 r = none := rfl
@[go_sem] theorem take_37 (t : Nat) : cfg.take 37 t = false := rfl
@[go_sem] theorem ext_37 : cfg.ext 37 = none := rfl
@[go_sem] theorem resm_37 : (cfg.resm 37 == VM.own) = false := rfl
@[go_sem] theorem join_37 (r : Nat) : cfg.join 37 r = none := rfl
@[go_sem] theorem take_38 (t : Nat) : cfg.take 38 t = false := rfl
@[go_sem] theorem ext_38 : cfg.ext 38 = none := rfl
@[go_sem] theorem resm_38 : (cfg.resm 38 == VM.own) = false := rfl
@[go_sem] theorem join_38 (r : Nat) : cfg.join 38 r = none := rfl
@[go_sem] theorem take_39 (t : Nat) : cfg.take 39 t = false := rfl
@[go_sem] theorem ext_39 : cfg.ext 39 = none := rfl
@[go_sem] theorem resm_39 : (cfg.resm 39 == VM.own) = false := rfl
@[go_sem] theorem keep_39_2 : cfg.keep 39 2 = some [(0, false), (3, false), (8, false), (9, false), (10, false)] := rfl
@[go_sem] theorem join_39 (r : Nat) : cfg.join 39 r = none := rfl
@[go_sem] theorem take_40_5 : cfg.take 40 5 = false := rfl
@[go_sem] theorem take_40_6 : cfg.take 40 6 = false := rfl
@[go_sem] theorem take_40_9 : cfg.take 40 9 = true := rfl
@[go_sem] theorem take_40_10 : cfg.take 40 10 = false := rfl
@[go_sem] theorem ext_40 : cfg.ext 40 = none := rfl
@[go_sem] theorem resm_40 : (cfg.resm 40 == VM.own) = false := rfl
@[go_sem] theorem join_40 (r : Nat) : cfg.join 40 r = none := rfl
@[go_sem] theorem take_41 (t : Nat) : cfg.take 41 t = false := rfl
@[go_sem] theorem ext_41 : cfg.ext 41 = none := rfl
@[go_sem] theorem resm_41 : (cfg.resm 41 == VM.own) = false := rfl
@[go_sem] theorem keep_41_3 : cfg.keep 41 3 = some [(3, false), (9, false), (10, false), (11, false)] := rfl
@[go_sem] theorem join_41 (r : Nat) : cfg.join 41 r = none := rfl
@[go_sem] theorem take_42 (t : Nat) : cfg.take 42 t = false := rfl
@[go_sem] theorem ext_42 : cfg.ext 42 = none := rfl
@[go_sem] theorem resm_42 : (cfg.resm 42 == VM.own) = false := rfl
@[go_sem] theorem join_42_0 : cfg.join 42 0 = none := rfl
@[go_sem] theorem join_42_1 : cfg.join 42 1 = none := rfl
@[go_sem] theorem join_42_2 : cfg.join 42 2 = none := rfl
@[go_sem] theorem join_42_4 : cfg.join 42 4 = some [(1, false), (3, false)] := rfl
@[go_sem] theorem join_42_6 : cfg.join 42 6 = some [(1, false), (3, false)] := rfl
@[go_sem] theorem join_42_8 : cfg.join 42 8 = some [(1, false), (3, false)] := rfl
@[go_sem] theorem join_42_10 : cfg.join 42 10 = none := rfl
@[go_sem] theorem take_44 (t : Nat) : cfg.take 44 t = false := rfl
@[go_sem] theorem ext_44 : cfg.ext 44 = none := rfl
@[go_sem] theorem resm_44 : (cfg.resm 44 == VM.own) = false := rfl
@[go_sem] theorem join_44 (r : Nat) : cfg.join 44 r = none := rfl
@[go_sem] theorem take_45 (t : Nat) : cfg.take 45 t = false := rfl
@[go_sem] theorem ext_45 : cfg.ext 45 = none := rfl
@[go_sem] theorem resm_45 : (cfg.resm 45 == VM.own) = false := rfl
@[go_sem] theorem join_45 (r : Nat) : cfg.join 45 r = none := rfl
@[go_sem] theorem take_46 (t : Nat) : cfg.take 46 t = false := rfl
@[go_sem] theorem ext_46 : cfg.ext 46 = none := rfl
@[go_sem] theorem resm_46 : (cfg.resm 46 == VM.own) = false := rfl
@[go_sem] theorem keep_46_4 : cfg.keep 46 4 = some [(2, false), (15, false), (16, false), (17, false)] := rfl
@[go_sem] theorem join_46 (r : Nat) : cfg.join 46 r = none := rfl
@[go_sem] theorem take_47 (t : Nat) : cfg.take 47 t = false := rfl
@[go_sem] theorem ext_47 : cfg.ext 47 = none := rfl
@[go_sem] theorem resm_47 : (cfg.resm 47 == VM.own) = false := rfl
@[go_sem] theorem join_47 (r : Nat) : cfg.join 47 r = none := rfl
@[go_sem] theorem take_48 (t : Nat) : cfg.take 48 t = false := rfl
@[go_sem] theorem ext_48 : cfg.ext 48 = none := rfl
@[go_sem] theorem resm_48 : (cfg.resm 48 == VM.own) = false := rfl
@[go_sem] theorem join_48 (r : Nat) : cfg.join 48 r = none := rfl
@[go_sem] theorem take_49 (t : Nat) : cfg.take 49 t = false := rfl
@[go_sem] theorem ext_49 : cfg.ext 49 = none := rfl
@[go_sem] theorem resm_49 : (cfg.resm 49 == VM.own) = false := rfl
@[go_sem] theorem join_49 (r : Nat) : cfg.join 49 r = none := rfl
@[go_sem] theorem take_50 (t : Nat) : cfg.take 50 t = false := rfl
@[go_sem] theorem ext_50 : cfg.ext 50 = none := rfl
@[go_sem] theorem resm_50 : (cfg.resm 50 == VM.own) = false := rfl
@[go_sem] theorem join_50 (r : Nat) : cfg.join 50 r = none := rfl
@[go_sem] theorem take_51 (t : Nat) : cfg.take 51 t = false := rfl
@[go_sem] theorem ext_51 : cfg.ext 51 = none := rfl
@[go_sem] theorem resm_51 : (cfg.resm 51 == VM.own) = false := rfl
@[go_sem] theorem join_51 (r : Nat) : cfg.join 51 r = none := rfl
@[go_sem] theorem take_52 (t : Nat) : cfg.take 52 t = false := rfl
@[go_sem] theorem ext_52 : cfg.ext 52 = none := rfl
@[go_sem] theorem resm_52 : (cfg.resm 52 == VM.own) = false := rfl
@[go_sem] theorem keep_52_4 : cfg.keep 52 4 = some [(0, false), (11, false), (12, false), (13, false)] := rfl
@[go_sem] theorem keep_52_7 : cfg.keep 52 7 = some [(0, false), (3, false), (11, false), (12, false), (13, false), (19, false), (20, false), (21, false)] := rfl
@[go_sem] theorem join_52_0 : cfg.join 52 0 = none := rfl
@[go_sem] theorem join_52_1 : cfg.join 52 1 = none := rfl
@[go_sem] theorem join_52_3 : cfg.join 52 3 = none := rfl
@[go_sem] theorem join_52_4 : cfg.join 52 4 = none := rfl
@[go_sem] theorem join_52_5 : cfg.join 52 5 = none := rfl
@[go_sem] theorem join_52_6 : cfg.join 52 6 = none := rfl
@[go_sem] theorem join_52_7 : cfg.join 52 7 = none := rfl
@[go_sem] theorem join_52_8 : cfg.join 52 8 = none := rfl
@[go_sem] theorem join_52_9 : cfg.join 52 9 = none := rfl
@[go_sem] theorem join_52_11 : cfg.join 52 11 = none := rfl
@[go_sem] theorem join_52_12 : cfg.join 52 12 = none := rfl
@[go_sem] theorem join_52_13 : cfg.join 52 13 = some [] := rfl
@[go_sem] theorem take_53 (t : Nat) : cfg.take 53 t = false := rfl
@[go_sem] theorem ext_53 : cfg.ext 53 = none := rfl
@[go_sem] theorem resm_53 : (cfg.resm 53 == VM.own) = false := rfl
@[go_sem] theorem join_53 (r : Nat) : cfg.join 53 r = none := rfl
@[go_sem] theorem take_54 (t : Nat) : cfg.take 54 t = false := rfl
@[go_sem] theorem ext_54 : cfg.ext 54 = none := rfl
@[go_sem] theorem resm_54 : (cfg.resm 54 == VM.own) = false := rfl
@[go_sem] theorem join_54 (r : Nat) : cfg.join 54 r = none := rfl
@[go_sem] theorem take_55 (t : Nat) : cfg.take 55 t = false := rfl
@[go_sem] theorem ext_55 : cfg.ext 55 = none := rfl
@[go_sem] theorem resm_55 : (cfg.resm 55 == VM.own) = false := rfl
@[go_sem] theorem keep_55_2 : cfg.keep 55 2 = some [(0, false), (7, false), (8, false), (9, false)] := rfl
@[go_sem] theorem keep_55_5 : cfg.keep 55 5 = some [(0, false), (4, false), (7, false), (8, false), (9, false), (14, false), (15, false), (16, false)] := rfl
@[go_sem] theorem join_55 (r : Nat) : cfg.join 55 r = none := rfl
@[go_sem] theorem take_56 (t : Nat) : cfg.take 56 t = false := rfl
@[go_sem] theorem ext_56 : cfg.ext 56 = none := rfl
@[go_sem] theorem resm_56 : (cfg.resm 56 == VM.own) = false := rfl
@[go_sem] theorem join_56 (r : Nat) : cfg.join 56 r = none := rfl
@[go_sem] theorem take_57 (t : Nat) : cfg.take 57 t = false := rfl
@[go_sem] theorem ext_57 : cfg.ext 57 = none := rfl
@[go_sem] theorem resm_57 : (cfg.resm 57 == VM.own) = false := rfl
@[go_sem] theorem join_57 (r : Nat) : cfg.join 57 r = none := rfl
@[go_sem] theorem take_58 (t : Nat) : cfg.take 58 t = false := rfl
@[go_sem] theorem ext_58 : cfg.ext 58 = none := rfl
@[go_sem] theorem resm_58 : (cfg.resm 58 == VM.own) = false := rfl
@[go_sem] theorem join_58 (r : Nat) : cfg.join 58 r = none := rfl
@[go_sem] theorem take_59 (t : Nat) : cfg.take 59 t = false := rfl
@[go_sem] theorem ext_59 : cfg.ext 59 = none := rfl
@[go_sem] theorem resm_59 : (cfg.resm 59 == VM.own) = false := rfl
@[go_sem] theorem join_59 (r : Nat) : cfg.join 59 r = none := rfl
@[go_sem] theorem take_60 (t : Nat) : cfg.take 60 t = false := rfl
@[go_sem] theorem ext_60 : cfg.ext 60 = none := rfl
@[go_sem] theorem resm_60 : (cfg.resm 60 == VM.own) = false := rfl
@[go_sem] theorem join_60 (r : Nat) : cfg.join 60 r = none := rfl
@[go_sem] theorem take_61 (t : Nat) : cfg.take 61 t = false := rfl
@[go_sem] theorem ext_61 : cfg.ext 61 = none := rfl
@[go_sem] theorem resm_61 : (cfg.resm 61 == VM.own) = false := rfl
@[go_sem] theorem keep_61_2 : cfg.keep 61 2 = some [(0, false), (6, false), (7, false), (8, false)] := rfl
@[go_sem] theorem join_61 (r : Nat) : cfg.join 61 r = none := rfl
@[go_sem] theorem take_62 (t : Nat) : cfg.take 62 t = false := rfl
@[go_sem] theorem ext_62 : cfg.ext 62 = none := rfl
@[go_sem] theorem resm_62 : (cfg.resm 62 == VM.own) = false := rfl
@[go_sem] theorem join_62 (r : Nat) : cfg.join 62 r = none := rfl
@[go_sem] theorem take_63 (t : Nat) : cfg.take 63 t = false := rfl
@[go_sem] theorem ext_63 : cfg.ext 63 = none := rfl
@[go_sem] theorem resm_63 : (cfg.resm 63 == VM.own) = false := rfl
@[go_sem] theorem join_63 (r : Nat) : cfg.join 63 r = none := rfl
@[go_sem] theorem take_64 (t : Nat) : cfg.take 64 t = false := rfl
@[go_sem] theorem ext_64 : cfg.ext 64 = none := rfl
@[go_sem] theorem resm_64 : (cfg.resm 64 == VM.own) = false := rfl
@[go_sem] theorem join_64 (r : Nat) : cfg.join 64 r = none := rfl
@[go_sem] theorem take_65 (t : Nat) : cfg.take 65 t = false := rfl
@[go_sem] theorem ext_65 : cfg.ext 65 = none := rfl
@[go_sem] theorem resm_65 : (cfg.resm 65 == VM.own) = false := rfl
@[go_sem] theorem join_65 (r : Nat) : cfg.join 65 r = none := rfl
@[go_sem] theorem take_69 (t : Nat) : cfg.take 69 t = false := rfl
@[go_sem] theorem ext_69 : cfg.ext 69 = none := rfl
@[go_sem] theorem resm_69 : (cfg.resm 69 == VM.own) = false := rfl
@[go_sem] theorem join_69 (r : Nat) : cfg.join 69 r = none := rfl
@[go_sem] theorem take_70 (t : Nat) : cfg.take 70 t = false := rfl
@[go_sem] theorem ext_70 : cfg.ext 70 = none := rfl
@[go_sem] theorem resm_70 : (cfg.resm 70 == VM.own) = false := rfl
@[go_sem] theorem join_70 (r : Nat) : cfg.join 70 r = none := rfl
@[go_sem] theorem take_71 (t : Nat) : cfg.take 71 t = false := rfl
@[go_sem] theorem ext_71 : cfg.ext 71 = none := rfl
@[go_sem] theorem resm_71 : (cfg.resm 71 == VM.own) = false := rfl
@[go_sem] theorem join_71 (r : Nat) : cfg.join 71 r = none := rfl
@[go_sem] theorem take_72 (t : Nat) : cfg.take 72 t = false := rfl
@[go_sem] theorem ext_72 : cfg.ext 72 = none := rfl
@[go_sem] theorem resm_72 : (cfg.resm 72 == VM.own) = false := rfl
@[go_sem] theorem join_72 (r : Nat) : cfg.join 72 r = none := rfl
@[go_sem] theorem take_73 (t : Nat) : cfg.take 73 t = false := rfl
@[go_sem] theorem ext_73 : cfg.ext 73 = none := rfl
@[go_sem] theorem resm_73 : (cfg.resm 73 == VM.own) = false := rfl
@[go_sem] theorem join_73 (r : Nat) : cfg.join 73 r = none := rfl
@[go_sem] theorem take_74 (t : Nat) : cfg.take 74 t = false := rfl
@[go_sem] theorem ext_74 : cfg.ext 74 = none := rfl
@[go_sem] theorem resm_74 : (cfg.resm 74 == VM.own) = false := rfl
@[go_sem] theorem join_74 (r : Nat) : cfg.join 74 r = none := rfl
@[go_sem] theorem take_75 (t : Nat) : cfg.take 75 t = false := rfl
@[go_sem] theorem ext_75 : cfg.ext 75 = none := rfl
@[go_sem] theorem resm_75 : (cfg.resm 75 == VM.own) = false := rfl
@[go_sem] theorem join_75 (r : Nat) : cfg.join 75 r = none := rfl
@[go_sem] theorem take_76 (t : Nat) : cfg.take 76 t = false := rfl
@[go_sem] theorem ext_76 : cfg.ext 76 = none := rfl
@[go_sem] theorem resm_76 : (cfg.resm 76 == VM.own) = false := rfl
@[go_sem] theorem join_76 (r : Nat) : cfg.join 76 r = none := rfl
@[go_sem] theorem take_77 (t : Nat) : cfg.take 77 t = false := rfl
@[go_sem] theorem ext_77 : cfg.ext 77 = none := rfl
@[go_sem] theorem resm_77 : (cfg.resm 77 == VM.own) = false := rfl
@[go_sem] theorem join_77 (r : Nat) : cfg.join 77 r = none := rfl
@[go_sem] theorem take_78 (t : Nat) : cfg.take 78 t = false := rfl
@[go_sem] theorem ext_78 : cfg.ext 78 = none := rfl
@[go_sem] theorem resm_78 : (cfg.resm 78 == VM.own) = false := rfl
@[go_sem] theorem join_78 (r : Nat) : cfg.join 78 r = none := rfl
@[go_sem] theorem take_79 (t : Nat) : cfg.take 79 t = false := rfl
@[go_sem] theorem ext_79 : cfg.ext 79 = none := rfl
@[go_sem] theorem resm_79 : (cfg.resm 79 == VM.own) = false := rfl
@[go_sem] theorem join_79_0 : cfg.join 79 0 = none := rfl
@[go_sem] theorem join_79_1 : cfg.join 79 1 = none := rfl
@[go_sem] theorem join_79_4 : cfg.join 79 4 = none := rfl
@[go_sem] theorem join_79_5 : cfg.join 79 5 = none := rfl
@[go_sem] theorem join_79_6 : cfg.join 79 6 = none := rfl
@[go_sem] theorem join_79_8 : cfg.join 79 8 = some [(0, false), (5, false), (6, false)] := rfl
@[go_sem] theorem join_79_9 : cfg.join 79 9 = none := rfl
@[go_sem] theorem join_79_10 : cfg.join 79 10 = none := rfl
@[go_sem] theorem join_79_12 : cfg.join 79 12 = none := rfl
@[go_sem] theorem join_79_13 : cfg.join 79 13 = none := rfl
@[go_sem] theorem join_79_14 : cfg.join 79 14 = none := rfl
@[go_sem] theorem join_79_15 : cfg.join 79 15 = none := rfl
@[go_sem] theorem take_82 (t : Nat) : cfg.take 82 t = false := rfl
@[go_sem] theorem ext_82 : cfg.ext 82 = none := rfl
@[go_sem] theorem resm_82 : (cfg.resm 82 == VM.own) = false := rfl
@[go_sem] theorem join_82 (r : Nat) : cfg.join 82 r = none := rfl
@[go_sem] theorem take_83 (t : Nat) : cfg.take 83 t = false := rfl
@[go_sem] theorem ext_83 : cfg.ext 83 = none := rfl
@[go_sem] theorem resm_83 : (cfg.resm 83 == VM.own) = false := rfl
@[go_sem] theorem join_83 (r : Nat) : cfg.join 83 r = none := rfl
@[go_sem] theorem own0_46 : cfg.own0 46 = none := rfl
@[go_sem] theorem own0_50 : cfg.own0 50 = none := rfl
@[go_sem] theorem own0_55 : cfg.own0 55 = some [2] := rfl
@[go_sem] theorem own0_61 : cfg.own0 61 = none := rfl
@[go_sem] theorem own0_62 : cfg.own0 62 = none := rfl
@[go_sem] theorem own0_64 : cfg.own0 64 = none := rfl
@[go_sem] theorem own0_67 : cfg.own0 67 = some [] := rfl
@[go_sem] theorem own0_70 : cfg.own0 70 = some [] := rfl
@[go_sem] theorem own0_74 : cfg.own0 74 = some [] := rfl
@[go_sem] theorem own0_84 : cfg.own0 84 = some [] := rfl
@[go_sem] theorem own0_105 : cfg.own0 105 = none := rfl
@[go_sem] theorem own0_111 : cfg.own0 111 = none := rfl
end Go.Proofs.YtilmjbljkkbakaaDoor
