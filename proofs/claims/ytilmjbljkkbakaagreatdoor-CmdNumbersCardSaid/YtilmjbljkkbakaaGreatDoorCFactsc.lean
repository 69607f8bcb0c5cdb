/-
  A part of the proof: lemmas.
-/
import Derived.Test.YtilmjbljkkbakaaGreatDoorCCfgc
set_option linter.unusedSimpArgs false
set_option linter.unusedVariables false
set_option linter.unusedSectionVars false
set_option linter.unnecessarySimpa false
set_option linter.deprecated false
namespace Go.Proofs.YtilmjbljkkbakaaGreatDoor
open Go.Wv
@[go_sem] theorem argm_6 (i : Nat) : cfg.argm 6 i = .view := rfl
@[go_sem] theorem pure_6 : cfg.pure 6 = true := rfl
@[go_sem] theorem argm_7 (i : Nat) : cfg.argm 7 i = .view := rfl
@[go_sem] theorem pure_7 : cfg.pure 7 = true := rfl
@[go_sem] theorem argm_23 (i : Nat) : cfg.argm 23 i = .view := rfl
@[go_sem] theorem pure_23 : cfg.pure 23 = true := rfl
@[go_sem] theorem argm_24 (i : Nat) : cfg.argm 24 i = .view := rfl
@[go_sem] theorem pure_24 : cfg.pure 24 = true := rfl
@[go_sem] theorem argm_25 (i : Nat) : cfg.argm 25 i = .view := rfl
@[go_sem] theorem pure_25 : cfg.pure 25 = true := rfl
@[go_sem] theorem argm_26 (i : Nat) : cfg.argm 26 i = .view := rfl
@[go_sem] theorem pure_26 : cfg.pure 26 = true := rfl
@[go_sem] theorem argm_27 (i : Nat) : cfg.argm 27 i = .view := rfl
@[go_sem] theorem pure_27 : cfg.pure 27 = true := rfl
@[go_sem] theorem argm_28 (i : Nat) : cfg.argm 28 i = .view := rfl
@[go_sem] theorem pure_28 : cfg.pure 28 = true := rfl
@[go_sem] theorem argm_29 (i : Nat) : cfg.argm 29 i = .view := rfl
@[go_sem] theorem pure_29 : cfg.pure 29 = true := rfl
@[go_sem] theorem argm_32 (i : Nat) : cfg.argm 32 i = .view := rfl
@[go_sem] theorem pure_32 : cfg.pure 32 = true := rfl
@[go_sem] theorem argm_33 (i : Nat) : cfg.argm 33 i = .view := rfl
@[go_sem] theorem pure_33 : cfg.pure 33 = true := rfl
@[go_sem] theorem argm_37 (i : Nat) : cfg.argm 37 i = .view := rfl
@[go_sem] theorem pure_37 : cfg.pure 37 = true := rfl
@[go_sem] theorem argm_43 (i : Nat) : cfg.argm 43 i = .view := rfl
@[go_sem] theorem pure_43 : cfg.pure 43 = true := rfl
@[go_sem] theorem argm_44 (i : Nat) : cfg.argm 44 i = .view := rfl
@[go_sem] theorem pure_44 : cfg.pure 44 = true := rfl
@[go_sem] theorem argm_45 (i : Nat) : cfg.argm 45 i = .view := rfl
@[go_sem] theorem pure_45 : cfg.pure 45 = true := rfl
@[go_sem] theorem argm_46 (i : Nat) : cfg.argm 46 i = .view := rfl
@[go_sem] theorem pure_46 : cfg.pure 46 = false := rfl
@[go_sem] theorem argm_47 (i : Nat) : cfg.argm 47 i = .view := rfl
@[go_sem] theorem pure_47 : cfg.pure 47 = true := rfl
@[go_sem] theorem argm_48 (i : Nat) : cfg.argm 48 i = .view := rfl
@[go_sem] theorem pure_48 : cfg.pure 48 = true := rfl
@[go_sem] theorem argm_49 (i : Nat) : cfg.argm 49 i = .view := rfl
@[go_sem] theorem pure_49 : cfg.pure 49 = true := rfl
@[go_sem] theorem argm_52 (i : Nat) : cfg.argm 52 i = .view := rfl
@[go_sem] theorem pure_52 : cfg.pure 52 = true := rfl
@[go_sem] theorem argm_54 (i : Nat) : cfg.argm 54 i = .view := rfl
@[go_sem] theorem pure_54 : cfg.pure 54 = false := rfl
@[go_sem] theorem argm_55 (i : Nat) : cfg.argm 55 i = .view := rfl
@[go_sem] theorem pure_55 : cfg.pure 55 = true := rfl
@[go_sem] theorem argm_56 (i : Nat) : cfg.argm 56 i = .view := rfl
@[go_sem] theorem pure_56 : cfg.pure 56 = false := rfl
@[go_sem] theorem argm_63 (i : Nat) : cfg.argm 63 i = .view := rfl
@[go_sem] theorem pure_63 : cfg.pure 63 = true := rfl
@[go_sem] theorem argm_73 (i : Nat) : cfg.argm 73 i = .view := rfl
@[go_sem] theorem pure_73 : cfg.pure 73 = true := rfl
@[go_sem] theorem argm_74 (i : Nat) : cfg.argm 74 i = .view := rfl
@[go_sem] theorem pure_74 : cfg.pure 74 = true := rfl
@[go_sem] theorem argm_75 (i : Nat) : cfg.argm 75 i = .view := rfl
@[go_sem] theorem pure_75 : cfg.pure 75 = true := rfl
@[go_sem] theorem argm_76 (i : Nat) : cfg.argm 76 i = .view := rfl
@[go_sem] theorem pure_76 : cfg.pure 76 = true := rfl
@[go_sem] theorem argm_77 (i : Nat) : cfg.argm 77 i = .view := rfl
@[go_sem] theorem pure_77 : cfg.pure 77 = true := rfl
@[go_sem] theorem argm_78 (i : Nat) : cfg.argm 78 i = .view := rfl
@[go_sem] theorem pure_78 : cfg.pure 78 = true := rfl
@[go_sem] theorem argm_79 (i : Nat) : cfg.argm 79 i = .view := rfl
@[go_sem] theorem pure_79 : cfg.pure 79 = true := rfl
@[go_sem] theorem argm_80 (i : Nat) : cfg.argm 80 i = .view := rfl
@[go_sem] theorem pure_80 : cfg.pure 80 = true := rfl
@[go_sem] theorem argm_81 (i : Nat) : cfg.argm 81 i = .view := rfl
@[go_sem] theorem pure_81 : cfg.pure 81 = true := rfl
@[go_sem] theorem argm_82 (i : Nat) : cfg.argm 82 i = .view := rfl
@[go_sem] theorem pure_82 : cfg.pure 82 = true := rfl
@[go_sem] theorem argm_83 (i : Nat) : cfg.argm 83 i = .view := rfl
@[go_sem] theorem pure_83 : cfg.pure 83 = true := rfl
@[go_sem] theorem argm_85 (i : Nat) : cfg.argm 85 i = .view := rfl
@[go_sem] theorem pure_85 : cfg.pure 85 = true := rfl
@[go_sem] theorem argm_86 (i : Nat) : cfg.argm 86 i = .view := rfl
@[go_sem] theorem pure_86 : cfg.pure 86 = true := rfl
@[go_sem] theorem argm_87 (i : Nat) : cfg.argm 87 i = .view := rfl
@[go_sem] theorem pure_87 : cfg.pure 87 = true := rfl
@[go_sem] theorem argm_92 (i : Nat) : cfg.argm 92 i = .view := rfl
@[go_sem] theorem pure_92 : cfg.pure 92 = true := rfl
@[go_sem] theorem argm_93 (i : Nat) : cfg.argm 93 i = .view := rfl
@[go_sem] theorem pure_93 : cfg.pure 93 = false := rfl
@[go_sem] theorem argm_94 (i : Nat) : cfg.argm 94 i = .view := rfl
@[go_sem] theorem pure_94 : cfg.pure 94 = true := rfl
@[go_sem] theorem argm_95 (i : Nat) : cfg.argm 95 i = .view := rfl
@[go_sem] theorem pure_95 : cfg.pure 95 = false := rfl
@[go_sem] theorem argm_96 (i : Nat) : cfg.argm 96 i = .view := rfl
@[go_sem] theorem pure_96 : cfg.pure 96 = false := rfl
@[go_sem] theorem argm_97 (i : Nat) : cfg.argm 97 i = .view := rfl
@[go_sem] theorem pure_97 : cfg.pure 97 = false := rfl
@[go_sem] theorem argm_99 (i : Nat) : cfg.argm 99 i = .view := rfl
@[go_sem] theorem pure_99 : cfg.pure 99 = true := rfl
@[go_sem] theorem argm_100 (i : Nat) : cfg.argm 100 i = .view := rfl
@[go_sem] theorem pure_100 : cfg.pure 100 = true := rfl
@[go_sem] theorem argm_101 (i : Nat) : cfg.argm 101 i = .view := rfl
@[go_sem] theorem pure_101 : cfg.pure 101 = true := rfl
@[go_sem] theorem argm_103 (i : Nat) : cfg.argm 103 i = .view := rfl
@[go_sem] theorem pure_103 : cfg.pure 103 = true := rfl
@[go_sem] theorem argm_105 (i : Nat) : cfg.argm 105 i = .view := rfl
@[go_sem] theorem pure_105 : cfg.pure 105 = true := rfl
@[go_sem] theorem argm_106 (i : Nat) : cfg.argm 106 i = .view := rfl
@[go_sem] theorem pure_106 : cfg.pure 106 = true := rfl
@[go_sem] theorem argm_107 (i : Nat) : cfg.argm 107 i = .view := rfl
@[go_sem] theorem pure_107 : cfg.pure 107 = true := rfl
@[go_sem] theorem argm_115 (i : Nat) : cfg.argm 115 i = .view := rfl
@[go_sem] theorem pure_115 : cfg.pure 115 = true := rfl
@[go_sem] theorem argm_119 (i : Nat) : cfg.argm 119 i = .view := rfl
@[go_sem] theorem pure_119 : cfg.pure 119 = true := rfl
@[go_sem] theorem argm_120 (i : Nat) : cfg.argm 120 i = .view := rfl
@[go_sem] theorem pure_120 : cfg.pure 120 = true := rfl
@[go_sem] theorem argm_121 (i : Nat) : cfg.argm 121 i = .view := rfl
@[go_sem] theorem pure_121 : cfg.pure 121 = true := rfl
@[go_sem] theorem argm_123 (i : Nat) : cfg.argm 123 i = .view := rfl
@[go_sem] theorem pure_123 : cfg.pure 123 = true := rfl
@[go_sem] theorem argm_124 (i : Nat) : cfg.argm 124 i = .view := rfl
@[go_sem] theorem pure_124 : cfg.pure 124 = true := rfl
@[go_sem] theorem argm_127 (i : Nat) : cfg.argm 127 i = .view := rfl
@[go_sem] theorem pure_127 : cfg.pure 127 = false := rfl
@[go_sem] theorem argm_128 (i : Nat) : cfg.argm 128 i = .view := rfl
@[go_sem] theorem pure_128 : cfg.pure 128 = true := rfl
@[go_sem] theorem argm_129 (i : Nat) : cfg.argm 129 i = .view := rfl
@[go_sem] theorem pure_129 : cfg.pure 129 = true := rfl
@[go_sem] theorem argm_130 (i : Nat) : cfg.argm 130 i = .view := rfl
@[go_sem] theorem pure_130 : cfg.pure 130 = true := rfl
@[go_sem] theorem argm_133 (i : Nat) : cfg.argm 133 i = .view := rfl
@[go_sem] theorem pure_133 : cfg.pure 133 = false := rfl
@[go_sem] theorem argm_134 (i : Nat) : cfg.argm 134 i = .view := rfl
@[go_sem] theorem pure_134 : cfg.pure 134 = true := rfl
@[go_sem] theorem argm_135 (i : Nat) : cfg.argm 135 i = .view := rfl
@[go_sem] theorem pure_135 : cfg.pure 135 = true := rfl
@[go_sem] theorem argm_140 (i : Nat) : cfg.argm 140 i = .view := rfl
@[go_sem] theorem pure_140 : cfg.pure 140 = true := rfl
@[go_sem] theorem argm_141 (i : Nat) : cfg.argm 141 i = .view := rfl
@[go_sem] theorem pure_141 : cfg.pure 141 = true := rfl
@[go_sem] theorem argm_142 (i : Nat) : cfg.argm 142 i = .view := rfl
@[go_sem] theorem pure_142 : cfg.pure 142 = true := rfl
@[go_sem] theorem argm_149 (i : Nat) : cfg.argm 149 i = .view := rfl
@[go_sem] theorem pure_149 : cfg.pure 149 = true := rfl
@[go_sem] theorem argm_150 (i : Nat) : cfg.argm 150 i = .view := rfl
@[go_sem] theorem pure_150 : cfg.pure 150 = true := rfl
@[go_sem] theorem argm_152_0 : cfg.argm 152 0 = .own := rfl
@[go_sem] theorem argm_152_1 : cfg.argm 152 1 = .view := rfl
@[go_sem] theorem argm_152_2 : cfg.argm 152 2 = .view := rfl
@[go_sem] theorem argm_152_3 : cfg.argm 152 3 = .view := rfl
@[go_sem] theorem argm_152_4 : cfg.argm 152 4 = .view := rfl
@[go_sem] theorem pure_152 : cfg.pure 152 = true := rfl
@[go_sem] theorem argm_153 (i : Nat) : cfg.argm 153 i = .view := rfl
@[go_sem] theorem pure_153 : cfg.pure 153 = true := rfl
@[go_sem] theorem argm_154 (i : Nat) : cfg.argm 154 i = .view := rfl
@[go_sem] theorem pure_154 : cfg.pure 154 = true := rfl
@[go_sem] theorem argm_159 (i : Nat) : cfg.argm 159 i = .view := rfl
@[go_sem] theorem pure_159 : cfg.pure 159 = true := rfl
@[go_sem] theorem argm_160 (i : Nat) : cfg.argm 160 i = .view := rfl
@[go_sem] theorem pure_160 : cfg.pure 160 = false := rfl
@[go_sem] theorem argm_161 (i : Nat) : cfg.argm 161 i = .view := rfl
@[go_sem] theorem pure_161 : cfg.pure 161 = false := rfl
@[go_sem] theorem argm_162 (i : Nat) : cfg.argm 162 i = .view := rfl
@[go_sem] theorem pure_162 : cfg.pure 162 = false := rfl
@[go_sem] theorem argm_163 (i : Nat) : cfg.argm 163 i = .view := rfl
@[go_sem] theorem pure_163 : cfg.pure 163 = true := rfl
@[go_sem] theorem argm_166 (i : Nat) : cfg.argm 166 i = .view := rfl
@[go_sem] theorem pure_166 : cfg.pure 166 = true := rfl
@[go_sem] theorem argm_176 (i : Nat) : cfg.argm 176 i = .view := rfl
@[go_sem] theorem pure_176 : cfg.pure 176 = false := rfl
@[go_sem] theorem argm_177 (i : Nat) : cfg.argm 177 i = .view := rfl
@[go_sem] theorem pure_177 : cfg.pure 177 = false := rfl
@[go_sem] theorem argm_178 (i : Nat) : cfg.argm 178 i = .view := rfl
@[go_sem] theorem pure_178 : cfg.pure 178 = true := rfl
@[go_sem] theorem argm_183 (i : Nat) : cfg.argm 183 i = .view := rfl
@[go_sem] theorem pure_183 : cfg.pure 183 = false := rfl
@[go_sem] theorem argm_184 (i : Nat) : cfg.argm 184 i = .view := rfl
@[go_sem] theorem pure_184 : cfg.pure 184 = false := rfl
@[go_sem] theorem take_6 (t : Nat) : cfg.take 6 t = false := rfl
@[go_sem] theorem ext_6 : cfg.ext 6 = none := rfl
@[go_sem] theorem resm_6 : (cfg.resm 6 == VM.own) = false := rfl
@[go_sem] theorem dyn_6 (r : Nat) : cfg.dyn 6 r = [] := rfl
@[go_sem] theorem join_6_0 : cfg.join 6 0 = none := rfl
@[go_sem] theorem join_6_1 : cfg.join 6 1 = none := rfl
@[go_sem] theorem join_6_3 : cfg.join 6 3 = none := rfl
@[go_sem] theorem join_6_5 : cfg.join 6 5 = none := rfl
@[go_sem] theorem join_6_6 : cfg.join 6 6 = none := rfl
@[go_sem] theorem join_6_7 : cfg.join 6 7 = none := rfl
@[go_sem] theorem join_6_21 : cfg.join 6 21 = some [(0, false), (1, false), (5, false), (6, false)] := rfl
@[go_sem] theorem join_6_22 : cfg.join 6 22 = none := rfl
@[go_sem] theorem join_6_24 : cfg.join 6 24 = none := rfl
@[go_sem] theorem take_7 (t : Nat) : cfg.take 7 t = false := rfl
@[go_sem] theorem ext_7 : cfg.ext 7 = none := rfl
@[go_sem] theorem resm_7 : (cfg.resm 7 == VM.own) = false := rfl
@[go_sem] theorem keep_7_9 : cfg.keep 7 9 = some [(0, false), (1, false), (5, false), (6, false), (7, false), (25, false), (26, false), (27, false)] := rfl
@[go_sem] theorem dyn_7 (r : Nat) : cfg.dyn 7 r = [] := rfl
@[go_sem] theorem join_7_0 : cfg.join 7 0 = none := rfl
@[go_sem] theorem join_7_1 : cfg.join 7 1 = none := rfl
@[go_sem] theorem join_7_3 : cfg.join 7 3 = none := rfl
@[go_sem] theorem join_7_5 : cfg.join 7 5 = none := rfl
@[go_sem] theorem join_7_6 : cfg.join 7 6 = none := rfl
@[go_sem] theorem join_7_7 : cfg.join 7 7 = none := rfl
@[go_sem] theorem join_7_8 : cfg.join 7 8 = none := rfl
@[go_sem] theorem join_7_9 : cfg.join 7 9 = none := rfl
@[go_sem] theorem join_7_10 : cfg.join 7 10 = none := rfl
@[go_sem] theorem join_7_11 : cfg.join 7 11 = none := rfl
@[go_sem] theorem join_7_12 : cfg.join 7 12 = none := rfl
@[go_sem] theorem join_7_13 : cfg.join 7 13 = some [(0, false), (1, false), (5, false), (7, false)] := rfl
@[go_sem] theorem join_7_15 : cfg.join 7 15 = none := rfl
@[go_sem] theorem take_23 (t : Nat) : cfg.take 23 t = false := rfl
@[go_sem] theorem ext_23 : cfg.ext 23 = none := rfl
@[go_sem] theorem resm_23 : (cfg.resm 23 == VM.own) = false := rfl
@[go_sem] theorem dyn_23 (r : Nat) : cfg.dyn 23 r = [] := rfl
@[go_sem] theorem join_23 (r : Nat) : cfg.join 23 r = none := rfl
@[go_sem] theorem take_24 (t : Nat) : cfg.take 24 t = false := rfl
@[go_sem] theorem ext_24 : cfg.ext 24 = none := rfl
@[go_sem] theorem resm_24 : (cfg.resm 24 == VM.own) = false := rfl
@[go_sem] theorem dyn_24 (r : Nat) : cfg.dyn 24 r = [] := rfl
@[go_sem] theorem join_24_0 : cfg.join 24 0 = none := rfl
@[go_sem] theorem join_24_1 : cfg.join 24 1 = none := rfl
@[go_sem] theorem join_24_2 : cfg.join 24 2 = none := rfl
@[go_sem] theorem join_24_3 : cfg.join 24 3 = none := rfl
@[go_sem] theorem join_24_5 : cfg.join 24 5 = none := rfl
@[go_sem] theorem join_24_7 : cfg.join 24 7 = none := rfl
@[go_sem] theorem join_24_9 : cfg.join 24 9 = none := rfl
@[go_sem] theorem join_24_10 : cfg.join 24 10 = none := rfl
@[go_sem] theorem join_24_11 : cfg.join 24 11 = none := rfl
@[go_sem] theorem join_24_13 : cfg.join 24 13 = some [(2, false), (7, false), (9, true)] := rfl
@[go_sem] theorem join_24_14 : cfg.join 24 14 = none := rfl
@[go_sem] theorem join_24_16 : cfg.join 24 16 = none := rfl
@[go_sem] theorem join_24_17 : cfg.join 24 17 = none := rfl
@[go_sem] theorem take_25 (t : Nat) : cfg.take 25 t = false := rfl
@[go_sem] theorem ext_25 : cfg.ext 25 = none := rfl
@[go_sem] theorem resm_25 : (cfg.resm 25 == VM.own) = false := rfl
@[go_sem] theorem dyn_25 (r : Nat) : cfg.dyn 25 r = [] := rfl
@[go_sem] theorem join_25 (r : Nat) : cfg.join 25 r = none := rfl
@[go_sem] theorem take_26 (t : Nat) : cfg.take 26 t = false := rfl
@[go_sem] theorem ext_26 : cfg.ext 26 = none := rfl
@[go_sem] theorem resm_26 : (cfg.resm 26 == VM.own) = false := rfl
@[go_sem] theorem dyn_26 (r : Nat) : cfg.dyn 26 r = [] := rfl
@[go_sem] theorem join_26 (r : Nat) : cfg.join 26 r = none := rfl
@[go_sem] theorem take_27_6 : cfg.take 27 6 = false := rfl
@[go_sem] theorem take_27_7 : cfg.take 27 7 = false := rfl
@[go_sem] theorem take_27_10 : cfg.take 27 10 = false := rfl
@[go_sem] theorem take_27_12 : cfg.take 27 12 = false := rfl
@[go_sem] theorem take_27_13 : cfg.take 27 13 = false := rfl
@[go_sem] theorem take_27_16 : cfg.take 27 16 = true := rfl
@[go_sem] theorem take_27_17 : cfg.take 27 17 = false := rfl
@[go_sem] theorem take_27_18 : cfg.take 27 18 = false := rfl
@[go_sem] theorem take_27_19 : cfg.take 27 19 = false := rfl
@[go_sem] theorem take_27_23 : cfg.take 27 23 = false := rfl
@[go_sem] theorem take_27_25 : cfg.take 27 25 = true := rfl
@[go_sem] theorem take_27_26 : cfg.take 27 26 = false := rfl
@[go_sem] theorem take_27_27 : cfg.take 27 27 = false := rfl
@[go_sem] theorem ext_27 : cfg.ext 27 = none := rfl
@[go_sem] theorem resm_27 : (cfg.resm 27 == VM.own) = false := rfl
@[go_sem] theorem keep_27_4 : cfg.keep 27 4 = some [(0, false), (3, false), (4, false), (5, false)] := rfl
@[go_sem] theorem dyn_27 (r : Nat) : cfg.dyn 27 r = [] := rfl
@[go_sem] theorem join_27 (r : Nat) : cfg.join 27 r = none := rfl
@[go_sem] theorem take_28 (t : Nat) : cfg.take 28 t = false := rfl
@[go_sem] theorem ext_28 : cfg.ext 28 = none := rfl
@[go_sem] theorem resm_28 : (cfg.resm 28 == VM.own) = false := rfl
@[go_sem] theorem keep_28_3 : cfg.keep 28 3 = some [(0, false), (3, false), (4, false)] := rfl
@[go_sem] theorem dyn_28 (r : Nat) : cfg.dyn 28 r = [] := rfl
@[go_sem] theorem join_28 (r : Nat) : cfg.join 28 r = none := rfl
@[go_sem] theorem take_29 (t : Nat) : cfg.take 29 t = false := rfl
@[go_sem] theorem ext_29 : cfg.ext 29 = none := rfl
@[go_sem] theorem resm_29 : (cfg.resm 29 == VM.own) = false := rfl
@[go_sem] theorem keep_29_3 : cfg.keep 29 3 = some [(1, false), (5, false), (16, false), (17, false), (18, false)] := rfl
@[go_sem] theorem dyn_29 (r : Nat) : cfg.dyn 29 r = [] := rfl
@[go_sem] theorem join_29_0 : cfg.join 29 0 = none := rfl
@[go_sem] theorem join_29_1 : cfg.join 29 1 = none := rfl
@[go_sem] theorem join_29_2 : cfg.join 29 2 = none := rfl
@[go_sem] theorem join_29_3 : cfg.join 29 3 = none := rfl
@[go_sem] theorem join_29_4 : cfg.join 29 4 = none := rfl
@[go_sem] theorem join_29_5 : cfg.join 29 5 = none := rfl
@[go_sem] theorem join_29_7 : cfg.join 29 7 = none := rfl
@[go_sem] theorem join_29_8 : cfg.join 29 8 = some [(1, false), (5, false)] := rfl
@[go_sem] theorem take_32_10 : cfg.take 32 10 = false := rfl
@[go_sem] theorem take_32_11 : cfg.take 32 11 = false := rfl
@[go_sem] theorem take_32_13 : cfg.take 32 13 = false := rfl
@[go_sem] theorem take_32_15 : cfg.take 32 15 = false := rfl
@[go_sem] theorem take_32_18 : cfg.take 32 18 = false := rfl
@[go_sem] theorem take_32_19 : cfg.take 32 19 = false := rfl
@[go_sem] theorem take_32_22 : cfg.take 32 22 = false := rfl
@[go_sem] theorem take_32_25 : cfg.take 32 25 = false := rfl
@[go_sem] theorem take_32_26 : cfg.take 32 26 = false := rfl
@[go_sem] theorem take_32_29 : cfg.take 32 29 = false := rfl
@[go_sem] theorem take_32_30 : cfg.take 32 30 = false := rfl
@[go_sem] theorem take_32_33 : cfg.take 32 33 = false := rfl
@[go_sem] theorem take_32_34 : cfg.take 32 34 = false := rfl
@[go_sem] theorem take_32_35 : cfg.take 32 35 = false := rfl
@[go_sem] theorem take_32_37 : cfg.take 32 37 = false := rfl
@[go_sem] theorem take_32_38 : cfg.take 32 38 = false := rfl
@[go_sem] theorem take_32_39 : cfg.take 32 39 = false := rfl
@[go_sem] theorem take_32_41 : cfg.take 32 41 = false := rfl
@[go_sem] theorem take_32_42 : cfg.take 32 42 = false := rfl
@[go_sem] theorem take_32_43 : cfg.take 32 43 = false := rfl
@[go_sem] theorem take_32_45 : cfg.take 32 45 = true := rfl
@[go_sem] theorem take_32_46 : cfg.take 32 46 = false := rfl
@[go_sem] theorem ext_32 : cfg.ext 32 = none := rfl
@[go_sem] theorem resm_32 : (cfg.resm 32 == VM.own) = false := rfl
@[go_sem] theorem keep_32_3 : cfg.keep 32 3 = some [(5, false), (6, false)] := rfl
@[go_sem] theorem dyn_32 (r : Nat) : cfg.dyn 32 r = [] := rfl
@[go_sem] theorem join_32 (r : Nat) : cfg.join 32 r = none := rfl
@[go_sem] theorem take_33 (t : Nat) : cfg.take 33 t = false := rfl
@[go_sem] theorem ext_33 : cfg.ext 33 = none := rfl
@[go_sem] theorem resm_33 : (cfg.resm 33 == VM.own) = false := rfl
@[go_sem] theorem keep_33_4 : cfg.keep 33 4 = some [(2, false), (15, false), (16, false), (17, false)] := rfl
@[go_sem] theorem dyn_33 (r : Nat) : cfg.dyn 33 r = [] := rfl
@[go_sem] theorem join_33 (r : Nat) : cfg.join 33 r = none := rfl
@[go_sem] theorem take_37 (t : Nat) : cfg.take 37 t = false := rfl
@[go_sem] theorem ext_37 : cfg.ext 37 = none := rfl
@[go_sem] theorem resm_37 : (cfg.resm 37 == VM.own) = false := rfl
@[go_sem] theorem dyn_37 (r : Nat) : cfg.dyn 37 r = [] := rfl
@[go_sem] theorem join_37 (r : Nat) : cfg.join 37 r = none := rfl
@[go_sem] theorem take_43_7 : cfg.take 43 7 = false := rfl
@[go_sem] theorem take_43_9 : cfg.take 43 9 = false := rfl
@[go_sem] theorem take_43_12 : cfg.take 43 12 = false := rfl
@[go_sem] theorem take_43_14 : cfg.take 43 14 = false := rfl
@[go_sem] theorem take_43_17 : cfg.take 43 17 = false := rfl
@[go_sem] theorem take_43_18 : cfg.take 43 18 = true := rfl
@[go_sem] theorem take_43_19 : cfg.take 43 19 = false := rfl
@[go_sem] theorem take_43_25 : cfg.take 43 25 = false := rfl
@[go_sem] theorem take_43_28 : cfg.take 43 28 = true := rfl
@[go_sem] theorem take_43_30 : cfg.take 43 30 = false := rfl
@[go_sem] theorem take_43_35 : cfg.take 43 35 = true := rfl
@[go_sem] theorem take_43_37 : cfg.take 43 37 = false := rfl
@[go_sem] theorem take_43_43 : cfg.take 43 43 = true := rfl
@[go_sem] theorem take_43_45 : cfg.take 43 45 = false := rfl
@[go_sem] theorem take_43_49 : cfg.take 43 49 = false := rfl
@[go_sem] theorem ext_43 : cfg.ext 43 = none := rfl
@[go_sem] theorem resm_43 : (cfg.resm 43 == VM.own) = false := rfl
@[go_sem] theorem keep_43_3 : cfg.keep 43 3 = some [(1, false), (3, false), (12, false), (13, false), (14, false)] := rfl
@[go_sem] theorem dyn_43 (r : Nat) : cfg.dyn 43 r = [] := rfl
@[go_sem] theorem join_43_0 : cfg.join 43 0 = none := rfl
@[go_sem] theorem join_43_1 : cfg.join 43 1 = none := rfl
@[go_sem] theorem join_43_2 : cfg.join 43 2 = none := rfl
@[go_sem] theorem join_43_3 : cfg.join 43 3 = none := rfl
@[go_sem] theorem join_43_4 : cfg.join 43 4 = none := rfl
@[go_sem] theorem join_43_5 : cfg.join 43 5 = none := rfl
@[go_sem] theorem join_43_6 : cfg.join 43 6 = none := rfl
@[go_sem] theorem join_43_7 : cfg.join 43 7 = some [(1, false), (3, false)] := rfl
@[go_sem] theorem join_43_8 : cfg.join 43 8 = none := rfl
@[go_sem] theorem join_43_14 : cfg.join 43 14 = none := rfl
@[go_sem] theorem take_44 (t : Nat) : cfg.take 44 t = false := rfl
@[go_sem] theorem ext_44 : cfg.ext 44 = none := rfl
@[go_sem] theorem resm_44 : (cfg.resm 44 == VM.own) = false := rfl
@[go_sem] theorem dyn_44 (r : Nat) : cfg.dyn 44 r = [] := rfl
@[go_sem] theorem join_44 (r : Nat) : cfg.join 44 r = none := rfl
@[go_sem] theorem take_45 (t : Nat) : cfg.take 45 t = false := rfl
@[go_sem] theorem ext_45 : cfg.ext 45 = none := rfl
@[go_sem] theorem resm_45 : (cfg.resm 45 == VM.own) = false := rfl
@[go_sem] theorem keep_45_2 : cfg.keep 45 2 = some [(0, false), (3, false)] := rfl
@[go_sem] theorem dyn_45 (r : Nat) : cfg.dyn 45 r = [] := rfl
@[go_sem] theorem join_45 (r : Nat) : cfg.join 45 r = none := rfl
@[go_sem] theorem take_46 (t : Nat) : cfg.take 46 t = false := rfl
@[go_sem] theorem ext_46 : cfg.ext 46 = none := rfl
@[go_sem] theorem resm_46 : (cfg.resm 46 == VM.own) = false := rfl
@[go_sem] theorem dyn_46 (r : Nat) : cfg.dyn 46 r = [] := rfl
@[go_sem] theorem join_46 (r : Nat) : cfg.join 46 r = none := rfl
@[go_sem] theorem take_47_14 : cfg.take 47 14 = false := rfl
@[go_sem] theorem take_47_16 : cfg.take 47 16 = false := rfl
@[go_sem] theorem take_47_19 : cfg.take 47 19 = false := rfl
@[go_sem] theorem take_47_21 : cfg.take 47 21 = false := rfl
@[go_sem] theorem take_47_24 : cfg.take 47 24 = false := rfl
@[go_sem] theorem take_47_26 : cfg.take 47 26 = false := rfl
@[go_sem] theorem take_47_30 : cfg.take 47 30 = false := rfl
@[go_sem] theorem take_47_32 : cfg.take 47 32 = false := rfl
@[go_sem] theorem take_47_35 : cfg.take 47 35 = false := rfl
@[go_sem] theorem take_47_37 : cfg.take 47 37 = false := rfl
@[go_sem] theorem take_47_39 : cfg.take 47 39 = false := rfl
@[go_sem] theorem take_47_42 : cfg.take 47 42 = false := rfl
@[go_sem] theorem take_47_43 : cfg.take 47 43 = false := rfl
@[go_sem] theorem take_47_44 : cfg.take 47 44 = false := rfl
@[go_sem] theorem take_47_46 : cfg.take 47 46 = false := rfl
@[go_sem] theorem take_47_47 : cfg.take 47 47 = false := rfl
@[go_sem] theorem take_47_48 : cfg.take 47 48 = false := rfl
@[go_sem] theorem take_47_50 : cfg.take 47 50 = true := rfl
@[go_sem] theorem take_47_51 : cfg.take 47 51 = false := rfl
@[go_sem] theorem take_47_55 : cfg.take 47 55 = false := rfl
@[go_sem] theorem take_47_57 : cfg.take 47 57 = false := rfl
@[go_sem] theorem take_47_60 : cfg.take 47 60 = false := rfl
@[go_sem] theorem take_47_61 : cfg.take 47 61 = false := rfl
@[go_sem] theorem take_47_63 : cfg.take 47 63 = false := rfl
@[go_sem] theorem take_47_65 : cfg.take 47 65 = false := rfl
@[go_sem] theorem take_47_66 : cfg.take 47 66 = false := rfl
@[go_sem] theorem take_47_68 : cfg.take 47 68 = false := rfl
@[go_sem] theorem take_47_72 : cfg.take 47 72 = false := rfl
@[go_sem] theorem ext_47 : cfg.ext 47 = none := rfl
@[go_sem] theorem resm_47 : (cfg.resm 47 == VM.own) = false := rfl
@[go_sem] theorem keep_47_8 : cfg.keep 47 8 = some [(6, false), (7, false), (37, false), (38, false), (39, false)] := rfl
@[go_sem] theorem keep_47_16 : cfg.keep 47 16 = some [(6, false), (7, false), (55, false), (56, false), (57, false)] := rfl
@[go_sem] theorem dyn_47 (r : Nat) : cfg.dyn 47 r = [] := rfl
@[go_sem] theorem join_47_0 : cfg.join 47 0 = none := rfl
@[go_sem] theorem join_47_1 : cfg.join 47 1 = none := rfl
@[go_sem] theorem join_47_2 : cfg.join 47 2 = none := rfl
@[go_sem] theorem join_47_4 : cfg.join 47 4 = none := rfl
@[go_sem] theorem join_47_6 : cfg.join 47 6 = none := rfl
@[go_sem] theorem join_47_7 : cfg.join 47 7 = none := rfl
@[go_sem] theorem join_47_8 : cfg.join 47 8 = none := rfl
@[go_sem] theorem join_47_9 : cfg.join 47 9 = none := rfl
@[go_sem] theorem join_47_10 : cfg.join 47 10 = none := rfl
@[go_sem] theorem join_47_11 : cfg.join 47 11 = none := rfl
@[go_sem] theorem join_47_13 : cfg.join 47 13 = none := rfl
@[go_sem] theorem join_47_14 : cfg.join 47 14 = none := rfl
@[go_sem] theorem join_47_15 : cfg.join 47 15 = some [(6, false), (7, false)] := rfl
@[go_sem] theorem join_47_16 : cfg.join 47 16 = none := rfl
@[go_sem] theorem join_47_17 : cfg.join 47 17 = none := rfl
@[go_sem] theorem join_47_18 : cfg.join 47 18 = none := rfl
@[go_sem] theorem join_47_20 : cfg.join 47 20 = none := rfl
@[go_sem] theorem join_47_21 : cfg.join 47 21 = none := rfl
@[go_sem] theorem take_48 (t : Nat) : cfg.take 48 t = false := rfl
@[go_sem] theorem ext_48 : cfg.ext 48 = none := rfl
@[go_sem] theorem resm_48 : (cfg.resm 48 == VM.own) = false := rfl
@[go_sem] theorem keep_48_2 : cfg.keep 48 2 = some [(0, false), (1, false), (5, false)] := rfl
@[go_sem] theorem dyn_48 (r : Nat) : cfg.dyn 48 r = [] := rfl
@[go_sem] theorem join_48 (r : Nat) : cfg.join 48 r = none := rfl
@[go_sem] theorem take_49 (t : Nat) : cfg.take 49 t = false := rfl
@[go_sem] theorem ext_49 : cfg.ext 49 = none := rfl
@[go_sem] theorem resm_49 : (cfg.resm 49 == VM.own) = false := rfl
@[go_sem] theorem dyn_49 (r : Nat) : cfg.dyn 49 r = [] := rfl
@[go_sem] theorem join_49 (r : Nat) : cfg.join 49 r = none := rfl
@[go_sem] theorem take_52 (t : Nat) : cfg.take 52 t = false := rfl
@[go_sem] theorem ext_52 : cfg.ext 52 = none := rfl
@[go_sem] theorem resm_52 : (cfg.resm 52 == VM.own) = false := rfl
@[go_sem] theorem dyn_52 (r : Nat) : cfg.dyn 52 r = [] := rfl
@[go_sem] theorem join_52 (r : Nat) : cfg.join 52 r = none := rfl
@[go_sem] theorem take_54 (t : Nat) : cfg.take 54 t = false := rfl
@[go_sem] theorem ext_54 : cfg.ext 54 = none := rfl
@[go_sem] theorem resm_54 : (cfg.resm 54 == VM.own) = false := rfl
@[go_sem] theorem keep_54_2 : cfg.keep 54 2 = some [(0, false), (1, false), (5, false)] := rfl
@[go_sem] theorem dyn_54 (r : Nat) : cfg.dyn 54 r = [] := rfl
@[go_sem] theorem join_54 (r : Nat) : cfg.join 54 r = none := rfl
@[go_sem] theorem take_55 (t : Nat) : cfg.take 55 t = false := rfl
@[go_sem] theorem ext_55 : cfg.ext 55 = none := rfl
@[go_sem] theorem resm_55 : (cfg.resm 55 == VM.own) = false := rfl
@[go_sem] theorem dyn_55 (r : Nat) : cfg.dyn 55 r = [] := rfl
@[go_sem] theorem join_55 (r : Nat) : cfg.join 55 r = none := rfl
@[go_sem] theorem take_56 (t : Nat) : cfg.take 56 t = false := rfl
@[go_sem] theorem ext_56 : cfg.ext 56 = none := rfl
@[go_sem] theorem resm_56 : (cfg.resm 56 == VM.own) = false := rfl
@[go_sem] theorem dyn_56 (r : Nat) : cfg.dyn 56 r = [] := rfl
@[go_sem] theorem join_56 (r : Nat) : cfg.join 56 r = none := rfl
@[go_sem] theorem take_63 (t : Nat) : cfg.take 63 t = false := rfl
@[go_sem] theorem ext_63 : cfg.ext 63 = none := rfl
@[go_sem] theorem resm_63 : (cfg.resm 63 == VM.own) = false := rfl
@[go_sem] theorem keep_63_11 : cfg.keep 63 11 = some [(0, false), (1, false), (2, false), (3, false), (9, false), (10, false)] := rfl
@[go_sem] theorem dyn_63 (r : Nat) : cfg.dyn 63 r = [] := rfl
@[go_sem] theorem join_63_0 : cfg.join 63 0 = none := rfl
@[go_sem] theorem join_63_1 : cfg.join 63 1 = none := rfl
@[go_sem] theorem join_63_3 : cfg.join 63 3 = none := rfl
@[go_sem] theorem join_63_5 : cfg.join 63 5 = none := rfl
@[go_sem] theorem join_63_7 : cfg.join 63 7 = some [(0, false), (1, false), (2, false), (3, false)] := rfl
@[go_sem] theorem join_63_8 : cfg.join 63 8 = none := rfl
@[go_sem] theorem join_63_9 : cfg.join 63 9 = none := rfl
@[go_sem] theorem join_63_10 : cfg.join 63 10 = none := rfl
@[go_sem] theorem join_63_11 : cfg.join 63 11 = none := rfl
@[go_sem] theorem join_63_12 : cfg.join 63 12 = none := rfl
@[go_sem] theorem join_63_13 : cfg.join 63 13 = none := rfl
@[go_sem] theorem join_63_14 : cfg.join 63 14 = none := rfl
@[go_sem] theorem join_63_15 : cfg.join 63 15 = none := rfl
@[go_sem] theorem join_63_16 : cfg.join 63 16 = none := rfl
@[go_sem] theorem join_63_17 : cfg.join 63 17 = none := rfl
@[go_sem] theorem join_63_18 : cfg.join 63 18 = none := rfl
@[go_sem] theorem take_74 (t : Nat) : cfg.take 74 t = false := rfl
@[go_sem] theorem ext_74 : cfg.ext 74 = none := rfl
@[go_sem] theorem resm_74 : (cfg.resm 74 == VM.own) = false := rfl
@[go_sem] theorem dyn_74 (r : Nat) : cfg.dyn 74 r = [] := rfl
@[go_sem] theorem join_74_0 : cfg.join 74 0 = none := rfl
@[go_sem] theorem join_74_1 : cfg.join 74 1 = none := rfl
@[go_sem] theorem join_74_2 : cfg.join 74 2 = none := rfl
@[go_sem] theorem join_74_4 : cfg.join 74 4 = some [(1, false), (3, false)] := rfl
@[go_sem] theorem join_74_5 : cfg.join 74 5 = none := rfl
@[go_sem] theorem join_74_9 : cfg.join 74 9 = none := rfl
@[go_sem] theorem take_75 (t : Nat) : cfg.take 75 t = false := rfl
@[go_sem] theorem ext_75 : cfg.ext 75 = none := rfl
@[go_sem] theorem resm_75 : (cfg.resm 75 == VM.own) = false := rfl
@[go_sem] theorem dyn_75 (r : Nat) : cfg.dyn 75 r = [] := rfl
@[go_sem] theorem join_75 (r : Nat) : cfg.join 75 r = none := rfl
@[go_sem] theorem take_77 (t : Nat) : cfg.take 77 t = false := rfl
@[go_sem] theorem ext_77 : cfg.ext 77 = none := rfl
@[go_sem] theorem resm_77 : (cfg.resm 77 == VM.own) = false := rfl
@[go_sem] theorem dyn_77 (r : Nat) : cfg.dyn 77 r = [] := rfl
@[go_sem] theorem join_77 (r : Nat) : cfg.join 77 r = none := rfl
@[go_sem] theorem take_78 (t : Nat) : cfg.take 78 t = false := rfl
@[go_sem] theorem ext_78 : cfg.ext 78 = none := rfl
@[go_sem] theorem resm_78 : (cfg.resm 78 == VM.own) = false := rfl
@[go_sem] theorem dyn_78 (r : Nat) : cfg.dyn 78 r = [] := rfl
@[go_sem] theorem join_78 (r : Nat) : cfg.join 78 r = none := rfl
@[go_sem] theorem take_79 (t : Nat) : cfg.take 79 t = false := rfl
@[go_sem] theorem ext_79 : cfg.ext 79 = none := rfl
@[go_sem] theorem resm_79 : (cfg.resm 79 == VM.own) = false := rfl
@[go_sem] theorem keep_79_8 : cfg.keep 79 8 = some [(2, false), (4, false), (7, false), (8, false)] := rfl
@[go_sem] theorem dyn_79 (r : Nat) : cfg.dyn 79 r = [] := rfl
@[go_sem] theorem join_79_0 : cfg.join 79 0 = none := rfl
@[go_sem] theorem join_79_1 : cfg.join 79 1 = none := rfl
@[go_sem] theorem join_79_2 : cfg.join 79 2 = none := rfl
@[go_sem] theorem join_79_4 : cfg.join 79 4 = none := rfl
@[go_sem] theorem join_79_5 : cfg.join 79 5 = none := rfl
@[go_sem] theorem join_79_7 : cfg.join 79 7 = some [(2, false), (4, false), (7, false)] := rfl
@[go_sem] theorem join_79_8 : cfg.join 79 8 = none := rfl
@[go_sem] theorem join_79_9 : cfg.join 79 9 = none := rfl
@[go_sem] theorem join_79_10 : cfg.join 79 10 = none := rfl
@[go_sem] theorem join_79_13 : cfg.join 79 13 = some [(2, false), (4, false), (7, false)] := rfl
@[go_sem] theorem join_79_17 : cfg.join 79 17 = none := rfl
@[go_sem] theorem join_79_19 : cfg.join 79 19 = some [(2, false), (7, false), (9, false), (11, false)] := rfl
@[go_sem] theorem join_79_21 : cfg.join 79 21 = none := rfl
@[go_sem] theorem join_79_22 : cfg.join 79 22 = none := rfl
@[go_sem] theorem join_79_31 : cfg.join 79 31 = none := rfl
@[go_sem] theorem take_80 (t : Nat) : cfg.take 80 t = false := rfl
@[go_sem] theorem ext_80 : cfg.ext 80 = none := rfl
@[go_sem] theorem resm_80 : (cfg.resm 80 == VM.own) = false := rfl
@[go_sem] theorem dyn_80 (r : Nat) : cfg.dyn 80 r = [] := rfl
@[go_sem] theorem join_80 (r : Nat) : cfg.join 80 r = none := rfl
@[go_sem] theorem take_81 (t : Nat) : cfg.take 81 t = false := rfl
@[go_sem] theorem ext_81 : cfg.ext 81 = none := rfl
@[go_sem] theorem resm_81 : (cfg.resm 81 == VM.own) = false := rfl
@[go_sem] theorem dyn_81 (r : Nat) : cfg.dyn 81 r = [] := rfl
@[go_sem] theorem join_81 (r : Nat) : cfg.join 81 r = none := rfl
@[go_sem] theorem take_82 (t : Nat) : cfg.take 82 t = false := rfl
@[go_sem] theorem ext_82 : cfg.ext 82 = none := rfl
@[go_sem] theorem resm_82 : (cfg.resm 82 == VM.own) = false := rfl
@[go_sem] theorem keep_82_5 : cfg.keep 82 5 = some [(4, false), (25, false), (26, false), (27, false)] := rfl
@[go_sem] theorem dyn_82 (r : Nat) : cfg.dyn 82 r = [] := rfl
@[go_sem] theorem join_82 (r : Nat) : cfg.join 82 r = none := rfl
@[go_sem] theorem take_83 (t : Nat) : cfg.take 83 t = false := rfl
@[go_sem] theorem ext_83 : cfg.ext 83 = none := rfl
@[go_sem] theorem resm_83 : (cfg.resm 83 == VM.own) = false := rfl
@[go_sem] theorem dyn_83 (r : Nat) : cfg.dyn 83 r = [] := rfl
@[go_sem] theorem join_83 (r : Nat) : cfg.join 83 r = none := rfl
@[go_sem] theorem take_85 (t : Nat) : cfg.take 85 t = false := rfl
@[go_sem] theorem ext_85 : cfg.ext 85 = none := rfl
@[go_sem] theorem resm_85 : (cfg.resm 85 == VM.own) = false := rfl
@[go_sem] theorem dyn_85 (r : Nat) : cfg.dyn 85 r = [] := rfl
@[go_sem] theorem join_85 (r : Nat) : cfg.join 85 r = none := rfl
@[go_sem] theorem take_86 (t : Nat) : cfg.take 86 t = false := rfl
@[go_sem] theorem ext_86 : cfg.ext 86 = none := rfl
@[go_sem] theorem resm_86 : (cfg.resm 86 == VM.own) = false := rfl
@[go_sem] theorem dyn_86 (r : Nat) : cfg.dyn 86 r = [] := rfl
@[go_sem] theorem join_86 (r : Nat) : cfg.join 86 r = none := rfl
@[go_sem] theorem take_87 (t : Nat) : cfg.take 87 t = false := rfl
@[go_sem] theorem ext_87 : cfg.ext 87 = none := rfl
@[go_sem] theorem resm_87 : (cfg.resm 87 == VM.own) = false := rfl
@[go_sem] theorem dyn_87 (r : Nat) : cfg.dyn 87 r = [] := rfl
@[go_sem] theorem join_87 (r : Nat) : cfg.join 87 r = none := rfl
@[go_sem] theorem take_92 (t : Nat) : cfg.take 92 t = false := rfl
@[go_sem] theorem ext_92 : cfg.ext 92 = none := rfl
@[go_sem] theorem resm_92 : (cfg.resm 92 == VM.own) = false := rfl
@[go_sem] theorem dyn_92 (r : Nat) : cfg.dyn 92 r = [] := rfl
@[go_sem] theorem join_92 (r : Nat) : cfg.join 92 r = none := rfl
@[go_sem] theorem take_93 (t : Nat) : cfg.take 93 t = false := rfl
@[go_sem] theorem ext_93 : cfg.ext 93 = none := rfl
@[go_sem] theorem resm_93 : (cfg.resm 93 == VM.own) = false := rfl
@[go_sem] theorem keep_93_5 : cfg.keep 93 5 = some [(0, false), (2, false), (5, false)] := rfl
@[go_sem] theorem dyn_93 (r : Nat) : cfg.dyn 93 r = [] := rfl
@[go_sem] theorem join_93 (r : Nat) : cfg.join 93 r = none := rfl
@[go_sem] theorem take_94 (t : Nat) : cfg.take 94 t = false := rfl
@[go_sem] theorem ext_94 : cfg.ext 94 = none := rfl
@[go_sem] theorem resm_94 : (cfg.resm 94 == VM.own) = false := rfl
@[go_sem] theorem dyn_94 (r : Nat) : cfg.dyn 94 r = [] := rfl
@[go_sem] theorem join_94 (r : Nat) : cfg.join 94 r = none := rfl
@[go_sem] theorem take_95 (t : Nat) : cfg.take 95 t = false := rfl
@[go_sem] theorem ext_95 : cfg.ext 95 = none := rfl
@[go_sem] theorem resm_95 : (cfg.resm 95 == VM.own) = false := rfl
@[go_sem] theorem keep_95_6 : cfg.keep 95 6 = some [(2, false), (4, false), (5, false), (21, false), (22, false), (23, false)] := rfl
@[go_sem] theorem dyn_95 (r : Nat) : cfg.dyn 95 r = [] := rfl
@[go_sem] theorem join_95 (r : Nat) : cfg.join 95 r = none := rfl
@[go_sem] theorem take_96 (t : Nat) : cfg.take 96 t = false := rfl
@[go_sem] theorem ext_96 : cfg.ext 96 = none := rfl
@[go_sem] theorem resm_96 : (cfg.resm 96 == VM.own) = false := rfl
@[go_sem] theorem dyn_96 (r : Nat) : cfg.dyn 96 r = [] := rfl
@[go_sem] theorem join_96 (r : Nat) : cfg.join 96 r = none := rfl
@[go_sem] theorem take_97 (t : Nat) : cfg.take 97 t = false := rfl
@[go_sem] theorem ext_97 : cfg.ext 97 = none := rfl
@[go_sem] theorem resm_97 : (cfg.resm 97 == VM.own) = false := rfl
@[go_sem] theorem keep_97_2 : cfg.keep 97 2 = some [(0, false), (2, false), (6, false), (7, false)] := rfl
@[go_sem] theorem dyn_97 (r : Nat) : cfg.dyn 97 r = [] := rfl
@[go_sem] theorem join_97 (r : Nat) : cfg.join 97 r = none := rfl
@[go_sem] theorem take_99 (t : Nat) : cfg.take 99 t = false := rfl
@[go_sem] theorem ext_99 : cfg.ext 99 = none := rfl
@[go_sem] theorem resm_99 : (cfg.resm 99 == VM.own) = false := rfl
@[go_sem] theorem dyn_99 (r : Nat) : cfg.dyn 99 r = [] := rfl
@[go_sem] theorem join_99 (r : Nat) : cfg.join 99 r = none := rfl
@[go_sem] theorem take_100 (t : Nat) : cfg.take 100 t = false := rfl
@[go_sem] theorem ext_100 : cfg.ext 100 = none := rfl
@[go_sem] theorem resm_100 : (cfg.resm 100 == VM.own) = false := rfl
@[go_sem] theorem dyn_100 (r : Nat) : cfg.dyn 100 r = [] := rfl
@[go_sem] theorem join_100 (r : Nat) : cfg.join 100 r = none := rfl
@[go_sem] theorem take_101 (t : Nat) : cfg.take 101 t = false := rfl
@[go_sem] theorem ext_101 : cfg.ext 101 = none := rfl
@[go_sem] theorem resm_101 : (cfg.resm 101 == VM.own) = false := rfl
@[go_sem] theorem dyn_101 (r : Nat) : cfg.dyn 101 r = [] := rfl
@[go_sem] theorem join_101 (r : Nat) : cfg.join 101 r = none := rfl
@[go_sem] theorem take_103 (t : Nat) : cfg.take 103 t = false := rfl
@[go_sem] theorem ext_103 : cfg.ext 103 = none := rfl
@[go_sem] theorem resm_103 : (cfg.resm 103 == VM.own) = false := rfl
@[go_sem] theorem dyn_103 (r : Nat) : cfg.dyn 103 r = [] := rfl
@[go_sem] theorem join_103 (r : Nat) : cfg.join 103 r = none := rfl
@[go_sem] theorem take_107 (t : Nat) : cfg.take 107 t = false := rfl
@[go_sem] theorem ext_107 : cfg.ext 107 = none := rfl
@[go_sem] theorem resm_107 : (cfg.resm 107 == VM.own) = false := rfl
@[go_sem] theorem dyn_107 (r : Nat) : cfg.dyn 107 r = [] := rfl
@[go_sem] theorem join_107 (r : Nat) : cfg.join 107 r = none := rfl
@[go_sem] theorem take_115 (t : Nat) : cfg.take 115 t = false := rfl
@[go_sem] theorem ext_115 : cfg.ext 115 = none := rfl
@[go_sem] theorem resm_115 : (cfg.resm 115 == VM.own) = false := rfl
@[go_sem] theorem dyn_115 (r : Nat) : cfg.dyn 115 r = [] := rfl
@[go_sem] theorem join_115_0 : cfg.join 115 0 = none := rfl
@[go_sem] theorem join_115_1 : cfg.join 115 1 = none := rfl
@[go_sem] theorem join_115_2 : cfg.join 115 2 = none := rfl
@[go_sem] theorem join_115_3 : cfg.join 115 3 = none := rfl
@[go_sem] theorem join_115_13 : cfg.join 115 13 = none := rfl
@[go_sem] theorem join_115_14 : cfg.join 115 14 = none := rfl
@[go_sem] theorem join_115_16 : cfg.join 115 16 = some [(0, false), (5, false), (6, false), (7, false)] := rfl
@[go_sem] theorem take_120 (t : Nat) : cfg.take 120 t = false := rfl
@[go_sem] theorem ext_120 : cfg.ext 120 = none := rfl
@[go_sem] theorem resm_120 : (cfg.resm 120 == VM.own) = false := rfl
@[go_sem] theorem dyn_120 (r : Nat) : cfg.dyn 120 r = [] := rfl
@[go_sem] theorem join_120 (r : Nat) : cfg.join 120 r = none := rfl
@[go_sem] theorem take_121 (t : Nat) : cfg.take 121 t = false := rfl
@[go_sem] theorem ext_121 : cfg.ext 121 = none := rfl
@[go_sem] theorem resm_121 : (cfg.resm 121 == VM.own) = false := rfl
@[go_sem] theorem dyn_121 (r : Nat) : cfg.dyn 121 r = [] := rfl
@[go_sem] theorem join_121 (r : Nat) : cfg.join 121 r = none := rfl
@[go_sem] theorem take_123 (t : Nat) : cfg.take 123 t = false := rfl
@[go_sem] theorem ext_123 : cfg.ext 123 = none := rfl
@[go_sem] theorem resm_123 : (cfg.resm 123 == VM.own) = false := rfl
@[go_sem] theorem dyn_123 (r : Nat) : cfg.dyn 123 r = [] := rfl
@[go_sem] theorem join_123_0 : cfg.join 123 0 = none := rfl
@[go_sem] theorem join_123_1 : cfg.join 123 1 = none := rfl
@[go_sem] theorem join_123_4 : cfg.join 123 4 = none := rfl
@[go_sem] theorem join_123_5 : cfg.join 123 5 = none := rfl
@[go_sem] theorem join_123_6 : cfg.join 123 6 = none := rfl
@[go_sem] theorem join_123_8 : cfg.join 123 8 = some [(0, false), (5, false), (6, false)] := rfl
@[go_sem] theorem join_123_9 : cfg.join 123 9 = none := rfl
@[go_sem] theorem join_123_10 : cfg.join 123 10 = none := rfl
@[go_sem] theorem join_123_12 : cfg.join 123 12 = none := rfl
@[go_sem] theorem join_123_13 : cfg.join 123 13 = none := rfl
@[go_sem] theorem join_123_14 : cfg.join 123 14 = none := rfl
@[go_sem] theorem join_123_15 : cfg.join 123 15 = none := rfl
@[go_sem] theorem take_124 (t : Nat) : cfg.take 124 t = false := rfl
@[go_sem] theorem ext_124 : cfg.ext 124 = none := rfl
@[go_sem] theorem resm_124 : (cfg.resm 124 == VM.own) = false := rfl
@[go_sem] theorem dyn_124 (r : Nat) : cfg.dyn 124 r = [] := rfl
@[go_sem] theorem join_124 (r : Nat) : cfg.join 124 r = none := rfl
@[go_sem] theorem take_127 (t : Nat) : cfg.take 127 t = false := rfl
@[go_sem] theorem ext_127 : cfg.ext 127 = none := rfl
@[go_sem] theorem resm_127 : (cfg.resm 127 == VM.own) = false := rfl
@[go_sem] theorem dyn_127 (r : Nat) : cfg.dyn 127 r = [] := rfl
@[go_sem] theorem join_127 (r : Nat) : cfg.join 127 r = none := rfl
@[go_sem] theorem take_128 (t : Nat) : cfg.take 128 t = false := rfl
@[go_sem] theorem ext_128 : cfg.ext 128 = none := rfl
@[go_sem] theorem resm_128 : (cfg.resm 128 == VM.own) = false := rfl
@[go_sem] theorem dyn_128 (r : Nat) : cfg.dyn 128 r = [] := rfl
@[go_sem] theorem join_128 (r : Nat) : cfg.join 128 r = none := rfl
@[go_sem] theorem take_129 (t : Nat) : cfg.take 129 t = false := rfl
@[go_sem] theorem ext_129 : cfg.ext 129 = none := rfl
@[go_sem] theorem resm_129 : (cfg.resm 129 == VM.own) = false := rfl
@[go_sem] theorem keep_129_2 : cfg.keep 129 2 = some [(0, false), (6, false), (7, false), (8, false)] := rfl
@[go_sem] theorem dyn_129 (r : Nat) : cfg.dyn 129 r = [] := rfl
@[go_sem] theorem join_129 (r : Nat) : cfg.join 129 r = none := rfl
@[go_sem] theorem take_130 (t : Nat) : cfg.take 130 t = false := rfl
@[go_sem] theorem ext_130 : cfg.ext 130 = none := rfl
@[go_sem] theorem resm_130 : (cfg.resm 130 == VM.own) = false := rfl
@[go_sem] theorem dyn_130 (r : Nat) : cfg.dyn 130 r = [] := rfl
@[go_sem] theorem join_130 (r : Nat) : cfg.join 130 r = none := rfl
@[go_sem] theorem take_133 (t : Nat) : cfg.take 133 t = false := rfl
@[go_sem] theorem ext_133 : cfg.ext 133 = none := rfl
@[go_sem] theorem resm_133 : (cfg.resm 133 == VM.own) = false := rfl
@[go_sem] theorem keep_133_6 : cfg.keep 133 6 = some [(0, false), (1, false), (5, false)] := rfl
@[go_sem] theorem dyn_133 (r : Nat) : cfg.dyn 133 r = [] := rfl
@[go_sem] theorem join_133 (r : Nat) : cfg.join 133 r = none := rfl
@[go_sem] theorem take_134 (t : Nat) : cfg.take 134 t = false := rfl
@[go_sem] theorem ext_134 : cfg.ext 134 = none := rfl
@[go_sem] theorem resm_134 : (cfg.resm 134 == VM.own) = false := rfl
@[go_sem] theorem keep_134_4 : cfg.keep 134 4 = some [(9, false), (10, false), (11, false)] := rfl
@[go_sem] theorem dyn_134 (r : Nat) : cfg.dyn 134 r = [] := rfl
@[go_sem] theorem join_134 (r : Nat) : cfg.join 134 r = none := rfl
@[go_sem] theorem take_140 (t : Nat) : cfg.take 140 t = false := rfl
@[go_sem] theorem ext_140 : cfg.ext 140 = none := rfl
@[go_sem] theorem resm_140 : (cfg.resm 140 == VM.own) = false := rfl
@[go_sem] theorem keep_140_4 : cfg.keep 140 4 = some [(0, false), (11, false), (12, false), (13, false)] := rfl
@[go_sem] theorem keep_140_7 : cfg.keep 140 7 = some [(0, false), (3, false), (11, false), (12, false), (13, false), (19, false), (20, false), (21, false)] := rfl
@[go_sem] theorem dyn_140 (r : Nat) : cfg.dyn 140 r = [] := rfl
@[go_sem] theorem join_140_0 : cfg.join 140 0 = none := rfl
@[go_sem] theorem join_140_1 : cfg.join 140 1 = none := rfl
@[go_sem] theorem join_140_3 : cfg.join 140 3 = none := rfl
@[go_sem] theorem join_140_4 : cfg.join 140 4 = none := rfl
@[go_sem] theorem join_140_5 : cfg.join 140 5 = none := rfl
@[go_sem] theorem join_140_6 : cfg.join 140 6 = none := rfl
@[go_sem] theorem join_140_7 : cfg.join 140 7 = none := rfl
@[go_sem] theorem join_140_8 : cfg.join 140 8 = none := rfl
@[go_sem] theorem join_140_9 : cfg.join 140 9 = none := rfl
@[go_sem] theorem join_140_11 : cfg.join 140 11 = none := rfl
@[go_sem] theorem join_140_12 : cfg.join 140 12 = none := rfl
@[go_sem] theorem join_140_13 : cfg.join 140 13 = some [] := rfl
@[go_sem] theorem take_141 (t : Nat) : cfg.take 141 t = false := rfl
@[go_sem] theorem ext_141 : cfg.ext 141 = none := rfl
@[go_sem] theorem resm_141 : (cfg.resm 141 == VM.own) = false := rfl
@[go_sem] theorem dyn_141 (r : Nat) : cfg.dyn 141 r = [] := rfl
@[go_sem] theorem join_141 (r : Nat) : cfg.join 141 r = none := rfl
@[go_sem] theorem take_142 (t : Nat) : cfg.take 142 t = false := rfl
@[go_sem] theorem ext_142 : cfg.ext 142 = none := rfl
@[go_sem] theorem resm_142 : (cfg.resm 142 == VM.own) = false := rfl
@[go_sem] theorem keep_142_2 : cfg.keep 142 2 = some [(0, false), (7, false), (8, false), (9, false)] := rfl
@[go_sem] theorem keep_142_5 : cfg.keep 142 5 = some [(0, false), (4, false), (7, false), (8, false), (9, false), (14, false), (15, false), (16, false)] := rfl
@[go_sem] theorem dyn_142 (r : Nat) : cfg.dyn 142 r = [] := rfl
@[go_sem] theorem join_142 (r : Nat) : cfg.join 142 r = none := rfl
@[go_sem] theorem take_149 (t : Nat) : cfg.take 149 t = false := rfl
@[go_sem] theorem ext_149 : cfg.ext 149 = none := rfl
@[go_sem] theorem resm_149 : (cfg.resm 149 == VM.own) = false := rfl
@[go_sem] theorem dyn_149 (r : Nat) : cfg.dyn 149 r = [] := rfl
@[go_sem] theorem join_149 (r : Nat) : cfg.join 149 r = none := rfl
@[go_sem] theorem take_153 (t : Nat) : cfg.take 153 t = false := rfl
@[go_sem] theorem ext_153 : cfg.ext 153 = none := rfl
@[go_sem] theorem resm_153 : (cfg.resm 153 == VM.own) = false := rfl
@[go_sem] theorem dyn_153 (r : Nat) : cfg.dyn 153 r = [] := rfl
@[go_sem] theorem join_153 (r : Nat) : cfg.join 153 r = none := rfl
@[go_sem] theorem take_154 (t : Nat) : cfg.take 154 t = false := rfl
@[go_sem] theorem ext_154 : cfg.ext 154 = none := rfl
@[go_sem] theorem resm_154 : (cfg.resm 154 == VM.own) = false := rfl
@[go_sem] theorem dyn_154 (r : Nat) : cfg.dyn 154 r = [] := rfl
@[go_sem] theorem join_154 (r : Nat) : cfg.join 154 r = none := rfl
@[go_sem] theorem take_159 (t : Nat) : cfg.take 159 t = false := rfl
@[go_sem] theorem ext_159 : cfg.ext 159 = none := rfl
@[go_sem] theorem resm_159 : (cfg.resm 159 == VM.own) = false := rfl
@[go_sem] theorem dyn_159 (r : Nat) : cfg.dyn 159 r = [] := rfl
@[go_sem] theorem join_159 (r : Nat) : cfg.join 159 r = none := rfl
@[go_sem] theorem take_160 (t : Nat) : cfg.take 160 t = false := rfl
@[go_sem] theorem ext_160 : cfg.ext 160 = none := rfl
@[go_sem] theorem resm_160 : (cfg.resm 160 == VM.own) = false := rfl
@[go_sem] theorem dyn_160 (r : Nat) : cfg.dyn 160 r = [] := rfl
@[go_sem] theorem join_160 (r : Nat) : cfg.join 160 r = none := rfl
@[go_sem] theorem take_161 (t : Nat) : cfg.take 161 t = false := rfl
@[go_sem] theorem ext_161 : cfg.ext 161 = none := rfl
@[go_sem] theorem resm_161 : (cfg.resm 161 == VM.own) = false := rfl
@[go_sem] theorem keep_161_2 : cfg.keep 161 2 = some [(0, false), (3, false), (8, false), (9, false), (10, false)] := rfl
@[go_sem] theorem dyn_161 (r : Nat) : cfg.dyn 161 r = [] := rfl
@[go_sem] theorem join_161 (r : Nat) : cfg.join 161 r = none := rfl
@[go_sem] theorem take_162_5 : cfg.take 162 5 = false := rfl
@[go_sem] theorem take_162_6 : cfg.take 162 6 = false := rfl
@[go_sem] theorem take_162_9 : cfg.take 162 9 = true := rfl
@[go_sem] theorem take_162_10 : cfg.take 162 10 = false := rfl
@[go_sem] theorem ext_162 : cfg.ext 162 = none := rfl
@[go_sem] theorem resm_162 : (cfg.resm 162 == VM.own) = false := rfl
@[go_sem] theorem dyn_162 (r : Nat) : cfg.dyn 162 r = [] := rfl
@[go_sem] theorem join_162 (r : Nat) : cfg.join 162 r = none := rfl
@[go_sem] theorem take_163 (t : Nat) : cfg.take 163 t = false := rfl
@[go_sem] theorem ext_163 : cfg.ext 163 = none := rfl
@[go_sem] theorem resm_163 : (cfg.resm 163 == VM.own) = false := rfl
@[go_sem] theorem keep_163_3 : cfg.keep 163 3 = some [(3, false), (9, false), (10, false), (11, false)] := rfl
@[go_sem] theorem dyn_163 (r : Nat) : cfg.dyn 163 r = [] := rfl
@[go_sem] theorem join_163 (r : Nat) : cfg.join 163 r = none := rfl
@[go_sem] theorem take_166 (t : Nat) : cfg.take 166 t = false := rfl
@[go_sem] theorem ext_166 : cfg.ext 166 = none := rfl
@[go_sem] theorem resm_166 : (cfg.resm 166 == VM.own) = false := rfl
@[go_sem] theorem dyn_166 (r : Nat) : cfg.dyn 166 r = [] := rfl
@[go_sem] theorem join_166 (r : Nat) : cfg.join 166 r = none := rfl
@[go_sem] theorem take_176 (t : Nat) : cfg.take 176 t = false := rfl
@[go_sem] theorem ext_176 : cfg.ext 176 = none := rfl
@[go_sem] theorem resm_176 : (cfg.resm 176 == VM.own) = false := rfl
@[go_sem] theorem dyn_176 (r : Nat) : cfg.dyn 176 r = [] := rfl
@[go_sem] theorem join_176 (r : Nat) : cfg.join 176 r = none := rfl
@[go_sem] theorem take_177 (t : Nat) : cfg.take 177 t = false := rfl
@[go_sem] theorem ext_177 : cfg.ext 177 = none := rfl
@[go_sem] theorem resm_177 : (cfg.resm 177 == VM.own) = false := rfl
@[go_sem] theorem dyn_177 (r : Nat) : cfg.dyn 177 r = [] := rfl
@[go_sem] theorem join_177 (r : Nat) : cfg.join 177 r = none := rfl
@[go_sem] theorem take_178 (t : Nat) : cfg.take 178 t = false := rfl
@[go_sem] theorem ext_178 : cfg.ext 178 = none := rfl
@[go_sem] theorem resm_178 : (cfg.resm 178 == VM.own) = false := rfl
@[go_sem] theorem dyn_178 (r : Nat) : cfg.dyn 178 r = [] := rfl
@[go_sem] theorem join_178 (r : Nat) : cfg.join 178 r = none := rfl
@[go_sem] theorem take_183 (t : Nat) : cfg.take 183 t = false := rfl
@[go_sem] theorem ext_183 : cfg.ext 183 = none := rfl
@[go_sem] theorem resm_183 : (cfg.resm 183 == VM.own) = false := rfl
@[go_sem] theorem dyn_183 (r : Nat) : cfg.dyn 183 r = [] := rfl
@[go_sem] theorem join_183 (r : Nat) : cfg.join 183 r = none := rfl
@[go_sem] theorem take_184 (t : Nat) : cfg.take 184 t = false := rfl
@[go_sem] theorem ext_184 : cfg.ext 184 = none := rfl
@[go_sem] theorem resm_184 : (cfg.resm 184 == VM.own) = false := rfl
@[go_sem] theorem dyn_184 (r : Nat) : cfg.dyn 184 r = [] := rfl
@[go_sem] theorem join_184 (r : Nat) : cfg.join 184 r = none := rfl
@[go_sem] theorem own0_26 : cfg.own0 26 = none := rfl
@[go_sem] theorem own0_67 : cfg.own0 67 = some [] := rfl
@[go_sem] theorem own0_69 : cfg.own0 69 = some [] := rfl
@[go_sem] theorem own0_72 : cfg.own0 72 = none := rfl
@[go_sem] theorem own0_86 : cfg.own0 86 = none := rfl
@[go_sem] theorem own0_124 : cfg.own0 124 = none := rfl
@[go_sem] theorem own0_152 : cfg.own0 152 = none := rfl
@[go_sem] theorem own0_184 : cfg.own0 184 = none := rfl
@[go_sem] theorem own0_203 : cfg.own0 203 = some [2] := rfl
@[go_sem] theorem own0_215 : cfg.own0 215 = none := rfl
@[go_sem] theorem own0_227 : cfg.own0 227 = some [] := rfl
end Go.Proofs.YtilmjbljkkbakaaGreatDoor
