/-
  A part of the proof: lemmas.
-/
import Derived.Test.YtilmjbljkkbakaaDoorV0
import Derived.Test.YtilmjbljkkbakaaDoorProg
set_option linter.unusedSimpArgs false
set_option linter.unusedVariables false
set_option linter.unusedSectionVars false
set_option linter.unnecessarySimpa false
set_option linter.deprecated false
namespace Go.Proofs.YtilmjbljkkbakaaDoor
open Go.Wv
def vTake : FuncId → Nat → Bool
  | 6, 45 => true
  | 9, 12 => true
  | 11, 40 => true
  | 13, 12 => true
  | 13, 29 => true
  | 22, 12 => true
  | 27, 12 => true
  | 40, 9 => true
  | 67, 12 => true
  | 81, 27 => true
  | 86, 95 => true
  | _, _ => false
def vArgm : FuncId → Nat → VM
  | 86, 0 => .own
  | _, _ => .view
def vResm : FuncId → VM
  | 13 => .own
  | _ => .view
def vPure : FuncId → Bool
  | 2 => true
  | 3 => true
  | 4 => true
  | 5 => true
  | 6 => true
  | 7 => true
  | 8 => true
  | 9 => true
  | 10 => true
  | 11 => true
  | 12 => true
  | 13 => true
  | 14 => true
  | 15 => true
  | 16 => true
  | 18 => true
  | 21 => true
  | 22 => true
  | 23 => true
  | 26 => true
  | 27 => true
  | 28 => true
  | 29 => true
  | 30 => true
  | 31 => true
  | 33 => true
  | 37 => true
  | 41 => true
  | 42 => true
  | 43 => true
  | 44 => true
  | 45 => true
  | 46 => true
  | 49 => true
  | 52 => true
  | 53 => true
  | 54 => true
  | 55 => true
  | 56 => true
  | 57 => true
  | 58 => true
  | 60 => true
  | 61 => true
  | 62 => true
  | 65 => true
  | 69 => true
  | 70 => true
  | 71 => true
  | 72 => true
  | 73 => true
  | 75 => true
  | 76 => true
  | 77 => true
  | 79 => true
  | 82 => true
  | 83 => true
  | 84 => true
  | 85 => true
  | 86 => true
  | 89 => true
  | 90 => true
  | 91 => true
  | 92 => true
  | 93 => true
  | 94 => true
  | 95 => true
  | 119 => true
  | _ => false
def vKeep : FuncId → Nat → Option (List (Nat × Bool))
  | 6, 3 => some [(5, false), (6, false)]
  | 8, 4 => some [(1, false), (13, false), (14, false), (15, false)]
  | 9, 3 => some [(3, false), (6, false), (7, false), (8, false)]
  | 11, 6 => some [(7, false), (8, false), (9, false)]
  | 12, 4 => some [(1, false), (13, false), (14, false), (15, false)]
  | 13, 3 => some [(3, false), (6, false), (7, false), (8, false)]
  | 16, 4 => some [(0, false), (13, false), (14, false), (15, false)]
  | 17, 2 => some [(0, false), (1, false), (5, false)]
  | 20, 6 => some [(0, false), (1, false), (5, false)]
  | 21, 4 => some [(9, false), (10, false), (11, false)]
  | 22, 3 => some [(3, false), (6, false), (7, false), (8, false)]
  | 25, 7 => some [(0, false), (2, false), (3, false), (4, false)]
  | 26, 4 => some [(0, false), (1, false), (12, false), (13, false)]
  | 27, 3 => some [(3, false), (6, false), (7, false), (8, false)]
  | 30, 1 => some [(0, false), (1, false)]
  | 32, 5 => some [(0, false), (2, false), (5, false)]
  | 34, 6 => some [(2, false), (4, false), (5, false), (21, false), (22, false), (23, false)]
  | 36, 2 => some [(0, false), (2, false), (6, false), (7, false)]
  | 39, 2 => some [(0, false), (3, false), (8, false), (9, false), (10, false)]
  | 41, 3 => some [(3, false), (9, false), (10, false), (11, false)]
  | 43, 12 => some [(0, false), (1, false), (5, false), (39, false), (40, false), (41, false)]
  | 43, 22 => some [(1, false), (8, false), (63, false), (64, false), (65, false)]
  | 46, 4 => some [(2, false), (15, false), (16, false), (17, false)]
  | 52, 4 => some [(0, false), (11, false), (12, false), (13, false)]
  | 52, 7 => some [(0, false), (3, false), (11, false), (12, false), (13, false), (19, false), (20, false), (21, false)]
  | 55, 2 => some [(0, false), (7, false), (8, false), (9, false)]
  | 55, 5 => some [(0, false), (4, false), (7, false), (8, false), (9, false), (14, false), (15, false), (16, false)]
  | 61, 2 => some [(0, false), (6, false), (7, false), (8, false)]
  | 85, 1 => some [(0, false), (1, false), (4, false)]
  | 86, 11 => some [(0, false), (1, false), (3, false), (4, false), (10, false), (11, false), (12, false), (13, false), (14, false), (15, false), (16, false)]
  | 86, 18 => some [(0, false), (1, false), (3, false), (4, false), (10, false), (11, false), (12, false), (13, false), (17, false)]
  | _, _ => none
def vJoin : FuncId → Nat → Option (List (Nat × Bool))
  | 16, 9 => some [(0, false)]
  | 22, 7 => some [(3, false)]
  | 25, 6 => some [(0, false), (2, false), (3, false)]
  | 25, 11 => some [(0, false), (2, false), (3, false)]
  | 25, 18 => some [(0, false), (2, false), (3, false)]
  | 25, 20 => some [(0, false), (2, false), (3, false)]
  | 28, 16 => some [(0, false), (5, false), (6, false), (7, false)]
  | 42, 4 => some [(1, false), (3, false)]
  | 42, 6 => some [(1, false), (3, false)]
  | 42, 8 => some [(1, false), (3, false)]
  | 52, 13 => some []
  | 79, 8 => some [(0, false), (5, false), (6, false)]
  | _, _ => none
def vOwn0 : TypeId → Option (List Nat)
  | 55 => some [2]
  | 67 => some []
  | 70 => some []
  | 74 => some []
  | 84 => some []
  | _ => none
def vCut : FuncId → Nat → Option (List Nat)
  | 6, 4 => some [0, 1, 3, 7, 0, 16, 48, 112, 240, 511]
  | 7, 9 => some [0, 1, 3, 7, 0, 16, 48, 112, 15, 511, 1023]
  | 8, 6 => some [0, 0, 0, 6, 14, 31]
  | 11, 12 => some [0, 1, 3, 7, 0, 16, 63]
  | 11, 14 => some [0, 0, 2, 6, 14, 1, 63, 127]
  | 12, 6 => some [0, 1, 0, 0, 12, 28, 60, 127, 255, 511, 1023, 511, 511, 6655, 14847, 31231, 65535, 131071, 262143, 524287, 1048575, 524287, 524287, 6815743, 15204351, 31981567, 67108863, 134217727, 268435455, 536870911, 1073741823, 536870911, 536870911, 6979321855, 15569256447, 32749125631, 68719476735, 137438953471, 274877906943, 549755813887, 1099511627775, 2199023255551, 1099511627775, 1099511627775, 14293651161087, 31885837205503, 67070209294335, 140737488355327, 281474976710655, 562949953421311]
  | 13, 5 => some [0, 0, 2, 0, 8, 24, 0, 64, 0, 256, 824, 0, 2048, 8190, 16382, 32767, 65535]
  | 17, 2 => some [0, 1, 3, 7, 0, 16, 48, 112, 240, 511, 1023, 2047, 2047, 6143, 14335, 30719, 2047, 67583, 198655, 460799, 1046527, 2097151, 4194303]
  | 17, 4 => some [0, 1, 3, 7, 0, 0, 32, 96, 224, 511, 1023]
  | 19, 1 => some [0, 1, 3, 7, 0, 16, 48, 112, 255, 511]
  | 24, 1 => some [0, 1, 3, 7, 0, 16, 48, 112, 240, 511, 1023, 2047, 4095, 8191, 16383, 2047, 34815, 100351, 231423, 524287, 1048575, 2047, 2099199, 8388607, 16777215]
  | 26, 6 => some [0, 0, 3, 7, 0, 0, 48, 112, 255]
  | 28, 16 => some [0, 0, 2, 0, 15, 31, 0, 64, 223, 511, 1023, 0, 0, 4096, 0, 16384, 63967, 131071, 262143]
  | 30, 3 => some [0, 1, 3, 7, 15, 15, 47, 127, 15, 271, 783, 2047, 4095]
  | 32, 5 => some [0, 1, 3, 7, 15, 0, 32, 96, 224, 480, 1023, 2047, 4095, 8191, 16383, 32767, 4095, 69631, 200703, 462847, 1048575, 2097151, 4194303, 8388607, 16777215, 33554431, 67108863, 134217727, 16777215, 285212671, 822083583, 1895825407, 4043309055, 8589934591, 17179869183, 34359738367]
  | 35, 3 => some [0, 1, 3, 7, 0, 16, 48, 112, 240, 511]
  | 36, 4 => some [0, 1, 3, 7, 0, 16, 48, 112, 255, 0, 1023]
  | 40, 1 => some [0, 0, 2, 6, 14, 0, 32, 126, 255, 511, 1023]
  | 41, 9 => some [0, 0, 0, 0, 12, 28, 0, 0, 128, 448, 960, 1984, 4092, 8191, 16383]
  | 47, 1 => some [0, 1, 3, 7, 0, 16, 48, 112, 255, 511, 1023, 1023, 1023, 2047, 12287, 32767]
  | 50, 1 => some [0, 1, 3, 7, 0, 16, 48, 112, 240, 511]
  | 50, 4 => some [0, 1, 3, 7, 0, 16, 48, 112, 255, 511, 0, 2047]
  | 51, 1 => some [0, 1, 3, 7, 0, 16, 48, 112, 240, 511, 1023, 2047, 4095, 8191, 16383, 2047, 34815, 100351, 231423, 524287, 1048575, 2097151, 4194303, 8388607]
  | 51, 4 => some [0, 1, 3, 7, 0, 16, 48, 112, 255, 511, 1023, 2047]
  | 66, 3 => some [0, 1, 3, 7, 15, 0, 32, 96, 224, 480, 1023, 0, 4095]
  | 68, 1 => some [0, 1, 3, 7, 15, 0, 32, 96, 224, 480, 1023, 2047]
  | 74, 1 => some [0, 1, 3, 7, 0, 16, 48, 112, 240, 511]
  | 74, 2 => some [0, 1, 3, 7, 0, 16, 48, 112, 255, 511, 1023]
  | 81, 0 => some [0, 1, 3, 7, 15, 31, 0, 127, 255, 0, 512, 1536, 3584, 7680, 16383, 32767]
  | 85, 7 => some [0, 0, 2, 0, 0, 16, 0, 64, 192, 0, 512, 455, 2503, 8191, 16383]
  | 85, 8 => some [0, 0, 2, 0, 0, 16, 0, 64, 192, 0, 512, 455, 2503, 8191, 16383]
  | 85, 9 => some [0, 0, 2, 0, 0, 16, 0, 64, 192, 0, 512, 455, 2503, 8191, 16383]
  | 85, 10 => some [0, 0, 2, 0, 0, 16, 0, 64, 192, 0, 512, 455, 2503, 8191, 16383]
  | 85, 17 => some [0, 0, 2, 0, 0, 16, 0, 64, 192, 0, 512, 455, 2503, 8191, 16383]
  | 85, 18 => some [0, 0, 2, 0, 0, 16, 0, 64, 192, 0, 512, 455, 2503, 8191, 16383]
  | 85, 23 => some [0, 0, 2, 0, 0, 16, 0, 64, 192, 0, 512, 455, 2503, 8191, 16383]
  | _, _ => none
end Go.Proofs.YtilmjbljkkbakaaDoor
