/-
  A part of the proof: lemmas.
-/
import Derived.Test.YtilmjbljkkbakaaDoorJ2
import Derived.Test.YtilmjbljkkbakaaDoorProg
import Derived.KernelRfl
set_option linter.unusedSimpArgs false
set_option linter.unusedVariables false
set_option linter.unusedSectionVars false
set_option linter.unnecessarySimpa false
set_option linter.deprecated false
namespace Go.Proofs.YtilmjbljkkbakaaDoor
open Go.Wv Go.Shelf Go.Proofs
def joinRen : Ren where
  f := fun x => match x with
    | 156 => 43
    | 165 => 66
    | 166 => 67
    | 169 => 68
    | 240 => 80
    | 241 => 81
    | 276 => 87
    | 277 => 88
    | n => n
  t := fun x => match x with
    | 31 => 81
    | 9 => 9
    | 3 => 3
    | 4 => 4
    | 0 => 0
    | 20 => 20
    | 72 => 99
    | 76 => 103
    | 70 => 97
    | 37 => 94
    | 75 => 102
    | 127 => 110
    | 164 => 117
    | 5 => 5
    | 80 => 43
    | n => n
  g := fun n => n
theorem joinLays : Lays.n156 Tryd.prog joinRen where
  mixed := by kernel_rfl
  f156 := Eq.trans Tryd.func43 (congrArg some (by kernel_rfl))
  f165 := Eq.trans Tryd.func66 (congrArg some (by kernel_rfl))
  f166 := Eq.trans Tryd.func67 (congrArg some (by kernel_rfl))
  f169 := Eq.trans Tryd.func68 (congrArg some (by kernel_rfl))
  f240 := Eq.trans Tryd.func80 (congrArg some (by kernel_rfl))
  f241 := Eq.trans Tryd.func81 (congrArg some (by kernel_rfl))
  f276 := Eq.trans Tryd.func87 (congrArg some (by kernel_rfl))
  f277 := Eq.trans Tryd.func88 (congrArg some (by kernel_rfl))
  t0 := Tryd.underlying0
  a0 := Tryd.isAgg0
  z0 := Tryd.sizeOf0
  v0 := Tryd.zeroValue0
  t3 := Tryd.underlying3
  a3 := Tryd.isAgg3
  z3 := Tryd.sizeOf3
  v3 := Tryd.zeroValue3
  t4 := Tryd.underlying4
  a4 := Tryd.isAgg4
  z4 := Tryd.sizeOf4
  v4 := Tryd.zeroValue4
  t9 := Tryd.underlying9
  a9 := Tryd.isAgg9
  z9 := Tryd.sizeOf9
  v9 := Tryd.zeroValue9
  t20 := Tryd.underlying20
  a20 := Tryd.isAgg20
  z20 := Tryd.sizeOf20
  v20 := Tryd.zeroValue20
  t31 := Tryd.underlying81
  a31 := Tryd.isAgg81
  z31 := Tryd.sizeOf81
  v31 := Tryd.zeroValue81
  t37 := Tryd.underlying94
  a37 := Tryd.isAgg94
  z37 := Tryd.sizeOf94
  v37 := Tryd.zeroValue94
  t70 := Tryd.underlying97
  a70 := Tryd.isAgg97
  z70 := Tryd.sizeOf97
  v70 := Tryd.zeroValue97
  t72 := Tryd.underlying99
  a72 := Tryd.isAgg99
  z72 := Tryd.sizeOf99
  v72 := Tryd.zeroValue99
  t75 := Tryd.underlying102
  a75 := Tryd.isAgg102
  z75 := Tryd.sizeOf102
  v75 := Tryd.zeroValue102
  t76 := Tryd.underlying103
  a76 := Tryd.isAgg103
  z76 := Tryd.sizeOf103
  v76 := Tryd.zeroValue103
  t127 := Tryd.underlying110
  a127 := Tryd.isAgg110
  z127 := Tryd.sizeOf110
  v127 := Tryd.zeroValue110
  t164 := Tryd.underlying117
  a164 := Tryd.isAgg117
  z164 := Tryd.sizeOf117
  v164 := Tryd.zeroValue117

theorem joinExtra : Builder.Extra Tryd.prog joinRen where
  sizeBuilder := by kernel_rfl
  liesBuilder := by kernel_rfl
  t5 := Tryd.underlying5
  a5 := Tryd.isAgg5
  z5 := Tryd.sizeOf5
  v5 := Tryd.zeroValue5
  infoByte := by kernel_rfl
  cellsByte := by kernel_rfl
  sizeByte := by kernel_rfl
  neB5 := by decide
end Go.Proofs.YtilmjbljkkbakaaDoor
