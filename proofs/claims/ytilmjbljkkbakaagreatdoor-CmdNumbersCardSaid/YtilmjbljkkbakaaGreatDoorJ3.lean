/-
  A part of the proof: our library of the interpreter.
-/
import Derived.Test.YtilmjbljkkbakaaGreatDoorJ2
import Derived.Test.YtilmjbljkkbakaaGreatDoorE
set_option linter.unusedSimpArgs false
set_option linter.unusedVariables false
set_option linter.unusedSectionVars false
set_option linter.unnecessarySimpa false
set_option linter.deprecated false
/-! strings.Join as a function that is not stepped through -/
namespace Go.Wv
open Go.Shelf Go.Proofs
theorem joinX_ok {C : Cfg} {ρ : Ren} {fn : Func} {c : Code} (L : Lays.n156 C.P ρ) (X : Builder.Extra C.P ρ) (hf : C.P.funcs[ρ.f 156]? = some fn) (hb : fn.body = some c) (hn : (fn.name == "runtime.NumGoroutine") = false)
    {vs : List VV} {v : VV} {B : List Blk} (h : joinX vs = some v) : CallOk C (ρ.f 156) vs B v B := by
  unfold joinX at h
  split at h
  · rename_i f cs sep
    split at h
    · rename_i ss hs
      split at h
      · rename_i hc
        cases h
        rw [strCells_eq hs]
        exact join_ok L X hf hb hn (by intro e; rw [e] at hc; simp at hc) hc.2.1 hc.2.2
      · cases h
    · cases h
  · cases h
end Go.Wv
