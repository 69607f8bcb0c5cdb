/-
  A part of the proof: our library of the interpreter.
-/
import Derived.Test.YtilmjbljkkbakaaGreatDoorJ
import Derived.Room.Shelf.Join48
set_option linter.unusedSimpArgs false
set_option linter.unusedVariables false
set_option linter.unusedSectionVars false
set_option linter.unnecessarySimpa false
set_option linter.deprecated false
namespace Go.Wv
open Go.Shelf Go.Proofs
theorem join_ok {C : Cfg} {ρ : Ren} {fn : Func} {c : Code} (L : Lays.n156 C.P ρ) (X : Builder.Extra C.P ρ) (hf : C.P.funcs[ρ.f 156]? = some fn) (hb : fn.body = some c) (hn : (fn.name == "runtime.NumGoroutine") = false)
    {fl : Fl} {ss : List ByteArray} {sep : ByteArray} {B : List Blk} (hne : ss ≠ []) (hN : ss.length ≤ 140737488355328) (hlen : (Lib.join (ss.map (·.data.toList)) sep.data.toList).length ≤ 281474976710656) :
    CallOk C (ρ.f 156) [.sl fl (ss.map fun s => VV.lit (.string s)), .lit (.string sep)] B (.lit (.string ⟨(Lib.join (ss.map (·.data.toList)) sep.data.toList).toArray⟩)) B := by
  refine callOk_lit hf hb hn rfl fun g us w hG _ hrep hsto => ?_
  cases hrep with
  | cons h1 h2 =>
    cases h2 with
    | cons h3 h4 =>
      cases h4
      obtain ⟨bk, o, cp, rfl, k1, k2, k3⟩ := RepSl.strs hsto h1 hne
      obtain ⟨rfl, _⟩ := h3
      refine (Any.strings_Join_48 L X bk o cp ss sep w k3 k2 hN k1 hlen).mono ?_
      rintro e w' ⟨rfl, hbel⟩
      exact ⟨rfl, ⟨hbel.os, hbel.output⟩, hbel.size, hbel.block⟩
end Go.Wv
