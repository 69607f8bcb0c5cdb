/-
  A part of the proof: our library of the interpreter.
-/
import Derived.Test.YtilmjbljkkbakaaGreatDoorSc
import Derived.Test.YtilmjbljkkbakaaGreatDoorL
import Derived.WalkKit
import Derived.ProofKit
import Derived.OpenShut
import Derived.Deep.DeepHandedRow
set_option linter.unusedSimpArgs false
set_option linter.unusedVariables false
set_option linter.unusedSectionVars false
set_option linter.unnecessarySimpa false
set_option linter.deprecated false
namespace Go.Wv
/-! From a row's list of variables to the interpreter's tables. -/
theorem laid_tail {P : Program} {w : World} {x : String × DataW Unit} {l : List (String × DataW Unit)} (h : ∃ ps, DataW.LaidVars P w (x :: l) ps) : ∃ ps, DataW.LaidVars P w l ps := by
  obtain ⟨ps, g', t', cs, fuel, p, q, hg', ht', hvar, hd, hr, _⟩ := h
  exact ⟨_, hr⟩
theorem laid_strs {P : Program} {W : World} {name : String} {zs : List (List UInt8)} {rest : List (String × DataW Unit)} {g : Nat} {t e : TypeId} {n : Nat}
    (hg : P.globalNamed name = some g) (hty : (P.globals[g]?).map (·.type) = some t) (ht : P.underlying t = some (.array n e)) (he : P.underlying e = some .string) (hce : P.cellsOf e = 1) (hct : P.cellsOf t = n)
    (h : ∃ ps, DataW.LaidVars P W ((name, .agg (zs.map fun z => .lit (.string z))) :: rest) ps) : ∃ arr T fz, W.heap[g]? = some (.cells arr T fz) ∧ arr.toList = zs.map fun z => Value.string (bs z) := by
  obtain ⟨ps, g', t', cs, fuel, p, q, hg', ht', hvar, hd, _, _⟩ := h
  obtain rfl := Option.some.inj (hg.symm.trans hg')
  obtain rfl := Option.some.inj (hty.symm.trans ht')
  have hc := cells_of_strs ht he hce hct hd
  unfold World.var? at hvar
  rw [hg] at hvar
  simp only [Option.bind_some] at hvar
  split at hvar
  · rename_i arr T fz hw
    refine ⟨_, _, _, hw, ?_⟩
    have := Option.some.inj hvar
    rw [this]
    exact hc
  · cases hvar
theorem strs_tab {g : G} {zs : List (List UInt8)} {arr : Array Value} (h : arr.toList = zs.map fun z => Value.string (bs z)) :
    (zs.map En.str.enc).length ≤ arr.size ∧ ∀ (j : Nat) c, (zs.map En.str.enc)[j]? = some c → ∃ u, arr[j]? = some u ∧ RepC g c u ∧ ownC c = false ∧ okC 0 c = true := strs_cells (g := g) h
theorem bs_of (s : ByteArray) : bs s.data.toList = s := by
  cases s; rfl
/-- the cells of a table of literals -/
def tabInts (_ : Program) (_ : Nat) (d : DataW Unit) : Array Value := match d with
  | .agg ds => (ds.map fun
    | .lit (.int k n) => Value.int k n
    | .lit (.string s) => Value.string (bs s)
    | _ => .nilFunc).toArray
  | _ => #[]
theorem Vc_imp {C : Cfg} {g : FuncId} {args : List VV} {B : List Blk} {R : VV → List Blk → Prop} (h : Vc C g args B R) : Vc C g args B R := h
end Go.Wv
