/-
  A part of the proof: lemmas.
-/
import Derived.Test.YtilmjbljkkbakaaDoorTypesc
import Derived.Test.YtilmjbljkkbakaaDoorSb
import Derived.Test.YtilmjbljkkbakaaDoorHintsc
import Derived.Test.YtilmjbljkkbakaaDoorFunsc
set_option linter.unusedSimpArgs false
set_option linter.unusedVariables false
set_option linter.unusedSectionVars false
set_option linter.unnecessarySimpa false
set_option linter.deprecated false
/-! The program's configuration. -/
namespace Go.Proofs.YtilmjbljkkbakaaDoor
open Go.Wv
def tab0V : List VV := tab0.map En.str.enc
@[go_sem] theorem tab0V_get (j : Nat) : tab0V[j]? = (tab0[j]?).map En.str.enc := List.getElem?_map
@[go_sem] theorem tab0V_len : tab0V.length = 15 := by kernel_rfl
@[go_sem] theorem tab0V_take : List.take 15 tab0V = tab0V := by kernel_rfl
@[go_sem] theorem tab0V_view : tab0V.map viewC = tab0V := by kernel_rfl
@[go_sem] theorem tab0V_own : tab0V.any ownC = false := by kernel_rfl
@[go_sem] theorem tab0V_ok (n : Nat) : tab0V.all (okC n) = true := List.all_eq_true.2 fun x hx => (by obtain ⟨y, _, rfl⟩ := List.mem_map.1 hx; rfl)
@[go_sem] theorem tab0V_fz (B : List Blk) : freezeL B tab0V = some (tab0V, B) := freezeL_lits (by kernel_rfl)
@[go_sem] theorem tab0V_at {k : IntKind} {i : Int} : vindex Tryd.prog 95 (.agg tab0V) (.lit (.int k i)) = (idx tab0 i).map En.str.enc := vindex_tab En.str (by kernel_rfl)
def vGlob : Nat → Option (List VV)
  | 0 => some tab0V
  | _ => none
def vExt : FuncId → Option (List VV → Option VV)
  | 43 => some joinX
  | _ => none
noncomputable def cfg : Cfg := { P := Tryd.prog, keep := vKeep, join := vJoin, own0 := vOwn0, cut := vCut, take := vTake, argm := vArgm, resm := vResm, raw := fun _ => false, pure := vPure, glob := vGlob, ext := vExt }
@[go_sem] theorem glob_0 : cfg.glob 0 = some tab0V := rfl
@[go_sem] theorem cfg_P : cfg.P = Tryd.prog := rfl
@[go_sem] theorem cfg_raw (g : Nat) : cfg.raw g = false := rfl
end Go.Proofs.YtilmjbljkkbakaaDoor
