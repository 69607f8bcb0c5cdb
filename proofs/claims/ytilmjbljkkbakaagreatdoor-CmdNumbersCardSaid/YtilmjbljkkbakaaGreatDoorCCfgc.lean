/-
  A part of the proof: lemmas.
-/
import Derived.Test.YtilmjbljkkbakaaGreatDoorCTypesc
import Derived.Test.YtilmjbljkkbakaaGreatDoorSb
import Derived.Test.YtilmjbljkkbakaaGreatDoorCHintsc
import Derived.Test.YtilmjbljkkbakaaGreatDoorCFunsc
set_option linter.unusedSimpArgs false
set_option linter.unusedVariables false
set_option linter.unusedSectionVars false
set_option linter.unnecessarySimpa false
set_option linter.deprecated false
/-! The program's configuration. -/
namespace Go.Proofs.YtilmjbljkkbakaaGreatDoor
open Go.Wv
def tab1V : List VV := tab1.map En.str.enc
@[go_sem] theorem tab1V_get (j : Nat) : tab1V[j]? = (tab1[j]?).map En.str.enc := List.getElem?_map
@[go_sem] theorem tab1V_len : tab1V.length = 26 := by kernel_rfl
@[go_sem] theorem tab1V_take : List.take 26 tab1V = tab1V := by kernel_rfl
@[go_sem] theorem tab1V_view : tab1V.map viewC = tab1V := by kernel_rfl
@[go_sem] theorem tab1V_own : tab1V.any ownC = false := by kernel_rfl
@[go_sem] theorem tab1V_ok (n : Nat) : tab1V.all (okC n) = true := List.all_eq_true.2 fun x hx => (by obtain ⟨y, _, rfl⟩ := List.mem_map.1 hx; rfl)
@[go_sem] theorem tab1V_fz (B : List Blk) : freezeL B tab1V = some (tab1V, B) := freezeL_lits (by kernel_rfl)
@[go_sem] theorem tab1V_at {k : IntKind} {i : Int} : vindex Tryz.prog 72 (.agg tab1V) (.lit (.int k i)) = (idx tab1 i).map En.str.enc := vindex_tab En.str (by kernel_rfl)
def tab2V : List VV := tab2.map En.str.enc
@[go_sem] theorem tab2V_get (j : Nat) : tab2V[j]? = (tab2[j]?).map En.str.enc := List.getElem?_map
@[go_sem] theorem tab2V_len : tab2V.length = 4 := by kernel_rfl
@[go_sem] theorem tab2V_take : List.take 4 tab2V = tab2V := by kernel_rfl
@[go_sem] theorem tab2V_view : tab2V.map viewC = tab2V := by kernel_rfl
@[go_sem] theorem tab2V_own : tab2V.any ownC = false := by kernel_rfl
@[go_sem] theorem tab2V_ok (n : Nat) : tab2V.all (okC n) = true := List.all_eq_true.2 fun x hx => (by obtain ⟨y, _, rfl⟩ := List.mem_map.1 hx; rfl)
@[go_sem] theorem tab2V_fz (B : List Blk) : freezeL B tab2V = some (tab2V, B) := freezeL_lits (by kernel_rfl)
@[go_sem] theorem tab2V_at {k : IntKind} {i : Int} : vindex Tryz.prog 185 (.agg tab2V) (.lit (.int k i)) = (idx tab2 i).map En.str.enc := vindex_tab En.str (by kernel_rfl)
def tab3V : List VV := tab3.map En.str.enc
@[go_sem] theorem tab3V_get (j : Nat) : tab3V[j]? = (tab3[j]?).map En.str.enc := List.getElem?_map
@[go_sem] theorem tab3V_len : tab3V.length = 15 := by kernel_rfl
@[go_sem] theorem tab3V_take : List.take 15 tab3V = tab3V := by kernel_rfl
@[go_sem] theorem tab3V_view : tab3V.map viewC = tab3V := by kernel_rfl
@[go_sem] theorem tab3V_own : tab3V.any ownC = false := by kernel_rfl
@[go_sem] theorem tab3V_ok (n : Nat) : tab3V.all (okC n) = true := List.all_eq_true.2 fun x hx => (by obtain ⟨y, _, rfl⟩ := List.mem_map.1 hx; rfl)
@[go_sem] theorem tab3V_fz (B : List Blk) : freezeL B tab3V = some (tab3V, B) := freezeL_lits (by kernel_rfl)
@[go_sem] theorem tab3V_at {k : IntKind} {i : Int} : vindex Tryz.prog 196 (.agg tab3V) (.lit (.int k i)) = (idx tab3 i).map En.str.enc := vindex_tab En.str (by kernel_rfl)
def tabF25V : List VV := tabF25.map En.str.enc
@[go_sem] theorem tabF25V_get (j : Nat) : tabF25V[j]? = (tabF25[j]?).map En.str.enc := List.getElem?_map
@[go_sem] theorem tabF25V_len : tabF25V.length = 26 := by kernel_rfl
@[go_sem] theorem tabF25V_take : List.take 26 tabF25V = tabF25V := by kernel_rfl
@[go_sem] theorem tabF25V_view : tabF25V.map viewC = tabF25V := by kernel_rfl
@[go_sem] theorem tabF25V_own : tabF25V.any ownC = false := by kernel_rfl
@[go_sem] theorem tabF25V_ok (n : Nat) : tabF25V.all (okC n) = true := List.all_eq_true.2 fun x hx => (by obtain ⟨y, _, rfl⟩ := List.mem_map.1 hx; rfl)
@[go_sem] theorem tabF25V_fz (B : List Blk) : freezeL B tabF25V = some (tabF25V, B) := freezeL_lits (by kernel_rfl)
@[go_sem] theorem tabF25V_at {k : IntKind} {i : Int} : vindex Tryz.prog 72 (.agg tabF25V) (.lit (.int k i)) = (idx tabF25 i).map En.str.enc := vindex_tab En.str (by kernel_rfl)
theorem tabF25V_def : tabF25V = [.lit (.string (bs [])), .lit (.string (bs [108, 111, 97, 100])), .lit (.string (bs [105, 109, 112, 111, 114, 116])), .lit (.string (bs [101, 120, 112, 111, 114, 116])), .lit (.string (bs [115, 104, 111, 119])), .lit (.string (bs [98, 114, 101, 97, 107, 115])), .lit (.string (bs [119, 97, 116, 99, 104, 101, 115])), .lit (.string (bs [98, 114, 97, 110, 99, 104, 101, 115])), .lit (.string (bs [99, 111, 118, 101, 114])), .lit (.string (bs [108, 105, 110, 116])), .lit (.string (bs [115, 116, 101, 112])), .lit (.string (bs [98, 97, 99, 107])), .lit (.string (bs [114, 117, 110])), .lit (.string (bs [114, 98, 97, 99, 107])), .lit (.string (bs [106, 117, 109, 112])), .lit (.string (bs [116, 105, 99, 107])), .lit (.string (bs [98, 114, 97, 110, 99, 104])), .lit (.string (bs [117, 110, 98, 114, 101, 97, 107])), .lit (.string (bs [101, 110, 97, 98, 108, 101])), .lit (.string (bs [100, 105, 115, 97, 98, 108, 101])), .lit (.string (bs [117, 110, 119, 97, 116, 99, 104])), .lit (.string (bs [100, 105, 102, 102])), .lit (.string (bs [99, 97, 112, 115])), .lit (.string (bs [115, 101, 110, 100])), .lit (.string (bs [98, 114, 101, 97, 107])), .lit (.string (bs [119, 97, 116, 99, 104]))] := by kernel_rfl
def vGlob : Nat → Option (List VV)
  | 1 => some tab1V
  | 2 => some tab2V
  | 3 => some tab3V
  | _ => none
def vFix : Nat → Option (Array Value)
  | 5 => some (Lib.pow10Tab.map fun z => Value.int .u64 z).toArray
  | _ => none
def vExt : FuncId → Option (List VV → Option VV)
  | 73 => some itoaX
  | 76 => some joinX
  | 106 => some countX
  | 119 => some indexX
  | _ => none
noncomputable def cfg : Cfg := { P := Tryz.prog, keep := vKeep, join := vJoin, own0 := vOwn0, cut := vCut, take := vTake, argm := vArgm, resm := vResm, raw := fun _ => false, pure := vPure, glob := vGlob, fix := vFix, dyn := vDyn, ext := vExt }
@[go_sem] theorem glob_1 : cfg.glob 1 = some tab1V := rfl
@[go_sem] theorem glob_2 : cfg.glob 2 = some tab2V := rfl
@[go_sem] theorem glob_3 : cfg.glob 3 = some tab3V := rfl
@[go_sem] theorem cfg_P : cfg.P = Tryz.prog := rfl
@[go_sem] theorem cfg_raw (g : Nat) : cfg.raw g = false := rfl
end Go.Proofs.YtilmjbljkkbakaaGreatDoor
