/-
  A part of the proof: lemmas.
-/
import Derived.Test.YtilmjbljkkbakaaGreatDoorCards
import Derived.Test.YtilmjbljkkbakaaGreatDoorTie
import Derived.Test.YtilmjbljkkbakaaGreatDoorK2
import Derived.Test.YtilmjbljkkbakaaGreatDoorCCfgc
import Derived.Test.YtilmjbljkkbakaaGreatDoorCJoinc
import Derived.Test.YtilmjbljkkbakaaGreatDoorJ3
import Derived.Test.YtilmjbljkkbakaaGreatDoorJ4
set_option linter.unusedSimpArgs false
set_option linter.unusedVariables false
set_option linter.unusedSectionVars false
set_option linter.unnecessarySimpa false
set_option linter.deprecated false
/-! What the rows of package cmd share: the tables, the contracts, a world for the witness. -/
namespace Go.Proofs.YtilmjbljkkbakaaGreatDoor.cmdRow
open Go.ChangeShapes Go.WideShapes Go.ChangeAt Go.RowKit Go.ChangeMaps Go.Wv

theorem own : ownKnob Tryz.prog.godebug = none := by kernel_rfl
theorem g1 : Tryz.prog.globalNamed "whirligig/cmd.words" = some 1 := by kernel_rfl
theorem g2 : Tryz.prog.globalNamed "whirligig/brk.words" = some 2 := by kernel_rfl
theorem g3 : Tryz.prog.globalNamed "whirligig/tok.signs" = some 3 := by kernel_rfl
theorem g5 : Tryz.prog.globalNamed "internal/strconv.uint64pow10" = some 5 := by kernel_rfl
theorem ty1 : (Tryz.prog.globals[1]?).map (·.type) = some 72 := by kernel_rfl
theorem ty2 : (Tryz.prog.globals[2]?).map (·.type) = some 185 := by kernel_rfl
theorem ty3 : (Tryz.prog.globals[3]?).map (·.type) = some 196 := by kernel_rfl
theorem ty5 : (Tryz.prog.globals[5]?).map (·.type) = some 238 := by kernel_rfl
theorem cells72 : Tryz.prog.cellsOf 72 = 26 := by kernel_rfl
theorem cells185 : Tryz.prog.cellsOf 185 = 4 := by kernel_rfl
theorem cells196 : Tryz.prog.cellsOf 196 = 15 := by kernel_rfl
theorem cells238 : Tryz.prog.cellsOf 238 = 20 := by kernel_rfl
theorem cells216 : Tryz.prog.cellsOf 216 = 1 := by kernel_rfl
theorem cells9 : Tryz.prog.cellsOf 9 = 1 := by kernel_rfl
theorem cells3 : Tryz.prog.cellsOf 3 = 1 := by kernel_rfl

/-- What the row's list gives: the tables of strings. -/
theorem tables {W : World} (h : laidMetH Tryz.prog Rows.cmdIsRow.laid W) : ∀ b cs, cfg.glob b = some cs → ∃ arr T fz zs, W.heap[b]? = some (.cells arr T fz) ∧ (arr.toList = List.map (fun z => Value.string (bs z)) zs) ∧ cs = zs.map En.str.enc := by
  obtain ⟨ps, h, _⟩ := (show laidMet Tryz.prog Rows.cmdIsRow.laid W from h)
  have t4 := laid_tail (laid_tail (laid_tail (laid_tail ⟨ps, h⟩)))
  intro b cs hc
  have hv : vGlob b = some cs := hc
  unfold vGlob at hv
  split at hv
  · obtain ⟨arr, T, fz, h1, h2⟩ := laid_strs (zs := tab1) g1 ty1 Tryz.underlying72 Tryz.underlying9 cells9 cells72 (laid_tail (laid_tail t4))
    exact ⟨arr, T, fz, tab1, h1, h2, (Option.some.inj hv).symm⟩
  · obtain ⟨arr, T, fz, h1, h2⟩ := laid_strs (zs := tab2) g2 ty2 Tryz.underlying185 Tryz.underlying9 cells9 cells185 (laid_tail t4)
    exact ⟨arr, T, fz, tab2, h1, h2, (Option.some.inj hv).symm⟩
  · obtain ⟨arr, T, fz, h1, h2⟩ := laid_strs (zs := tab3) g3 ty3 Tryz.underlying196 Tryz.underlying9 cells9 cells196 t4
    exact ⟨arr, T, fz, tab3, h1, h2, (Option.some.inj hv).symm⟩
  · cases hv
theorem fixed {W : World} (h : laidMetH Tryz.prog Rows.cmdIsRow.laid W) : FixOk cfg W := by
  obtain ⟨ps, h, _⟩ := (show laidMet Tryz.prog Rows.cmdIsRow.laid W from h)
  obtain ⟨ps, h⟩ := laid_tail (laid_tail ⟨ps, h⟩)
  have ht := laid_ints (k := .u64) (zs := Lib.pow10Tab) g5 ty5 Tryz.underlying238 Tryz.underlying216 cells216 cells238 ⟨ps, h⟩
  intro b arr hc
  have hv : vFix b = some arr := hc
  unfold vFix at hv
  split at hv
  · cases hv; exact ht
  · cases hv

set_option maxRecDepth 10000 in
theorem cfgOk : CfgOk cfg where
  ng := by
    have h : Tryz.prog.funcs.all (fun fn => !(fn.name == "runtime.NumGoroutine")) = true := by kernel_rfl
    intro g fn hg
    rw [Array.all_eq_true_iff_forall_mem] at h
    have := h fn (Array.mem_of_getElem? hg)
    simpa using this
  mixed := by kernel_rfl
  pure := fun _ _ => rfl
  ext := by
    intro g e vs v B h hv
    have hx : vExt g = some e := h
    unfold vExt at hx
    split at hx
    · cases hx
      exact itoaX_ok (C := cfg) laysM171 (fn := Tryz.f73) Tryz.func73 rfl (by kernel_rfl) (b := 5) rfl (fun w ⟨T, fz, hw⟩ => tabIs_at g5 hw) hv
    · cases hx
      exact joinX_ok (C := cfg) lays156 joinExtra (fn := Tryz.f76) Tryz.func76 rfl (by kernel_rfl) hv
    · cases hx
      exact countX_ok (C := cfg) lays138 (fn := Tryz.f106) Tryz.func106 rfl (by kernel_rfl) hv
    · cases hx
      exact indexX_ok (C := cfg) lays219 (fn := Tryz.f119) Tryz.func119 rfl (by kernel_rfl) hv
    · cases hx

/-- a block with other cells -/
def setTab (vs : Array Value) : Obj → Obj
  | .cells _ t frozen => .cells vs t frozen
  | o => o
noncomputable def laidHeap (h : Array Obj) : Array Obj :=
  let h := h.modify 8 (setTab (tabFlat Rows.laid_math_bits_deBruijn32tab))
  let h := h.modify 9 (setTab (tabFlat Rows.laid_math_bits_deBruijn64tab))
  let h := h.modify 5 (setTab (tabFlat Rows.laid_internal_strconv_uint64pow10))
  let h := h.modify 7 (setTab (tabFlat Rows.laid_unicode_utf8_acceptRanges))
  let h := h.modify 3 (setTab (tabFlat Rows.laid_whirligig_tok_signs))
  let h := h.modify 2 (setTab (tabFlat Rows.laid_whirligig_brk_words))
  let h := h.modify 1 (setTab (tabFlat Rows.laid_whirligig_cmd_words))
  h.modify 6 (setTab (tabFlat Rows.laid_unicode_utf8_first))
/-- A world for the witness: the settled one, the tables holding what their initialisers lay. -/
noncomputable def laidWorld (os : Os) : World :=
  let w := World.holding Tryz.prog os ⟨#[], #[], []⟩
  { w with heap := laidHeap w.heap }
end Go.Proofs.YtilmjbljkkbakaaGreatDoor.cmdRow
