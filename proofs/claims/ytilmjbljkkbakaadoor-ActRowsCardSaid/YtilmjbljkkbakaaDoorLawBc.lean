/-
  The law whirligiglaw06.ActRows: for all texts s and t, two lists of acts joined by a semicolon are parsed to the acts of both: the call returns true, and its arguments read as before.
  Conditions: none but the row's own.
-/
import Derived.Test.YtilmjbljkkbakaaDoorCards
import Derived.Test.YtilmjbljkkbakaaDoorTie
import Derived.Test.YtilmjbljkkbakaaDoorK
import Derived.Test.YtilmjbljkkbakaaDoorPu
import Derived.Test.YtilmjbljkkbakaaDoorPr5c
import Derived.Test.YtilmjbljkkbakaaDoorJoinc
import Derived.Test.YtilmjbljkkbakaaDoorJ3
set_option linter.unusedSimpArgs false
set_option linter.unusedVariables false
set_option linter.unusedSectionVars false
set_option linter.unnecessarySimpa false
set_option linter.deprecated false
namespace Go.Proofs.YtilmjbljkkbakaaDoor.actRows
open Go.ChangeShapes Go.WideShapes Go.ChangeAt Go.RowKit Go.ChangeMaps Go.Wv

theorem own : ownKnob Tryd.prog.godebug = none := by kernel_rfl
theorem gTab : Tryd.prog.globalNamed "whirligig/tok.signs" = some 0 := by kernel_rfl
theorem gTabType : (Tryd.prog.globals[0]?).map (·.type) = some 95 := by kernel_rfl
theorem cells95 : Tryd.prog.cellsOf 95 = 15 := by kernel_rfl
theorem cells9 : Tryd.prog.cellsOf 9 = 1 := by kernel_rfl

/-- What the row's list gives: the table of signs. -/
theorem table {W : World} (h : laidMetH Tryd.prog Rows.actRowsRow.laid W) : ∃ arr T fz, W.heap[0]? = some (.cells arr T fz) ∧ arr.toList = tab0.map fun z => Value.string (bs z) := by
  obtain ⟨ps, h, _⟩ := (show laidMet Tryd.prog Rows.actRowsRow.laid W from h)
  exact laid_strs gTab gTabType Tryd.underlying95 Tryd.underlying9 cells9 cells95 (laid_tail (laid_tail (laid_tail ⟨ps, h⟩)))

set_option maxRecDepth 10000 in
theorem cfgOk : CfgOk cfg where
  ng := by
    have h : Tryd.prog.funcs.all (fun fn => !(fn.name == "runtime.NumGoroutine")) = true := by kernel_rfl
    intro g fn hg
    rw [Array.all_eq_true_iff_forall_mem] at h
    have := h fn (Array.mem_of_getElem? hg)
    simpa using this
  mixed := by kernel_rfl
  pure := fun _ _ => rfl
  ext := by
    intro g e vs v B h hv
    by_cases hg : g = 43
    · subst hg
      obtain rfl := Option.some.inj (show some joinX = some e from h)
      exact joinX_ok (C := cfg) joinLays joinExtra (fn := Tryd.f43) Tryd.func43 rfl (by kernel_rfl) hv
    · exfalso
      revert h
      show vExt g = some e → False
      unfold vExt
      split
      · exact fun _ => hg rfl
      · intro h; cases h

set_option maxRecDepth 100000 in
/-- What the call does, in every world that holds the table. -/
theorem contract (H : Type) (enc : TypeId × Value → H) (W : World) (base : Nat) (args : Array Value) (ds gs : List (DataW H)) (before : List MemPlace)
    (hval : ∀ (j : Nat) t v, Tryd.f4.params[j]? = some t → args[j]? = some v → Value.okWide Tryd.prog W .any base t v)
    (hW : DataW.Whole enc Tryd.prog Tryd.f4.params.toList Rows.actRowsSpec.vars false W args.toList ds gs before) (hL : laidMetH Tryd.prog Rows.actRowsRow.laid W) :
    Calls Tryd.prog 4 args W fun e W' => ∃ v, e = .returned v ∧ Rows.actRowsSpec.post enc Tryd.prog Tryd.f4 false true false false W args v W' := by
  have hW' := hW
  obtain ⟨p, q, hA0, hV, rfl, hfz, hnd⟩ := hW
  have hA : DataW.TrodAll enc Tryd.prog W 0 (fun _ => true) true Tryd.f4.params.toList args.toList ds p := hA0
  rw [Tryd.params4] at hA hval
  obtain ⟨v0, vs0, d0, ds0, p0, q0, hargs, rfl, rfl, h0, r0⟩ := trodAll_cons hA
  obtain ⟨v1, vs1, d1, ds1, p1, q1, hargs1, rfl, rfl, h1, r1⟩ := trodAll_cons r0
  obtain ⟨rfl, rfl, rfl⟩ := trodAll_nil r1
  subst hargs1
  obtain rfl : args = #[v0, v1] := by cases args; simp_all
  obtain ⟨rfl, rfl⟩ := trodVars_none hV
  obtain ⟨s0, rfl, rfl, rfl, hs0⟩ := open_string Tryd.underlying9 (hval 0 9 v0 rfl rfl) h0
  obtain ⟨s1, rfl, rfl, rfl, hs1⟩ := open_string Tryd.underlying9 (hval 1 9 v1 rfl rfl) h1
  clear hA0
  simp only [List.append_nil] at hW'
  obtain ⟨arr, T, fz, hb, harr⟩ := table hL
  have hst : Sto (gGlob cfg) [] W ∧ GlobOk cfg (gGlob cfg) := by
    refine sto_glob fun b cs hc => ?_
    by_cases hb0 : b = 0
    · subst hb0
      obtain rfl : tab0V = cs := Option.some.inj hc
      obtain ⟨h2, h3⟩ := strs_tab (g := gGlob cfg) harr
      exact ⟨arr, T, fz, hb, h2, h3⟩
    · exfalso
      revert hc
      show vGlob b = some cs → False
      unfold vGlob
      split
      · exact fun _ => hb0 rfl
      · intro h; cases h
  have hinv := inv_start (us := [.string s0, .string s1]) (vs := [.lit (.string (bs s0.data.toList)), .lit (.string (bs s1.data.toList))]) hst.1
    (.cons ⟨by rw [bs_of], rfl⟩ (.cons ⟨by rw [bs_of], rfl⟩ .nil)) rfl rfl
  have hv := wlaw06_ActRows_ok (actRows_pure s0.data.toList s1.data.toList)
  refine (Vc_calls cfgOk Tryd.func4 (fn := Tryd.f4) rfl hv hst.2 hinv).mono ?_
  rintro e W' ⟨u, r, B', g', rfl, rfl, hrep, hsame, hold⟩
  obtain ⟨rfl, _⟩ := hrep
  refine ⟨_, rfl, post_same (pa := []) (pv := []) hW' (fun _ _ _ => trodAll_cons_mk (shut_bool Tryd.underlying4 _) trodAll_mk0) ?_ (fun _ _ => rfl) rfl (keptBut_same hsame hold _)⟩
  exact fun _ _ => trodAll_cons_mk (shut_string Tryd.underlying9 hs0) (trodAll_cons_mk (shut_string Tryd.underlying9 hs1) trodAll_mk0)

/-- a block with other cells -/
def setTab (vs : Array Value) : Obj → Obj
  | .cells _ t frozen => .cells vs t frozen
  | o => o
noncomputable def laidHeap (h : Array Obj) : Array Obj :=
  let h0 := h.modify 0 (setTab (tab0.map fun z => Value.string (bs z)).toArray)
  let h1 := h0.modify 1 (setTab (tabInts Tryd.prog 1 Rows.laid_internal_strconv_uint64pow10))
  let h3 := h1.modify 3 (setTab (tabInts Tryd.prog 3 Rows.laid_math_bits_deBruijn32tab))
  h3.modify 4 (setTab (tabInts Tryd.prog 4 Rows.laid_math_bits_deBruijn64tab))
/-- A world for the witness: the settled one, the tables holding what their initialisers lay. -/
noncomputable def laidWorld (os : Os) : World :=
  let w := World.holding Tryd.prog os ⟨#[], #[], []⟩
  { w with heap := laidHeap w.heap }
theorem laid_met (os : Os) : laidMet Tryd.prog Rows.actRowsRow.laid ((laidWorld os).forCall (fun _ _ => 0) ⟨#[], #[.string (bs []), .string (bs [])], []⟩).memory :=
  laidMet_of_run' 100 (by kernel_rfl) (by kernel_rfl)
theorem reads (os : Os) {H : Type} (enc : TypeId × Value → H) : ∃ places, DataW.whole enc Tryd.prog ((laidWorld os).forCall (fun _ _ => 0) ⟨#[], #[.string (bs []), .string (bs [])], []⟩).memory Tryd.f4.params.toList Rows.actRowsSpec.vars false #[Value.string (bs []), Value.string (bs [])].toList 8 = some ([.lit (.string []), .lit (.string [])], [], places) :=
  ⟨[], by kernel_rfl⟩

set_option maxRecDepth 100000 in
theorem lifted (os : Os) (started : os.Started) (H : Type) (enc : TypeId × Value → H) (F : Stop.Interp) :
    ReturnsInHanded {} Tryd.checked os 4 .any ((OpenSpec.ofChange Rows.actRowsSpec).preRow enc Tryd.prog Tryd.f4 Rows.actRowsRow.domain false Rows.actRowsRow.laid) (((OpenSpec.ofChange Rows.actRowsSpec).at F).post enc Tryd.prog Tryd.f4 false true false false) := by
  obtain ⟨places, hx⟩ := reads os enc
  refine returnsInHanded_of_row (C := Tryd.checked) (s := OpenSpec.ofChange Rows.actRowsSpec) own started (by kernel_rfl) Tryd.func4
    (witness_row_at (enc := enc) (C := Tryd.checked) false (laidWorld os) #[.string (bs []), .string (bs [])] rfl (by kernel_rfl) (by kernel_rfl) (by kernel_rfl)
      (OpenSpec.preRow_of_cond 8 hx (by kernel_rfl) (fun k hk => by cases hk) (by kernel_rfl) (laid_met os))) ?_
  intro W base args ds gs before hval hW _ _ _ hL _ _
  exact contract H enc W base args ds gs before hval hW hL

theorem said : Rows.ActRowsSaid :=
  OpenClaim.holds_of_cond 4 Tryd.f4 rfl rfl rfl rfl rfl rfl rfl ⟨rfl, rfl, rfl, rfl, rfl⟩ rfl rfl rfl rfl rfl (by kernel_rfl) Tryd.func4 (by kernel_rfl)
    (of_decide_eq_true (by kernel_rfl)) (by unfold Func.isWrapper; first | (rw [if_pos (by decide +kernel)]; kernel_rfl) | (rw [if_neg (by decide +kernel)]; exact ⟨rfl, rfl⟩))
    (fun os started H enc _ F => by rw [OpenClaim.pre_eq_preRow]; exact lifted os started H enc F)

theorem plain (f : FuncId) (fn : Func) (hf : Tryd.pinned.checked.prog.funcNamed "whirligig/whirligiglaw06.ActRows" = some f) (hfn : Tryd.pinned.checked.prog.funcs[f]? = some fn) :
    false = Tryd.pinned.checked.prog.looks [] ∧ ∀ (j : Nat) t, fn.params[j]? = some t → Tryd.pinned.checked.prog.wantsStandIn t = false := by
  obtain rfl : f = 4 := Option.some.inj ((show Tryd.prog.funcNamed "whirligig/whirligiglaw06.ActRows" = some 4 by kernel_rfl).symm.trans hf) |>.symm
  obtain rfl : fn = Tryd.f4 := (Option.some.inj (Tryd.func4.symm.trans hfn)).symm
  refine ⟨by kernel_rfl, fun j t ht => ?_⟩
  rw [Tryd.params4] at ht
  have h9 : t = 9 := by
    rcases j with _ | _ | j
    · simpa using ht.symm
    · simpa using ht.symm
    · simp at ht
  subst h9
  exact (show Tryd.prog.wantsStandIn 9 = false by kernel_rfl)

/-- The card. -/
theorem actRows_card : Rows.ActRowsCardSaid :=
  Claim7.holds_tied_plain_at .later [] _ _ _ _ said (fun _ h => by cases h) (by kernel_rfl) (fun _ h => by cases h) actRows_row_tie rfl ⟨rfl, rfl⟩ (by kernel_rfl) rfl plain (by kernel_rfl)
end Go.Proofs.YtilmjbljkkbakaaDoor.actRows
