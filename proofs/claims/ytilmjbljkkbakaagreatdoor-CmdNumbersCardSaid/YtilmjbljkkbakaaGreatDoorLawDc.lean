/-
  The law whirligiglaw31.CmdNumbers: for every kind and every number, a command with a number accepts exactly the document's range: the call returns true, and its arguments read as before.
  Conditions: none but the row's own.
-/
import Derived.Test.YtilmjbljkkbakaaGreatDoorLawTc
import Derived.Test.YtilmjbljkkbakaaGreatDoorCPure2c
import Derived.Test.YtilmjbljkkbakaaGreatDoorCPr13c
set_option linter.unusedSimpArgs false
set_option linter.unusedVariables false
set_option linter.unusedSectionVars false
set_option linter.unnecessarySimpa false
set_option linter.deprecated false
namespace Go.Proofs.YtilmjbljkkbakaaGreatDoor.cmdNumbers
open Go.ChangeShapes Go.WideShapes Go.ChangeAt Go.RowKit Go.ChangeMaps Go.Wv cmdRow

set_option maxRecDepth 100000 in
/-- What the call does, in every world that holds the tables. -/
theorem contract (H : Type) (enc : TypeId × Value → H) (W : World) (base : Nat) (args : Array Value) (ds gs : List (DataW H)) (before : List MemPlace)
    (hval : ∀ (j : Nat) t v, Tryz.f6.params[j]? = some t → args[j]? = some v → Value.okWide Tryz.prog W .any base t v)
    (hW : DataW.Whole enc Tryz.prog Tryz.f6.params.toList Rows.cmdNumbersSpec.vars false W args.toList ds gs before) (hL : laidMetH Tryz.prog Rows.cmdIsRow.laid W) :
    Calls Tryz.prog 6 args W fun e W' => ∃ v, e = .returned v ∧ Rows.cmdNumbersSpec.post enc Tryz.prog Tryz.f6 false true false false W args v W' := by
  have hW' := hW
  obtain ⟨p, q, hA0, hV, rfl, hfz, hnd⟩ := hW
  have hA : DataW.TrodAll enc Tryz.prog W 0 (fun _ => true) true Tryz.f6.params.toList args.toList ds p := hA0
  rw [Tryz.params6] at hA hval
  obtain ⟨v0, vs0, d0, ds0, p0, q0, hargs, rfl, rfl, h0, r0⟩ := trodAll_cons hA
  obtain ⟨v1, vs1, d1, ds1, p1, q1, hargs1, rfl, rfl, h1, r1⟩ := trodAll_cons r0
  obtain ⟨rfl, rfl, rfl⟩ := trodAll_nil r1
  subst hargs1
  obtain rfl : args = #[v0, v1] := by cases args; simp_all
  obtain ⟨rfl, rfl⟩ := trodVars_none hV
  obtain ⟨n0, rfl, rfl, rfl, w0⟩ := open_int Tryz.underlying3 (hval 0 3 v0 rfl rfl) h0
  obtain ⟨n1, rfl, rfl, rfl, w1⟩ := open_int Tryz.underlying3 (hval 1 3 v1 rfl rfl) h1
  clear hA0
  simp only [List.append_nil, List.nil_append] at hW'
  have hst : Sto (gGlob cfg) [] W ∧ GlobOk cfg (gGlob cfg) := by
    refine sto_glob fun b cs hc => ?_
    obtain ⟨arr, T, fz, zs, k1, k2, rfl⟩ := tables hL b cs hc
    obtain ⟨k3, k4⟩ := strs_tab (g := gGlob cfg) k2
    exact ⟨arr, T, fz, k1, k3, k4⟩
  have hinv := inv_start (us := [.int .i64 n0, .int .i64 n1]) (vs := [.lit (.int .i64 n0), .lit (.int .i64 n1)]) hst.1 (.cons ⟨rfl, rfl⟩ (.cons ⟨rfl, rfl⟩ .nil)) rfl rfl
  have hv := wlaw31_CmdNumbers_ok (cmdNumbers_pure n0 n1)
  refine (Vc_calls cfgOk Tryz.func6 (fn := Tryz.f6) rfl hv hst.2 (fixed hL) hinv).mono ?_
  rintro e W' ⟨u, r, B', g', rfl, rfl, hrep, hsame, hold⟩
  obtain ⟨rfl, _⟩ := hrep
  refine ⟨_, rfl, post_same (pa := []) (pv := []) hW' (fun _ _ _ => trodAll_cons_mk (shut_bool Tryz.underlying4 _) trodAll_mk0) ?_ (fun _ _ => rfl) rfl (keptBut_same hsame hold _)⟩
  exact fun _ _ => trodAll_cons_mk (shut_int Tryz.underlying3 w0) (trodAll_cons_mk (shut_int Tryz.underlying3 w1) trodAll_mk0)

theorem laid_met (os : Os) : laidMet Tryz.prog Rows.cmdNumbersRow.laid ((laidWorld os).forCall (fun _ _ => 0) ⟨#[], #[.int .i64 0, .int .i64 0], []⟩).memory :=
  laidMet_of_run' 300 (by kernel_rfl) (by kernel_rfl)
theorem reads (os : Os) {H : Type} (enc : TypeId × Value → H) : ∃ places, DataW.whole enc Tryz.prog ((laidWorld os).forCall (fun _ _ => 0) ⟨#[], #[.int .i64 0, .int .i64 0], []⟩).memory Tryz.f6.params.toList Rows.cmdNumbersSpec.vars false #[Value.int .i64 0, Value.int .i64 0].toList 8 = some ([.lit (.int .i64 0), .lit (.int .i64 0)], [], places) :=
  ⟨[], by kernel_rfl⟩

set_option maxRecDepth 100000 in
theorem lifted (os : Os) (started : os.Started) (H : Type) (enc : TypeId × Value → H) (F : Stop.Interp) :
    ReturnsInHanded {} Tryz.checked os 6 .any ((OpenSpec.ofChange Rows.cmdNumbersSpec).preRow enc Tryz.prog Tryz.f6 Rows.cmdNumbersRow.domain false Rows.cmdNumbersRow.laid) (((OpenSpec.ofChange Rows.cmdNumbersSpec).at F).post enc Tryz.prog Tryz.f6 false true false false) := by
  obtain ⟨places, hx⟩ := reads os enc
  refine returnsInHanded_of_row (C := Tryz.checked) (s := OpenSpec.ofChange Rows.cmdNumbersSpec) own started (by kernel_rfl) Tryz.func6
    (witness_row_at (enc := enc) (C := Tryz.checked) false (laidWorld os) #[.int .i64 0, .int .i64 0] rfl (by kernel_rfl) (by kernel_rfl) (by kernel_rfl)
      (OpenSpec.preRow_of_cond 8 hx (by kernel_rfl) (fun k hk => by cases hk) (by kernel_rfl) (laid_met os))) ?_
  intro W base args ds gs before hval hW _ _ _ hL _ _
  exact contract H enc W base args ds gs before hval hW hL

theorem said : Rows.CmdNumbersSaid :=
  OpenClaim.holds_of_cond 6 Tryz.f6 rfl rfl rfl rfl rfl rfl rfl ⟨rfl, rfl, rfl, rfl, rfl⟩ rfl rfl rfl rfl rfl (by kernel_rfl) Tryz.func6 (by kernel_rfl)
    (of_decide_eq_true (by kernel_rfl)) (by unfold Func.isWrapper; first | (rw [if_pos (by decide +kernel)]; kernel_rfl) | (rw [if_neg (by decide +kernel)]; exact ⟨rfl, rfl⟩))
    (fun os started H enc _ F => by rw [OpenClaim.pre_eq_preRow]; exact lifted os started H enc F)

theorem plain (f : FuncId) (fn : Func) (hf : Tryz.pinned.checked.prog.funcNamed "whirligig/whirligiglaw31.CmdNumbers" = some f) (hfn : Tryz.pinned.checked.prog.funcs[f]? = some fn) :
    false = Tryz.pinned.checked.prog.looks [] ∧ ∀ (j : Nat) t, fn.params[j]? = some t → Tryz.pinned.checked.prog.wantsStandIn t = false := by
  obtain rfl : f = 6 := Option.some.inj ((show Tryz.prog.funcNamed "whirligig/whirligiglaw31.CmdNumbers" = some 6 by kernel_rfl).symm.trans hf) |>.symm
  obtain rfl : fn = Tryz.f6 := (Option.some.inj (Tryz.func6.symm.trans hfn)).symm
  refine ⟨by kernel_rfl, fun j t ht => ?_⟩
  rw [Tryz.params6] at ht
  have h3 : t = 3 := by
    rcases j with _ | _ | j
    · simpa using ht.symm
    · simpa using ht.symm
    · simp at ht
  subst h3
  exact (show Tryz.prog.wantsStandIn 3 = false by kernel_rfl)

/-- The card. -/
theorem cmdNumbers_card : Rows.CmdNumbersCardSaid :=
  Claim7.holds_tied_plain_at .later [] _ _ _ _ said (fun _ h => by cases h) (by kernel_rfl) (fun _ h => by cases h) cmdNumbers_row_tie rfl ⟨rfl, rfl⟩ (by kernel_rfl) rfl plain (by kernel_rfl)
end Go.Proofs.YtilmjbljkkbakaaGreatDoor.cmdNumbers
