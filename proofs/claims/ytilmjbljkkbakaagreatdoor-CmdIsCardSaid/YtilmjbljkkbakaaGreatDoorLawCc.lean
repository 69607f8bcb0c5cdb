/-
  The law whirligiglaw31.CmdIs: for every line s and every list ks of kinds, Is returns what the document specifies: the call returns true, and its arguments read as before.
  Conditions: none but the row's own.
-/
import Derived.Test.YtilmjbljkkbakaaGreatDoorLawTc
import Derived.Test.YtilmjbljkkbakaaGreatDoorCPure1c
import Derived.Test.YtilmjbljkkbakaaGreatDoorCPr15c
set_option linter.unusedSimpArgs false
set_option linter.unusedVariables false
set_option linter.unusedSectionVars false
set_option linter.unnecessarySimpa false
set_option linter.deprecated false
namespace Go.Proofs.YtilmjbljkkbakaaGreatDoor.cmdIs
open Go.ChangeShapes Go.WideShapes Go.ChangeAt Go.RowKit Go.ChangeMaps Go.Wv cmdRow

/-- What the call does, where the interpreter is told of the list. -/
theorem run {W : World} (hL : laidMetH Tryz.prog Rows.cmdIsRow.laid W) {g : G} (hst : Sto g [] W ∧ GlobOk cfg g) (s0 : ByteArray) {u1 : Value} {zs : List Int} (hr : Rep g (.sl .view (zs.map (En.int .i64).enc)) u1) :
    Calls Tryz.prog 7 #[.string s0, u1] W fun e W' => e = .returned (.bool true) ∧ (W'.os = W.os ∧ W'.output = W.output) ∧ ∀ i : Nat, i < W.heap.size → W'.heap[i]? = W.heap[i]? := by
  have hinv := inv_start (us := [.string s0, u1]) (vs := [.lit (.string (bs s0.data.toList)), .sl .view (zs.map (En.int .i64).enc)]) hst.1
    (.cons ⟨by rw [bs_of], rfl⟩ (.cons hr .nil)) rfl rfl
  have hv := wlaw31_CmdIs_ok (cmdIs_pure s0.data.toList zs)
  refine (Vc_calls cfgOk Tryz.func7 (fn := Tryz.f7) rfl hv hst.2 (fixed hL) hinv).mono ?_
  rintro e W' ⟨u, r, B', g', rfl, rfl, hrep, hsame, hold⟩
  obtain ⟨rfl, _⟩ := hrep
  exact ⟨rfl, hsame, hold⟩

set_option maxRecDepth 100000 in
/-- What the call does, in every world that holds the tables. -/
theorem contract (H : Type) (enc : TypeId × Value → H) (W : World) (base : Nat) (args : Array Value) (ds gs : List (DataW H)) (before : List MemPlace)
    (hval : ∀ (j : Nat) t v, Tryz.f7.params[j]? = some t → args[j]? = some v → Value.okWide Tryz.prog W .any base t v)
    (hW : DataW.Whole enc Tryz.prog Tryz.f7.params.toList Rows.cmdIsSpec.vars false W args.toList ds gs before) (hL : laidMetH Tryz.prog Rows.cmdIsRow.laid W) :
    Calls Tryz.prog 7 args W fun e W' => ∃ v, e = .returned v ∧ Rows.cmdIsSpec.post enc Tryz.prog Tryz.f7 false true false false W args v W' := by
  have hW' := hW
  obtain ⟨p, q, hA0, hV, rfl, hfz, hnd⟩ := hW
  have hA : DataW.TrodAll enc Tryz.prog W 0 (fun _ => true) true Tryz.f7.params.toList args.toList ds p := hA0
  rw [Tryz.params7] at hA hval
  obtain ⟨v0, vs0, d0, ds0, p0, q0, hargs, rfl, rfl, h0, r0⟩ := trodAll_cons hA
  obtain ⟨v1, vs1, d1, ds1, p1, q1, hargs1, rfl, rfl, h1, r1⟩ := trodAll_cons r0
  obtain ⟨rfl, rfl, rfl⟩ := trodAll_nil r1
  subst hargs1
  obtain rfl : args = #[v0, v1] := by cases args; simp_all
  obtain ⟨rfl, rfl⟩ := trodVars_none hV
  obtain ⟨s0, rfl, rfl, rfl, hs0⟩ := open_string Tryz.underlying9 (hval 0 9 v0 rfl rfl) h0
  clear hA0
  simp only [List.append_nil, List.nil_append] at hW'
  have htab := tables hL
  have hglob : ∀ g : G, ∀ b cs, cfg.glob b = some cs → ∃ arr T fz, W.heap[b]? = some (.cells arr T fz) ∧ cs.length ≤ arr.size ∧ ∀ (j : Nat) c, cs[j]? = some c → ∃ u, arr[j]? = some u ∧ RepC g c u ∧ ownC c = false ∧ okC 0 c = true := by
    intro g b cs hc
    obtain ⟨arr, T, fz, zs, k1, k2, rfl⟩ := htab b cs hc
    obtain ⟨k3, k4⟩ := strs_tab (g := g) k2
    exact ⟨arr, T, fz, k1, k3, k4⟩
  have done : ∀ W' : World, (W'.os = W.os ∧ W'.output = W.output) → (∀ i : Nat, i < W.heap.size → W'.heap[i]? = W.heap[i]?) →
      (∀ sp : Nat → Bool, (∀ p ∈ p1, sp p.block = true) → DataW.Trod enc Tryz.prog W' 0 sp true 24 v1 d1 p1) →
      ∃ v, Ending.returned (.bool true) = .returned v ∧ Rows.cmdIsSpec.post enc Tryz.prog Tryz.f7 false true false false W #[.string s0, v1] v W' := by
    intro W' hsame hold hd1
    refine ⟨_, rfl, post_same (pa := p1) (pv := []) hW' (fun _ _ _ => trodAll_cons_mk (shut_bool Tryz.underlying4 _) trodAll_mk0) ?_ (fun _ _ => rfl) (List.append_nil _).symm (keptBut_same hsame hold _)⟩
    intro sp hsp
    have := trodAll_cons_mk (ts := [24]) (show DataW.Trod enc Tryz.prog W' 0 sp true 9 (.string s0) _ [] from shut_string Tryz.underlying9 hs0) (trodAll_cons_mk (hd1 sp hsp) trodAll_mk0)
    rw [List.nil_append, List.append_nil] at this
    exact this
  rcases open_ints_arg Tryz.underlying24 Tryz.underlying3 cells3 (hval 1 24 v1 rfl rfl) h1 with ⟨rfl, rfl, rfl⟩ | ⟨b, off, len, cap, zs, hz, rfl, rfl⟩
  · refine (run hL (sto_glob (hglob _)) s0 (zs := []) (⟨none, 0, rfl⟩ : RepSl _ .view [] _)).mono ?_
    rintro e W' ⟨rfl, hsame, hold⟩
    exact done W' hsame hold fun sp _ => nil_shut Tryz.underlying24
  · have hst : Sto (gMore cfg (if len = 0 then fun _ => none else intsMore .i64 b off (zs.take len))) [] W ∧ GlobOk cfg (gMore cfg (if len = 0 then fun _ => none else intsMore .i64 b off (zs.take len))) := by
      refine sto_more (hglob _) ?_
      by_cases hl : len = 0
      · rw [if_pos hl]; intro x cs hx; cases hx
      · rw [if_neg hl]; exact hz.told hl
    have hrep := hz.rep (g := gMore cfg (if len = 0 then fun _ => none else intsMore .i64 b off (zs.take len))) fun hl => by
      refine gMore_more ?_ (by rw [if_neg hl]; exact if_pos rfl)
      cases hg : cfg.glob b with
      | none => rfl
      | some cs =>
        obtain ⟨arr, T, fz, ss, k1, k2, _⟩ := htab b cs hg
        have hle := hz.le
        have hlen := hz.length
        obtain ⟨arr', T', fz', k3, k4⟩ := cell_heap (hz.cell 0 (by omega))
        rw [k1] at k3
        cases k3
        rw [← Array.getElem?_toList, k2, List.getElem?_map] at k4
        obtain ⟨z, _, k5⟩ := Option.map_eq_some_iff.1 k4
        cases k5
    refine (run hL hst s0 hrep).mono ?_
    rintro e W' ⟨rfl, hsame, hold⟩
    exact done W' hsame hold fun sp hsp => (hz.kept hold).shut Tryz.underlying24 Tryz.underlying3 cells3 hsp

theorem laid_met (os : Os) : laidMet Tryz.prog Rows.cmdIsRow.laid ((laidWorld os).forCall (fun _ _ => 0) ⟨#[], #[.string (bs []), .slice none 0 0], []⟩).memory :=
  laidMet_of_run' 300 (by kernel_rfl) (by kernel_rfl)
theorem reads (os : Os) {H : Type} (enc : TypeId × Value → H) : ∃ places, DataW.whole enc Tryz.prog ((laidWorld os).forCall (fun _ _ => 0) ⟨#[], #[.string (bs []), .slice none 0 0], []⟩).memory Tryz.f7.params.toList Rows.cmdIsSpec.vars false #[Value.string (bs []), Value.slice none 0 0].toList 8 = some ([.lit (.string []), .nil], [], places) :=
  ⟨[], by kernel_rfl⟩

set_option maxRecDepth 100000 in
theorem lifted (os : Os) (started : os.Started) (H : Type) (enc : TypeId × Value → H) (F : Stop.Interp) :
    ReturnsInHanded {} Tryz.checked os 7 .any ((OpenSpec.ofChange Rows.cmdIsSpec).preRow enc Tryz.prog Tryz.f7 Rows.cmdIsRow.domain false Rows.cmdIsRow.laid) (((OpenSpec.ofChange Rows.cmdIsSpec).at F).post enc Tryz.prog Tryz.f7 false true false false) := by
  obtain ⟨places, hx⟩ := reads os enc
  refine returnsInHanded_of_row (C := Tryz.checked) (s := OpenSpec.ofChange Rows.cmdIsSpec) own started (by kernel_rfl) Tryz.func7
    (witness_row_at (enc := enc) (C := Tryz.checked) false (laidWorld os) #[.string (bs []), .slice none 0 0] rfl (by kernel_rfl) (by kernel_rfl) (by kernel_rfl)
      (OpenSpec.preRow_of_cond 8 hx (by kernel_rfl) (fun k hk => by cases hk) (by kernel_rfl) (laid_met os))) ?_
  intro W base args ds gs before hval hW _ _ _ hL _ _
  exact contract H enc W base args ds gs before hval hW hL

theorem said : Rows.CmdIsSaid :=
  OpenClaim.holds_of_cond 7 Tryz.f7 rfl rfl rfl rfl rfl rfl rfl ⟨rfl, rfl, rfl, rfl, rfl⟩ rfl rfl rfl rfl rfl (by kernel_rfl) Tryz.func7 (by kernel_rfl)
    (of_decide_eq_true (by kernel_rfl)) (by unfold Func.isWrapper; first | (rw [if_pos (by decide +kernel)]; kernel_rfl) | (rw [if_neg (by decide +kernel)]; exact ⟨rfl, rfl⟩))
    (fun os started H enc _ F => by rw [OpenClaim.pre_eq_preRow]; exact lifted os started H enc F)

theorem plain (f : FuncId) (fn : Func) (hf : Tryz.pinned.checked.prog.funcNamed "whirligig/whirligiglaw31.CmdIs" = some f) (hfn : Tryz.pinned.checked.prog.funcs[f]? = some fn) :
    false = Tryz.pinned.checked.prog.looks [] ∧ ∀ (j : Nat) t, fn.params[j]? = some t → Tryz.pinned.checked.prog.wantsStandIn t = false := by
  obtain rfl : f = 7 := Option.some.inj ((show Tryz.prog.funcNamed "whirligig/whirligiglaw31.CmdIs" = some 7 by kernel_rfl).symm.trans hf) |>.symm
  obtain rfl : fn = Tryz.f7 := (Option.some.inj (Tryz.func7.symm.trans hfn)).symm
  refine ⟨by kernel_rfl, fun j t ht => ?_⟩
  rw [Tryz.params7] at ht
  rcases j with _ | _ | j
  · obtain rfl : 9 = t := by simpa using ht
    exact (show Tryz.prog.wantsStandIn 9 = false by kernel_rfl)
  · obtain rfl : 24 = t := by simpa using ht
    exact (show Tryz.prog.wantsStandIn 24 = false by kernel_rfl)
  · simp at ht

/-- The card. -/
theorem cmdIs_card : Rows.CmdIsCardSaid :=
  Claim7.holds_tied_plain_at .later [] _ _ _ _ said (fun _ h => by cases h) (by kernel_rfl) (fun _ h => by cases h) cmdIs_row_tie rfl ⟨rfl, rfl⟩ (by kernel_rfl) rfl plain (by kernel_rfl)
end Go.Proofs.YtilmjbljkkbakaaGreatDoor.cmdIs
