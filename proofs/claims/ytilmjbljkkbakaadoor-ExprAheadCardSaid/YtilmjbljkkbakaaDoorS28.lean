/-
  A part of the proof: our library of the interpreter.
-/
import Derived.Test.YtilmjbljkkbakaaDoorS27
import Derived.ChangeSame
import Derived.Lib.LaidTab
set_option linter.unusedSimpArgs false
set_option linter.unusedVariables false
set_option linter.unusedSectionVars false
set_option linter.unnecessarySimpa false
set_option linter.deprecated false
namespace Go.Wv

/-! From the interpreter to a law's statement. -/

theorem inv_start {g : G} {W : World} {vs : List VV} {us : List Value} (hs : Sto g [] W) (hr : All2 (Rep g) vs us) (hok : okRs 0 vs = true) (hno : vs.any isOwn = false) : Inv (fun b => b < W.heap.size) g vs [] us W := by
  have hz : ∀ b, cntS b vs us = 0 := fun b => by
    induction hr with
    | nil => rfl
    | cons _ _ ih =>
      simp only [okRs, List.all_cons, Bool.and_eq_true] at hok
      simp only [List.any_cons, Bool.or_eq_false_iff] at hno
      simp only [cntS, ih hok.2 hno.2, cnt_zero hno.1]
  exact ⟨hr, hok, hs, fun b => by rw [hz b]; simp [cntB], fun b hb => ⟨hb, by rw [hz b]; simp [cntB], fun id cs h => by simp at h⟩⟩

/-- the ghost of package-level variables alone -/
def gGlob (C : Cfg) : G := ⟨fun b => (C.glob b).map fun cs => ⟨cs, none⟩, fun _ => 0⟩

theorem sto_glob {C : Cfg} {W : World} (h : ∀ b cs, C.glob b = some cs → ∃ arr T fz, W.heap[b]? = some (.cells arr T fz) ∧ cs.length ≤ arr.size ∧ ∀ (j : Nat) c, cs[j]? = some c → ∃ u, arr[j]? = some u ∧ RepC (gGlob C) c u ∧ ownC c = false ∧ okC 0 c = true) :
    Sto (gGlob C) [] W ∧ GlobOk C (gGlob C) := by
  refine ⟨⟨fun b com hc => ?_, fun id cs h => by simp at h, fun id cs h => by simp at h, fun i j ci cj h => by simp at h⟩, fun i cs hc => ⟨⟨cs, none⟩, by simp [gGlob, hc], List.prefix_refl _⟩⟩
  simp only [gGlob, Option.map_eq_some_iff] at hc
  obtain ⟨cs, hc, rfl⟩ := hc
  obtain ⟨arr, T, fz, h1, h2, h3⟩ := h b cs hc
  exact ⟨arr, T, fz, h1, h2, h3, fun _ _ h => by cases h⟩

theorem keptBut_same {W W' : World} (h1 : W'.os = W.os ∧ W'.output = W.output) (h2 : ∀ i : Nat, i < W.heap.size → W'.heap[i]? = W.heap[i]?) (may : MemPlace → Prop) : W.keptBut W' may := by
  refine ⟨h1.1, h1.2, fun i hi => ?_⟩
  rw [h2 i hi]
  cases W.heap[i]? with
  | none => rfl
  | some o => cases o <;> first | exact ⟨rfl, rfl, rfl, fun _ _ => rfl⟩ | exact .inr ⟨rfl, rfl⟩ | rfl

theorem Vc_calls {C : Cfg} (hC : CfgOk C) {f : FuncId} {fn : Func} {c : Code} (hf : C.P.funcs[f]? = some fn) (hb : fn.body = some c) {vs : List VV} {R : VV → List Blk → Prop} (h : Vc C f vs [] R) {g : G} {W : World} {us : List Value}
    (hg : GlobOk C g) (hi : Inv (fun b => b < W.heap.size) g vs [] us W) :
    Calls C.P f us.toArray W fun e W' => ∃ u r B' g', e = .returned u ∧ R r B' ∧ Rep g' r u ∧ (W'.os = W.os ∧ W'.output = W.output) ∧ ∀ i : Nat, i < W.heap.size → W'.heap[i]? = W.heap[i]? := by
  obtain ⟨r, B', hR, hok⟩ := Vc_sound hC h
  have h1 := hok _ g us W hg hi
  have hrun : (callFunc f us.toArray).run C.P W = .ok (.enter f us.toArray) W := by
    have h1 : fn.name ≠ "runtime.NumGoroutine" := by simpa using hC.ng f fn hf
    simp [callFunc, hf, h1, hb]
  rw [hrun] at h1
  refine Calls.mono (show Calls _ _ _ _ _ from h1) fun e W' he => ?_
  cases e with
  | returned u =>
    obtain ⟨g', hext, hinv⟩ := he
    exact ⟨u, r, B', g', rfl, hR, by cases hinv.rep with | cons h _ => exact h, hext.out, fun i hi => (hext.prot i hi).2⟩
  | panicked ch => exact he.elim
  | outgrown => exact he.elim

section
variable {H : Type} {enc : TypeId × Value → H} {P : Program}
/-- A row's demand where nothing has changed (no second reading of the results is asked). -/
theorem post_same {f : Func} {s : ChangeSpec} {apart fresh handsOn : Bool} {W W' : World} {args : Array Value} {v : Value} {ds gs : List (DataW H)} {before pa pv : List MemPlace}
    (hW : DataW.Whole enc P f.params.toList s.vars apart W args.toList ds gs before)
    (hres : ∀ (b : Nat) (sp : Nat → Bool) (hd : Bool), DataW.TrodAll enc P W' b sp hd f.resultTypes.toList (v.resultList f.resultTypes.size) (s.fn H (ds ++ gs)).results [])
    (hargs : ∀ sp : Nat → Bool, (∀ p ∈ before, sp p.block = true) → DataW.TrodAll enc P W' 0 sp true f.params.toList args.toList (s.fn H (ds ++ gs)).args pa)
    (hvars : ∀ sp : Nat → Bool, (∀ p ∈ before, sp p.block = true) → DataW.TrodVars enc P W' sp s.vars (s.fn H (ds ++ gs)).vars pv)
    (hps : before = pa ++ pv) (hk : W.keptBut W' (· ∈ before)) : s.post enc P f apart fresh handsOn false W args v W' := by
  have hold : ∀ p ∈ before, (fun b => decide (b < W.heap.size)) p.block = true := fun p hp => by simpa using hW.lt p hp
  refine ⟨ds, gs, before, [], pa, pv, hW, hres _ _ _, hargs _ hold, hvars _ hold, World.keptBut_mono (fun p hp => ⟨hp, ?_⟩) hk, fun h => by cases h⟩
  rw [hps, List.mem_append] at hp
  exact Or.inr hp
end

/-- An array of strings that reads as the table holds the table's strings. -/
theorem cells_of_strs {H : Type} {enc : TypeId × Value → H} {P : Program} {w : World} {base : Nat} {sp : Nat → Bool} {held : Bool} {fuel : Nat} {t e : TypeId} {n : Nat} {cs : List Value} {zs : List (List UInt8)} {p : List MemPlace}
    (ht : P.underlying t = some (.array n e)) (he : P.underlying e = some .string) (hce : P.cellsOf e = 1) (hct : P.cellsOf t = n)
    (h : DataW.trod enc P w base sp held fuel t cs = some (.agg (zs.map fun z => .lit (.string z)), p)) : cs = zs.map fun z => Value.string ⟨z.toArray⟩ := by
  cases fuel with
  | zero => simp [DataW.trod] at h
  | succ fuel =>
    simp only [DataW.trod, ht, hce, hct, Nat.mul_one] at h
    split at h
    · rename_i hl
      obtain ⟨xs, hm, hx⟩ := Option.map_eq_some_iff.1 h
      have hxs : xs.map (·.1) = zs.map fun z => (DataW.lit (.string z) : DataW H) := by
        have := congrArg Prod.fst hx
        simpa using this
      have hxl : xs.length = n := by simpa using Lib.mapM_length hm
      have hzl : zs.length = n := by
        have := congrArg List.length hxs
        simp at this
        omega
      apply List.ext_getElem?
      intro i
      by_cases hi : i < n
      · obtain ⟨b, hb, hf⟩ := Lib.mapM_at hm i i (by simp [hi])
        obtain ⟨z, hc, rfl, _⟩ := DataW.trod_string he hf
        have h1 : cs[i]? = some (.string z) := by
          have := congrArg (·[0]?) hc
          simpa [List.getElem?_take, List.getElem?_drop] using this
        have h2 : (xs.map (·.1))[i]? = some (DataW.lit (.string z.data.toList) : DataW H) := by simp [hb]
        rw [hxs] at h2
        simp only [List.getElem?_map, Option.map_eq_some_iff, DataW.lit.injEq, Lit.string.injEq] at h2
        obtain ⟨z', hz', rfl⟩ := h2
        simp [h1, hz']
      · rw [List.getElem?_eq_none (by omega), List.getElem?_eq_none (by simp; omega)]
    · cases h

/-- the literal cells of strings -/
theorem strs_cells {g : G} {zs : List (List UInt8)} {arr : Array Value} (h : arr.toList = zs.map fun z => Value.string ⟨z.toArray⟩) :
    (zs.map fun z => VV.lit (.string ⟨z.toArray⟩)).length ≤ arr.size ∧ ∀ (j : Nat) c, (zs.map fun z => VV.lit (.string ⟨z.toArray⟩))[j]? = some c → ∃ u, arr[j]? = some u ∧ RepC g c u ∧ ownC c = false ∧ okC 0 c = true := by
  refine ⟨by have := congrArg List.length h; simp at this; simp [this], fun j c hc => ?_⟩
  simp only [List.getElem?_map, Option.map_eq_some_iff] at hc
  obtain ⟨z, hz, rfl⟩ := hc
  refine ⟨.string ⟨z.toArray⟩, ?_, ⟨rfl, rfl⟩, rfl, rfl⟩
  rw [← Array.getElem?_toList, h, List.getElem?_map, hz]
  rfl
end Go.Wv
