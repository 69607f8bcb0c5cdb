/-
  A part of the proof: our library of the interpreter.
-/
import Derived.Test.YtilmjbljkkbakaaGreatDoorX
import Derived.Test.YtilmjbljkkbakaaGreatDoorE
import Derived.Shelf.LaysM
import Derived.Shelf.Strconv.Itoa3
import Derived.Shelf.Strings.Count
import Derived.Shelf.Strings.Search2
set_option linter.unusedSimpArgs false
set_option linter.unusedVariables false
set_option linter.unusedSectionVars false
set_option linter.unnecessarySimpa false
set_option linter.deprecated false
/-! strings.Index, strings.Count, strconv.Itoa as functions that are not stepped through -/
namespace Go.Wv
open Go.Shelf Go.Proofs
theorem lits_rep {g : G} : ∀ {ls : List Value} {us : List Value}, All2 (Rep g) (ls.map VV.lit) us → us = ls
  | [], _, h => by cases h; rfl
  | l :: ls, _, h => by
    cases h with
    | cons h1 h2 =>
      obtain ⟨rfl, _⟩ := h1
      rw [lits_rep h2]
theorem callOk_lit_same {C : Cfg} {f : FuncId} {fn : Func} {c : Code} (hf : C.P.funcs[f]? = some fn) (hb : fn.body = some c) (hn : (fn.name == "runtime.NumGoroutine") = false) {ls : List Value} {B : List Blk} {v : Value}
    (hv : v.oneCell' = true) (h : ∀ w : World, Calls C.P f ls.toArray w fun e w' => e = .returned v ∧ w' = w) : CallOk C f (ls.map VV.lit) B (.lit v) B := by
  refine callOk_lit hf hb hn hv ?_
  intro g us w _ _ hr _
  obtain rfl := lits_rep hr
  refine (h w).mono ?_
  rintro e w' ⟨rfl, rfl⟩
  exact ⟨rfl, ⟨rfl, rfl⟩, Nat.le_refl _, fun _ _ => rfl⟩
theorem one_byte {sep : ByteArray} {c : UInt8} (h : sep.data.toList = [c]) : sep = ⟨#[c]⟩ := by
  cases sep with
  | mk d => cases d with
    | mk l => simp only at h; rw [h]
theorem indexX_ok {C : Cfg} {ρ : Ren} {fn : Func} {c : Code} (L : Lays.n219 C.P ρ) (hf : C.P.funcs[ρ.f 219]? = some fn) (hb : fn.body = some c) (hn : (fn.name == "runtime.NumGoroutine") = false)
    {vs : List VV} {v : VV} {B : List Blk} (h : indexX vs = some v) : CallOk C (ρ.f 219) vs B v B := by
  unfold indexX at h
  split at h
  · rename_i s sep
    split at h
    · rename_i b hs
      cases h
      obtain rfl := one_byte hs
      exact callOk_lit_same (ls := [.string s, .string ⟨#[b]⟩]) hf hb hn rfl (fun w => Any.stringslite_Index_one L s b w)
    · cases h
  · cases h
theorem countX_ok {C : Cfg} {ρ : Ren} {fn : Func} {c : Code} (L : Lays.n138 C.P ρ) (hf : C.P.funcs[ρ.f 138]? = some fn) (hb : fn.body = some c) (hn : (fn.name == "runtime.NumGoroutine") = false)
    {vs : List VV} {v : VV} {B : List Blk} (h : countX vs = some v) : CallOk C (ρ.f 138) vs B v B := by
  unfold countX at h
  split at h
  · rename_i s sep
    split at h
    · rename_i b hs
      cases h
      obtain rfl := one_byte hs
      exact callOk_lit_same (ls := [.string s, .string ⟨#[b]⟩]) hf hb hn rfl (fun w => Any.strings_Count_one L s b w)
    · cases h
  · cases h
theorem itoaX_ok {C : Cfg} {ρ : Ren} {fn : Func} {c : Code} (L : LaysM.n171 C.P ρ) (hf : C.P.funcs[ρ.f 171]? = some fn) (hb : fn.body = some c) (hn : (fn.name == "runtime.NumGoroutine") = false)
    {b : Nat} {arr : Array Value} (hc : C.fix b = some arr) (ht : ∀ w : World, (∃ T fz, w.heap[b]? = some (.cells arr T fz)) → Lib.TabIs C.P w "internal/strconv.uint64pow10" .u64 Lib.pow10Tab)
    {vs : List VV} {v : VV} {B : List Blk} (h : itoaX vs = some v) : CallOk C (ρ.f 171) vs B v B := by
  unfold itoaX at h
  split at h
  · rename_i n
    split at h
    · rename_i hn2
      cases h
      refine callOk_lit hf hb hn rfl ?_
      intro g us w _ hfx hr _
      obtain rfl := lits_rep (ls := [.int .i64 n]) hr
      refine (Any.strconv_Itoa L n hn2.1 hn2.2 w (ht w (hfx b arr hc))).mono ?_
      rintro e w' ⟨rfl, k, os, rfl⟩
      refine ⟨rfl, ⟨rfl, rfl⟩, ?_, fun i hi => ?_⟩
      · show w.heap.size ≤ (w.heap ++ os).size
        rw [Array.size_append]; omega
      · show (w.heap ++ os)[i]? = w.heap[i]?
        exact Array.getElem?_append_left hi
    · cases h
  · cases h
theorem tabIs_at {P : Program} {name : String} {b : Nat} {w : World} (hg : P.globalNamed name = some b) {arr : Array Value} {T : TypeId} {fz : Nat × Nat} (h : w.heap[b]? = some (.cells arr T fz)) : w.var? P name = some arr := by
  simp only [World.var?, hg, Option.bind_some, h]
end Go.Wv
