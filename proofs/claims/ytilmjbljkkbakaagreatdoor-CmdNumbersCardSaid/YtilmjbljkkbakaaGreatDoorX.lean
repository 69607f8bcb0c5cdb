/-
  A part of the proof: our library of the interpreter.
-/
import Derived.Test.YtilmjbljkkbakaaGreatDoorSc
set_option linter.unusedSimpArgs false
set_option linter.unusedVariables false
set_option linter.unusedSectionVars false
set_option linter.unnecessarySimpa false
set_option linter.deprecated false
/-! Contracts of functions that the interpreter does not step through. -/
namespace Go.Wv
/-- what lies in memory, in a later world that has left it as it was -/
theorem Sto.frame {g : G} {B : List Blk} {w w' : World} (h : Sto g B w) (hk : ∀ i : Nat, i < w.heap.size → w'.heap[i]? = w.heap[i]?) : Sto g B w' := by
  refine ⟨fun b com hc => ?_, fun id cs hb => ?_, h.ro, h.inj⟩
  · obtain ⟨arr, T, fz, k1, k2, k3, k4⟩ := h.comm b com hc
    exact ⟨arr, T, fz, (hk b (heap_lt k1)).trans k1, k2, k3, k4⟩
  · obtain ⟨⟨arr, T, k1, k2⟩, k3, k4⟩ := h.var id cs hb
    exact ⟨⟨arr, T, (hk _ (heap_lt k1)).trans k1, k2⟩, k3, k4⟩
/-- A function that answers a literal, and leaves the memory that it found as it was. -/
theorem callOk_lit {C : Cfg} {f : FuncId} {fn : Func} {c : Code} (hf : C.P.funcs[f]? = some fn) (hb : fn.body = some c) (hn : (fn.name == "runtime.NumGoroutine") = false) {vs : List VV} {B : List Blk} {v : Value}
    (hv : v.oneCell' = true)
    (h : ∀ (g : G) (us : List Value) (w : World), GlobOk C g → FixOk C w → All2 (Rep g) vs us → Sto g B w → Calls C.P f us.toArray w fun e w' => e = .returned v ∧ (w'.os = w.os ∧ w'.output = w.output) ∧ w.heap.size ≤ w'.heap.size ∧ ∀ i : Nat, i < w.heap.size → w'.heap[i]? = w.heap[i]?) :
    CallOk C f vs B (.lit v) B := by
  intro Pr g us w hG hi
  have hrun : (callFunc f us.toArray).run C.P w = .ok (.enter f us.toArray) w := by
    have h1 : fn.name ≠ "runtime.NumGoroutine" := by simpa using hn
    simp [callFunc, hf, h1, hb]
  rw [hrun]
  refine Calls.mono (h g us w hG.glob hG.fix hi.rep hi.sto) ?_
  rintro e w' ⟨rfl, hsame, hsz, hk⟩
  have hcb : ∀ b, cntB b g w' 0 B = cntB b g w 0 B := fun b => cntB_congr B 0 fun i cs hb' => by
    obtain ⟨⟨arr, T, k1, _⟩, _, _⟩ := hi.sto.var i cs hb'
    simp only [cellsAt, Nat.zero_add, hk _ (heap_lt k1)]
  refine ⟨g, ⟨fun b com hc => ⟨com, hc, List.prefix_refl _⟩, fun b hb' => ⟨rfl, hk b (hi.prot b hb').1⟩, hsz, fun _ _ => rfl, hsame⟩, ⟨.cons ⟨rfl, hv⟩ .nil, rfl, hi.sto.frame hk, fun b => ?_, fun b hp => ?_⟩⟩
  · rw [hcb]
    have := hi.uniq b
    have hz : cntS b [VV.lit v] [v] = 0 := by rw [cntS_one]; exact cnt_zero rfl
    omega
  · obtain ⟨p1, p2, p3⟩ := hi.prot b hp
    refine ⟨by omega, ?_, p3⟩
    rw [hcb]
    have hz : cntS b [VV.lit v] [v] = 0 := by rw [cntS_one]; exact cnt_zero rfl
    omega
end Go.Wv
