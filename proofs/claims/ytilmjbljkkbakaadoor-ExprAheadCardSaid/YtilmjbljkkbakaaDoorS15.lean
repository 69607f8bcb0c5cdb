/-
  A part of the proof: our library of the interpreter.
-/
import Derived.Test.YtilmjbljkkbakaaDoorS14
set_option linter.unusedSimpArgs false
set_option linter.unusedVariables false
set_option linter.unusedSectionVars false
set_option linter.unnecessarySimpa false
set_option linter.deprecated false
namespace Go.Wv

section
variable {C : Cfg} {Pr : Nat → Prop} {f : FuncId} {o : Oper} {g : G} {sl sl' : List VV} {B B' : List Blk} {a : Act} {w : World} {v : VV}

theorem len_ok (hg : GlobOk C g) (hi : Inv Pr g sl B a.tmps.toList w) {x : Operand} {t : TypeId} (ho : o.op = .call { callee := .builtin .len, args := #[x], argTypes := #[t] }) (h : vop C f o sl B = some (v, sl', B')) : OpOk C Pr o g B.length sl' v B' a w := by
  simp only [vop, ho] at h
  split at h <;> first | (cases h; done) | skip
  rename_i r hr
  simp only [Option.some.injEq, Prod.mk.injEq] at h
  obtain ⟨rfl, rfl, rfl⟩ := h
  obtain ⟨z, h1, rfl, h2⟩ := vlen_run (w := w) hr (ev_rep hg hi.rep x) o.type
  refine OpOk.pure hi (u := z) ?_ ⟨rfl, h2⟩ rfl rfl
  unfold execOp
  simp only [ho, resolve, invoke, builtin, Sem.run_bind, Sem.run_pure, Result.andThen_ok, List.map_toArray, List.map_cons, List.map_nil, eval_evR, h1]

theorem minmax_ok (hg : GlobOk C g) (hi : Inv Pr g sl B a.tmps.toList w) {mx : Bool} {x y : Operand} {r : List Operand} {ts : Array TypeId} (ho : o.op = .call { callee := .builtin (if mx then .max else .min), args := (x :: y :: r).toArray, argTypes := ts })
    (h : vop C f o sl B = some (v, sl', B')) : OpOk C Pr o g B.length sl' v B' a w := by
  obtain ⟨z, hz, hv1, hv2, hv3⟩ : ∃ z, vminL mx (ev C sl x) ((y :: r).map (ev C sl)) = some z ∧ v = z ∧ sl' = sl ∧ B' = B := by
    cases hz : vminL mx (ev C sl x) ((y :: r).map (ev C sl)) with
    | none => cases mx <;> simp only [vop, ho, if_true, if_false, Bool.false_eq_true, hz, reduceCtorEq] at h
    | some z =>
      cases mx <;> simp only [vop, ho, if_true, if_false, Bool.false_eq_true, hz, Option.some.injEq, Prod.mk.injEq] at h <;>
        exact ⟨z, rfl, h.1.symm, h.2.1.symm, h.2.2.symm⟩
  rw [hv1, hv2, hv3]
  have hl : All2 (Rep g) ((y :: r).map (ev C sl)) ((y :: r).map (evR a.tmps.toList)) := by
    generalize y :: r = l
    induction l with
    | nil => exact .nil
    | cons p l ih => exact .cons (ev_rep hg hi.rep p) ih
  obtain ⟨u, h1, h2, h3⟩ := vmin_run (C := C) (w := w) (t := 0) hz (ev_rep hg hi.rep x) hl
  obtain ⟨k, n, rfl⟩ := h3 (by simp)
  refine OpOk.pure hi (u := u) ?_ h2 rfl rfl
  have hargs : ((x :: y :: r).toArray.map a.eval).toList = evR a.tmps.toList x :: (y :: r).map (evR a.tmps.toList) := by simp [eval_evR]
  cases mx
  · have h4 : (Builtin.min_ ts o.type ((x :: y :: r).toArray.map a.eval)).run C.P w = .ok u w := by
      unfold Builtin.min_
      rw [hargs]
      simpa using h1
    simp only [execOp, ho, Bool.false_eq_true, if_false, resolve, invoke, builtin, Sem.run_bind, Sem.run_pure, Result.andThen_ok, h4]
  · have h4 : (Builtin.max_ ts o.type ((x :: y :: r).toArray.map a.eval)).run C.P w = .ok u w := by
      unfold Builtin.max_
      rw [hargs]
      simpa using h1
    simp only [execOp, ho, if_true, resolve, invoke, builtin, Sem.run_bind, Sem.run_pure, Result.andThen_ok, h4]

end
end Go.Wv
