/-
  A part of the proof: our library of the interpreter.
-/
import Derived.Test.YtilmjbljkkbakaaDoorS19
set_option linter.unusedSimpArgs false
set_option linter.unusedVariables false
set_option linter.unusedSectionVars false
set_option linter.unnecessarySimpa false
set_option linter.deprecated false
namespace Go.Wv

/-! What a function returns. -/
section
variable {C : Cfg} {Pr : Nat → Prop} {g g' : G} {sl sl' acc : List VV} {B B' : List Blk} {tm uacc : List Value} {w : World} {v : VV}

theorem RepV_isVal {v : VV} {u : Value} (h : RepV g v u) : isVal v = true := by cases v <;> first | rfl | exact h.elim
theorem Rep_isVal {v : VV} {u : Value} (h : Rep g v u) (hv : isVal v = true) : RepV g v u := by cases v <;> first | exact h | cases hv
theorem isVal_notTup {v : VV} (hv : isVal v = true) : ¬ ∃ vs, v = .tup vs := by rintro ⟨vs, rfl⟩; cases hv
theorem isVal_viewC {v : VV} (hv : isVal v = true) : isVal (viewC v) = true := by
  cases v <;> first | rfl | cases hv | skip
  rename_i f xs
  cases f <;> rfl
theorem isVal_viewV {v : VV} (hv : isVal v = true) : isVal (viewV v) = true := by
  cases v <;> first | rfl | cases hv | skip
  rename_i f xs
  cases f <;> rfl
theorem isVal_toView {v : VV} (hv : isVal v = true) : isVal (toView v) = true := by
  rw [toView_viewV (isVal_notTup hv)]; exact isVal_viewV hv

/-- what is read of a block -/
theorem readB_run (hi : Inv Pr g sl B tm w) {id off : Nat} {b : Blk} {t : TypeId} {v0 : VV} (hb : B[id]? = some b) (h : readAt C.P t b.cells off = some v0) (hid : id < B.length) :
    ∃ z, (loadVar t ⟨g.phi id, off, none⟩).run C.P w = .ok z w ∧ RepV g v0 z ∧ okR B.length v0 = true := by
  have key : ∃ arr T fz, w.heap[g.phi id]? = some (.cells arr T fz) ∧ (∀ (j : Nat) c, b.cells[j]? = some c → ∃ u, arr[j]? = some u ∧ RepC g c u) ∧ b.cells.all (okC B.length) = true := by
    cases b with
    | var cs =>
      obtain ⟨⟨arr, T, hh, hcs⟩, _, hok⟩ := hi.sto.var id cs hb
      exact ⟨arr, T, _, hh, fun j c hc => let ⟨u, hu, hr⟩ := hcs.get hc; ⟨u, by simpa using hu, hr⟩, all_okC_mono (by omega) hok⟩
    | ro cs =>
      obtain ⟨com, h1, h2⟩ := hi.sto.ro id cs hb
      obtain ⟨arr, T, fz, hh, _, hcs, _⟩ := hi.sto.comm _ _ h1
      refine ⟨arr, T, fz, hh, fun j c hc => let ⟨u, hu, hr, _⟩ := hcs j c (prefix_get h2 hc); ⟨u, hu, hr⟩, List.all_eq_true.2 fun c hc => ?_⟩
      obtain ⟨j, hj⟩ := List.getElem?_of_mem hc
      obtain ⟨_, _, _, _, hk⟩ := hcs j c (prefix_get h2 hj)
      exact okC_mono (Nat.zero_le _) hk
  obtain ⟨arr, T, fz, hh, hcs, hok⟩ := key
  obtain ⟨z, hz1, hz2, hz3⟩ := readAt_run (C := C) (base := 0) hh (fun j c hc => by rw [Nat.zero_add]; exact hcs j c hc) h
  rw [Nat.zero_add] at hz1
  refine ⟨z, hz1, hz2, ?_⟩
  rw [okR_eq (isVal_notTup (RepV_isVal hz2))]
  rcases hz3 with ⟨_, rfl, _, _⟩ | ⟨_, e1, e2⟩
  · exact List.all_eq_true.2 fun c hc => List.all_eq_true.1 hok c (List.mem_of_mem_drop (List.mem_of_mem_take hc))
  · obtain ⟨u, _, hr⟩ := hcs _ _ e1
    rw [okV_eq (by rintro ⟨cs, rfl⟩; exact hr.elim)]
    exact List.all_eq_true.1 hok _ (List.mem_of_getElem? e1)

theorem tr_fst (sl : List VV) (t : Nat) : (tr C sl (.tmp t)).1 = getS sl t := by
  simp only [tr]; split <;> rfl

theorem resL_ok (hg : GlobOk C g) {fr : ResultVar → Sem Value} (hf1 : ∀ t, fr (.tmp t) = pure (evR tm (.tmp t))) (hf2 : ∀ a t, fr (.cell a t) = do loadVar t (← asAddr (evR tm (.tmp a)))) :
    ∀ {rs : List ResultVar} {sl vs : List VV}, Inv Pr g sl B tm w → resL C sl B rs = some vs →
    ∃ us, (rs.mapM fr).run C.P w = .ok us w ∧ All2 (Rep g) vs us ∧ okRs B.length vs = true ∧ vs.all isVal = true ∧ ∀ b, cntS b vs us ≤ cntS b sl tm
  | [], sl, vs, hi, h => by
    simp only [resL, Option.some.injEq] at h
    subst h
    exact ⟨[], by simp only [List.mapM_nil, Sem.run_pure], .nil, rfl, rfl, fun b => by simp [cntS]⟩
  | .tmp t :: rs, sl, vs, hi, h => by
    unfold resL at h
    split at h <;> first | (cases h; done) | skip
    rename_i hv
    split at h <;> first | (cases h; done) | skip
    rename_i vs2 h2
    simp only [Option.some.injEq] at h
    subst h
    obtain ⟨t1, t2, t3, t4, t5⟩ := tr_ok hg hi (x := .tmp t) (v := (tr C sl (.tmp t)).1) (sl' := (tr C sl (.tmp t)).2) rfl
    rw [tr_fst] at t1 t2 t5
    obtain ⟨us, r1, r2, r3, r4, r5⟩ := resL_ok hg hf1 hf2 (hi.change t3 t4 fun b => by have := t5 b; omega) h2
    refine ⟨evR tm (.tmp t) :: us, ?_, .cons t1 r2, ?_, ?_, fun b => ?_⟩
    · simp only [List.mapM_cons, Sem.run_bind, hf1, Sem.run_pure, Result.andThen_ok, r1]
    · simp only [okRs, List.all_cons, t2, Bool.true_and]; exact r3
    · simp only [List.all_cons, hv, r4, Bool.and_self]
    · have := t5 b; have := r5 b; simp only [cntS]; omega
  | .cell a t :: rs, sl, vs, hi, h => by
    unfold resL at h
    split at h <;> first | (cases h; done) | skip
    rename_i id off ha
    split at h <;> first | (cases h; done) | skip
    rename_i b hb
    split at h <;> first | (cases h; done) | skip
    rename_i v0 vs2 h1 h2
    simp only [Option.some.injEq] at h
    subst h
    have hrep := getS_rep hi.rep a
    rw [ha] at hrep
    have hid : id < B.length := (List.getElem?_eq_some_iff.1 hb).1
    obtain ⟨z, z1, z2, z3⟩ := readB_run hi hb h1 hid
    obtain ⟨us, r1, r2, r3, r4, r5⟩ := resL_ok hg hf1 hf2 hi h2
    refine ⟨z :: us, ?_, .cons (Rep_toView (Rep_of_RepV z2)) r2, ?_, ?_, fun b => ?_⟩
    · have hp : evR tm (.tmp a) = .pointer (some ⟨g.phi id, off, none⟩) := hrep
      simp only [List.mapM_cons, Sem.run_bind, hf2, hp, asAddr, Sem.run_pure, Result.andThen_ok, z1, r1]
    · simp only [okRs, List.all_cons, okR_toView z3, Bool.true_and]; exact r3
    · simp only [List.all_cons, isVal_toView (RepV_isVal z2), r4, Bool.and_self]
    · have := r5 b; simp only [cntS, toView_cnt]; omega

theorem freeze_isVal {v v' : VV} (hv : isVal v = true) (h : freeze B v = some (v', B')) : isVal v' = true := by
  have hC : ∀ {v : VV}, isVal v = true → (∀ cs, v ≠ .agg cs) → freezeC B v = some (v', B') → isVal v' = true := by
    intro v hv hna h
    have plain : v' = viewC v → isVal v' = true := by
      rintro rfl
      exact isVal_viewC hv
    cases v <;> simp only [freezeC] at h <;> try (simp only [Option.some.injEq, Prod.mk.injEq] at h; exact plain h.1.symm)
    split at h <;> first | (cases h; done) | skip
    split at h <;> first | (cases h; done) | skip
    simp only [Option.some.injEq, Prod.mk.injEq] at h
    rw [← h.1]; rfl
  cases v <;> first | (cases hv; done) | (exact hC hv (by simp) h) | skip
  simp only [freeze] at h
  split at h <;> first | (cases h; done) | skip
  simp only [Option.some.injEq, Prod.mk.injEq] at h
  rw [← h.1]; rfl

theorem freezeR_ok {own : Bool} : ∀ {vs vs' acc : List VV} {us uacc : List Value} {g : G} {B B' : List Blk}, acc.length = uacc.length → Inv Pr g (acc ++ vs) B (uacc ++ us) w → vs.all isVal = true →
    freezeR own B vs = some (vs', B') → ∃ g', Grow Pr g g' ∧ Inv Pr g' (acc ++ vs') B' (uacc ++ us) w ∧ vs'.all isVal = true
  | [], vs', acc, us, uacc, g, B, B', hl, hi, hv, h => by
    simp only [freezeR, Option.some.injEq, Prod.mk.injEq] at h
    obtain ⟨rfl, rfl⟩ := h
    exact ⟨g, Grow.refl g, hi, rfl⟩
  | v :: vs, vs', acc, [], uacc, g, B, B', hl, hi, hv, h => by
    obtain ⟨_, h2⟩ := All2.split hl hi.rep
    cases h2
  | v :: vs, vs', acc, u :: us, uacc, g, B, B', hl, hi, hv, h => by
    unfold freezeR at h
    split at h <;> first | (cases h; done) | skip
    rename_i v1 B1 h1
    split at h <;> first | (cases h; done) | skip
    rename_i vs2 B2 h2
    simp only [Option.some.injEq, Prod.mk.injEq] at h
    obtain ⟨rfl, rfl⟩ := h
    simp only [List.all_cons, Bool.and_eq_true] at hv
    have step : ∃ g1, Grow Pr g g1 ∧ Inv Pr g1 ((acc ++ [v1]) ++ vs) B1 ((uacc ++ [u]) ++ us) w ∧ isVal v1 = true := by
      split at h1
      · simp only [Option.some.injEq, Prod.mk.injEq] at h1
        obtain ⟨rfl, rfl⟩ := h1
        exact ⟨g, Grow.refl g, by simpa using hi, hv.1⟩
      · have hr := hi.right hl
        cases hr.rep with
        | cons hrv hrs =>
          have hok := hr.ok
          simp only [okRs, List.all_cons, Bool.and_eq_true] at hok
          obtain ⟨g1, f1, r1, o1, k1⟩ := freeze_ok hi hrv hok.1 h1
          have hlb := freeze_len h1
          refine ⟨g1, f1.grow, ?_, freeze_isVal hv.1 h1⟩
          obtain ⟨q1, q2⟩ := All2.split hl f1.inv.rep
          have q3 := f1.inv.ok
          rw [okRs_append, Bool.and_eq_true] at q3
          cases q2 with
          | cons q4 q5 =>
            refine f1.inv.change ((q1.append (.cons r1 .nil)).append q5) ?_ fun b => ?_
            · rw [okRs_append, okRs_append, q3.1]
              have := q3.2
              simp only [okRs, List.all_cons, List.all_nil, Bool.and_eq_true, Bool.and_true] at this ⊢
              rw [hlb]
              exact ⟨⟨trivial, k1⟩, by rw [← hlb]; exact this.2⟩
            · rw [cntS_append (by simp [hl]), cntS_append hl, cntS_append hl, cntS_one, cnt_zero o1]
              simp only [cntS]; omega
    obtain ⟨g1, gr1, hi1, hv1⟩ := step
    obtain ⟨g2, gr2, hi2, hv2⟩ := freezeR_ok (by simp [hl]) hi1 hv.2 h2
    exact ⟨g2, gr1.trans gr2, by simpa using hi2, by simp only [List.all_cons, hv1, hv2, Bool.and_self]⟩

/-- the value of several -/
def tupR (us : List Value) : Value := if h : us.toArray.size = 1 then us.toArray[0] else .tuple us.toArray

theorem cntVL_cntS {b : Nat} : ∀ {vs : List VV} {us : List Value}, vs.all isVal = true → cntVL b vs us = cntS b vs us
  | [], us, _ => by cases us <;> rfl
  | v :: vs, [], _ => rfl
  | v :: vs, u :: us, h => by
    simp only [List.all_cons, Bool.and_eq_true] at h
    simp only [cntVL, cntS, cntVL_cntS h.2, cnt_eq (isVal_notTup h.1)]

theorem tuple1_ok {vs : List VV} {us : List Value} (hi : Inv Pr g vs B us w) (hv : vs.all isVal = true) : Inv Pr g [tuple1 vs] B [tupR us] w := by
  have hl := hi.rep.length
  have hr := hi.rep
  have ho := hi.ok
  have multi : vs.length ≠ 1 → Inv Pr g [tuple1 vs] B [tupR us] w := by
    intro hne
    have e1 : tuple1 vs = .tup vs := by
      cases vs with
      | nil => rfl
      | cons v vs => cases vs with
        | nil => exact absurd rfl hne
        | cons => rfl
    have e2 : tupR us = .tuple us.toArray := by
      unfold tupR
      rw [dif_neg (by simpa [← hl] using hne)]
    rw [e1, e2]
    refine hi.change (.cons ⟨us.toArray, rfl, ?_⟩ .nil) ?_ fun b => ?_
    · exact hr.mono fun v u hm h => Rep_isVal h (List.all_eq_true.1 hv v hm)
    · simp only [okRs, List.all_cons, List.all_nil, Bool.and_true, okR]
      refine List.all_eq_true.2 fun v hm => ?_
      have := List.all_eq_true.1 ho v hm
      rwa [okR_eq (isVal_notTup (List.all_eq_true.1 hv v hm))] at this
    · rw [cntS_one]
      show cntVL b vs us ≤ _
      rw [cntVL_cntS hv]
      exact Nat.le_refl _
  by_cases h1 : vs.length = 1
  · cases vs with
    | nil => simp at h1
    | cons v vs => cases vs with
      | cons => simp at h1
      | nil => cases us with
        | nil => simp at hl
        | cons u us => cases us with
          | cons => simp at hl
          | nil => exact hi
  · exact multi h1

def resF (tmps : Array Value) : ResultVar → Sem Value
  | .tmp t => pure (tmps.getD t undef)
  | .cell a t => do loadVar t (← asAddr (tmps.getD a undef))

theorem results_run (hg : GlobOk C g) {fn : Func} {tmps : Array Value} (hi : Inv Pr g sl B tmps.toList w) {vs : List VV} (h : resL C sl B fn.results.toList = some vs) :
    ∃ us, (results fn tmps).run C.P w = .ok (tupR us) w ∧ vs.all isVal = true ∧ Inv Pr g vs B us w := by
  obtain ⟨us, r1, r2, r3, r4, r5⟩ := resL_ok hg (fr := resF tmps) (tm := tmps.toList) (fun t => by
      simp only [resF, evR, Array.getD_eq_getD_getElem?, List.getD_eq_getElem?_getD, Array.getElem?_toList]) (fun a t => by
      simp only [resF, evR, Array.getD_eq_getD_getElem?, List.getD_eq_getElem?_getD, Array.getElem?_toList]) hi h
  refine ⟨us, ?_, r4, hi.change r2 r3 r5⟩
  unfold results
  rw [Array.mapM_eq_mapM_toList]
  simp only [Sem.run_bind, Sem.run_map]
  show (((Sem.run C.P (List.mapM (resF tmps) fn.results.toList) w).andThen (fun a w' => .ok a.toArray w')).andThen (fun a w' => Sem.run C.P (pure (if h : a.size = 1 then a[0] else Value.tuple a)) w')) = _
  rw [r1]
  simp only [Result.andThen_ok, Sem.run_pure]
  rfl
end
end Go.Wv
