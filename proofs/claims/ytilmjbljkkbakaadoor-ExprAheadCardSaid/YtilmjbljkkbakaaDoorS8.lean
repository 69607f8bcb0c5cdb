/-
  A part of the proof: our library of the interpreter.
-/
import Derived.Test.YtilmjbljkkbakaaDoorS7
import Derived.Laws.Tables
set_option linter.unusedSimpArgs false
set_option linter.unusedVariables false
set_option linter.unusedSectionVars false
set_option linter.unnecessarySimpa false
set_option linter.deprecated false
namespace Go.Wv

section
variable {C : Cfg} {Pr : Nat → Prop} {f : FuncId} {o : Oper} {g : G} {sl sl' : List VV} {B B' : List Blk} {a : Act} {w : World} {v : VV}

theorem trL_ok (hg : GlobOk C g) {tm : List Value} : ∀ {xs : List Operand} {sl sl' : List VV} {vs : List VV}, Inv Pr g sl B tm w → trL C sl xs = (vs, sl') →
    All2 (Rep g) vs (xs.map (evR tm)) ∧ okRs B.length vs = true ∧ All2 (Rep g) sl' tm ∧ okRs B.length sl' = true ∧ ∀ b, cntS b sl' tm + cntS b vs (xs.map (evR tm)) ≤ cntS b sl tm
  | [], sl, sl', vs, hi, h => by
    obtain ⟨rfl, rfl⟩ := Prod.mk.inj h
    exact ⟨.nil, rfl, hi.rep, hi.ok, fun b => by simp [cntS]⟩
  | x :: xs, sl, sl', vs, hi, h => by
    simp only [trL] at h
    obtain ⟨rfl, rfl⟩ := Prod.mk.inj h
    obtain ⟨h1, h2, h3, h4, h5⟩ := tr_ok hg hi (x := x) (v := (tr C sl x).1) (sl' := (tr C sl x).2) rfl
    have hi' : Inv Pr g (tr C sl x).2 B tm w := hi.change h3 h4 fun b => by have := h5 b; omega
    obtain ⟨k1, k2, k3, k4, k5⟩ := trL_ok hg (xs := xs) hi' (vs := (trL C (tr C sl x).2 xs).1) (sl' := (trL C (tr C sl x).2 xs).2) rfl
    refine ⟨.cons h1 k1, ?_, k3, k4, fun b => ?_⟩
    · simp only [okRs, List.all_cons, Bool.and_eq_true] at k2 ⊢
      exact ⟨h2, k2⟩
    · have := h5 b
      have := k5 b
      simp only [List.map_cons, cntS]
      omega

theorem zeroT_spec {P : Program} {t : TypeId} {z : VV} (h : zeroT P t = some z) : ∃ i zv, P.info? t = some i ∧ i.zero = some zv ∧ z = ofV zv := by
  unfold zeroT at h
  cases hi : P.info? t with
  | none => simp [hi] at h
  | some i =>
    cases hz : i.zero with
    | none => simp [hi, hz] at h
    | some zv => simp [hi, hz] at h; exact ⟨i, zv, rfl, hz, h.symm⟩

theorem zero_cells {g : G} {zv : Value} (h : isVal0 (ofV zv) = true) : All2 (RepC g) (ofV zv).cells zv.cells.toList ∧ (∀ b, cntL b (ofV zv).cells zv.cells.toList = 0) ∧ ∀ n, (ofV zv).cells.all (okC n) = true := by
  have hv : isVal (ofV zv) = true := by
    have := ofV_tup zv
    generalize ofV zv = x at *
    cases x <;> first | rfl | (cases h; done) | exact (this ⟨_, rfl⟩).elim
  obtain ⟨h1, h2⟩ := cells_rep (ofV_rep g zv) hv
  refine ⟨h1, fun b => by rw [h2 b, cnt_zero (ofV_own zv)], fun n => cells_ok ?_ hv⟩
  rw [okR_eq (ofV_tup zv)]
  exact ofV_ok n zv

theorem built_of {P : Program} {t : TypeId} {z : VV} {ps : List (Nat × VV)} {qs : List (Nat × Value)} {cs' : List VV} (hz : zeroT P t = some z) (hf : fldsT P t = true) (hv : isVal0 z = true)
    (h : fillS P t z.cells ps = some cs') (h2 : All2 (fun (p : Nat × VV) (q : Nat × Value) => p.1 = q.1 ∧ Rep g p.2 q.2) ps qs) :
    ∃ us', P.built t qs = some us' ∧ All2 (RepC g) cs' us'.toList ∧ (∀ b, cntL b cs' us'.toList ≤ cntS b (ps.map (·.2)) (qs.map (·.2))) ∧ ∀ n, okRs n (ps.map (·.2)) = true → cs'.all (okC n) = true := by
  obtain ⟨i, zv, hi, hzv, rfl⟩ := zeroT_spec hz
  obtain ⟨z1, z2, z3⟩ := zero_cells (g := g) hv
  unfold fldsT at hf
  split at hf <;> first | (cases hf; done) | skip
  · rename_i fs hu
    have hplaces : fs.toList.mapM (fun f => (P.info? f.type).map fun i => (f.offset, i.size)) = some (fs.toList.map fun f => (f.offset, szT P f.type)) := by
      rw [← Array.all_toList] at hf
      revert hf
      generalize fs.toList = l
      induction l with
      | nil => intro _; rfl
      | cons x l ih =>
        intro hl
        simp only [List.all_cons, Bool.and_eq_true] at hl
        obtain ⟨ix, hix⟩ := Option.isSome_iff_exists.1 hl.1
        simp [List.mapM_cons, hix, ih hl.2, szT]
    obtain ⟨us', e1, e2, _, e4, e5⟩ := fillS_run (P := P) (g := g) (t := t) (place := fun x => (fs.toList.map fun f => (f.offset, szT P f.type)).toArray[x]?) (fun j off sz hp => by
      have ha : arrT P t = none := by unfold arrT; rw [hu]
      rw [ha] at hp
      simp only at hp
      obtain ⟨fs', x, k1, k2, k3, k4, _⟩ := fldT_spec hp
      rw [hu] at k1
      obtain rfl := (TypeDesc.struct.inj (Option.some.inj k1))
      simp [k2, k3, k4]) ps qs _ cs' zv.cells h h2 z1
    refine ⟨us', ?_, e2, fun b => by have := e4 b; rw [z2 b] at this; omega, fun n hn => e5 n (z3 n) hn⟩
    unfold Program.built
    simp only [hi, hu, hzv, hplaces]
    exact e1
  · rename_i m e hu
    have hne : szT P e ≠ 0 := by simpa using hf
    obtain ⟨ie, hie, hse⟩ := szT_info hne
    obtain ⟨us', e1, e2, _, e4, e5⟩ := fillS_run (P := P) (g := g) (t := t) (place := fun x => some (x * szT P e, szT P e)) (fun j off sz hp => by
      have ha : arrT P t = some (m, e) := by unfold arrT; rw [hu]; simp [hne]
      rw [ha] at hp
      simp only at hp
      split at hp <;> first | (cases hp; done) | exact hp) ps qs _ cs' zv.cells h h2 z1
    refine ⟨us', ?_, e2, fun b => by have := e4 b; rw [z2 b] at this; omega, fun n hn => e5 n (z3 n) hn⟩
    unfold Program.built
    simp only [hi, hu, hzv, hie, hse]
    exact e1

theorem zip_parts {tm : List Value} : ∀ (l : List (Nat × Operand)) (vs : List VV), All2 (Rep g) vs ((l.map (·.2)).map (evR tm)) →
    All2 (fun (p : Nat × VV) (q : Nat × Value) => p.1 = q.1 ∧ Rep g p.2 q.2) ((l.map (·.1)).zip vs) (l.map fun p => (p.1, evR tm p.2))
  | [], _, .nil => .nil
  | p :: l, _, .cons q1 q2 => .cons ⟨rfl, q1⟩ (zip_parts l _ q2)

theorem build_ok (hg : GlobOk C g) (hi : Inv Pr g sl B a.tmps.toList w) {t : TypeId} {parts : Array (Nat × Operand)} (ho : o.op = .build t parts) (h : vop C f o sl B = some (v, sl', B')) : OpOk C Pr o g B.length sl' v B' a w := by
  simp only [vop, ho] at h
  split at h <;> first | (cases h; done) | skip
  rename_i z hz
  have key : ∀ (vs : List VV) (sl1 : List VV), vs.length = parts.toList.length → All2 (Rep g) vs ((parts.toList.map (·.2)).map (evR a.tmps.toList)) → okRs B.length vs = true → All2 (Rep g) sl1 a.tmps.toList → okRs B.length sl1 = true →
      (∀ b, cntS b sl1 a.tmps.toList + cntS b vs ((parts.toList.map (·.2)).map (evR a.tmps.toList)) ≤ cntS b sl a.tmps.toList) →
      (if fldsT C.P t = true ∧ isVal0 z = true then
        match fillS C.P t z.cells ((parts.toList.map (·.1)).zip vs) with
        | some cs => some (VV.agg cs, sl1, B)
        | none => none
      else none) = some (v, sl', B') → OpOk C Pr o g B.length sl' v B' a w := by
    intro vs sl1 hlen hvs hok hs1 hs2 hcnt h
    split at h <;> first | (cases h; done) | skip
    rename_i hc
    split at h <;> first | (cases h; done) | skip
    rename_i cs hcs
    simp only [Option.some.injEq, Prod.mk.injEq] at h
    obtain ⟨rfl, rfl, rfl⟩ := h
    have h2 := zip_parts parts.toList vs hvs
    have hm : ((parts.toList.map (·.1)).zip vs).map (·.2) = vs := by
      rw [← List.unzip_snd, List.unzip_zip_right]
      simp [hlen]
    obtain ⟨us', e1, e2, e3, e4⟩ := built_of (g := g) hz hc.1 hc.2 hcs h2
    rw [hm] at e3 e4
    have hq : (parts.toList.map fun p => (p.1, evR a.tmps.toList p.2)).map (·.2) = (parts.toList.map (·.2)).map (evR a.tmps.toList) := by simp
    rw [hq] at e3
    refine ⟨_, .agg us', w, g, ?_, .inl rfl, Ext.refl _ _ _ _, hi.change (All2_put hs1 (show Rep g (.agg cs) (.agg us') from ⟨us', rfl, e2⟩) o.dst) (okRs_put hs2 (show okR B.length (.agg cs) = true from e4 _ hok) o.dst) fun b => ?_⟩
    · have hp : (parts.map fun (i, x) => (i, a.eval x)).toList = parts.toList.map fun p => (p.1, evR a.tmps.toList p.2) := by
        simp [eval_evR]
      simp only [execOp, ho, Sem.run_bind, run_build w t _ us' (by rw [hp]; exact e1), Result.andThen_ok, Sem.run_pure]
    · have c1 := cntS_put (b := b) hs1.length (.agg cs) (.agg us') o.dst
      have c2 := e3 b
      have c3 := hcnt b
      simp only [cnt, cntV] at c1
      omega
  by_cases ht : (o.dst.map (C.take f)).getD false = true
  · rw [if_pos ht] at h
    obtain ⟨k1, k2, k3, k4, k5⟩ := trL_ok hg hi (xs := parts.toList.map (·.2)) (vs := (trL C sl (parts.toList.map (·.2))).1) (sl' := (trL C sl (parts.toList.map (·.2))).2) rfl
    exact key _ _ (by have := k1.length; simpa using this) k1 k2 k3 k4 k5 h
  · rw [if_neg ht] at h
    refine key (parts.toList.map fun p => toView (ev C sl p.2)) sl (by simp) ?_ ?_ hi.rep hi.ok ?_ h
    · generalize parts.toList = l
      induction l with
      | nil => exact .nil
      | cons p l ih => exact .cons (Rep_toView (ev_rep hg hi.rep p.2)) ih
    · refine List.all_eq_true.2 fun x hx => ?_
      obtain ⟨p, _, rfl⟩ := List.mem_map.1 hx
      exact okR_toView (ev_ok hi.ok p.2)
    · intro b
      have : ∀ l : List (Nat × Operand), cntS b (l.map fun p => toView (ev C sl p.2)) ((l.map (·.2)).map (evR a.tmps.toList)) = 0 := by
        intro l
        induction l with
        | nil => rfl
        | cons p l ih => simp only [List.map_cons, cntS, toView_cnt, ih]
      rw [this]
      omega

end
end Go.Wv
