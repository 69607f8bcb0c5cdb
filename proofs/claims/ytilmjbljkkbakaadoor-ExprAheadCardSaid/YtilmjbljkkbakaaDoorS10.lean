/-
  A part of the proof: our library of the interpreter.
-/
import Derived.Test.YtilmjbljkkbakaaDoorS9
set_option linter.unusedSimpArgs false
set_option linter.unusedVariables false
set_option linter.unusedSectionVars false
set_option linter.unnecessarySimpa false
set_option linter.deprecated false
namespace Go.Wv

theorem prefix_get {l m : List VV} (h : l <+: m) {j : Nat} {c : VV} (hc : l[j]? = some c) : m[j]? = some c := by
  obtain ⟨t, rfl⟩ := h
  rw [List.getElem?_append_left (List.getElem?_eq_some_iff.1 hc).1]
  exact hc

theorem set_get {B : List Blk} {id : Nat} {x : Blk} (hid : id < B.length) {i : Nat} {y : Blk} (h : (B.set id x)[i]? = some y) : (i = id ∧ y = x) ∨ (i ≠ id ∧ B[i]? = some y) := by
  by_cases e : i = id
  · subst e
    rw [List.getElem?_set_self hid] at h
    exact .inl ⟨rfl, (Option.some.inj h).symm⟩
  · rw [List.getElem?_set_ne (fun h => e h.symm)] at h
    exact .inr ⟨e, h⟩

section
variable {C : Cfg} {Pr : Nat → Prop} {f : FuncId} {o : Oper} {g : G} {sl sl' : List VV} {B B' : List Blk} {a : Act} {w : World} {v : VV}

/-- a new variable's address is put into the slot -/
theorem OpOk.newVar (hi : Inv Pr g sl B a.tmps.toList w) {cs : List VV} {arr : Array Value} {T : TypeId} (hr : All2 (RepC g) cs arr.toList) (ho : cs.all (okC B.length) = true)
    (hrep2 : All2 (Rep g) sl' a.tmps.toList) (hok2 : okRs B.length sl' = true) (hcnt : ∀ b, cntS b sl' a.tmps.toList + cntL b cs arr.toList ≤ cntS b sl a.tmps.toList)
    (hrun : (execOp a.eval o).run C.P w = .ok (.value (.pointer (some ⟨w.heap.size, 0, none⟩))) (w.alloc (.cells arr T))) :
    OpOk C Pr o g B.length sl' (.ptr B.length 0) (B ++ [.var cs]) a w := by
  obtain ⟨h1, h2⟩ := hi.newVar T hr ho hrep2 hok2 hcnt
  refine ⟨_, _, _, _, hrun, .inl rfl, h1, h2.put ?_ ?_ (fun _ => cnt_zero rfl) o.dst⟩
  · show _ = _
    rw [G.at_self]
  · simp [okR, okV, okC]

theorem alloc_ok (hi : Inv Pr g sl B a.tmps.toList w) {t : TypeId} (ho : o.op = .alloc t) (h : vop C f o sl B = some (v, sl', B')) : OpOk C Pr o g B.length sl' v B' a w := by
  simp only [vop, ho] at h
  split at h <;> first | (cases h; done) | skip
  rename_i z hz
  split at h <;> first | (cases h; done) | skip
  rename_i hv
  simp only [Option.some.injEq, Prod.mk.injEq] at h
  obtain ⟨rfl, rfl, rfl⟩ := h
  obtain ⟨i, zv, hi', hzv, rfl⟩ := zeroT_spec hz
  have hv0 : isVal0 (ofV zv) = true := by generalize ofV zv = x at hv; cases x <;> first | rfl | cases hv
  obtain ⟨z1, z2, z3⟩ := zero_cells (g := g) hv0
  refine OpOk.newVar (T := t) hi z1 (z3 _) hi.rep hi.ok (fun b => by rw [z2 b]; omega) ?_
  simp only [execOp, ho, Instr.alloc, Sem.run_bind, zeroValue, typeInfo, run_program, Result.andThen_ok, hi', Sem.run_pure, hzv, newVar, newRow, run_newObj, World.alloc_eq]

theorem box_ok (hg : GlobOk C g) (hi : Inv Pr g sl B a.tmps.toList w) {t : TypeId} {x : Operand} (ho : o.op = .box t x) (h : vop C f o sl B = some (v, sl', B')) : OpOk C Pr o g B.length sl' v B' a w := by
  simp only [vop, ho] at h
  split at h <;> first | (cases h; done) | skip
  rename_i hc
  simp only [Option.some.injEq, Prod.mk.injEq] at h
  obtain ⟨rfl, rfl, rfl⟩ := h
  obtain ⟨h1, h2, h3, h4, h5⟩ := tr_ok hg hi (x := x) (v := (tr C sl x).1) (sl' := (tr C sl x).2) rfl
  obtain ⟨k1, k2⟩ := cells_rep h1 hc.1
  refine OpOk.newVar (T := t) hi k1 (cells_ok h2 hc.1) h3 h4 (fun b => by rw [k2 b]; exact h5 b) ?_
  simp only [execOp, ho, Instr.box, Sem.run_bind, newVar, newRow, run_newObj, World.alloc_eq, Result.andThen_ok, Sem.run_pure, eval_evR]

theorem loadVar_run {t : TypeId} {b off : Nat} {arr : Array Value} {T : TypeId} {fz : Nat × Nat} (hh : w.heap[b]? = some (.cells arr T fz)) :
    (aggT C.P t = some true → 0 < szT C.P t → off + szT C.P t ≤ arr.size → (loadVar t ⟨b, off, none⟩).run C.P w = .ok (.agg ((arr.toList.drop off).take (szT C.P t)).toArray) w) ∧
    (aggT C.P t = some false → ∀ z, arr[off]? = some z → (loadVar t ⟨b, off, none⟩).run C.P w = .ok z w) := by
  constructor
  · intro ha hpos hle
    have hl : (loadCells ⟨b, off, none⟩ ((arr.toList.drop off).take (szT C.P t)).length).run C.P w = .ok ((arr.toList.drop off).take (szT C.P t)).toArray w :=
      run_loadCells_list (P := C.P) w ⟨b, off, none⟩ _ (fun j z hz => by
        rw [Addr_add', cell_of_row w b (off + j) arr T fz hh]
        rw [List.getElem?_take] at hz
        split at hz
        · rw [List.getElem?_drop] at hz; simpa using hz
        · cases hz)
    have hlen : ((arr.toList.drop off).take (szT C.P t)).length = szT C.P t := by simp; omega
    rw [hlen] at hl
    simp only [loadVar, Sem.run_bind, aggT_run ha, Result.andThen_ok, if_true, sizeOf_run (w := w) (show szT C.P t ≠ 0 by omega), hl, Sem.run_pure]
  · intro ha z hz
    simp only [loadVar, Sem.run_bind, aggT_run ha, Result.andThen_ok, Bool.false_eq_true, if_false, run_load, cell_of_row w b off arr T fz hh, hz]

/-- what is read at a place of told cells -/
theorem readAt_run {t : TypeId} {b base : Nat} {cs : List VV} {off : Nat} {arr : Array Value} {T : TypeId} {fz : Nat × Nat} {v0 : VV} (hh : w.heap[b]? = some (.cells arr T fz))
    (hcs : ∀ (j : Nat) c, cs[j]? = some c → ∃ u, arr[base + j]? = some u ∧ RepC g c u) (h : readAt C.P t cs off = some v0) :
    ∃ z, (loadVar t ⟨b, base + off, none⟩).run C.P w = .ok z w ∧ RepV g v0 z ∧
      ((aggT C.P t = some true ∧ v0 = .agg ((cs.drop off).take (szT C.P t)) ∧ off + szT C.P t ≤ cs.length ∧ z = .agg ((arr.toList.drop (base + off)).take (szT C.P t)).toArray) ∨ (aggT C.P t = some false ∧ cs[off]? = some v0 ∧ arr[base + off]? = some z)) := by
  unfold readAt at h
  split at h <;> first | (cases h; done) | skip
  · rename_i ha
    split at h <;> first | (cases h; done) | skip
    rename_i hc
    obtain rfl := Option.some.inj h
    obtain ⟨hle, hpos⟩ := hc
    have hsz : base + off + szT C.P t ≤ arr.size := by
      obtain ⟨u, hu, _⟩ := hcs (off + szT C.P t - 1) _ (List.getElem?_eq_getElem (by omega))
      have := (Array.getElem?_eq_some_iff.1 hu).1
      omega
    refine ⟨_, (loadVar_run hh).1 ha hpos hsz, ⟨_, rfl, ?_⟩, .inl ⟨ha, rfl, hle, rfl⟩⟩
    refine All2.of_get (by simp; omega) fun j c z hc hz => ?_
    rw [List.getElem?_take] at hc hz
    split at hc <;> first | (cases hc; done) | skip
    rename_i hj
    rw [if_pos hj] at hz
    rw [List.getElem?_drop] at hc hz
    obtain ⟨u, hu, hr⟩ := hcs _ _ hc
    rw [← Array.getElem?_toList, ← Nat.add_assoc, hz] at hu
    obtain rfl := Option.some.inj hu
    exact hr
  · rename_i ha
    obtain ⟨u, hu, hr⟩ := hcs off v0 h
    refine ⟨u, (loadVar_run hh).2 ha u hu, ?_, .inr ⟨ha, h, hu⟩⟩
    cases v0 <;> first | exact hr | exact hr.elim

theorem load_run {t : TypeId} {x : Operand} {b off : Nat} {z : Value} (ho : o.op = .load t x) (hx : evR a.tmps.toList x = .pointer (some ⟨b, off, none⟩))
    (hl : (loadVar t ⟨b, off, none⟩).run C.P w = .ok z w) : (execOp a.eval o).run C.P w = .ok (.value z) w := by
  simp only [execOp, ho, eval_evR, hx, Instr.loadAt, Instr.sureAddr, Sem.run_bind, Sem.run_pure, Result.andThen_ok, hl]

theorem viewV_cells {v0 : VV} (h : ¬ ∃ vs, v0 = .tup vs) : (viewV v0).cells = v0.cells.map viewC := by
  cases v0 <;> first | rfl | exact absurd ⟨_, rfl⟩ h | skip
  rename_i fl xs
  cases fl <;> rfl
theorem toView_viewV {v0 : VV} (h : ¬ ∃ vs, v0 = .tup vs) : toView v0 = viewV v0 := by
  cases v0 <;> first | rfl | exact absurd ⟨_, rfl⟩ h

theorem load_ok (hg : GlobOk C g) (hi : Inv Pr g sl B a.tmps.toList w) {t : TypeId} {x : Operand} (ho : o.op = .load t x) (h : vop C f o sl B = some (v, sl', B')) : OpOk C Pr o g B.length sl' v B' a w := by
  have hrep := ev_rep hg hi.rep x
  have hok := ev_ok (C := C) hi.ok x
  simp only [vop, ho] at h
  split at h <;> first | (cases h; done) | skip
  · rename_i id off he
    rw [he] at hrep hok
    have hx : evR a.tmps.toList x = .pointer (some ⟨g.phi id, off, none⟩) := hrep
    split at h <;> first | (cases h; done) | skip
    rename_i b hb
    split at h <;> first | (cases h; done) | skip
    rename_i v0 hv0
    have hidl : id < B.length := (List.getElem?_eq_some_iff.1 hb).1
    have hbok : b.cells.all (okC (id + 1)) = true := by
      cases b with
      | var cs => exact (hi.sto.var id cs hb).2.2
      | ro cs =>
        obtain ⟨com, h1, h2⟩ := hi.sto.ro id cs hb
        obtain ⟨arr, T, fz, _, _, h3, _⟩ := hi.sto.comm _ com h1
        refine List.all_eq_true.2 fun c hc => ?_
        obtain ⟨j, hj⟩ := List.getElem?_of_mem hc
        obtain ⟨u, _, _, _, h4⟩ := h3 j c (prefix_get h2 hj)
        exact okC_mono (by omega) h4
    have hheap : ∃ arr T fz, w.heap[g.phi id]? = some (.cells arr T fz) ∧ ∀ (j : Nat) c, b.cells[j]? = some c → ∃ u, arr[0 + j]? = some u ∧ RepC g c u := by
      cases b with
      | var cs =>
        obtain ⟨⟨arr, T, h1, h2⟩, _, _⟩ := hi.sto.var id cs hb
        refine ⟨arr, T, _, h1, fun j c hc => ?_⟩
        obtain ⟨u, hu, hr⟩ := h2.get hc
        exact ⟨u, by rw [Nat.zero_add, ← Array.getElem?_toList]; exact hu, hr⟩
      | ro cs =>
        obtain ⟨com, h1, h2⟩ := hi.sto.ro id cs hb
        obtain ⟨arr, T, fz, h3, _, h4, _⟩ := hi.sto.comm _ com h1
        refine ⟨arr, T, fz, h3, fun j c hc => ?_⟩
        obtain ⟨u, hu, hr, _⟩ := h4 j c (prefix_get h2 hc)
        exact ⟨u, by rw [Nat.zero_add]; exact hu, hr⟩
    obtain ⟨arr, T, fz, hh, hcs⟩ := hheap
    obtain ⟨z, hz1, hz2, hz3⟩ := readAt_run (C := C) (base := 0) hh hcs hv0
    rw [Nat.zero_add] at hz1 hz3
    have hrun := load_run (C := C) ho hx hz1
    have hnt := RepV_not_tup hz2
    have hv0ok : okV (id + 1) v0 = true := by
      rcases hz3 with ⟨_, rfl, _, _⟩ | ⟨_, h1, _⟩
      · exact List.all_eq_true.2 fun c hc => List.all_eq_true.1 hbok c (List.mem_of_mem_drop (List.mem_of_mem_take hc))
      · have h2 : ¬ ∃ cs', v0 = .agg cs' := by
          rintro ⟨cs', rfl⟩
          obtain ⟨_, _, h3⟩ := hcs _ _ h1
          exact h3
        rw [okV_eq h2]
        exact List.all_eq_true.1 hbok v0 (List.mem_of_getElem? h1)
    have hv0ok' : okR B.length v0 = true := by rw [okR_eq hnt]; exact okV_mono (by omega) hv0ok
    split at h
    · split at h <;> first | (cases h; done) | skip
      rename_i cs
      split at h <;> first | (cases h; done) | skip
      simp only [Blk.cells] at hv0 hcs hz3 hbok
      simp only [Option.some.injEq, Prod.mk.injEq] at h
      obtain ⟨rfl, rfl, rfl⟩ := h
      obtain ⟨⟨arr', T', h1, h2⟩, hcn, hcok⟩ := hi.sto.var id cs hb
      rw [hh] at h1
      cases h1
      have hsp : All2 (RepC g) (splice cs off (toView v0).cells) arr.toList ∧ ∀ b, cntL b (splice cs off (toView v0).cells) arr.toList + cnt b v0 z = cntL b cs arr.toList := by
        rw [toView_viewV hnt, viewV_cells hnt]
        have hlen2 := h2.length
        have hz4 : All2 (RepC g) v0.cells ((arr.toList.drop off).take v0.cells.length) ∧ off + v0.cells.length ≤ cs.length ∧ (cs.drop off).take v0.cells.length = v0.cells ∧ ∀ b, cntL b v0.cells ((arr.toList.drop off).take v0.cells.length) = cnt b v0 z := by
          rcases hz3 with ⟨_, rfl, hle, rfl⟩ | ⟨_, e1, e2⟩
          · have hl : ((cs.drop off).take (szT C.P t)).length = szT C.P t := by simp; omega
            refine ⟨?_, ?_, ?_, fun b => ?_⟩
            · show All2 (RepC g) ((cs.drop off).take (szT C.P t)) _
              rw [show (VV.agg ((cs.drop off).take (szT C.P t))).cells.length = szT C.P t from hl]
              exact (h2.drop off).take _
            · show off + ((cs.drop off).take (szT C.P t)).length ≤ _; omega
            · show (cs.drop off).take ((cs.drop off).take (szT C.P t)).length = _; rw [hl]; rfl
            · show cntL b ((cs.drop off).take (szT C.P t)) _ = cntL b _ _; rw [show (VV.agg ((cs.drop off).take (szT C.P t))).cells.length = szT C.P t from hl]
          · have e3 := (List.getElem?_eq_some_iff.1 e1).1
            have hna : ¬ ∃ cs', v0 = .agg cs' := by
              rintro ⟨cs', rfl⟩
              obtain ⟨_, _, h3⟩ := hcs _ _ e1
              exact h3
            have hcell : v0.cells = [v0] := by cases v0 <;> first | rfl | exact absurd ⟨_, rfl⟩ hna
            have hzl : (arr.toList.drop off).take 1 = [z] := by
              have : arr.toList[off]? = some z := by rw [Array.getElem?_toList]; exact e2
              obtain ⟨hlt, hzz⟩ := List.getElem?_eq_some_iff.1 this
              rw [List.drop_eq_getElem_cons hlt, hzz]; rfl
            have hcl : (cs.drop off).take 1 = [v0] := by
              obtain ⟨hlt, hzz⟩ := List.getElem?_eq_some_iff.1 e1
              rw [List.drop_eq_getElem_cons hlt, hzz]; rfl
            have hr1 : RepC g v0 z := by
              obtain ⟨u, hu, hr⟩ := hcs _ _ e1
              rw [Nat.zero_add, e2] at hu
              obtain rfl := Option.some.inj hu
              exact hr
            rw [hcell]
            refine ⟨by rw [show [v0].length = 1 from rfl, hzl]; exact .cons hr1 .nil, by simp; omega, by simpa using hcl, fun b => ?_⟩
            rw [show [v0].length = 1 from rfl, hzl, cnt_eq hnt]
            have : cntV b v0 z = cntC b v0 z := by cases v0 <;> first | rfl | exact absurd ⟨_, rfl⟩ hna
            rw [this]; simp [cntL]
        obtain ⟨q1, q2, q3, q4⟩ := hz4
        have hsame : spliceR arr.toList off ((arr.toList.drop off).take v0.cells.length) = arr.toList := by
          unfold spliceR
          rw [show ((arr.toList.drop off).take v0.cells.length).length = v0.cells.length from q1.length.symm, ← List.drop_drop, List.append_assoc, List.take_append_drop, List.take_append_drop]
        have q5 := All2_splice h2 (All2_viewC q1) off
        rw [hsame] at q5
        refine ⟨q5, fun b => ?_⟩
        have q6 := cntL_splice (b := b) (vs := v0.cells.map viewC) (zs := (arr.toList.drop off).take v0.cells.length) h2.length (by rw [List.length_map]; exact q1.length) (off := off) (by simpa using q2)
        rw [hsame, cntL_zero (any_viewC _), List.length_map, q3, show ((arr.toList.drop off).take v0.cells.length).length = v0.cells.length from q1.length.symm, q4 b] at q6
        omega
      obtain ⟨s1, s2⟩ := hsp
      have hokc : (splice cs off (toView v0).cells).all (okC (id + 1)) = true := by
        refine all_splice hcok ?_ off
        rw [toView_viewV hnt, viewV_cells hnt]
        refine List.all_eq_true.2 fun c hc => ?_
        obtain ⟨c0, hc0, rfl⟩ := List.mem_map.1 hc
        have h3 : v0.cells.all (okC (id + 1)) = true := by
          by_cases hval : isVal v0 = true
          · exact cells_ok (by rw [okR_eq hnt]; exact hv0ok) hval
          · cases v0 <;> first | exact absurd rfl hval | exact hz2.elim
        exact okC_viewC (List.all_eq_true.1 h3 c0 hc0)
      have hget : ∀ (i : Nat) y, (B.set id (.var (splice cs off (toView v0).cells)))[i]? = some y → (i = id ∧ y = .var (splice cs off (toView v0).cells)) ∨ (i ≠ id ∧ B[i]? = some y) := fun i y hy => set_get hidl hy
      have hsto : Sto g (B.set id (.var (splice cs off (toView v0).cells))) w := by
        refine ⟨hi.sto.comm, ?_, ?_, ?_⟩
        · intro i cs' hy
          rcases hget i _ hy with ⟨rfl, e⟩ | ⟨_, e⟩
          · obtain rfl := Blk.var.inj e
            exact ⟨⟨arr, _, hh, s1⟩, hcn, hokc⟩
          · exact hi.sto.var i cs' e
        · intro i cs' hy
          rcases hget i _ hy with ⟨rfl, e⟩ | ⟨_, e⟩
          · cases e
          · exact hi.sto.ro i cs' e
        · intro i j ci cj hyi hyj e
          have : ∀ (k : Nat) ck, (B.set id (.var (splice cs off (toView v0).cells)))[k]? = some (.var ck) → ∃ ck', B[k]? = some (.var ck') := by
            intro k ck hk
            rcases hget k _ hk with ⟨rfl, _⟩ | ⟨_, e⟩
            · exact ⟨_, hb⟩
            · exact ⟨_, e⟩
          obtain ⟨ci', ei⟩ := this i ci hyi
          obtain ⟨cj', ej⟩ := this j cj hyj
          exact hi.sto.inj i j ci' cj' ei ej e
      have hcb : ∀ b, cntB b g w 0 (B.set id (.var (splice cs off (toView v0).cells))) + cnt b v0 z = cntB b g w 0 B := by
        intro b
        have := cntB_set (b := b) (g := g) (w := w) B 0 id (.var (splice cs off (toView v0).cells)) _ hb
        rw [Nat.zero_add] at this
        simp only [cntBlk, cellsAt_of hh] at this
        have := s2 b
        omega
      have hcs' : ∀ b, cntS b (putS sl o.dst v0) (putL a.tmps.toList o.dst z) ≤ cntS b sl a.tmps.toList + cnt b v0 z := fun b => cntS_put hi.rep.length v0 z o.dst
      refine ⟨_, z, w, g, hrun, .inl rfl, Ext.refl _ _ _ _, ⟨All2_put hi.rep (Rep_of_RepV hz2) o.dst, ?_, hsto, ?_, ?_⟩⟩
      · rw [List.length_set]; exact okRs_put hi.ok hv0ok' o.dst
      · intro b
        have := hi.uniq b
        have := hcb b
        have := hcs' b
        omega
      · intro b hp
        obtain ⟨p1, p2, p3⟩ := hi.prot b hp
        refine ⟨p1, by have := hcb b; have := hcs' b; omega, ?_⟩
        intro i cs' hy
        rcases hget i _ hy with ⟨rfl, e⟩ | ⟨_, e⟩
        · exact p3 _ _ hb
        · exact p3 i cs' e
    · simp only [Option.some.injEq, Prod.mk.injEq] at h
      obtain ⟨rfl, rfl, rfl⟩ := h
      exact OpOk.pure hi hrun (Rep_toView (Rep_of_RepV hz2)) (okR_toView hv0ok') (isOwn_toView _)
  · rename_i cs off he
    rw [he] at hrep
    split at h <;> first | (cases h; done) | skip
    rename_i v0 hv0
    simp only [Option.some.injEq, Prod.mk.injEq] at h
    obtain ⟨rfl, rfl, rfl⟩ := h
    obtain ⟨b, base, com, h1, hx, h3⟩ := hrep
    obtain ⟨arr, T, fz, hh, hlen, hcs, _⟩ := hi.sto.comm b com h1
    have hcs2 : ∀ (j : Nat) c, cs[j]? = some c → com.cs[base + j]? = some c := by
      intro j c hc
      rw [← h3, List.getElem?_take] at hc
      split at hc
      · rw [List.getElem?_drop] at hc; exact hc
      · cases hc
    obtain ⟨z, hz1, hz2, hz3⟩ := readAt_run (C := C) (base := base) hh (fun j c hc => let ⟨u, e1, e2, _⟩ := hcs _ _ (hcs2 j c hc); ⟨u, e1, e2⟩) hv0
    have hrun := load_run (C := C) ho hx hz1
    have hall : ∀ c ∈ cs, ownC c = false ∧ okC 0 c = true := by
      intro c hc
      obtain ⟨j, hj⟩ := List.getElem?_of_mem hc
      obtain ⟨u, _, _, e3, e4⟩ := hcs _ _ (hcs2 j c hj)
      exact ⟨e3, e4⟩
    rcases hz3 with ⟨_, rfl, _, _⟩ | ⟨_, e1, _⟩
    · refine OpOk.pure hi hrun (Rep_of_RepV hz2) ?_ ?_
      · show List.all _ _ = true
        exact List.all_eq_true.2 fun c hc => okC_mono (Nat.zero_le _) (hall c (List.mem_of_mem_drop (List.mem_of_mem_take hc))).2
      · show List.any _ _ = false
        exact List.any_eq_false.2 fun c hc => by simp [(hall c (List.mem_of_mem_drop (List.mem_of_mem_take hc))).1]
    · have hm := List.mem_of_getElem? e1
      have hc : RepC g v0 z := by
        obtain ⟨u, e4, e5, _⟩ := hcs _ _ (hcs2 _ _ e1)
        cases v0 <;> first | exact hz2 | exact e5.elim
      have hna : ∀ cs', v0 ≠ .agg cs' := by rintro cs' rfl; exact hc
      have hnt : ∀ vs', v0 ≠ .tup vs' := by rintro vs' rfl; exact hc
      exact OpOk.pure hi hrun (Rep_of_RepV hz2) (cell_ok (okC_mono (Nat.zero_le _) (hall _ hm).2) hna hnt) (cell_own (hall _ hm).1 hna hnt)

end
end Go.Wv
