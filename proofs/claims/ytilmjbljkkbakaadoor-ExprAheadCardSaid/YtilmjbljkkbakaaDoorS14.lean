/-
  A part of the proof: our library of the interpreter.
-/
import Derived.Test.YtilmjbljkkbakaaDoorS13
set_option linter.unusedSimpArgs false
set_option linter.unusedVariables false
set_option linter.unusedSectionVars false
set_option linter.unnecessarySimpa false
set_option linter.deprecated false
namespace Go.Wv

theorem flatten_get {α : Type} (l : List α) : ∀ (n j : Nat), j < n * l.length → ((List.replicate n l).flatten)[j]? = l[j % l.length]?
  | 0, j, h => by simp at h
  | n + 1, j, h => by
    rw [List.replicate_succ, List.flatten_cons]
    rcases Nat.lt_or_ge j l.length with hl | hl
    · rw [List.getElem?_append_left hl, Nat.mod_eq_of_lt hl]
    · rw [List.getElem?_append_right hl, flatten_get l n (j - l.length) (by rw [Nat.add_mul] at h; omega)]
      congr 1
      exact (Nat.mod_eq_sub_mod hl).symm
theorem zero_rows {g : G} {cs : List VV} {zs : Array Value} (h : All2 (RepC g) cs zs.toList) (n : Nat) :
    All2 (RepC g) (List.replicate n cs).flatten ((Array.range (n * zs.size)).map (zs[· % zs.size]!)).toList := by
  have hl := h.length
  simp only [Array.length_toList] at hl
  have hlen : (List.replicate n cs).flatten.length = n * cs.length := by simp
  refine All2.of_get (by rw [hlen, hl]; simp) fun j c u hc hu => ?_
  have hj : j < n * cs.length := by rw [← hlen]; exact (List.getElem?_eq_some_iff.1 hc).1
  have hpos : 0 < cs.length := Nat.pos_of_ne_zero (by rintro e; rw [e] at hj; simp at hj)
  rw [flatten_get cs n j hj] at hc
  obtain ⟨z, hz, hr⟩ := h.get hc
  have hmod : j % zs.size < zs.size := Nat.mod_lt _ (by omega)
  have : u = zs[j % zs.size]! := by
    have hj' : j < n * zs.size := by rw [← hl]; exact hj
    simp [hj'] at hu
    exact hu.symm
  rw [this, getElem!_pos zs _ hmod]
  rw [hl] at hz
  have : zs[j % zs.size]? = some z := by rw [← Array.getElem?_toList]; exact hz
  rw [Array.getElem?_eq_getElem hmod] at this
  rw [Option.some.inj this]
  exact hr

section
variable {C : Cfg} {Pr : Nat → Prop} {f : FuncId} {o : Oper} {g : G} {sl sl' : List VV} {B B' : List Blk} {a : Act} {w : World} {v : VV}

theorem setAt_run {sz : Nat} : ∀ {ps : List (Nat × VV)} {qs : List (Nat × Value)} {xs xs' : List VV} {us : Array Value}, setAt sz xs ps = some xs' → All2 (fun (p : Nat × VV) (q : Nat × Value) => p.1 = q.1 ∧ Rep g p.2 q.2 ∧ isOwn p.2 = false) ps qs →
    All2 (RepC g) (flatC xs) us.toList → (∀ x ∈ xs, x.cells.length = sz) → (∀ c ∈ flatC xs, ownC c = false ∧ okC 0 c = true) →
    ∃ us', Instr.fill (fun i => some (i * sz, sz)) us qs = some us' ∧ All2 (RepC g) (flatC xs') us'.toList ∧ (∀ x ∈ xs', x.cells.length = sz) ∧ (∀ c ∈ flatC xs', ownC c = false ∧ okC 0 c = true) ∧ xs'.length = xs.length
  | [], _, xs, xs', us, h, .nil, h2, h3, h4 => by
    obtain rfl := Option.some.inj h
    exact ⟨us, rfl, h2, h3, h4, rfl⟩
  | (i, v) :: ps, _, xs, xs', us, h, .cons (b := (j, u)) (bs := qs) ⟨hij, hr, hown⟩ hl, h2, h3, h4 => by
    simp only at hij hr hown
    subst hij
    unfold setAt at h
    split at h <;> first | (cases h; done) | skip
    rename_i hc
    obtain ⟨hi, hv, hok, hsz⟩ := hc
    obtain ⟨k1, k2⟩ := cells_rep hr hv
    have hfl := flatC_length h3
    have hl2 := h2.length
    have hl1 := k1.length
    simp only [Array.length_toList] at hl1 hl2
    have hle : i * sz + sz ≤ xs.length * sz := by
      have := Nat.mul_le_mul_right sz (show i + 1 ≤ xs.length from hi)
      rw [Nat.add_mul] at this; omega
    have hstep := fill_step (i * sz) u us (by omega)
    have hfs := flatC_set h3 hi hsz
    have h5 : All2 (RepC g) (flatC (xs.set i v)) (u.cells.zipIdx.foldl (fun cs (c, j) => cs.setIfInBounds (i * sz + j) c) us).toList := by
      rw [hstep, hfs]; exact All2_splice h2 k1 _
    have h6 : ∀ x ∈ xs.set i v, x.cells.length = sz := fun x hx => by
      rcases List.mem_or_eq_of_mem_set hx with h | h
      · exact h3 x h
      · rw [h]; exact hsz
    have h7 : ∀ c ∈ flatC (xs.set i v), ownC c = false ∧ okC 0 c = true := by
      intro c hc
      rw [hfs] at hc
      unfold splice at hc
      simp only [List.mem_append] at hc
      rcases hc with (hc | hc) | hc
      · exact h4 c (List.mem_of_mem_take hc)
      · refine ⟨?_, List.all_eq_true.1 (cells_ok hok hv) c hc⟩
        cases v <;> first | (simp only [VV.cells, List.mem_singleton] at hc; subst hc; exact hown) | (have := List.any_eq_false.1 (show List.any _ ownC = false from hown) c hc; simpa using this) | cases hv
      · exact h4 c (List.mem_of_mem_drop hc)
    obtain ⟨us', e1, e2, e3, e4, e5⟩ := setAt_run h hl h5 h6 h7
    refine ⟨us', ?_, e2, e3, e4, by rw [e5, List.length_set]⟩
    simp only [Instr.fill]
    rw [if_neg (by simp; omega)]
    exact e1

theorem toView_cells_rep {zv : Value} (hv : isVal (ofV zv) = true) : All2 (RepC g) (toView (ofV zv)).cells zv.cells.toList ∧ (toView (ofV zv)).cells.length = (ofV zv).cells.length ∧ ∀ c ∈ (toView (ofV zv)).cells, ownC c = false ∧ okC 0 c = true := by
  have hnt := ofV_tup zv
  have hv0 : isVal0 (ofV zv) = true := by generalize ofV zv = x at hv; cases x <;> first | rfl | cases hv
  obtain ⟨z1, _, z3⟩ := zero_cells (g := g) hv0
  rw [toView_viewV hnt, viewV_cells hnt]
  refine ⟨All2_viewC z1, by simp, fun c hc => ?_⟩
  obtain ⟨c0, hc0, rfl⟩ := List.mem_map.1 hc
  exact ⟨ownC_viewC c0, okC_viewC (List.all_eq_true.1 (z3 0) c0 hc0)⟩

theorem buildSlice_ok (hg : GlobOk C g) (hi : Inv Pr g sl B a.tmps.toList w) {t : TypeId} {len : Nat} {parts : Array (Nat × Operand)} (ho : o.op = .buildSlice t len parts) (h : vop C f o sl B = some (v, sl', B')) :
    OpOk C Pr o g B.length sl' v B' a w := by
  simp only [vop, ho] at h
  split at h <;> first | (cases h; done) | skip
  rename_i e he
  split at h <;> first | (cases h; done) | skip
  rename_i z hz
  split at h <;> first | (cases h; done) | skip
  rename_i hc
  obtain ⟨hv, hzl, hsmall⟩ := hc
  split at h <;> first | (cases h; done) | skip
  rename_i xs hxs
  simp only [Option.some.injEq, Prod.mk.injEq] at h
  obtain ⟨rfl, rfl, rfl⟩ := h
  obtain ⟨hu, hne⟩ := elemT_spec he
  obtain ⟨i, zv, hinf, hzv, rfl⟩ := zeroT_spec hz
  obtain ⟨t1, t2, t3⟩ := toView_cells_rep (g := g) hv
  have hzs : zv.cells.size = szT C.P e := by have := t1.length; simp only [Array.length_toList] at this; omega
  have hq : All2 (fun (p : Nat × VV) (q : Nat × Value) => p.1 = q.1 ∧ Rep g p.2 q.2 ∧ isOwn p.2 = false) (parts.toList.map fun p => (p.1, toView (ev C sl p.2))) (parts.toList.map fun p => (p.1, evR a.tmps.toList p.2)) := by
    generalize parts.toList = l
    induction l with
    | nil => exact .nil
    | cons p l ih => exact .cons ⟨rfl, Rep_toView (ev_rep hg hi.rep p.2), isOwn_toView _⟩ ih
  have hfr : flatC (List.replicate len (toView (ofV zv))) = (List.replicate len (toView (ofV zv)).cells).flatten := by
    simp [flatC, List.flatMap, List.map_replicate]
  have hinit : All2 (RepC g) (flatC (List.replicate len (toView (ofV zv)))) ((Array.range (len * szT C.P e)).map ((if len * szT C.P e = 0 then #[] else zv.cells)[· % (if len * szT C.P e = 0 then #[] else zv.cells).size]!)).toList := by
    by_cases h0 : len * szT C.P e = 0
    · have : len = 0 := by rcases Nat.mul_eq_zero.1 h0 with h | h; exact h; exact absurd h hne
      subst this
      simp [flatC]
      exact .nil
    · rw [if_neg h0, hfr, ← hzs]
      exact zero_rows t1 len
  obtain ⟨us', e1, e2, e3, e4, e5⟩ := setAt_run hxs hq hinit
    (fun x hx => by rw [List.eq_of_mem_replicate hx, t2]; exact hzl)
    (fun c hc => by
      rw [hfr] at hc
      obtain ⟨l, hl, hcl⟩ := List.mem_flatten.1 hc
      rw [List.eq_of_mem_replicate hl] at hcl
      exact t3 c hcl)
  have hxl : xs.length = len := by rw [e5]; simp
  have hus : us'.size = len * szT C.P e := by
    have := e2.length
    rw [flatC_length e3, hxl] at this
    simpa using this.symm
  have hrun : (execOp a.eval o).run C.P w = .ok (.value (.slice (some ⟨w.heap.size, 0, none⟩) len len)) (w.alloc (.cells us' e)) := by
    have hp : (parts.map fun (i, x) => (i, a.eval x)).toList = parts.toList.map fun p => (p.1, evR a.tmps.toList p.2) := by simp [eval_evR]
    simp only [execOp, ho, Instr.buildSlice, Sem.run_bind, run_underlying hu, Result.andThen_ok, sizeOf_run (w := w) hne]
    rw [if_neg (by omega)]
    by_cases h0 : len * szT C.P e = 0
    · rw [if_pos h0] at e1 ⊢
      simp only [Sem.run_pure, Result.andThen_ok, hp, e1, Sem.run_bind, newRow, run_newObj, World.alloc_eq]
    · rw [if_neg h0] at e1 ⊢
      simp only [Sem.run_bind, zeroValue, typeInfo, run_program, Result.andThen_ok, hinf, Sem.run_pure, hzv, hp, e1, newRow, run_newObj, World.alloc_eq]
  obtain ⟨q1, q2⟩ := hi.newCom (cs := flatC xs) (own := if len = 0 then none else some (len, szT C.P e)) (arr := us') e (0, 0) (by have := e2.length; simp at this; omega)
    (fun j c hc => by
      obtain ⟨u, hu1, hu2⟩ := e2.get hc
      have := e4 c (List.mem_of_getElem? hc)
      exact ⟨u, by rw [← Array.getElem?_toList]; exact hu1, hu2, this.1, this.2⟩)
    (by
      intro cap sz e'
      split at e' <;> first | (cases e'; done) | skip
      cases e'
      refine ⟨rfl, hus, ?_⟩
      have : len * 1 ≤ len * szT C.P e := Nat.mul_le_mul_left _ (by omega)
      simp only [maxLen]; omega) (w1 := w) rfl
  have hfresh0 : cntS w.heap.size sl a.tmps.toList = 0 := by
    rcases Nat.eq_zero_or_pos (cntS w.heap.size sl a.tmps.toList) with h | h
    · exact h
    · obtain ⟨com, hk⟩ := cntS_known hi.rep h; exact absurd (hi.sto.lt hk) (Nat.lt_irrefl _)
  by_cases h0 : len = 0
  · subst h0
    have : xs = [] := List.eq_nil_of_length_eq_zero hxl
    subst this
    rw [if_pos rfl]
    exact ⟨_, _, _, _, hrun, .inl rfl, q1, q2.put (v := .sl .view []) (u := .slice (some ⟨w.heap.size, 0, none⟩) 0 0) (⟨_, _, rfl⟩ : ∃ a c, Value.slice (some ⟨w.heap.size, 0, none⟩) 0 0 = .slice a 0 c) rfl (fun _ => cnt_zero rfl) o.dst⟩
  · rw [if_neg h0]
    rw [if_neg h0] at q1 q2
    have hxne : xs ≠ [] := by rintro rfl; simp at hxl; exact h0 hxl.symm
    obtain ⟨x0, xs0, hx0⟩ := List.exists_cons_of_ne_nil hxne
    have hrepv : Rep (g.told w.heap.size ⟨flatC xs, some (len, szT C.P e)⟩) (.sl .own xs) (.slice (some ⟨w.heap.size, 0, none⟩) len len) := by
      show RepSl _ .own xs _
      rw [← hxl] at *
      have hfl := flatC_length e3
      rw [hx0] at e3 hfl ⊢
      exact ⟨w.heap.size, 0, _, _, szT C.P e, rfl, Nat.le_refl _, G.told_self, by omega, e3, by simp only [Nat.zero_add]; rw [hfl]; exact Nat.le_refl _, by rw [List.drop_zero, ← hfl, List.take_length], fun _ => ⟨rfl, rfl, rfl⟩⟩
    have hcb := fresh_cntB hi (g' := g.told w.heap.size ⟨flatC xs, some (len, szT C.P e)⟩) (w' := w.alloc (.cells us' e)) (fun _ => rfl) (fun b hb => heap_old w _ hb)
    refine ⟨_, _, _, _, hrun, .inl rfl, q1, q2.put1 hrepv rfl ?_ ?_ o.dst⟩
    · intro b
      rw [cnt_own' hxne]
      split
      · rename_i e'; simp only at e'; subst e'; rw [hfresh0, hcb]; omega
      · have := q2.uniq b; omega
    · intro b hb
      rw [cnt_own' hxne, if_neg]
      have := (hi.prot b hb).1
      simp only
      omega
where
  fresh_cntB {Pr : Nat → Prop} {g g' : G} {sl : List VV} {B : List Blk} {tm : List Value} {w w' : World} (hi : Inv Pr g sl B tm w) (hphi : ∀ i, g'.phi i = g.phi i) (hh : ∀ b, b < w.heap.size → w'.heap[b]? = w.heap[b]?) :
      cntB w.heap.size g' w' 0 B = 0 := by
    rw [cntB_congr (g := g) (w := w) B 0 fun i cs hb => by
      rw [Nat.zero_add, hphi]
      simp only [cellsAt, hh _ (hi.sto.phi_lt hb)]]
    have : ∀ (B : List Blk) (k : Nat), (∀ (i : Nat) cs, B[i]? = some (.var cs) → ∃ arr T, w.heap[g.phi (k + i)]? = some (.cells arr T (0, 0)) ∧ All2 (RepC g) cs arr.toList) → cntB w.heap.size g w k B = 0 := by
      intro B
      induction B with
      | nil => intro k _; rfl
      | cons b B ih =>
        intro k hk
        rw [cntB_cons, ih (k + 1) fun i cs hb => by have := hk (i + 1) cs (by simpa using hb); rwa [show k + (i + 1) = k + 1 + i by omega] at this]
        cases b with
        | ro => rfl
        | var cs =>
          obtain ⟨arr, T, e1, e2⟩ := hk 0 cs rfl
          rw [Nat.add_zero] at e1
          simp only [cntBlk, cellsAt_of e1, Nat.add_zero]
          rcases Nat.eq_zero_or_pos (cntL w.heap.size cs arr.toList) with h | h
          · exact h
          · obtain ⟨com, hk⟩ := cntL_known e2 h; exact absurd (hi.sto.lt hk) (Nat.lt_irrefl _)
    exact this B 0 fun i cs hb => by rw [Nat.zero_add]; exact (hi.sto.var i cs hb).1

end
end Go.Wv
