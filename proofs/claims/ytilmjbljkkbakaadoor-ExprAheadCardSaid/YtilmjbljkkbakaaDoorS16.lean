/-
  A part of the proof: our library of the interpreter.
-/
import Derived.Test.YtilmjbljkkbakaaDoorS15
import Derived.Laws.MakeOwn
import Derived.Laws.IdiomStrings
set_option linter.unusedSimpArgs false
set_option linter.unusedVariables false
set_option linter.unusedSectionVars false
set_option linter.unnecessarySimpa false
set_option linter.deprecated false
namespace Go.Wv

section
variable {C : Cfg} {Pr : Nat → Prop} {f : FuncId} {o : Oper} {g : G} {sl sl' : List VV} {B B' : List Blk} {a : Act} {w : World} {v : VV}

theorem toList_one {α : Type} {xs : Array α} {x : α} (h : xs.toList = [x]) : xs = #[x] := by
  cases xs; simp only at h; subst h; rfl
theorem toList_two {α : Type} {xs : Array α} {x y : α} (h : xs.toList = [x, y]) : xs = #[x, y] := by
  cases xs; simp only at h; subst h; rfl

theorem flatten_all {p : VV → Bool} {cs : List VV} (h : cs.all p = true) (n : Nat) : (List.replicate n cs).flatten.all p = true := by
  refine List.all_eq_true.2 fun x hx => ?_
  obtain ⟨l, hl, hx⟩ := List.mem_flatten.1 hx
  rw [List.eq_of_mem_replicate hl] at hx
  exact List.all_eq_true.1 h x hx
theorem flatten_cnt {b : Nat} {cs : List VV} {us : List Value} (h : cs.any ownC = false) (n : Nat) : cntL b (List.replicate n cs).flatten us = 0 := by
  refine cntL_zero (List.any_eq_false.2 fun x hx => ?_)
  obtain ⟨l, hl, hx⟩ := List.mem_flatten.1 hx
  rw [List.eq_of_mem_replicate hl] at hx
  exact List.any_eq_false.1 h x hx
theorem ofV_cells_own (zv : Value) : (ofV zv).cells.any ownC = false := by
  have h := ofV_own zv
  have ht := ofV_tup zv
  generalize ofV zv = z at h ht
  cases z <;> first | (simp only [VV.cells, List.any_cons, List.any_nil, Bool.or_false]; exact h) | exact h | exact absurd ⟨_, rfl⟩ ht

theorem makeSlice_ok (hg : GlobOk C g) (hi : Inv Pr g sl B a.tmps.toList w) {t : TypeId} {x y : Operand} (ho : o.op = .makeSlice t x y) (h : vop C f o sl B = some (v, sl', B')) : OpOk C Pr o g B.length sl' v B' a w := by
  simp only [vop, ho] at h
  split at h <;> first | (cases h; done) | skip
  rename_i l c e hl hc he
  split at h <;> first | (cases h; done) | skip
  rename_i z hz
  split at h <;> first | (cases h; done) | skip
  rename_i ag hag
  split at h <;> first | (cases h; done) | skip
  rename_i hcond
  obtain ⟨hlc, hcl, hcb, hv, hsz⟩ := hcond
  simp only [Option.some.injEq, Prod.mk.injEq] at h
  obtain ⟨rfl, rfl, rfl⟩ := h
  obtain ⟨kl, hx⟩ := ev_ix hg hi hl
  obtain ⟨kc, hy⟩ := ev_ix hg hi hc
  obtain ⟨i, zv, hi', hzv, rfl⟩ := zeroT_spec hz
  obtain ⟨ht, hne⟩ := elemT_spec he
  have hv0 : isVal0 (ofV zv) = true := by generalize ofV zv = x at hv; cases x <;> first | rfl | cases hv
  obtain ⟨z1, z2, z3⟩ := zero_cells (g := g) hv0
  have hsize : i.size = szT C.P e := by simp only [szT, hi', Option.map_some, Option.getD_some]
  have hbyte : i.bytes = byT C.P e := by simp only [byT, hi', Option.map_some, Option.getD_some]
  have hzs : zv.cells.size = szT C.P e := by have := z1.length; simp only [Array.length_toList] at this; omega
  simp only [lim] at hcl hcb
  have hrun := run_make (P := C.P) w t e i zv ht hi' hzv kl kc l c (by omega) (by omega) (by rw [hbyte, ← Int.natCast_mul]; have : byT C.P e * c ≤ 70368744177664 := by rw [Nat.mul_comm]; exact hcb
                                                                                             omega) (by omega)
  simp only [Int.toNat_natCast] at hrun
  have hrep : All2 (RepC g) (List.replicate c (ofV zv).cells).flatten (madeCells zv.cells (c * i.size)).toList := by
    rw [hsize, ← hzs]; exact zero_rows z1 c
  obtain ⟨h1, h2⟩ := hi.newVar e hrep (flatten_all (z3 _) c) hi.rep hi.ok (fun b => by rw [flatten_cnt (ofV_cells_own zv)]; omega)
  refine ⟨_, .slice (some ⟨w.heap.size, 0, none⟩) l c, _, _, ?_, .inl rfl, h1, h2.put (v := .mref B.length ag (szT C.P e) 0 l) ?_ ?_ (fun _ => cnt_zero rfl) o.dst⟩
  · simp only [execOp, ho, eval_evR, hx, hy, Sem.run_bind, hrun, Result.andThen_ok, Sem.run_pure]
  · exact ⟨c, by rw [G.at_self, Nat.zero_mul], hlc⟩
  · simp [okR, okV, okC]

theorem bytesVV_get {s : ByteArray} {j : Nat} {c : VV} (h : (bytesVV s)[j]? = some c) : ∃ b : UInt8, s.data[j]? = some b ∧ c = .lit (.int .u8 b.toNat) := by
  simp only [bytesVV, List.getElem?_map, Option.map_eq_some_iff] at h
  obtain ⟨b, hb, rfl⟩ := h
  exact ⟨b, by simpa using hb, rfl⟩
theorem bytesVV_length (s : ByteArray) : (bytesVV s).length = s.size := by
  simp only [bytesVV, List.length_map, Array.length_toList]; rfl
theorem bytesVV_flat (s : ByteArray) : flatC (bytesVV s) = bytesVV s := by
  unfold bytesVV flatC
  induction s.data.toList with
  | nil => rfl
  | cons b l ih => simp only [List.map_cons, List.flatMap_cons, ih]; rfl

theorem convertAll_ok (hg : GlobOk C g) (hi : Inv Pr g sl B a.tmps.toList w) {s d : TypeId} {x : Operand} (ho : o.op = .convert s d x) (h : vop C f o sl B = some (v, sl', B')) : OpOk C Pr o g B.length sl' v B' a w := by
  by_cases hb : ∀ xs, v ≠ .sl .view xs
  · exact convert_ok hg hi ho hb h
  · simp only [vop, ho] at h
    split at h <;> first | (cases h; done) | skip
    rename_i r hr
    simp only [Option.some.injEq, Prod.mk.injEq] at h
    obtain ⟨rfl, rfl, rfl⟩ := h
    unfold vconv at hr
    split at hr <;> first | (cases hr; done) | skip
    · split at hr <;> first | (cases hr; done) | skip
      split at hr <;> first | (cases hr; done) | skip
      obtain rfl := Option.some.inj hr
      exact absurd (fun _ => by simp) hb
    · rename_i t hx
      split at hr <;> first | (cases hr; done) | skip
      rename_i h1
      split at hr
      · obtain rfl := Option.some.inj hr
        exact absurd (fun _ => by simp) hb
      · split at hr <;> first | (cases hr; done) | skip
        rename_i e he
        split at hr <;> first | (cases hr; done) | skip
        rename_i hu8
        split at hr <;> first | (cases hr; done) | skip
        rename_i hlim
        obtain rfl := Option.some.inj hr
        have hx' := ev_lit hg hi hx
        obtain ⟨hd, hne⟩ := elemT_spec he
        have hrun := run_bytes_of_string (P := C.P) w s d e t (strT_spec h1) hd (intT_spec hu8)
        have hge := grownCap_ge w t.size 0 e
        have hrow : (bytesRow t (grownCap w t.size 0 e)).size = grownCap w t.size 0 e := by
          simp only [bytesRow, Array.size_append, Array.size_map, Array.size_replicate]
          show t.size + _ = _
          omega
        have hcell : ∀ (j : Nat) c, (bytesVV t)[j]? = some c → ∃ u, (bytesRow t (grownCap w t.size 0 e))[j]? = some u ∧ RepC g c u ∧ ownC c = false ∧ okC 0 c = true := by
          intro j c hc
          obtain ⟨b, hb, rfl⟩ := bytesVV_get hc
          have hj := (Array.getElem?_eq_some_iff.1 hb).1
          refine ⟨.int .u8 b.toNat, ?_, ⟨rfl, rfl⟩, rfl, rfl⟩
          rw [bytesRow, Array.getElem?_append_left (by simpa using hj), Array.getElem?_map, hb]
          rfl
        obtain ⟨k1, k2⟩ := hi.newCom (own := none) e ((bytesRow t (grownCap w t.size 0 e)).size, (bytesRow t (grownCap w t.size 0 e)).size + 1) (by rw [bytesVV_length, hrow]; exact hge) hcell (fun _ _ h => by cases h) (w1 := w.drew) rfl
        refine ⟨_, .slice (some ⟨w.heap.size, 0, none⟩) t.size (grownCap w t.size 0 e), _, _, ?_, .inl rfl, k1, k2.put (v := .sl .view (bytesVV t)) ?_ rfl (fun _ => cnt_zero rfl) o.dst⟩
        · simp only [execOp, ho, eval_evR, hx', Sem.run_bind, hrun, Result.andThen_ok, Sem.run_pure]
        · refine cell_rep (r := .sl .view (bytesVV t)) ?_
          show RepSl (g.told w.heap.size ⟨bytesVV t, none⟩) .view (bytesVV t) _
          have hl := bytesVV_length t
          have hfl := bytesVV_flat t
          have hall : ∀ x ∈ bytesVV t, x.cells.length = 1 := by
            intro x hx
            obtain ⟨j, hj⟩ := List.getElem?_of_mem hx
            obtain ⟨b, _, rfl⟩ := bytesVV_get hj
            rfl
          generalize hcs : bytesVV t = cs at hl hfl hall
          cases cs with
          | nil => exact ⟨some ⟨w.heap.size, 0, none⟩, grownCap w t.size 0 e, by rw [← hl]; rfl⟩
          | cons c cs =>
            refine ⟨w.heap.size, 0, grownCap w t.size 0 e, ⟨c :: cs, none⟩, 1, by rw [hl], by rw [hl]; exact hge, G.told_self, Nat.one_pos, hall, by simp, ?_, fun h => by cases h⟩
            rw [hfl]
            simp

/-- Each operation that is no call of a function with a text. -/
theorem vop_sound (hg : GlobOk C g) (hi : Inv Pr g sl B a.tmps.toList w) (h : vop C f o sl B = some (v, sl', B')) : OpOk C Pr o g B.length sl' v B' a w := by
  cases ho : o.op with
  | move x => exact move_ok hg hi ho h
  | assign x => exact assign_ok hg hi ho h
  | pick c x y => exact pick_ok hg hi ho h
  | alloc t => exact alloc_ok hi ho h
  | box t x => exact box_ok hg hi ho h
  | build t ps => exact build_ok hg hi ho h
  | buildSlice t n ps => exact buildSlice_ok hg hi ho h
  | load t x => exact load_ok hg hi ho h
  | store t x y => exact store_ok hg hi ho h
  | nilCheck x => exact nilCheck_ok hg hi ho h
  | binOp op t x y t' => exact binOp_ok hg hi ho h
  | unOp op t x => exact unOp_ok hg hi ho h
  | convert s d x => exact convertAll_ok hg hi ho h
  | makeSlice t x y => exact makeSlice_ok hg hi ho h
  | slice t x lo hi' mx => exact slice_ok hg hi ho h
  | fieldAddr s x i => exact fieldAddr_ok hg hi ho h
  | indexAddr t x i => exact indexAddr_ok hg hi ho h
  | index t x i => exact index_ok hg hi ho h
  | extract x i => exact extract_ok hg hi ho h
  | call c =>
    obtain ⟨cal, args, ts⟩ := c
    cases cal with
    | value x => simp only [vop, ho, reduceCtorEq] at h
    | invoke x m => simp only [vop, ho, reduceCtorEq] at h
    | builtin b =>
      cases b <;> try (simp only [vop, ho, reduceCtorEq] at h; done)
      case append =>
        cases hargs : args.toList with
        | nil => simp only [vop, ho, hargs, reduceCtorEq] at h
        | cons x l => cases l with
          | nil => simp only [vop, ho, hargs, reduceCtorEq] at h
          | cons y l => cases l with
            | cons => simp only [vop, ho, hargs, reduceCtorEq] at h
            | nil => cases hts : ts.toList with
              | nil => simp only [vop, ho, hargs, hts, reduceCtorEq] at h
              | cons t m => cases m with
                | nil => simp only [vop, ho, hargs, hts, reduceCtorEq] at h
                | cons t' m => cases m with
                  | cons => simp only [vop, ho, hargs, hts, reduceCtorEq] at h
                  | nil =>
                    by_cases e : t = t'
                    · subst e
                      obtain rfl := toList_two hargs
                      obtain rfl := toList_two hts
                      exact append_ok hg hi ho h
                    · simp only [vop, ho, hargs, hts, e, if_false, reduceCtorEq] at h
      case len =>
        cases hargs : args.toList with
        | nil => simp only [vop, ho, hargs, reduceCtorEq] at h
        | cons x l => cases l with
          | cons => simp only [vop, ho, hargs, reduceCtorEq] at h
          | nil => cases hts : ts.toList with
            | nil => simp only [vop, ho, hargs, hts, reduceCtorEq] at h
            | cons t m => cases m with
              | cons => simp only [vop, ho, hargs, hts, reduceCtorEq] at h
              | nil =>
                obtain rfl := toList_one hargs
                obtain rfl := toList_one hts
                exact len_ok hg hi ho h
      case max =>
        cases hargs : args.toList with
        | nil => simp only [vop, ho, hargs, reduceCtorEq] at h
        | cons x l => cases l with
          | nil => simp only [vop, ho, hargs, reduceCtorEq] at h
          | cons y l => exact minmax_ok (mx := true) (x := x) (y := y) (r := l) (ts := ts) hg hi (by rw [ho, ← hargs]; simp) h
      case min =>
        cases hargs : args.toList with
        | nil => simp only [vop, ho, hargs, reduceCtorEq] at h
        | cons x l => cases l with
          | nil => simp only [vop, ho, hargs, reduceCtorEq] at h
          | cons y l => exact minmax_ok (mx := false) (x := x) (y := y) (r := l) (ts := ts) hg hi (by rw [ho, ← hargs]; simp) h
  | _ => simp only [vop, ho, reduceCtorEq] at h

theorem freezeC_len {B B' : List Blk} {v v' : VV} (h : freezeC B v = some (v', B')) : B'.length = B.length := by
  unfold freezeC at h
  split at h
  · split at h <;> first | (cases h; done) | skip
    split at h <;> first | (cases h; done) | skip
    simp only [Option.some.injEq, Prod.mk.injEq] at h
    rw [← h.2, List.length_set]
  · simp only [Option.some.injEq, Prod.mk.injEq] at h
    rw [← h.2]
theorem freezeL_len : ∀ {vs : List VV} {B B' : List Blk} {vs' : List VV}, freezeL B vs = some (vs', B') → B'.length = B.length
  | [], B, B', vs', h => by simp only [freezeL, Option.some.injEq, Prod.mk.injEq] at h; rw [← h.2]
  | v :: vs, B, B', vs', h => by
    unfold freezeL at h
    split at h <;> first | (cases h; done) | skip
    rename_i v1 B1 h1
    split at h <;> first | (cases h; done) | skip
    rename_i vs2 B2 h2
    simp only [Option.some.injEq, Prod.mk.injEq] at h
    rw [← h.2, freezeL_len h2, freezeC_len h1]
theorem freeze_len {B B' : List Blk} {v v' : VV} (h : freeze B v = some (v', B')) : B'.length = B.length := by
  unfold freeze at h
  split at h
  · split at h <;> first | (cases h; done) | skip
    rename_i h1
    simp only [Option.some.injEq, Prod.mk.injEq] at h
    rw [← h.2, freezeL_len h1]
  · cases h
  · exact freezeC_len h
theorem freezeR_len {own : Bool} : ∀ {vs : List VV} {B B' : List Blk} {vs' : List VV}, freezeR own B vs = some (vs', B') → B'.length = B.length
  | [], B, B', vs', h => by simp only [freezeR, Option.some.injEq, Prod.mk.injEq] at h; rw [← h.2]
  | v :: vs, B, B', vs', h => by
    unfold freezeR at h
    split at h <;> first | (cases h; done) | skip
    rename_i v1 B1 h1
    split at h <;> first | (cases h; done) | skip
    rename_i vs2 B2 h2
    simp only [Option.some.injEq, Prod.mk.injEq] at h
    rw [← h.2, freezeR_len h2]
    split at h1
    · simp only [Option.some.injEq, Prod.mk.injEq] at h1; rw [← h1.2]
    · exact freeze_len h1
theorem vargs_len {gg : FuncId} : ∀ {xs : List Operand} {i : Nat} {sl sl' : List VV} {B B' : List Blk} {vs : List VV}, vargs C gg sl B i xs = some (vs, sl', B') → B'.length = B.length
  | [], i, sl, sl', B, B', vs, h => by simp only [vargs, Option.some.injEq, Prod.mk.injEq] at h; rw [← h.2.2]
  | x :: xs, i, sl, sl', B, B', vs, h => by
    unfold vargs at h
    split at h
    · split at h <;> first | (cases h; done) | skip
      rename_i h1
      split at h <;> first | (cases h; done) | skip
      rename_i h2
      simp only [Option.some.injEq, Prod.mk.injEq] at h
      rw [← h.2.2, vargs_len h2, freeze_len h1]
    · simp only at h
      split at h <;> first | (cases h; done) | skip
      rename_i h2
      simp only [Option.some.injEq, Prod.mk.injEq] at h
      rw [← h.2.2, vargs_len h2]
    · split at h <;> first | (cases h; done) | skip
      rename_i h2
      simp only [Option.some.injEq, Prod.mk.injEq] at h
      rw [← h.2.2, vargs_len h2]

theorem vop_len (h : vop C f o sl B = some (v, sl', B')) : B.length ≤ B'.length := by
  obtain ⟨dst, op, type, pos, after, guard⟩ := o
  cases op <;> simp only [vop, reduceCtorEq] at h <;> (repeat' (split at h)) <;> first
    | (cases h; done)
    | (simp only [Option.some.injEq, Prod.mk.injEq] at h; rw [← h.2.2]; simp; done)

end
end Go.Wv
