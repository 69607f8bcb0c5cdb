/-
  A part of the proof: our library of the interpreter.
-/
import Derived.Test.YtilmjbljkkbakaaDoorS5
set_option linter.unusedSimpArgs false
set_option linter.unusedVariables false
set_option linter.unusedSectionVars false
set_option linter.unnecessarySimpa false
set_option linter.deprecated false
namespace Go.Wv

theorem flatC_length {sz : Nat} {xs : List VV} (h : ∀ x ∈ xs, x.cells.length = sz) : (flatC xs).length = xs.length * sz := by
  induction xs with
  | nil => simp [flatC]
  | cons x xs ih =>
    have h1 := ih fun y hy => h y (by simp [hy])
    simp only [flatC, List.flatMap_cons, List.length_append, List.length_cons, h x (by simp)] at h1 ⊢
    rw [h1, Nat.add_mul]
    omega
theorem flatC_window {sz : Nat} : ∀ {xs : List VV} {i : Nat} {x : VV}, (∀ x ∈ xs, x.cells.length = sz) → xs[i]? = some x → ((flatC xs).drop (i * sz)).take sz = x.cells
  | [], i, x, _, hi => by simp at hi
  | y :: xs, 0, x, h, hi => by
    simp at hi; subst hi
    simp only [flatC, List.flatMap_cons, Nat.zero_mul, List.drop_zero]
    rw [← h y (by simp), List.take_left]
  | y :: xs, i + 1, x, h, hi => by
    have ih := flatC_window (xs := xs) (i := i) (x := x) (fun z hz => h z (by simp [hz])) (by simpa using hi)
    simp only [flatC, List.flatMap_cons] at ih ⊢
    rw [show (i + 1) * sz = y.cells.length + i * sz by rw [h y (by simp), Nat.add_mul]; omega, List.drop_append_of_le_length' ]
    exact ih
where
  List.drop_append_of_le_length' {α : Type} {l r : List α} {k : Nat} : (l ++ r).drop (l.length + k) = r.drop k := by
    rw [← List.drop_drop, List.drop_left]

section
variable {C : Cfg} {Pr : Nat → Prop} {f : FuncId} {o : Oper} {g : G} {sl sl' : List VV} {B B' : List Blk} {a : Act} {w : World} {v : VV}

theorem ev_ix (hg : GlobOk C g) {tm : List Value} (hi : Inv Pr g sl B tm w) {x : Operand} {i : Nat} (h : asIx (ev C sl x) = some i) : ∃ k, evR tm x = .int k (i : Int) := by
  obtain ⟨k, e⟩ := asIx_spec h
  exact ⟨k, ev_lit hg hi e⟩

theorem window_window {l m : List VV} {base off k n : Nat} (h : (l.drop base).take n = m) (hk : off + k ≤ n) : (l.drop (base + off)).take k = (m.drop off).take k := by
  subst h
  rw [List.drop_take, List.take_take, List.drop_drop, Nat.min_eq_left (by omega)]

theorem vindexAddr_run {t : TypeId} {x y r : VV} {u : Value} {k : IntKind} {i : Nat} (h : vindexAddr C.P t x y = some r) (hy : asIx y = some i) (hx : Rep g x u) (n : Nat) (hok : okR n x = true) :
    ∃ z, (Instr.indexAt t u (.int k (i : Int))).run C.P w = .ok z w ∧ RepC g r z ∧ okC n r = true ∧ ownC r = false ∧ (∀ cs, r ≠ .agg cs) ∧ (∀ vs, r ≠ .tup vs) := by
  unfold vindexAddr at h
  rw [hy] at h
  simp only at h
  split at h <;> first | (cases h; done) | skip
  · rename_i fl xs
    split at h <;> first | (cases h; done) | skip
    rename_i x0 hx0
    split at h <;> first | (cases h; done) | skip
    rename_i e he
    split at h <;> first | (cases h; done) | skip
    rename_i hsz
    obtain rfl := Option.some.inj h
    obtain ⟨hu, hne⟩ := elemT_spec he
    have hxv := RepSl_view (show RepSl g fl xs u from hx)
    have hne' : xs ≠ [] := by rintro rfl; simp at hx0
    obtain ⟨y0, ys, rfl⟩ := List.exists_cons_of_ne_nil hne'
    obtain ⟨b, off, c, com, sz, rfl, h2, h3, h4, h5, h6, h7, _⟩ := hxv
    obtain ⟨hi1, hi2⟩ := List.getElem?_eq_some_iff.1 hx0
    have hsz' : sz = szT C.P e := by rw [← hsz]; exact (h5 x0 (List.mem_of_getElem? hx0)).symm
    refine ⟨.pointer (some ⟨b, off + i * szT C.P e, none⟩), ?_, ?_, rfl, rfl, by simp, by simp⟩
    · have hlt : (i : Int) < ((y0 :: ys).length : Nat) := by exact_mod_cast hi1
      simp only [Instr.indexAt, asIntOf, Sem.run_bind, Sem.run_pure, Result.andThen_ok, run_underlying hu]
      rw [if_pos ⟨Int.natCast_nonneg i, hlt⟩]
      simp only [Sem.run_bind, sizeOf_run hne, Result.andThen_ok, Sem.run_pure, Int.toNat_natCast, Addr_add']
    · refine ⟨b, off + i * szT C.P e, com, h3, by rw [Nat.add_zero], ?_⟩
      rw [hsz, ← hsz', window_window h7 (off := i * sz) (k := sz) (by
        have : (i + 1) * sz ≤ (y0 :: ys).length * sz := Nat.mul_le_mul_right _ hi1
        rw [Nat.add_mul] at this; omega)]
      exact flatC_window h5 hx0
  · rename_i id ag sz off n'
    split at h <;> first | (cases h; done) | skip
    rename_i e he
    split at h <;> first | (cases h; done) | skip
    rename_i hc
    obtain ⟨hlt, hsz⟩ := hc
    obtain rfl := Option.some.inj h
    obtain ⟨hu, hne⟩ := elemT_spec he
    obtain ⟨c, rfl, hnc⟩ := hx
    refine ⟨.pointer (some ⟨g.phi id, (off + i) * sz, none⟩), ?_, rfl, hok, rfl, by simp, by simp⟩
    have hlt' : (i : Int) < (n' : Nat) := by exact_mod_cast hlt
    simp only [Instr.indexAt, asIntOf, Sem.run_bind, Sem.run_pure, Result.andThen_ok, run_underlying hu]
    rw [if_pos ⟨Int.natCast_nonneg i, hlt'⟩]
    simp only [Sem.run_bind, sizeOf_run hne, Result.andThen_ok, Sem.run_pure, Int.toNat_natCast, Addr_add', hsz, Nat.add_mul]
  · rename_i id off
    split at h <;> first | (cases h; done) | skip
    rename_i m e he
    split at h <;> first | (cases h; done) | skip
    rename_i hlt
    obtain rfl := Option.some.inj h
    obtain ⟨hu, hne⟩ := arrT_spec he
    obtain rfl : u = _ := hx
    refine ⟨.pointer (some ⟨g.phi id, off + i * szT C.P e, none⟩), ?_, rfl, hok, rfl, by simp, by simp⟩
    have hlt' : (i : Int) < (m : Nat) := by exact_mod_cast hlt
    simp only [Instr.indexAt, asIntOf, Sem.run_bind, Sem.run_pure, Result.andThen_ok, run_underlying hu, Instr.sureAddr]
    rw [if_pos ⟨Int.natCast_nonneg i, hlt'⟩]
    simp only [Sem.run_bind, sizeOf_run hne, Result.andThen_ok, Sem.run_pure, Int.toNat_natCast, Addr_add']
  · rename_i cs off
    split at h <;> first | (cases h; done) | skip
    rename_i m e he
    split at h <;> first | (cases h; done) | skip
    rename_i hlt
    obtain rfl := Option.some.inj h
    obtain ⟨hu, hne⟩ := arrT_spec he
    obtain ⟨b, base, com, h1, rfl, h3⟩ := hx
    refine ⟨.pointer (some ⟨b, base + (off + i * szT C.P e), none⟩), ?_, ⟨b, base, com, h1, rfl, h3⟩, rfl, rfl, by simp, by simp⟩
    have hlt' : (i : Int) < (m : Nat) := by exact_mod_cast hlt
    simp only [Instr.indexAt, asIntOf, Sem.run_bind, Sem.run_pure, Result.andThen_ok, run_underlying hu, Instr.sureAddr]
    rw [if_pos ⟨Int.natCast_nonneg i, hlt'⟩]
    simp only [Sem.run_bind, sizeOf_run hne, Result.andThen_ok, Sem.run_pure, Int.toNat_natCast, Addr_add', Nat.add_assoc]

theorem cell_rep {r : VV} {z : Value} (h : RepC g r z) : Rep g r z := by
  cases r <;> first | exact h | exact h.elim
theorem cell_ok {n : Nat} {r : VV} (h : okC n r = true) (h1 : ∀ cs, r ≠ .agg cs) (h2 : ∀ vs, r ≠ .tup vs) : okR n r = true := by
  cases r <;> first | exact h | exact absurd rfl (h1 _) | exact absurd rfl (h2 _)
theorem cell_own {r : VV} (h : ownC r = false) (h1 : ∀ cs, r ≠ .agg cs) (h2 : ∀ vs, r ≠ .tup vs) : isOwn r = false := by
  cases r <;> first | exact h | exact absurd rfl (h1 _) | exact absurd rfl (h2 _)

/-- a part of a struct or array that lies in slots -/
theorem part_run {e : TypeId} {cs : List VV} {us : Array Value} {off : Nat} {r : VV} (h : readAt C.P e cs off = some r) (h2 : All2 (RepC g) cs us.toList) :
    ∃ z, (part e us off).run C.P w = .ok z w ∧ RepV g r z ∧ ((∃ cs', r = .agg cs' ∧ ∀ c ∈ cs', c ∈ cs) ∨ r ∈ cs) := by
  unfold readAt at h
  split at h <;> first | (cases h; done) | skip
  · rename_i ha
    split at h <;> first | (cases h; done) | skip
    rename_i hlen
    obtain rfl := Option.some.inj h
    refine ⟨.agg (us.extract off (off + szT C.P e)), ?_, ⟨_, rfl, ?_⟩, .inl ⟨_, rfl, fun c hc => List.mem_of_mem_drop (List.mem_of_mem_take hc)⟩⟩
    · simp only [part, Sem.run_bind, aggT_run ha, Result.andThen_ok, sizeOf_run (w := w) (show szT C.P e ≠ 0 by omega), if_true, Sem.run_pure]
    · have := (h2.drop off).take (szT C.P e)
      simpa [Array.toList_extract, List.extract_eq_drop_take] using this
  · rename_i ha
    obtain ⟨z, hz, hr⟩ := h2.get h
    refine ⟨z, ?_, ?_, .inr (List.mem_of_getElem? h)⟩
    · simp only [part, Sem.run_bind, aggT_run ha, Result.andThen_ok, Bool.false_eq_true, if_false]
      rw [← Array.getElem?_toList, hz]
      rfl
    · cases r <;> first | exact hr | exact hr.elim

theorem indexAddr_ok (hg : GlobOk C g) (hi : Inv Pr g sl B a.tmps.toList w) {t : TypeId} {x y : Operand} (ho : o.op = .indexAddr t x y) (h : vop C f o sl B = some (v, sl', B')) : OpOk C Pr o g B.length sl' v B' a w := by
  simp only [vop, ho] at h
  split at h
  · rename_i r hr
    simp only [Option.some.injEq, Prod.mk.injEq] at h
    obtain ⟨rfl, rfl, rfl⟩ := h
    cases hy : asIx (ev C sl y) with
    | none => unfold vindexAddr at hr; rw [hy] at hr; cases hr
    | some i =>
      obtain ⟨k, hk⟩ := ev_ix hg hi hy
      obtain ⟨z, h1, h2, h3, h4, h5, h6⟩ := vindexAddr_run (w := w) (k := k) hr hy (ev_rep hg hi.rep x) B.length (ev_ok hi.ok x)
      exact OpOk.pure hi (u := z) (by simp only [execOp, ho, eval_evR, hk, Sem.run_bind, h1]; rfl) (cell_rep h2) (cell_ok h3 h5 h6) (cell_own h4 h5 h6)
  · cases h

theorem index_ok (hg : GlobOk C g) (hi : Inv Pr g sl B a.tmps.toList w) {t : TypeId} {x y : Operand} (ho : o.op = .index t x y) (h : vop C f o sl B = some (v, sl', B')) : OpOk C Pr o g B.length sl' v B' a w := by
  simp only [vop, ho] at h
  split at h
  · rename_i r hr
    simp only [Option.some.injEq, Prod.mk.injEq] at h
    obtain ⟨rfl, rfl, rfl⟩ := h
    unfold vindex at hr
    split at hr <;> first | (cases hr; done) | skip
    rename_i i hy
    obtain ⟨k, hk⟩ := ev_ix hg hi hy
    split at hr <;> first | (cases hr; done) | skip
    · rename_i s hx
      have hx' := ev_lit hg hi hx
      split at hr <;> first | (cases hr; done) | skip
      rename_i hc
      split at hr <;> first | (cases hr; done) | skip
      rename_i hlt
      obtain rfl := Option.some.inj hr
      refine OpOk.pure hi (u := .int .u8 (s[i]'hlt).toNat) ?_ (show Rep g (.lit _) _ from ⟨rfl, rfl⟩) rfl rfl
      have hu := strT_spec hc
      simp only [execOp, ho, eval_evR, hx', hk, Instr.index, asIntOf, Sem.run_bind, Sem.run_pure, Result.andThen_ok, run_underlying hu]
      rw [if_pos (Int.natCast_nonneg i), Int.toNat_natCast]
      have : s[i]? = some (s[i]'hlt) := by simp [getElem?_pos, hlt]
      rw [this]
      rfl
    · rename_i cs hx
      split at hr <;> first | (cases hr; done) | skip
      rename_i n e he
      split at hr <;> first | (cases hr; done) | skip
      rename_i hlt
      have hrep := ev_rep hg hi.rep x
      have hok := ev_ok (C := C) hi.ok x
      rw [hx] at hrep hok
      obtain ⟨us, hus, h2⟩ := hrep
      obtain ⟨hu, hne⟩ := arrT_spec he
      obtain ⟨z, h3, h4, h5⟩ := part_run (w := w) hr h2
      have hlt' : (i : Int) < (n : Nat) := by exact_mod_cast hlt
      have hokr : okV B.length r = true := by
        have hall : cs.all (okC B.length) = true := hok
        rcases h5 with ⟨cs', rfl, h6⟩ | h6
        · exact List.all_eq_true.2 fun c hc => List.all_eq_true.1 hall c (h6 c hc)
        · have h7 := List.all_eq_true.1 hall r h6
          have h8 : ¬ ∃ cs', r = .agg cs' := by
            rintro ⟨cs', rfl⟩
            obtain ⟨j, hj⟩ := List.getElem?_of_mem h6
            obtain ⟨_, _, h9⟩ := h2.get hj
            exact h9
          rw [okV_eq h8]; exact h7
      have hnt := RepV_not_tup h4
      refine OpOk.pure hi (u := z) ?_ (Rep_of_RepV (RepV_viewV h4)) (by rw [okR_eq (viewV_tup hnt)]; exact okV_viewV hokr) (isOwn_viewV hnt)
      simp only [execOp, ho, eval_evR, hus, hk, Instr.index, asIntOf, Sem.run_bind, Sem.run_pure, Result.andThen_ok, run_underlying hu]
      rw [if_pos ⟨Int.natCast_nonneg i, hlt'⟩]
      simp only [Sem.run_bind, sizeOf_run (w := w) hne, Result.andThen_ok, Int.toNat_natCast, h3]
  · cases h


theorem bound_run {n h : Nat} {v : Option VV} (hb : bound n v = some h) {x : Value} {y : VV} (hv : v = some y) (hx : Rep g y x) {m : Nat} (hm : n ≤ m) (code : BoundsCode) :
    (Instr.sliceBound x m code).run C.P w = .ok h w := by
  subst hv
  unfold bound at hb
  simp only at hb
  split at hb <;> first | (cases hb; done) | skip
  rename_i i hi
  split at hb <;> first | (cases hb; done) | skip
  rename_i hle
  obtain rfl := Option.some.inj hb
  obtain ⟨k, rfl⟩ := asIx_spec hi
  obtain ⟨rfl, _⟩ := hx
  have : (i : Int) ≤ (m : Nat) := by exact_mod_cast Nat.le_trans hle hm
  simp only [Instr.sliceBound, asIntOf, Sem.run_bind, Sem.run_pure, Result.andThen_ok]
  rw [if_pos ⟨Int.natCast_nonneg i, this⟩, Int.toNat_natCast]
  rfl

theorem sliceBounds_run {len cap h l : Nat} {vlo vhi : Option VV} {lo hi : Option Value} (hh : bound len vhi = some h) (hl : bound h (some (vlo.getD (.lit (.int .i64 0)))) = some l) (hcap : len ≤ cap)
    (rlo : (vlo = none ∧ lo = none) ∨ ∃ y x, vlo = some y ∧ lo = some x ∧ Rep g y x) (rhi : (vhi = none ∧ hi = none) ∨ ∃ y x, vhi = some y ∧ hi = some x ∧ Rep g y x) (isSlice : Bool) :
    (Instr.sliceBounds isSlice len cap lo hi none).run C.P w = .ok (l, h, cap) w ∧ l ≤ h ∧ h ≤ len := by
  have hhl : h ≤ len := by
    unfold bound at hh
    split at hh
    · simp at hh; omega
    · split at hh <;> first | (cases hh; done) | skip
      split at hh <;> first | (cases hh; done) | skip
      simp at hh; omega
  have hlh : l ≤ h := by
    unfold bound at hl
    simp only at hl
    split at hl <;> first | (cases hl; done) | skip
    split at hl <;> first | (cases hl; done) | skip
    simp at hl; omega
  refine ⟨?_, hlh, hhl⟩
  have hl0 : vlo = none → l = 0 := by
    rintro rfl
    simp [bound, asIx] at hl
    exact hl.symm
  rcases rhi with ⟨rfl, rfl⟩ | ⟨y, x, rfl, rfl, hr⟩
  · simp only [bound, Option.some.injEq] at hh
    subst hh
    rcases rlo with ⟨rfl, rfl⟩ | ⟨y', x', rfl, rfl, hr'⟩
    · rw [hl0 rfl]; rfl
    · have e2 := bound_run (C := C) (w := w) hl rfl hr' (Nat.le_refl len) (if (none : Option Value).isSome then .slice3C else .sliceB)
      simp only [Instr.sliceBounds, Sem.run_bind, Sem.run_pure, Result.andThen_ok, e2]
  · have e1 := bound_run (C := C) (w := w) hh rfl hr hcap (if isSlice then .sliceAcap else .sliceAlen)
    rcases rlo with ⟨rfl, rfl⟩ | ⟨y', x', rfl, rfl, hr'⟩
    · rw [hl0 rfl]
      simp only [Instr.sliceBounds, Sem.run_bind, Sem.run_pure, Result.andThen_ok, e1]
    · have e2 := bound_run (C := C) (w := w) hl rfl hr' (Nat.le_refl h) (if (none : Option Value).isSome then .slice3C else .sliceB)
      simp only [Instr.sliceBounds, Sem.run_bind, Sem.run_pure, Result.andThen_ok, e1, e2]

theorem rep_map (hg : GlobOk C g) (hi : Inv Pr g sl B a.tmps.toList w) (x : Option Operand) :
    (x.map (ev C sl) = none ∧ x.map a.eval = none) ∨ ∃ y z, x.map (ev C sl) = some y ∧ x.map a.eval = some z ∧ Rep g y z := by
  cases x with
  | none => exact .inl ⟨rfl, rfl⟩
  | some x => exact .inr ⟨_, _, rfl, rfl, by rw [eval_evR]; exact ev_rep hg hi.rep x⟩

theorem flatC_cut {sz : Nat} : ∀ {xs : List VV}, (∀ x ∈ xs, x.cells.length = sz) → ∀ l k, flatC ((xs.drop l).take k) = ((flatC xs).drop (l * sz)).take (k * sz)
  | [], _, l, k => by simp [flatC]
  | x :: xs, h, 0, 0 => by simp [flatC]
  | x :: xs, h, 0, k + 1 => by
    have ih := flatC_cut (xs := xs) (fun y hy => h y (by simp [hy])) 0 k
    simp only [List.drop_zero, Nat.zero_mul] at ih ⊢
    simp only [flatC, List.take_succ_cons, List.flatMap_cons] at ih ⊢
    rw [ih, show (k + 1) * sz = x.cells.length + k * sz by rw [h x (by simp), Nat.add_mul]; omega, List.take_length_add_append]
  | x :: xs, h, l + 1, k => by
    have ih := flatC_cut (xs := xs) (fun y hy => h y (by simp [hy])) l k
    simp only [List.drop_succ_cons]
    rw [ih]
    simp only [flatC, List.flatMap_cons]
    rw [show (l + 1) * sz = x.cells.length + l * sz by rw [h x (by simp), Nat.add_mul]; omega, ← List.drop_drop, List.drop_left]

theorem slice_ok (hg : GlobOk C g) (hi : Inv Pr g sl B a.tmps.toList w) {t : TypeId} {x : Operand} {lo hi' mx : Option Operand} (ho : o.op = .slice t x lo hi' mx) (h : vop C f o sl B = some (v, sl', B')) : OpOk C Pr o g B.length sl' v B' a w := by
  simp only [vop, ho] at h
  split at h <;> first | (cases h; done) | skip
  split at h <;> first | (cases h; done) | skip
  rename_i r hr
  simp only [Option.some.injEq, Prod.mk.injEq] at h
  obtain ⟨rfl, rfl, rfl⟩ := h
  have hrep := ev_rep hg hi.rep x
  have hok := ev_ok (C := C) hi.ok x
  unfold vslice at hr
  split at hr <;> first | (cases hr; done) | skip
  · rename_i s hx
    split at hr <;> first | (cases hr; done) | skip
    rename_i hb hhb
    split at hr <;> first | (cases hr; done) | skip
    rename_i lb hlb
    split at hr <;> first | (cases hr; done) | skip
    rename_i hs
    obtain rfl := Option.some.inj hr
    have hx' := ev_lit hg hi hx
    obtain ⟨h1, h2, h3⟩ := sliceBounds_run (C := C) (w := w) hhb hlb (Nat.le_refl _) (rep_map hg hi lo) (rep_map hg hi hi') false
    refine OpOk.pure hi (u := .string (s.extract lb hb)) ?_ ⟨rfl, rfl⟩ rfl rfl
    have hu := strT_spec hs
    simp only [execOp, ho, Option.map_none, eval_evR a x, hx', Instr.sliceAt, Sem.run_bind, run_underlying hu, Result.andThen_ok, Instr.slice, Option.isSome_none, Bool.false_eq_true, if_false, Sem.run_pure, h1]
  · rename_i fl xs hx
    split at hr <;> first | (cases hr; done) | skip
    rename_i hb hhb
    split at hr <;> first | (cases hr; done) | skip
    rename_i lb hlb
    split at hr <;> first | (cases hr; done) | skip
    rename_i e he
    split at hr <;> first | (cases hr; done) | skip
    rename_i hhd
    obtain rfl := Option.some.inj hr
    obtain ⟨hu, hne⟩ := elemT_spec he
    rw [hx] at hrep
    have hv := RepSl_view (show RepSl g fl xs _ from hrep)
    have hbl : hb ≤ xs.length := (sliceBounds_run (C := C) (w := w) (cap := xs.length) hhb hlb (Nat.le_refl _) (rep_map hg hi lo) (rep_map hg hi hi') false).2.2
    cases hxs : xs with
    | nil =>
      subst hxs
      obtain ⟨b, c, hbc⟩ := hv
      obtain ⟨h1, h2, h3⟩ := sliceBounds_run (C := C) (w := w) (cap := c) hhb hlb (Nat.zero_le _) (rep_map hg hi lo) (rep_map hg hi hi') true
      have : hb = 0 := by simpa using hbl
      subst this
      have : lb = 0 := by omega
      subst this
      refine OpOk.pure hi (u := .slice (if c = 0 then b else b.map (·.add (0 * szT C.P e))) (0 - 0) (c - 0)) ?_ (by show RepSl g .view [] _; exact ⟨_, _, rfl⟩) rfl rfl
      simp only [execOp, ho, Option.map_none, eval_evR a x, hbc, Instr.sliceAt, Sem.run_bind, run_underlying hu, Result.andThen_ok, Instr.slice, List.length_nil] at h1 ⊢
      simp only [h1, Result.andThen_ok, sizeOf_run (w := w) hne, Sem.run_pure]
    | cons y ys =>
      rw [← hxs]
      have hv' : ∃ B off c com sz, evR a.tmps.toList x = .slice (some ⟨B, off, none⟩) xs.length c ∧ xs.length ≤ c ∧ g.comm B = some com ∧ 0 < sz ∧ (∀ x ∈ xs, x.cells.length = sz) ∧
          off + xs.length * sz ≤ com.cs.length ∧ (com.cs.drop off).take (xs.length * sz) = flatC xs := by
        rw [hxs] at hv ⊢
        obtain ⟨b, off, c, com, sz, h1, h2, h3, h4, h5, h6, h7, _⟩ := hv
        exact ⟨b, off, c, com, sz, h1, h2, h3, h4, h5, h6, h7⟩
      obtain ⟨b, off, c, com, sz, hbc, hc, hcom, hsz, huni, hlen, hwin⟩ := hv'
      have hszt : sz = szT C.P e := by
        have := huni y (by rw [hxs]; simp)
        rw [hxs] at hhd
        simp only [headOk, beq_iff_eq] at hhd
        omega
      obtain ⟨h1, h2, h3⟩ := sliceBounds_run (C := C) (w := w) (cap := c) hhb hlb hc (rep_map hg hi lo) (rep_map hg hi hi') true
      refine OpOk.pure hi (u := .slice (if c = lb then some ⟨b, off, none⟩ else some ⟨b, off + lb * szT C.P e, none⟩) (hb - lb) (c - lb)) ?_ ?_ rfl rfl
      · simp only [execOp, ho, Option.map_none, eval_evR a x, hbc, Instr.sliceAt, Sem.run_bind, run_underlying hu, Result.andThen_ok, Instr.slice, h1, sizeOf_run (w := w) hne, Sem.run_pure, Option.map_some, Addr_add']
      · show RepSl g .view _ _
        have hl1 : ((xs.drop lb).take (hb - lb)).length = hb - lb := by simp; omega
        cases hys : (xs.drop lb).take (hb - lb) with
        | nil =>
          rw [hys] at hl1
          simp only [List.length_nil] at hl1
          rw [← hl1]
          exact ⟨_, _, rfl⟩
        | cons z zs =>
          have hpos : 0 < hb - lb := by rw [← hl1, hys]; simp
          have hcne : c ≠ lb := by omega
          rw [if_neg hcne]
          rw [hys] at hl1
          refine ⟨b, off + lb * szT C.P e, c - lb, com, sz, by rw [hl1], by rw [hl1]; omega, hcom, hsz, ?_, ?_, ?_, fun h => by cases h⟩
          · intro q hq
            rw [← hys] at hq
            exact huni q (List.mem_of_mem_drop (List.mem_of_mem_take hq))
          · rw [hl1, ← hszt]
            have : hb * sz ≤ xs.length * sz := Nat.mul_le_mul_right _ h3
            have e3 : hb * sz = lb * sz + (hb - lb) * sz := by rw [← Nat.add_mul]; congr 1; omega
            omega
          · rw [hl1, ← hys, flatC_cut huni, ← hszt]
            refine window_window hwin ?_
            rw [← Nat.add_mul]
            exact Nat.mul_le_mul_right _ (by omega)
  · rename_i id ag sz off n hx
    split at hr <;> first | (cases hr; done) | skip
    rename_i hb hhb
    split at hr <;> first | (cases hr; done) | skip
    rename_i lb hlb
    split at hr <;> first | (cases hr; done) | skip
    rename_i e he
    split at hr <;> first | (cases hr; done) | skip
    rename_i hsz
    obtain ⟨hu, hne⟩ := elemT_spec he
    rw [hx] at hrep hok
    obtain ⟨c, hbc, hc⟩ := hrep
    obtain ⟨h1, h2, h3⟩ := sliceBounds_run (C := C) (w := w) (cap := c) hhb hlb hc (rep_map hg hi lo) (rep_map hg hi hi') true
    have hrun : (execOp a.eval o).run C.P w = .ok (.value (.slice (if c = lb then some ⟨g.phi id, off * sz, none⟩ else some ⟨g.phi id, off * sz + lb * szT C.P e, none⟩) (hb - lb) (c - lb))) w := by
      simp only [execOp, ho, Option.map_none, eval_evR a x, hbc, Instr.sliceAt, Sem.run_bind, run_underlying hu, Result.andThen_ok, Instr.slice, h1, sizeOf_run (w := w) hne, Sem.run_pure, Option.map_some, Addr_add']
    split at hr
    · rename_i hlt
      obtain rfl := Option.some.inj hr
      refine OpOk.pure hi hrun ?_ hok rfl
      rw [if_neg (by omega)]
      exact ⟨c - lb, by rw [hsz, Nat.add_mul], by omega⟩
    · rename_i hlt
      obtain rfl := Option.some.inj hr
      refine OpOk.pure hi hrun ?_ rfl rfl
      show RepSl g .view [] _
      rw [show hb - lb = 0 by omega]
      exact ⟨_, _, rfl⟩

theorem convert_ok (hg : GlobOk C g) (hi : Inv Pr g sl B a.tmps.toList w) {s d : TypeId} {x : Operand} (ho : o.op = .convert s d x) (hb : ∀ xs, v ≠ .sl .view xs) (h : vop C f o sl B = some (v, sl', B')) : OpOk C Pr o g B.length sl' v B' a w := by
  simp only [vop, ho] at h
  split at h <;> first | (cases h; done) | skip
  rename_i r hr
  simp only [Option.some.injEq, Prod.mk.injEq] at h
  obtain ⟨rfl, rfl, rfl⟩ := h
  unfold vconv at hr
  split at hr <;> first | (cases hr; done) | skip
  · rename_i k n hx
    split at hr <;> first | (cases hr; done) | skip
    rename_i k1 h1
    split at hr <;> first | (cases hr; done) | skip
    rename_i k2 h2
    obtain rfl := Option.some.inj hr
    have hx' := ev_lit hg hi hx
    exact OpOk.pure hi (u := .int k2 (k2.wrap n)) (by simp [execOp, ho, eval_evR, hx', convert, run_underlying (intT_spec h1), run_underlying (intT_spec h2), Conv.intToInt]) ⟨rfl, rfl⟩ rfl rfl
  · rename_i t hx
    split at hr <;> first | (cases hr; done) | skip
    rename_i h1
    split at hr
    · rename_i h2
      obtain rfl := Option.some.inj hr
      have hx' := ev_lit hg hi hx
      exact OpOk.pure hi (u := .string t) (by simp [execOp, ho, eval_evR, hx', convert, run_underlying (strT_spec h1), run_underlying (strT_spec h2)]) ⟨rfl, rfl⟩ rfl rfl
    · split at hr <;> first | (cases hr; done) | skip
      split at hr <;> first | (cases hr; done) | skip
      split at hr <;> first | (cases hr; done) | skip
      exact absurd (Option.some.inj hr).symm (hb _)

theorem eqCs_split : ∀ {m l : List CK} {as bs : List VV} {b : Bool}, eqCs (m ++ l) as bs = some b →
    ∃ b1 b2, eqCs m (as.take m.length) (bs.take m.length) = some b1 ∧ eqCs l (as.drop m.length) (bs.drop m.length) = some b2 ∧ b = (b1 && b2)
  | [], l, as, bs, b, h => ⟨true, b, by simp [eqCs], by simpa using h, by simp⟩
  | k :: m, l, [], bs, b, h => by simp only [List.cons_append, eqCs, reduceCtorEq] at h
  | k :: m, l, a :: as, [], b, h => by simp only [List.cons_append, eqCs, reduceCtorEq] at h
  | k :: m, l, a :: as, b' :: bs, b, h => by
    simp only [List.cons_append, eqCs] at h
    split at h <;> first | (cases h; done) | skip
    rename_i x y hx hy
    obtain rfl := Option.some.inj h
    obtain ⟨b1, b2, h1, h2, rfl⟩ := eqCs_split hy
    refine ⟨x && b1, b2, ?_, by simpa using h2, by rw [Bool.and_assoc]⟩
    simp only [List.length_cons, List.take_succ_cons, eqCs, hx, h1]

theorem eqCs_length : ∀ {m : List CK} {as bs : List VV} {b : Bool}, eqCs m as bs = some b → as.length = m.length ∧ bs.length = m.length
  | [], [], [], _, _ => ⟨rfl, rfl⟩
  | [], [], _ :: _, _, h => by simp only [eqCs, reduceCtorEq] at h
  | [], _ :: _, _, _, h => by simp only [eqCs, reduceCtorEq] at h
  | _ :: _, [], _, _, h => by simp only [eqCs, reduceCtorEq] at h
  | _ :: _, _ :: _, [], _, h => by simp only [eqCs, reduceCtorEq] at h
  | k :: m, a :: as, b' :: bs, b, h => by
    simp only [eqCs] at h
    split at h <;> first | (cases h; done) | skip
    rename_i x y hx hy
    have := eqCs_length hy
    simp [this.1, this.2]

/-- Values that are compared cell by cell. -/
theorem eq_run : ∀ (d : Nat) (t : TypeId) (ks : List CK), cellKs C.P d t = some ks → ∀ (cs ds : List VV) (b : Bool), eqCs ks cs ds = some b → ∀ n, d ≤ n →
    (∀ us us' : Array Value, All2 (RepC g) cs us.toList → All2 (RepC g) ds us'.toList → (aggT C.P t = some false ∨ (Op.equalIn n t (.agg us) (.agg us')).run C.P w = .ok b w)) ∧
    (aggT C.P t = some false → ∀ c c' u u', cs = [c] → ds = [c'] → RepC g c u → RepC g c' u' → (Op.equalIn n t u u').run C.P w = .ok b w) ∧ (aggT C.P t = some true ∨ aggT C.P t = some false)
  | 0, t, ks, h, _, _, _, _, _, _ => by simp only [cellKs, reduceCtorEq] at h
  | d + 1, t, ks, h, cs, ds, b, hb, 0, hn => by omega
  | d + 1, t, ks, h, cs, ds, b, hb, n + 1, hn => by
    unfold cellKs at h
    have one : ∀ k, ks = [k] → ∀ c c', cs = [c] → ds = [c'] → eqC k c c' = some b := by
      rintro k rfl c c' rfl rfl
      simp only [eqCs] at hb
      split at hb <;> first | (cases hb; done) | skip
      rename_i x y hx hy
      obtain rfl := Option.some.inj hy
      simpa [hx] using hb
    split at h <;> first | (cases h; done) | skip
    · rename_i hu
      obtain rfl := Option.some.inj h
      have ha : aggT C.P t = some false := by simp only [aggT, hu]
      refine ⟨fun _ _ _ _ => .inl ha, fun _ c c' u u' e1 e2 r1 r2 => ?_, .inr ha⟩
      have := one _ rfl c c' e1 e2
      unfold eqC at this
      split at this <;> first | contradiction | (cases this; done) | skip
      obtain rfl := Option.some.inj this
      obtain ⟨rfl, _⟩ := r1
      obtain ⟨rfl, _⟩ := r2
      exact run_equalIn_bool' w n t _ _ hu
    · rename_i k hu
      obtain rfl := Option.some.inj h
      have ha : aggT C.P t = some false := by simp only [aggT, hu]
      refine ⟨fun _ _ _ _ => .inl ha, fun _ c c' u u' e1 e2 r1 r2 => ?_, .inr ha⟩
      have := one _ rfl c c' e1 e2
      unfold eqC at this
      split at this <;> first | contradiction | (cases this; done) | skip
      split at this <;> first | (cases this; done) | skip
      rename_i hjk
      subst hjk
      obtain rfl := Option.some.inj this
      obtain ⟨rfl, _⟩ := r1
      obtain ⟨rfl, _⟩ := r2
      exact run_equalIn_int w n t _ _ _ _ hu
    · rename_i hu
      obtain rfl := Option.some.inj h
      have ha : aggT C.P t = some false := by simp only [aggT, hu]
      refine ⟨fun _ _ _ _ => .inl ha, fun _ c c' u u' e1 e2 r1 r2 => ?_, .inr ha⟩
      have := one _ rfl c c' e1 e2
      unfold eqC at this
      split at this <;> first | contradiction | (cases this; done) | skip
      obtain rfl := Option.some.inj this
      obtain ⟨rfl, _⟩ := r1
      obtain ⟨rfl, _⟩ := r2
      rw [run_equalIn_string w n t _ _ hu, beq_bytes]
    · rename_i fs hu
      split at h <;> first | (cases h; done) | skip
      rename_i hst
      have hst : C.P.stoodInHeld t = false := by simpa using hst
      have ha : aggT C.P t = some true := by simp only [aggT, hu]
      refine ⟨fun us us' r1 r2 => .inr ?_, fun h0 => (by rw [ha] at h0; cases h0), .inl ha⟩
      have hfo : C.P.fieldsOf t = fs := by simp only [Program.fieldsOf, hu]
      rw [run_equalIn_agg w n t us us' (by rw [hfo]; exact hu) hst, hfo]
      have key : ∀ (l : List Field) (off : Nat) (ks : List CK) (b : Bool), ksF C.P (cellKs C.P d) off l = some ks → eqCs ks (cs.drop off) (ds.drop off) = some b → (Op.eqFields n us us' l).run C.P w = .ok b w := by
        intro l
        induction l with
        | nil =>
          intro off ks b h1 h2
          simp only [ksF, Option.some.injEq] at h1
          subst h1
          have : b = true := by
            generalize cs.drop off = x at h2
            generalize ds.drop off = y at h2
            cases x <;> cases y <;> simp_all [eqCs]
          subst this
          rfl
        | cons f l ih =>
          intro off ks b h1 h2
          unfold ksF at h1
          split at h1 <;> first | (cases h1; done) | skip
          rename_i m hm
          split at h1 <;> first | (cases h1; done) | skip
          rename_i hcond
          simp only [not_or, Decidable.not_not] at hcond
          obtain ⟨hname, hoff, hsz, hne⟩ := hcond
          split at h1 <;> first | (cases h1; done) | skip
          rename_i l' hl'
          obtain rfl := Option.some.inj h1
          obtain ⟨b1, b2, e1, e2, rfl⟩ := eqCs_split h2
          rw [List.drop_drop, List.drop_drop] at e2
          have hrest := ih (off + m.length) l' b2 hl' e2
          have hlen := eqCs_length e1
          have hml : 0 < m.length := List.length_pos_iff.2 hne
          have hlc : off + m.length ≤ cs.length := by have := hlen.1; simp at this; omega
          have hld : off + m.length ≤ ds.length := by have := hlen.2; simp at this; omega
          have hrec := eq_run d f.type m hm ((cs.drop off).take m.length) ((ds.drop off).take m.length) b1 e1 n (by omega)
          have hpart : ∃ z z', (part f.type us f.offset).run C.P w = .ok z w ∧ (part f.type us' f.offset).run C.P w = .ok z' w ∧ (Op.equalIn n f.type z z').run C.P w = .ok b1 w := by
            rcases hrec.2.2 with ha | ha
            · obtain ⟨z, p1, p2, _⟩ := part_run (w := w) (e := f.type) (off := f.offset) (r := .agg ((cs.drop off).take m.length)) (show readAt C.P f.type cs f.offset = _ by simp only [readAt, ha, hsz, hoff]; rw [if_pos ⟨hlc, hml⟩]) r1
              obtain ⟨z', p1', p2', _⟩ := part_run (w := w) (e := f.type) (off := f.offset) (r := .agg ((ds.drop off).take m.length)) (show readAt C.P f.type ds f.offset = _ by simp only [readAt, ha, hsz, hoff]; rw [if_pos ⟨hld, hml⟩]) r2
              obtain ⟨a1, rfl, q1⟩ := p2
              obtain ⟨a2, rfl, q2⟩ := p2'
              refine ⟨_, _, p1, p1', (hrec.1 a1 a2 q1 q2).resolve_left fun h => ?_⟩
              rw [ha] at h; cases h
            · have hone : m.length = 1 := by
                have hd : ∀ d, cellKs C.P d f.type = some m → m.length = 1 := by
                  intro d hd
                  cases d with
                  | zero => simp only [cellKs, reduceCtorEq] at hd
                  | succ d =>
                    unfold cellKs at hd
                    split at hd <;> first | (cases hd; done) | (obtain rfl := Option.some.inj hd; rfl) | skip
                    rename_i fs' hu'
                    simp only [aggT, hu', Option.some.injEq, reduceCtorEq] at ha
                exact hd d hm
              have hc1 : ∃ c, cs[off]? = some c := ⟨_, List.getElem?_eq_getElem (by omega)⟩
              have hc2 : ∃ c, ds[off]? = some c := ⟨_, List.getElem?_eq_getElem (by omega)⟩
              obtain ⟨c, hc⟩ := hc1
              obtain ⟨c', hc'⟩ := hc2
              have hw : ∀ {l : List VV} {c : VV}, l[off]? = some c → (l.drop off).take m.length = [c] := by
                intro l c hc
                obtain ⟨hlt, hz⟩ := List.getElem?_eq_some_iff.1 hc
                rw [hone, List.drop_eq_getElem_cons hlt, hz]; rfl
              obtain ⟨u, hu1, hr1⟩ := r1.get hc
              obtain ⟨u', hu1', hr1'⟩ := r2.get hc'
              have pc : ∀ (us : Array Value) u, us.toList[off]? = some u → (part f.type us f.offset).run C.P w = .ok u w := by
                intro us u hu
                simp only [part, Sem.run_bind, aggT_run ha, Result.andThen_ok, Bool.false_eq_true, if_false]
                rw [hoff, ← Array.getElem?_toList, hu]
                rfl
              exact ⟨u, u', pc us u hu1, pc us' u' hu1', hrec.2.1 ha c c' u u' (hw hc) (hw hc') hr1 hr1'⟩
          obtain ⟨z, z', p1, p2, p3⟩ := hpart
          simp only [Op.eqFields]
          rw [if_pos hname]
          simp only [Sem.run_bind, p1, p2, p3, Result.andThen_ok]
          cases b1 with
          | false => simp
          | true => simpa using hrest
      exact key fs.toList 0 ks b h (by simpa using hb)

theorem binOp_run {op : BinOp} {t : TypeId} {x y r : VV} {u u' : Value} (h : vbin C.P t op x y = some r) (hx : Rep g x u) (hy : Rep g y u') (ex ey : Operand) :
    ∃ z, (do eqGuard op t ex ey u u'; binOp op t u u' : Sem Value).run C.P w = .ok z w ∧ r = .lit z ∧ z.oneCell' = true := by
  unfold vbin at h
  split at h
  · rename_i b c
    obtain ⟨rfl, _⟩ := hx
    obtain ⟨rfl, _⟩ := hy
    split at h
    · rename_i hb
      have hu := boolT_spec hb
      cases op <;> simp only [reduceCtorEq] at h <;> (obtain rfl := Option.some.inj h)
      · refine ⟨.bool (b == c), ?_, rfl, rfl⟩
        rw [show eqGuard .eql t ex ey (.bool b) (.bool c) = Pure.pure () from rfl, show binOp .eql t (.bool b) (.bool c) = (do Pure.pure (.bool (← Op.equalIn (9999 + 1) t (.bool b) (.bool c)))) from rfl]
        simp only [Sem.run_bind, Sem.run_pure, Result.andThen_ok, run_equalIn_bool' w 9999 t b c hu]
      · refine ⟨.bool (!(b == c)), ?_, rfl, rfl⟩
        rw [show eqGuard .neq t ex ey (.bool b) (.bool c) = Pure.pure () from rfl, show binOp .neq t (.bool b) (.bool c) = (do Pure.pure (.bool (!(← Op.equalIn (9999 + 1) t (.bool b) (.bool c))))) from rfl]
        simp only [Sem.run_bind, Sem.run_pure, Result.andThen_ok, run_equalIn_bool' w 9999 t b c hu]
    · cases h
  · rename_i c d hne
    obtain ⟨rfl, _⟩ := hx
    obtain ⟨rfl, _⟩ := hy
    split at h
    · rename_i z hz
      obtain rfl := Option.some.inj h
      have := litBin_run (C := C) (w := w) t hz
      refine ⟨z, ?_, rfl, this.2⟩
      have hguard : (eqGuard op t ex ey u u') = pure () := by
        unfold litBin at hz
        split at hz <;> first | (cases op <;> rfl) | cases hz
      rw [hguard]
      simpa using this.1
    · cases h
  · rename_i cs ds
    obtain ⟨us, rfl, hus⟩ := hx
    obtain ⟨us', rfl, hus'⟩ := hy
    split at h <;> first | (cases h; done) | skip
    rename_i ks hks
    unfold eqT at hks
    split at hks <;> first | (cases hks; done) | skip
    rename_i hgd
    simp only [Bool.or_eq_true, not_or, bne_iff_ne, ne_eq, Decidable.not_not] at hgd
    have hag := hgd.2
    have hgd : C.P.eqGuardType C.P.depth t = false := by simpa using hgd.1
    have hnf : ¬ aggT C.P t = some false := by rw [hag]; simp
    split at h <;> first | (cases h; done) | skip
    · rename_i b hb
      obtain rfl := Option.some.inj h
      have := (eq_run (w := w) 6 t ks hks cs ds b hb 10000 (by omega)).1 us us' hus hus' |>.resolve_left hnf
      exact ⟨.bool b, by rw [Sem.run_bind, run_eqGuard_agg w _ t ex ey us us' hgd, Result.andThen_ok, run_eql_struct, this]; rfl, rfl, rfl⟩
    · rename_i b hb
      obtain rfl := Option.some.inj h
      have := (eq_run (w := w) 6 t ks hks cs ds b hb 10000 (by omega)).1 us us' hus hus' |>.resolve_left hnf
      exact ⟨.bool (!b), by rw [Sem.run_bind, run_eqGuard_agg w _ t ex ey us us' hgd, Result.andThen_ok, run_neq_struct, this]; rfl, rfl, rfl⟩
  · cases h

theorem binOp_ok (hg : GlobOk C g) (hi : Inv Pr g sl B a.tmps.toList w) {op : BinOp} {t t' : TypeId} {x y : Operand} (ho : o.op = .binOp op t x y t') (h : vop C f o sl B = some (v, sl', B')) : OpOk C Pr o g B.length sl' v B' a w := by
  simp only [vop, ho] at h
  split at h
  · rename_i r hr
    simp only [Option.some.injEq, Prod.mk.injEq] at h
    obtain ⟨rfl, rfl, rfl⟩ := h
    obtain ⟨z, h1, rfl, h2⟩ := binOp_run (w := w) hr (ev_rep hg hi.rep x) (ev_rep hg hi.rep y) x y
    refine OpOk.pure hi (u := z) ?_ ⟨rfl, h2⟩ rfl rfl
    simp only [execOp, ho, eval_evR] 
    rw [Sem.run_bind, h1]
    rfl
  · cases h


theorem vmin_run {mx : Bool} {t : TypeId} : ∀ {l : List VV} {us : List Value} {x r : VV} {u : Value}, vminL mx x l = some r → Rep g x u → All2 (Rep g) l us →
    ∃ z, (us.foldlM (if mx then Builtin.max2 else Builtin.min2) u).run C.P w = .ok z w ∧ Rep g r z ∧ (l ≠ [] → ∃ k n, r = .lit (.int k n))
  | [], _, x, r, u, h, hx, .nil => by
    obtain rfl := Option.some.inj h
    exact ⟨u, rfl, hx, fun h => absurd rfl h⟩
  | y :: l, _, x, r, u, h, hx, .cons (b := u') (bs := us) hy hl => by
    unfold vminL at h
    split at h <;> first | (cases h; done) | skip
    rename_i z hz
    unfold vmin2 at hz
    split at hz <;> first | (cases hz; done) | skip
    rename_i k p k' q
    obtain rfl := Option.some.inj hz
    obtain ⟨rfl, _⟩ := hx
    obtain ⟨rfl, _⟩ := hy
    obtain ⟨z', h1, h2, h3⟩ := vmin_run (t := t) h (u := .int k (if mx then (if p < q then q else p) else (if q < p then q else p))) ⟨rfl, rfl⟩ hl
    refine ⟨z', ?_, h2, fun _ => ?_⟩
    · simp only [List.foldlM_cons, Sem.run_bind]
      cases mx
      · simp only [Bool.false_eq_true, if_false, Builtin.min2, Sem.run_pure, Result.andThen_ok] at h1 ⊢
        exact h1
      · simp only [if_true, Builtin.max2, Sem.run_pure, Result.andThen_ok] at h1 ⊢
        exact h1
    · cases l with
      | nil => simp only [vminL, Option.some.injEq] at h; exact ⟨_, _, h.symm⟩
      | cons => exact h3 (by simp)

end
end Go.Wv
