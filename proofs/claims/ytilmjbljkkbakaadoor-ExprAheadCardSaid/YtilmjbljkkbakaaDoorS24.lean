/-
  A part of the proof: our library of the interpreter.
-/
import Derived.Test.YtilmjbljkkbakaaDoorS23
set_option linter.unusedSimpArgs false
set_option linter.unusedVariables false
set_option linter.unusedSectionVars false
set_option linter.unnecessarySimpa false
set_option linter.deprecated false
namespace Go.Wv

theorem Alike.lit {v : Value} {b : VV} (h : Alike (.lit v) b) : b = .lit v := by
  cases b <;> first | exact (show VV.lit v = _ from h).symm | cases h | skip
  rename_i f xs; cases f <;> cases h
theorem Alike.ptr {i o : Nat} {b : VV} (h : Alike (.ptr i o) b) : b = .ptr i o := by
  cases b <;> first | exact (show VV.ptr i o = _ from h).symm | cases h | skip
  rename_i f xs; cases f <;> cases h
theorem Alike.elp {i : List VV} {o : Nat} {b : VV} (h : Alike (.elp i o) b) : b = .elp i o := by
  cases b <;> first | exact (show VV.elp i o = _ from h).symm | cases h | skip
  rename_i f xs; cases f <;> cases h
theorem Alike.clo {fn : Fn} {x y : List VV} {b : VV} (h : Alike (.clo fn x y) b) : b = .clo fn x y := by
  cases b <;> first | exact (show VV.clo fn x y = _ from h).symm | cases h | skip
  rename_i f xs; cases f <;> cases h
theorem Alike.tup {vs : List VV} {b : VV} (h : Alike (.tup vs) b) : ∃ vs', b = .tup vs' ∧ vs'.map viewV = vs.map viewV := by
  cases b <;> first | cases h | skip
  · rename_i vs'
    exact ⟨vs', rfl, (VV.tup.inj h).symm⟩
  · rename_i f xs; cases f <;> cases h

theorem toView_of_viewV {a b : VV} (h : viewV a = viewV b) : toView a = toView b := by
  have e : ∀ a : VV, toView a = toView (viewV a) := fun a => by
    cases a <;> first | rfl | skip
    · exact congrArg VV.agg (map_viewC_idem _).symm
    · rename_i f xs; cases f <;> rfl
  rw [e a, e b, h]

/-- blocks alike, at least those of the first -/
def BV (B B2 : List Blk) : Prop := ∀ (id : Nat) b, B[id]? = some b → ∃ b2, B2[id]? = some b2 ∧ b2.cells.map viewC = b.cells.map viewC
theorem BV.refl (B : List Blk) : BV B B := fun _ b h => ⟨b, h, rfl⟩

section
variable {C : Cfg} {f : FuncId} {o : Oper} {sl sl' sl2 : List VV} {B B' B2 : List Blk} {t : Tmp} {u v : VV}

theorem ev_alike {x : Operand} (h : ∀ t, x = .tmp t → Alike (getS sl t) (getS sl2 t)) : Alike (ev C sl x) (ev C sl2 x) := by
  cases x <;> first | exact h _ rfl | exact Alike.refl _

theorem noTake {dst : Option Tmp} (h : (if (Option.map (C.take f) dst).getD false = true then 3 else 0) = 0) : (Option.map (C.take f) dst).getD false = false := by
  cases hh : (Option.map (C.take f) dst).getD false
  · rfl
  · rw [hh] at h; cases h

theorem vop_ro0 (hcls : cls C f o = 0) (hnc : isCall o = false) (h : vop C f o sl B = some (v, sl', B')) :
    sl' = sl ∧ B' = B ∧ ∀ sl2 B2, (∀ x ∈ o.op.operands, Alike (ev C sl x) (ev C sl2 x)) → vop C f o sl2 B2 = some (v, sl2, B2) := by
  obtain ⟨dst, op, type, pos, after, guard⟩ := o
  cases op <;> simp only [vop] at h ⊢ <;> try (cases h; done)
  case move x =>
    have ht := noTake (C := C) (f := f) (dst := dst) hcls
    simp only [ht, Bool.false_eq_true, if_false, Option.some.injEq, Prod.mk.injEq] at h ⊢
    obtain ⟨rfl, rfl, rfl⟩ := h
    exact ⟨rfl, rfl, fun sl2 B2 hx => ⟨(show toView _ = toView _ from hx x (by simp [Op.operands])).symm, trivial⟩⟩
  case assign x => cases hcls
  case alloc t => cases hcls
  case box t x => cases hcls
  case load t x => simp only [cls] at hcls; split at hcls <;> cases hcls
  case store t x y => cases hcls
  case makeSlice t x y => cases hcls
  case pick c a b =>
    split at h <;> first | (cases h; done) | skip
    rename_i t hc
    simp only [Option.some.injEq, Prod.mk.injEq] at h
    obtain ⟨rfl, rfl, rfl⟩ := h
    refine ⟨rfl, rfl, fun sl2 B2 hx => ?_⟩
    have h1 := hx c (by simp [Op.operands])
    rw [hc] at h1
    rw [h1.lit]
    have h2 : toView (ev C sl (if t = true then a else b)) = toView (ev C sl2 (if t = true then a else b)) := by
      cases t
      · exact hx b (by simp [Op.operands])
      · exact hx a (by simp [Op.operands])
    simp only [h2]
  case build e ps =>
    have ht := noTake (C := C) (f := f) (dst := dst) hcls
    simp only [ht, Bool.false_eq_true, if_false] at h ⊢
    split at h <;> first | (cases h; done) | skip
    rename_i z hz
    split at h <;> first | (cases h; done) | skip
    rename_i hc
    split at h <;> first | (cases h; done) | skip
    rename_i cs hcs
    simp only [Option.some.injEq, Prod.mk.injEq] at h
    obtain ⟨rfl, rfl, rfl⟩ := h
    refine ⟨rfl, rfl, fun sl2 B2 hx => ?_⟩
    have h2 : (ps.toList.map fun p => toView (ev C sl2 p.2)) = ps.toList.map fun p => toView (ev C sl p.2) :=
      List.map_congr_left fun p hp => (show toView _ = toView _ from hx p.2 (by simp only [Op.operands]; simp only [List.mem_toArray, List.mem_map]; exact ⟨p, hp, rfl⟩)).symm
    simp only [h2, hz, hcs]
    rw [if_pos hc]
  case buildSlice e n ps =>
    split at h <;> first | (cases h; done) | skip
    rename_i e1 he
    split at h <;> first | (cases h; done) | skip
    rename_i z hz
    split at h <;> first | (cases h; done) | skip
    rename_i hc
    split at h <;> first | (cases h; done) | skip
    rename_i xs hxs
    simp only [Option.some.injEq, Prod.mk.injEq] at h
    obtain ⟨rfl, rfl, rfl⟩ := h
    refine ⟨rfl, rfl, fun sl2 B2 hx => ?_⟩
    have h2 : (ps.toList.map fun p => (p.1, toView (ev C sl2 p.2))) = ps.toList.map fun p => (p.1, toView (ev C sl p.2)) :=
      List.map_congr_left fun p hp => by rw [(show toView _ = toView _ from hx p.2 (by simp only [Op.operands]; simp only [List.mem_toArray, List.mem_map]; exact ⟨p, hp, rfl⟩))]
    simp only [h2, hz, hxs]
    rw [if_pos hc]
  case nilCheck x =>
    split at h <;> first | (cases h; done) | skip
    all_goals
      rename_i hc
      simp only [Option.some.injEq, Prod.mk.injEq] at h
      obtain ⟨rfl, rfl, rfl⟩ := h
      refine ⟨rfl, rfl, fun sl2 B2 hx => ?_⟩
      have h1 := hx x (by simp [Op.operands])
      rw [hc] at h1
      first | rw [h1.ptr] | rw [h1.elp] | rw [h1.clo] | rw [h1.lit]
  case binOp op e x y e' =>
    split at h <;> first | (cases h; done) | skip
    rename_i r hr
    simp only [Option.some.injEq, Prod.mk.injEq] at h
    obtain ⟨rfl, rfl, rfl⟩ := h
    refine ⟨rfl, rfl, fun sl2 B2 hx => ?_⟩
    have h1 : toView _ = toView _ := hx x (by simp [Op.operands])
    have h2 : toView _ = toView _ := hx y (by simp [Op.operands])
    rw [← vbin_view, ← h1, ← h2, vbin_view, hr]
  case unOp op e x =>
    split at h <;> first | (cases h; done) | skip
    rename_i r hr
    simp only [Option.some.injEq, Prod.mk.injEq] at h
    obtain ⟨rfl, rfl, rfl⟩ := h
    refine ⟨rfl, rfl, fun sl2 B2 hx => ?_⟩
    have h1 : toView _ = toView _ := hx x (by simp [Op.operands])
    rw [← vun_view, ← h1, vun_view, hr]
  case convert s d x =>
    split at h <;> first | (cases h; done) | skip
    rename_i r hr
    simp only [Option.some.injEq, Prod.mk.injEq] at h
    obtain ⟨rfl, rfl, rfl⟩ := h
    refine ⟨rfl, rfl, fun sl2 B2 hx => ?_⟩
    have h1 : toView _ = toView _ := hx x (by simp [Op.operands])
    rw [← vconv_view, ← h1, vconv_view, hr]
  case slice e x lo hi mx =>
    split at h <;> first | (cases h; done) | skip
    split at h <;> first | (cases h; done) | skip
    rename_i r hr
    simp only [Option.some.injEq, Prod.mk.injEq] at h
    obtain ⟨rfl, rfl, rfl⟩ := h
    refine ⟨rfl, rfl, fun sl2 B2 hx => ?_⟩
    have h1 : toView _ = toView _ := hx x (by simp [Op.operands])
    have h2 : (lo.map (ev C sl)).map toView = (lo.map (ev C sl2)).map toView := by
      cases lo with
      | none => rfl
      | some y => exact congrArg some (hx y (by simp [Op.operands]))
    have h3 : (hi.map (ev C sl)).map toView = (hi.map (ev C sl2)).map toView := by
      cases hi with
      | none => rfl
      | some y => exact congrArg some (hx y (by simp [Op.operands]))
    rw [← vslice_view, ← h1, ← h2, ← h3, vslice_view, hr]
  case fieldAddr s x i =>
    split at h <;> first | (cases h; done) | skip
    all_goals
      rename_i hf hc
      simp only [Option.some.injEq, Prod.mk.injEq] at h
      obtain ⟨rfl, rfl, rfl⟩ := h
      refine ⟨rfl, rfl, fun sl2 B2 hx => ?_⟩
      have h1 := hx x (by simp [Op.operands])
      rw [hc] at h1
      first | rw [h1.ptr, hf] | rw [h1.elp, hf]
  case indexAddr e x y =>
    split at h <;> first | (cases h; done) | skip
    rename_i r hr
    simp only [Option.some.injEq, Prod.mk.injEq] at h
    obtain ⟨rfl, rfl, rfl⟩ := h
    refine ⟨rfl, rfl, fun sl2 B2 hx => ?_⟩
    have h1 : toView _ = toView _ := hx x (by simp [Op.operands])
    have h2 : toView _ = toView _ := hx y (by simp [Op.operands])
    rw [← vindexAddr_view, ← h1, ← h2, vindexAddr_view, hr]
  case index e x y =>
    split at h <;> first | (cases h; done) | skip
    rename_i r hr
    simp only [Option.some.injEq, Prod.mk.injEq] at h
    obtain ⟨rfl, rfl, rfl⟩ := h
    refine ⟨rfl, rfl, fun sl2 B2 hx => ?_⟩
    have h1 : toView _ = toView _ := hx x (by simp [Op.operands])
    have h2 : toView _ = toView _ := hx y (by simp [Op.operands])
    have h3 := vindex_view C.P e (ev C sl2 x) (ev C sl2 y)
    rw [← h1, ← h2, vindex_view, hr] at h3
    cases hq : vindex C.P e (ev C sl2 x) (ev C sl2 y) with
    | none => rw [hq] at h3; cases h3
    | some q =>
      rw [hq] at h3
      simp only [Option.map_some, Option.some.injEq] at h3
      simp only [h3]
  case extract x i =>
    have ht := noTake (C := C) (f := f) (dst := dst) hcls
    simp only [ht, Bool.false_eq_true, if_false] at h ⊢
    split at h <;> first | (cases h; done) | skip
    rename_i s vs hs
    split at h <;> first | (cases h; done) | skip
    rename_i r hr
    simp only [Option.some.injEq, Prod.mk.injEq] at h
    obtain ⟨rfl, rfl, rfl⟩ := h
    refine ⟨rfl, rfl, fun sl2 B2 hx => ?_⟩
    have h1 := hx (.tmp s) (by simp [Op.operands])
    rw [hs] at h1
    obtain ⟨vs', e1, e2⟩ := h1.tup
    rw [e1]
    simp only
    have e3 : (vs'.map viewV)[i]? = some (viewV r) := by rw [e2, List.getElem?_map, hr]; rfl
    rw [List.getElem?_map] at e3
    cases hq : vs'[i]? with
    | none => rw [hq] at e3; cases e3
    | some q =>
      rw [hq] at e3
      simp only [Option.map_some, Option.some.injEq] at e3
      simp only [e3]
  case call c =>
    obtain ⟨cal, args, ts⟩ := c
    cases cal <;> try (cases h; done)
    rename_i b
    have ha : ∀ x ∈ args.toList, x ∈ (Op.call { callee := .builtin b, args := args, argTypes := ts }).operands := fun x hx => by
      simp only [Op.operands, Call.operands]; exact Array.mem_append_right _ (by simpa using hx)
    cases b <;> try (cases h; done)
    case append => cases hcls
    case len =>
      dsimp only at h ⊢
      cases hargs : args.toList with
      | nil => rw [hargs] at h; cases h
      | cons x l => cases l with
        | cons => rw [hargs] at h; cases h
        | nil => cases hts : ts.toList with
          | nil => rw [hargs, hts] at h; cases h
          | cons t1 m => cases m with
            | cons => rw [hargs, hts] at h; cases h
            | nil =>
              rw [hargs, hts] at h
              simp only at h ⊢
              split at h <;> first | (cases h; done) | skip
              rename_i r hr
              simp only [Option.some.injEq, Prod.mk.injEq] at h
              obtain ⟨rfl, rfl, rfl⟩ := h
              refine ⟨rfl, rfl, fun sl2 B2 hx => ?_⟩
              have h1 : toView _ = toView _ := hx x (ha x (by rw [hargs]; simp))
              rw [← vlen_view, ← h1, vlen_view, hr]
    case max =>
      dsimp only at h ⊢
      cases hargs : args.toList with
      | nil => rw [hargs] at h; cases h
      | cons x l => cases l with
        | nil => rw [hargs] at h; cases h
        | cons y l =>
          rw [hargs] at h
          simp only at h ⊢
          split at h <;> first | (cases h; done) | skip
          rename_i r hr
          simp only [Option.some.injEq, Prod.mk.injEq] at h
          obtain ⟨rfl, rfl, rfl⟩ := h
          refine ⟨rfl, rfl, fun sl2 B2 hx => ?_⟩
          have h1 : toView _ = toView _ := hx x (ha x (by rw [hargs]; simp))
          have h2 : ((y :: l).map (ev C sl)).map toView = ((y :: l).map (ev C sl2)).map toView := by
            rw [List.map_map, List.map_map]
            exact List.map_congr_left fun z hz => hx z (ha z (by rw [hargs]; exact List.mem_cons_of_mem _ hz))
          rw [← vminL_view _ _ _ (by simp), ← h1, ← h2, vminL_view _ _ _ (by simp), hr]
    case min =>
      dsimp only at h ⊢
      cases hargs : args.toList with
      | nil => rw [hargs] at h; cases h
      | cons x l => cases l with
        | nil => rw [hargs] at h; cases h
        | cons y l =>
          rw [hargs] at h
          simp only at h ⊢
          split at h <;> first | (cases h; done) | skip
          rename_i r hr
          simp only [Option.some.injEq, Prod.mk.injEq] at h
          obtain ⟨rfl, rfl, rfl⟩ := h
          refine ⟨rfl, rfl, fun sl2 B2 hx => ?_⟩
          have h1 : toView _ = toView _ := hx x (ha x (by rw [hargs]; simp))
          have h2 : ((y :: l).map (ev C sl)).map toView = ((y :: l).map (ev C sl2)).map toView := by
            rw [List.map_map, List.map_map]
            exact List.map_congr_left fun z hz => hx z (ha z (by rw [hargs]; exact List.mem_cons_of_mem _ hz))
          rw [← vminL_view _ _ _ (by simp), ← h1, ← h2, vminL_view _ _ _ (by simp), hr]

theorem vop_ro1 (hcls : cls C f o = 1) (h : vop C f o sl B = some (v, sl', B')) :
    sl' = sl ∧ B' = B ∧ ∀ sl2 B2, (∀ x ∈ o.op.operands, Alike (ev C sl x) (ev C sl2 x)) → BV B B2 → vop C f o sl2 B2 = some (v, sl2, B2) := by
  obtain ⟨dst, op, type, pos, after, guard⟩ := o
  have hload : ∃ t x, op = .load t x ∧ (Option.map (C.take f) dst).getD false = false := by
    unfold cls at hcls
    split at hcls <;> (repeat' (split at hcls)) <;> first | (cases hcls; done) | skip
    rename_i t x hop ht
    exact ⟨_, _, hop, by simpa using ht⟩
  obtain ⟨t, x, rfl, ht⟩ := hload
  simp only [vop, ht, Bool.false_eq_true, if_false] at h ⊢
  split at h <;> first | (cases h; done) | skip
  · rename_i id off he
    split at h <;> first | (cases h; done) | skip
    rename_i b hb
    split at h <;> first | (cases h; done) | skip
    rename_i v0 hv0
    simp only [Option.some.injEq, Prod.mk.injEq] at h
    obtain ⟨rfl, rfl, rfl⟩ := h
    refine ⟨rfl, rfl, fun sl2 B2 hx hB => ?_⟩
    have h1 := hx x (by simp [Op.operands])
    rw [he] at h1
    rw [h1.ptr]
    obtain ⟨b2, e1, e2⟩ := hB id b hb
    simp only [e1]
    have h3 := readAt_view C.P t b2.cells off
    rw [e2, readAt_view, hv0] at h3
    cases hq : readAt C.P t b2.cells off with
    | none => rw [hq] at h3; cases h3
    | some q =>
      rw [hq] at h3
      simp only [Option.map_some, Option.some.injEq] at h3
      simp only [toView_of_viewV h3]
  · rename_i cs off he
    split at h <;> first | (cases h; done) | skip
    rename_i v0 hv0
    simp only [Option.some.injEq, Prod.mk.injEq] at h
    obtain ⟨rfl, rfl, rfl⟩ := h
    refine ⟨rfl, rfl, fun sl2 B2 hx hB => ?_⟩
    have h1 := hx x (by simp [Op.operands])
    rw [he] at h1
    rw [h1.elp]
    simp only [hv0]

theorem gate_alike {ops : Array Oper} {b : Bool} (h : gate ops sl o = some b) (hx : ∀ t ∈ o.looksAt ops, Alike (getS sl t) (getS sl2 t)) : gate ops sl2 o = some b := by
  unfold gate at h ⊢
  cases hg : o.guard with
  | none => rw [hg] at h; exact h
  | some jw =>
    obtain ⟨j, want⟩ := jw
    rw [hg] at h
    simp only at h ⊢
    cases hd : (ops[j]?).bind (·.dst) with
    | none => rw [hd] at h; cases h
    | some d =>
      rw [hd] at h
      simp only at h ⊢
      have h1 := hx d (by simp [Oper.looksAt, hg, hd])
      split at h
      · rename_i hv; rw [hv] at h1; rw [h1.lit]; exact h
      · rename_i hv
        rw [hv] at h1
        obtain ⟨vs', e1, e2⟩ := h1.tup
        have : vs' = [] := by simpa using e2
        rw [e1, this]; exact h
      · cases h

theorem pargs_view {g : FuncId} : ∀ {xs : List Operand} {i : Nat}, (∀ j, j < xs.length → C.argm g (i + j) ≠ .own) → pargs C g sl i xs = (xs.map (fun x => toView (ev C sl x)), sl)
  | [], _, _ => rfl
  | x :: xs, i, h => by
    have ih := pargs_view (g := g) (xs := xs) (i := i + 1) (fun j hj => by rw [show i + 1 + j = i + (j + 1) by omega]; exact h (j + 1) (by simpa using hj))
    have h0 := h 0 (by simp)
    simp only [Nat.add_zero] at h0
    unfold pargs
    cases hm : C.argm g i with
    | own => exact absurd hm h0
    | view => simp only [ih, List.map_cons]
    | ref => simp only [ih, List.map_cons]

theorem vstep_ro {K : Nat} {ops : Array Oper} (hcls : cls C f o = 0 ∨ cls C f o = 1) (h : vstep C K f ops o sl B = some (sl', B')) :
    B' = B ∧ ∃ v, sl' = putS sl o.dst v ∧ ∀ sl2 B2, (∀ t ∈ o.looksAt ops, Alike (getS sl t) (getS sl2 t)) → (cls C f o = 1 → BV B B2) → vstep C K f ops o sl2 B2 = some (putS sl2 o.dst v, B2) := by
  have hopnd : ∀ {sl2 : List VV}, (∀ t ∈ o.looksAt ops, Alike (getS sl t) (getS sl2 t)) → ∀ x ∈ o.op.operands, Alike (ev C sl x) (ev C sl2 x) := fun {sl2} hx x hxo =>
    ev_alike fun t e => hx t (by subst e; exact List.mem_append_left _ (List.mem_filterMap.2 ⟨.tmp t, by simpa using hxo, rfl⟩))
  unfold vstep at h
  cases hgt : gate ops sl o with
  | none => rw [hgt] at h; cases h
  | some b =>
    rw [hgt] at h
    cases b with
    | false =>
      simp only [Option.some.injEq, Prod.mk.injEq] at h
      obtain ⟨rfl, rfl⟩ := h
      exact ⟨rfl, _, rfl, fun sl2 B2 hx _ => by unfold vstep; rw [gate_alike hgt hx]⟩
    | true =>
      simp only at h
      have plain : isCall o = false → (match vop C f o sl B with
          | none => none
          | some (v, sl', B') => some (putS sl' o.dst v, B')) = some (sl', B') →
          B' = B ∧ ∃ v, sl' = putS sl o.dst v ∧ ∀ sl2 B2, (∀ t ∈ o.looksAt ops, Alike (getS sl t) (getS sl2 t)) → (cls C f o = 1 → BV B B2) → vop C f o sl2 B2 = some (v, sl2, B2) := by
        intro hnc h
        split at h <;> first | (cases h; done) | skip
        rename_i v sl1 B1 hv
        simp only [Option.some.injEq, Prod.mk.injEq] at h
        obtain ⟨rfl, rfl⟩ := h
        rcases hcls with hc | hc
        · obtain ⟨rfl, rfl, h3⟩ := vop_ro0 hc hnc hv
          exact ⟨rfl, v, rfl, fun sl2 B2 hx _ => h3 sl2 B2 (hopnd hx)⟩
        · obtain ⟨rfl, rfl, h3⟩ := vop_ro1 hc hv
          exact ⟨rfl, v, rfl, fun sl2 B2 hx hb => h3 sl2 B2 (hopnd hx) (hb hc)⟩
      have fin : (∀ sl2 B2, vstep C K f ops o sl2 B2 = match gate ops sl2 o with
          | none => none
          | some false => some (putS sl2 o.dst (.tup []), B2)
          | some true => match vop C f o sl2 B2 with
            | none => none
            | some (v, sl', B') => some (putS sl' o.dst v, B')) → isCall o = false → (match vop C f o sl B with
          | none => none
          | some (v, sl', B') => some (putS sl' o.dst v, B')) = some (sl', B') →
          B' = B ∧ ∃ v, sl' = putS sl o.dst v ∧ ∀ sl2 B2, (∀ t ∈ o.looksAt ops, Alike (getS sl t) (getS sl2 t)) → (cls C f o = 1 → BV B B2) → vstep C K f ops o sl2 B2 = some (putS sl2 o.dst v, B2) := by
        intro hst hnc h
        obtain ⟨e1, v, e2, e3⟩ := plain hnc h
        exact ⟨e1, v, e2, fun sl2 B2 hx hb => by rw [hst, gate_alike hgt hx]; simp only [e3 sl2 B2 hx hb]⟩
      by_cases hcall : isCall o = true
      · obtain ⟨dst, op, type, pos, after, guard⟩ := o
        cases op <;> simp only [isCall, Bool.false_eq_true] at hcall
        rename_i c
        obtain ⟨cal, args, ts⟩ := c
        cases cal <;> simp only [Bool.false_eq_true] at hcall
        rename_i x
        cases x <;> try (rcases hcls with hc | hc <;> (simp only [cls] at hc; cases hc; done))
        rename_i gf
        have hp : (C.pure gf && (List.range args.size).all (fun i => C.argm gf i != .own)) = true := by
          simp only [cls] at hcls
          by_cases hh : (C.pure gf && (List.range args.size).all (fun i => C.argm gf i != .own)) = true
          · exact hh
          · rw [if_neg hh] at hcls; rcases hcls with hc | hc <;> cases hc
        have hc0 : cls C f { dst := dst, op := .call { callee := .value (.func gf), args := args, argTypes := ts }, type := type, pos := pos, after := after, guard := guard } = 0 := by
          simp only [cls]; rw [if_pos hp]
        rw [Bool.and_eq_true] at hp
        have hpv : ∀ sl, pargs C gf sl 0 args.toList = (args.toList.map (fun x => toView (ev C sl x)), sl) := fun sl => pargs_view fun j hj => by
          have := List.all_eq_true.1 hp.2 j (by simpa using hj)
          simpa using this
        have hcal : ∀ sl, callee C sl { callee := .value (.func gf), args := args, argTypes := ts } = some (gf, args.toList, []) := fun sl => rfl
        simp only [hcal, hp.1, if_true, hpv] at h
        split at h <;> first | (cases h; done) | skip
        rename_i hok
        split at h <;> first | (cases h; done) | skip
        rename_i r B2 hv
        simp only [Option.some.injEq, Prod.mk.injEq] at h
        obtain ⟨rfl, rfl⟩ := h
        refine ⟨rfl, r, rfl, fun sl2 B2 hx _ => ?_⟩
        have e : args.toList.map (fun x => toView (ev C sl2 x)) = args.toList.map (fun x => toView (ev C sl x)) := List.map_congr_left fun y hy =>
          (show toView _ = toView _ from hopnd hx y (by simp only [Op.operands, Call.operands]; exact Array.mem_append_right _ (by simpa using hy))).symm
        unfold vstep
        rw [gate_alike hgt hx]
        simp only [hcal, hp.1, if_true, hpv, e, hv, hok]
      · have hnc : isCall o = false := by simpa using hcall
        obtain ⟨dst, op, type, pos, after, guard⟩ := o
        cases op <;> first | exact fin (fun _ _ => rfl) hnc h | skip
        rename_i c
        obtain ⟨cal, args, ts⟩ := c
        cases cal <;> first | exact fin (fun _ _ => rfl) hnc h | exact absurd rfl hcall
end
end Go.Wv
