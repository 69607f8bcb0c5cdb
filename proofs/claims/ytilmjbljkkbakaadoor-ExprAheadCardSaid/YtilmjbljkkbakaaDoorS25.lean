/-
  A part of the proof: our library of the interpreter.
-/
import Derived.Test.YtilmjbljkkbakaaDoorS24
set_option linter.unusedSimpArgs false
set_option linter.unusedVariables false
set_option linter.unusedSectionVars false
set_option linter.unnecessarySimpa false
set_option linter.deprecated false
namespace Go.Wv

/-! What an operation leaves of the slots. -/
section
variable {C : Cfg} {f : FuncId} {o : Oper} {sl sl' sl2 : List VV} {B B' B2 : List Blk} {t : Tmp} {u v : VV}

theorem tr_slen (x : Operand) : (tr C sl x).2.length = sl.length := by
  cases x <;> first | rfl | skip
  simp only [tr]; split <;> simp
theorem trL_slen : ∀ (xs : List Operand) (sl : List VV), (trL C sl xs).2.length = sl.length
  | [], _ => rfl
  | x :: xs, sl => by simp only [trL, trL_slen xs, tr_slen]
theorem pargs_slen {g : FuncId} : ∀ (xs : List Operand) (i : Nat) (sl : List VV), (pargs C g sl i xs).2.length = sl.length
  | [], _, _ => rfl
  | x :: xs, i, sl => by
    simp only [pargs]
    cases C.argm g i <;> simp only [pargs_slen xs, tr_slen]
theorem vargs_slen {g : FuncId} : ∀ {xs : List Operand} {i : Nat} {sl sl' : List VV} {B B' : List Blk} {vs : List VV}, vargs C g sl B i xs = some (vs, sl', B') → sl'.length = sl.length
  | [], i, sl, sl', B, B', vs, h => by simp only [vargs, Option.some.injEq, Prod.mk.injEq] at h; rw [← h.2.1]
  | x :: xs, i, sl, sl', B, B', vs, h => by
    unfold vargs at h
    split at h
    · split at h <;> first | (cases h; done) | skip
      split at h <;> first | (cases h; done) | skip
      rename_i h2
      simp only [Option.some.injEq, Prod.mk.injEq] at h
      rw [← h.2.1, vargs_slen h2]
    · simp only at h
      split at h <;> first | (cases h; done) | skip
      rename_i h2
      simp only [Option.some.injEq, Prod.mk.injEq] at h
      rw [← h.2.1, vargs_slen h2, tr_slen]
    · split at h <;> first | (cases h; done) | skip
      rename_i h2
      simp only [Option.some.injEq, Prod.mk.injEq] at h
      rw [← h.2.1, vargs_slen h2]

theorem vop_slen (h : vop C f o sl B = some (v, sl', B')) : sl'.length = sl.length := by
  obtain ⟨dst, op, type, pos, after, guard⟩ := o
  cases op
  case build e ps =>
    simp only [vop] at h
    cases hh : (Option.map (C.take f) dst).getD false <;> simp only [hh, Bool.false_eq_true, if_false, if_true] at h <;> (repeat' (split at h)) <;> first
      | (cases h; done)
      | (simp only [Option.some.injEq, Prod.mk.injEq] at h; rw [← h.2.1]; done)
      | (simp only [Option.some.injEq, Prod.mk.injEq] at h; rw [← h.2.1, trL_slen]; done)
  all_goals
    simp only [vop, reduceCtorEq] at h <;> (repeat' (split at h)) <;> first
      | (cases h; done)
      | (simp only [Option.some.injEq, Prod.mk.injEq] at h; rw [← h.2.1]; done)
      | (simp only [Option.some.injEq, Prod.mk.injEq] at h; rw [← h.2.1, tr_slen]; done)
      | (simp only [Option.some.injEq, Prod.mk.injEq] at h; rw [← h.2.1]; simp; done)
      | contradiction

theorem putS_slen (d : Option Tmp) : (putS sl d v).length = sl.length := by cases d <;> simp [putS]

theorem vstep_slen {K : Nat} {ops : Array Oper} (h : vstep C K f ops o sl B = some (sl', B')) : sl'.length = sl.length := by
  unfold vstep at h
  split at h
  · cases h
  · simp only [Option.some.injEq, Prod.mk.injEq] at h; rw [← h.1, putS_slen]
  · split at h
    · split at h
      · cases h
      · split at h
        · split at h
          · split at h
            · cases h
            · simp only [Option.some.injEq, Prod.mk.injEq] at h; rw [← h.1, putS_slen, pargs_slen]
          · cases h
        · split at h
          · cases h
          · rename_i hv
            split at h
            · cases h
            · simp only [Option.some.injEq, Prod.mk.injEq] at h
              rw [← h.1, putS_slen, vargs_slen hv]
    · split at h
      · cases h
      · rename_i hv
        simp only [Option.some.injEq, Prod.mk.injEq] at h
        rw [← h.1, putS_slen, vop_slen hv]

theorem set_getS (sl : List VV) (t : Nat) : sl.set t (getS sl t) = sl := by
  apply List.ext_getElem?
  intro i
  rw [List.getElem?_set]
  split
  · rename_i e
    subst e
    split
    · rename_i h; simp [getS, List.getD_eq_getElem?_getD, List.getElem?_eq_getElem h]
    · rename_i h; rw [List.getElem?_eq_none (by omega)]
  · rfl

/-- Slots that are neither looked at nor written stay. -/
theorem vstep_keeps {K : Nat} {ops : Array Oper} (h : vstep C K f ops o sl B = some (sl', B')) (ht : t ∉ o.looksAt ops) (hd : o.dst ≠ some t) : getS sl' t = getS sl t := by
  have h1 := vstep_set (C := C) (K := K) (f := f) (ops := ops) (sl := sl) (B := B) (u := getS sl t) ht hd
  rw [set_getS, h] at h1
  simp only [Option.map_some, Option.some.injEq, Prod.mk.injEq, and_true] at h1
  have hl := vstep_slen h
  have h2 : getS sl' t = getS (sl'.set t (getS sl t)) t := by rw [← h1]
  rw [h2, getS_set_eq]
  split
  · rfl
  · rename_i hn
    have : sl.length ≤ t := by rw [← hl]; simpa using hn
    simp [getS, List.getD_eq_getElem?_getD, List.getElem?_eq_none this, List.getElem?_eq_none (show sl'.length ≤ t by omega)]

theorem tr_alike (x : Operand) : ∀ t, Alike (getS sl t) (getS (tr C sl x).2 t) := by
  intro t
  cases x <;> first | exact Alike.refl _ | skip
  rename_i s
  simp only [tr]
  split
  · rw [getS_set_eq]
    split
    · rename_i e
      obtain ⟨rfl, _⟩ := e
      exact (alike_view _).symm
    · exact Alike.refl _
  · exact Alike.refl _
theorem Alike.trans {a b c : VV} (h : Alike a b) (h' : Alike b c) : Alike a c := Eq.trans h h'
theorem trL_alike : ∀ (xs : List Operand) (sl : List VV) (t : Nat), Alike (getS sl t) (getS (trL C sl xs).2 t)
  | [], _, _ => Alike.refl _
  | x :: xs, sl, t => by
    simp only [trL]
    exact (tr_alike x t).trans (trL_alike xs _ t)

theorem BV.set {id : Nat} {b b2 : Blk} (hb : B[id]? = some b) (he : b2.cells.map viewC = b.cells.map viewC) : BV B (B.set id b2) ∧ BV (B.set id b2) B := by
  have hid : id < B.length := (List.getElem?_eq_some_iff.1 hb).1
  constructor
  · intro i x hx
    by_cases e : id = i
    · subst e
      rw [hb] at hx
      obtain rfl := Option.some.inj hx
      exact ⟨b2, List.getElem?_set_self hid, he⟩
    · exact ⟨x, by rw [List.getElem?_set_ne e]; exact hx, rfl⟩
  · intro i x hx
    rcases set_get hid hx with ⟨rfl, rfl⟩ | ⟨_, h⟩
    · exact ⟨b, hb, he.symm⟩
    · exact ⟨x, h, rfl⟩

theorem readAt_cells {P : Program} {t : TypeId} {cs : List VV} {off : Nat} {v0 : VV} (h : readAt P t cs off = some v0) (hn : ¬ ∃ vs, v0 = .tup vs) (hcell : aggT P t = some false → ∀ xs, v0 ≠ .agg xs) :
    (splice cs off (toView v0).cells).map viewC = cs.map viewC := by
  rw [toView_viewV hn, viewV_cells hn]
  unfold readAt at h
  split at h <;> first | (cases h; done) | skip
  · split at h <;> first | (cases h; done) | skip
    rename_i hc
    obtain rfl := Option.some.inj h
    obtain ⟨hle, _⟩ := hc
    have hlen : ((cs.drop off).take (szT P t)).length = szT P t := by simp; omega
    unfold splice
    rw [List.length_map, show (VV.agg ((cs.drop off).take (szT P t))).cells = (cs.drop off).take (szT P t) from rfl, hlen]
    rw [List.map_append, List.map_append, map_viewC_idem, ← List.map_append, ← List.map_append]
    rw [← List.drop_drop, List.append_assoc, List.take_append_drop, List.take_append_drop]
  · rename_i hag
    obtain ⟨hlt, hz⟩ := List.getElem?_eq_some_iff.1 h
    have hc : v0.cells = [v0] := by
      cases v0 <;> first | rfl | exact absurd rfl (hcell hag _)
    rw [hc]
    unfold splice
    simp only [List.map_cons, List.map_nil, List.length_cons, List.length_nil, List.map_append, viewC_idem]
    rw [← hz, ← List.map_singleton, ← List.map_append, ← List.map_append]
    rw [List.append_assoc, show [cs[off]] ++ cs.drop (off + (0 + 1)) = cs.drop off from by rw [List.drop_eq_getElem_cons hlt]; simp, List.take_append_drop]

/-- Operations that take a right: what they leave is alike. -/
theorem vop_take (hcls : cls C f o = 3) (h : vop C f o sl B = some (v, sl', B')) :
    (∀ t, Alike (getS sl t) (getS sl' t)) ∧ BV B B' ∧ BV B' B := by
  obtain ⟨dst, op, type, pos, after, guard⟩ := o
  cases op <;> simp only [vop] at h <;> try (cases h; done)
  case move x =>
    split at h
    · simp only [Option.some.injEq, Prod.mk.injEq] at h
      obtain ⟨rfl, rfl, rfl⟩ := h
      exact ⟨tr_alike x, BV.refl _, BV.refl _⟩
    · simp only [Option.some.injEq, Prod.mk.injEq] at h
      obtain ⟨rfl, rfl, rfl⟩ := h
      exact ⟨fun _ => Alike.refl _, BV.refl _, BV.refl _⟩
  case assign x =>
    simp only [Option.some.injEq, Prod.mk.injEq] at h
    obtain ⟨rfl, rfl, rfl⟩ := h
    exact ⟨tr_alike x, BV.refl _, BV.refl _⟩
  case build e ps =>
    cases hh : (Option.map (C.take f) dst).getD false <;> simp only [hh, Bool.false_eq_true, if_false, if_true] at h <;> (repeat' (split at h)) <;> first
      | (cases h; done)
      | (simp only [Option.some.injEq, Prod.mk.injEq] at h; obtain ⟨rfl, rfl, rfl⟩ := h; exact ⟨fun _ => Alike.refl _, BV.refl _, BV.refl _⟩)
      | (simp only [Option.some.injEq, Prod.mk.injEq] at h; obtain ⟨rfl, rfl, rfl⟩ := h; exact ⟨trL_alike _ _, BV.refl _, BV.refl _⟩)
  case load t x =>
    split at h <;> first | (cases h; done) | skip
    · rename_i id off he
      split at h <;> first | (cases h; done) | skip
      rename_i b hb
      split at h <;> first | (cases h; done) | skip
      rename_i v0 hv0
      split at h
      · split at h <;> first | (cases h; done) | skip
        rename_i cs
        split at h <;> first | (cases h; done) | skip
        rename_i hck
        simp only [Option.some.injEq, Prod.mk.injEq] at h
        obtain ⟨rfl, rfl, rfl⟩ := h
        have h1 : ¬ ∃ vs, v0 = .tup vs := by
          rintro ⟨vs, rfl⟩
          unfold readAt at hv0
          split at hv0 <;> first | (cases hv0; done) | skip
          · split at hv0 <;> cases hv0
          · rename_i ha
            simp only [cellOk, ha] at hck
            cases hck
        have h2 : aggT C.P t = some false → ∀ xs, v0 ≠ .agg xs := by
          rintro ha xs rfl
          simp only [cellOk, ha] at hck
          cases hck
        have h3 := readAt_cells (P := C.P) hv0 h1 h2
        obtain ⟨k1, k2⟩ := BV.set (B := B) (b := .var cs) (b2 := .var (splice cs off (toView v0).cells)) hb h3
        exact ⟨fun _ => Alike.refl _, k1, k2⟩
      · simp only [Option.some.injEq, Prod.mk.injEq] at h
        obtain ⟨rfl, rfl, rfl⟩ := h
        exact ⟨fun _ => Alike.refl _, BV.refl _, BV.refl _⟩
    · split at h <;> first | (cases h; done) | skip
      simp only [Option.some.injEq, Prod.mk.injEq] at h
      obtain ⟨rfl, rfl, rfl⟩ := h
      exact ⟨fun _ => Alike.refl _, BV.refl _, BV.refl _⟩
  case extract x i =>
    split at h <;> first | (cases h; done) | skip
    rename_i s vs hs
    split at h <;> first | (cases h; done) | skip
    rename_i r hr
    split at h
    · simp only [Option.some.injEq, Prod.mk.injEq] at h
      obtain ⟨rfl, rfl, rfl⟩ := h
      refine ⟨fun t => ?_, BV.refl _, BV.refl _⟩
      rw [getS_set_eq]
      split
      · rename_i e
        obtain ⟨rfl, _⟩ := e
        rw [show getS sl s = .tup vs from hs]
        show VV.tup (vs.map viewV) = VV.tup ((vs.set i (viewV r)).map viewV)
        rw [List.map_set, viewV_idem]
        congr 1
        apply List.ext_getElem?
        intro j
        rw [List.getElem?_set]
        split
        · rename_i e
          subst e
          rw [List.getElem?_map, hr]
          simp
          exact (List.getElem?_eq_some_iff.1 hr).1
        · rfl
      · exact Alike.refl _
    · simp only [Option.some.injEq, Prod.mk.injEq] at h
      obtain ⟨rfl, rfl, rfl⟩ := h
      exact ⟨fun _ => Alike.refl _, BV.refl _, BV.refl _⟩
  case call c =>
    obtain ⟨cal, args, ts⟩ := c
    cases cal <;> try (cases h; done)
    rename_i b
    cases b <;> try (first | (cases h; done) | (cases hcls; done))
    dsimp only at h
    repeat' (split at h)
    all_goals first
      | (cases h; done)
      | contradiction
      | (simp only [Option.some.injEq, Prod.mk.injEq] at h; obtain ⟨rfl, rfl, rfl⟩ := h; exact ⟨tr_alike _, BV.refl _, BV.refl _⟩)
  all_goals (cases hcls)

theorem vop_alloc (hcls : cls C f o = 4) (h : vop C f o sl B = some (v, sl', B')) : sl' = sl ∧ BV B B' := by
  have hload : ∃ t, o.op = .alloc t := by
    unfold cls at hcls
    split at hcls <;> (repeat' (split at hcls)) <;> first | (cases hcls; done) | skip
    rename_i t hop
    exact ⟨_, hop⟩
  obtain ⟨t, ho⟩ := hload
  simp only [vop, ho] at h
  split at h <;> first | (cases h; done) | skip
  split at h <;> first | (cases h; done) | skip
  simp only [Option.some.injEq, Prod.mk.injEq] at h
  obtain ⟨_, rfl, rfl⟩ := h
  refine ⟨rfl, fun id b hb => ⟨b, ?_, rfl⟩⟩
  rw [List.getElem?_append_left (List.getElem?_eq_some_iff.1 hb).1]
  exact hb

theorem vstep_vop {K : Nat} {ops : Array Oper} (hnc : isCall o = false) (h : vstep C K f ops o sl B = some (sl', B')) :
    (sl' = putS sl o.dst (.tup []) ∧ B' = B) ∨ ∃ v sl1, vop C f o sl B = some (v, sl1, B') ∧ sl' = putS sl1 o.dst v := by
  unfold vstep at h
  split at h
  · cases h
  · simp only [Option.some.injEq, Prod.mk.injEq] at h
    exact .inl ⟨h.1.symm, h.2.symm⟩
  · split at h
    · rename_i hop
      unfold isCall at hnc
      rw [hop] at hnc
      cases hnc
    · split at h
      · cases h
      · rename_i v sl1 B1 hv
        simp only [Option.some.injEq, Prod.mk.injEq] at h
        obtain ⟨rfl, rfl⟩ := h
        exact .inr ⟨v, sl1, hv, rfl⟩

theorem cls_call (h : isCall o = true) : cls C f o = 0 ∨ cls C f o = 2 := by
  obtain ⟨dst, op, type, pos, after, guard⟩ := o
  cases op <;> simp only [isCall, Bool.false_eq_true] at h
  rename_i c
  obtain ⟨cal, args, ts⟩ := c
  cases cal <;> simp only [Bool.false_eq_true] at h
  rename_i x
  cases x <;> simp only [cls] <;> try exact .inr trivial
  split
  · exact .inl rfl
  · exact .inr rfl

theorem getS_put_ne {d : Option Tmp} (h : d ≠ some t) : getS (putS sl d v) t = getS sl t := by
  cases d with
  | none => rfl
  | some d => exact getS_set_ne fun e => h (by rw [e])

/-- what a step leaves of the slots that it does not write -/
theorem vstep_leaves {K : Nat} {ops : Array Oper} (h : vstep C K f ops o sl B = some (sl', B')) :
    (cls C f o = 2 ∨ ∀ t, o.dst ≠ some t → Alike (getS sl t) (getS sl' t)) ∧ ((cls C f o = 0 ∨ cls C f o = 1 ∨ cls C f o = 3) → BV B B' ∧ BV B' B) ∧ (cls C f o = 4 → BV B B') := by
  by_cases hr : cls C f o = 0 ∨ cls C f o = 1
  · obtain ⟨rfl, v, rfl, _⟩ := vstep_ro hr h
    exact ⟨.inr fun t ht => by rw [getS_put_ne ht]; exact Alike.refl _, fun _ => ⟨BV.refl _, BV.refl _⟩, fun _ => BV.refl _⟩
  · by_cases h2 : cls C f o = 2
    · exact ⟨.inl h2, fun hh => (by rcases hh with e | e | e <;> rw [h2] at e <;> cases e), fun e => (by rw [h2] at e; cases e)⟩
    · have hnc : isCall o = false := by
        cases hc : isCall o
        · rfl
        · rcases cls_call (C := C) (f := f) hc with e | e
          · exact absurd (.inl e) hr
          · exact absurd e h2
      rcases vstep_vop hnc h with ⟨rfl, rfl⟩ | ⟨v, sl1, hv, rfl⟩
      · exact ⟨.inr fun t ht => by rw [getS_put_ne ht]; exact Alike.refl _, fun _ => ⟨BV.refl _, BV.refl _⟩, fun _ => BV.refl _⟩
      · by_cases h3 : cls C f o = 3
        · obtain ⟨k1, k2, k3⟩ := vop_take h3 hv
          exact ⟨.inr fun t ht => by rw [getS_put_ne ht]; exact k1 t, fun _ => ⟨k2, k3⟩, fun e => by rw [h3] at e; cases e⟩
        · by_cases h4 : cls C f o = 4
          · obtain ⟨rfl, k⟩ := vop_alloc h4 hv
            exact ⟨.inr fun t ht => by rw [getS_put_ne ht]; exact Alike.refl _, fun e => (by rcases e with e | e | e <;> rw [h4] at e <;> cases e), fun _ => k⟩
          · exfalso
            have : cls C f o = 0 ∨ cls C f o = 1 ∨ cls C f o = 2 ∨ cls C f o = 3 ∨ cls C f o = 4 := by
              unfold cls
              split <;> (repeat' split) <;> simp
            rcases this with e | e | e | e | e
            · exact hr (.inl e)
            · exact hr (.inr e)
            · exact h2 e
            · exact h3 e
            · exact h4 e
end
end Go.Wv
