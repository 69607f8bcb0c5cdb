/-
  A part of the proof: our library of the interpreter.
-/
import Derived.Test.YtilmjbljkkbakaaDoorS21
set_option linter.unusedSimpArgs false
set_option linter.unusedVariables false
set_option linter.unusedSectionVars false
set_option linter.unnecessarySimpa false
set_option linter.deprecated false
namespace Go.Wv

/-! An operation does not look at other slots. -/
section
variable {C : Cfg} {f : FuncId} {o : Oper} {sl : List VV} {B : List Blk} {t : Tmp} {u : VV}

theorem getS_set_ne {s : Nat} (h : s ≠ t) : getS (sl.set t u) s = getS sl s := by
  rw [getS_set_eq, if_neg (fun e => h e.1.symm)]
theorem ev_set {x : Operand} (h : x ≠ .tmp t) : ev C (sl.set t u) x = ev C sl x := by
  cases x <;> first | rfl | skip
  rename_i s
  exact getS_set_ne fun e => h (by rw [e])
theorem tr_set {x : Operand} (h : x ≠ .tmp t) : tr C (sl.set t u) x = ((tr C sl x).1, (tr C sl x).2.set t u) := by
  cases x <;> first | rfl | skip
  · rename_i s
    have hs : s ≠ t := fun e => h (by rw [e])
    simp only [tr, getS_set_ne hs]
    split
    · simp only [Prod.mk.injEq, true_and]
      exact List.set_comm _ _ (fun e => hs e.symm)
    · rfl
theorem evs_set : ∀ {xs : List Operand}, (∀ x ∈ xs, x ≠ .tmp t) → xs.map (ev C (sl.set t u)) = xs.map (ev C sl) :=
  fun h => List.map_congr_left fun x hx => ev_set (h x hx)
theorem trL_set : ∀ {xs : List Operand} {sl : List VV}, (∀ x ∈ xs, x ≠ .tmp t) → trL C (sl.set t u) xs = ((trL C sl xs).1, (trL C sl xs).2.set t u)
  | [], sl, _ => rfl
  | x :: xs, sl, h => by
    simp only [trL, tr_set (h x (by simp)), trL_set (xs := xs) (fun y hy => h y (by simp [hy]))]
theorem pargs_set {g : FuncId} : ∀ {xs : List Operand} {i : Nat} {sl : List VV}, (∀ x ∈ xs, x ≠ .tmp t) → pargs C g (sl.set t u) i xs = ((pargs C g sl i xs).1, (pargs C g sl i xs).2.set t u)
  | [], i, sl, _ => rfl
  | x :: xs, i, sl, h => by
    simp only [pargs]
    have ih := fun i sl => pargs_set (g := g) (xs := xs) (i := i) (sl := sl) (fun y hy => h y (by simp [hy]))
    cases C.argm g i with
    | own => simp only [tr_set (h x (by simp)), ih]
    | view => simp only [ev_set (h x (by simp)), ih]
    | ref => simp only [ev_set (h x (by simp)), ih]
theorem vargs_set {g : FuncId} : ∀ {xs : List Operand} {i : Nat} {sl : List VV} {B : List Blk}, (∀ x ∈ xs, x ≠ .tmp t) →
    vargs C g (sl.set t u) B i xs = (vargs C g sl B i xs).map fun p => (p.1, p.2.1.set t u, p.2.2)
  | [], i, sl, B, _ => rfl
  | x :: xs, i, sl, B, h => by
    simp only [vargs]
    have ih := fun i sl B => vargs_set (g := g) (xs := xs) (i := i) (sl := sl) (B := B) (fun y hy => h y (by simp [hy]))
    cases C.argm g i with
    | own =>
      simp only [tr_set (h x (by simp)), ih]
      cases vargs C g (tr C sl x).2 B (i + 1) xs <;> rfl
    | view =>
      simp only [ev_set (h x (by simp)), ih]
      cases freeze B (ev C sl x) with
      | none => rfl
      | some p =>
        simp only
        cases vargs C g sl p.2 (i + 1) xs <;> rfl
    | ref =>
      simp only [ev_set (h x (by simp)), ih]
      cases vargs C g sl B (i + 1) xs <;> rfl

abbrev up (t : Tmp) (u : VV) (p : VV × List VV × List Blk) : VV × List VV × List Blk := (p.1, p.2.1.set t u, p.2.2)

theorem vop_set (h : ∀ x ∈ o.op.operands, x ≠ .tmp t) : vop C f o (sl.set t u) B = (vop C f o sl B).map (up t u) := by
  obtain ⟨dst, op, type, pos, after, guard⟩ := o
  cases op <;> simp only [Op.operands] at h <;> simp only [vop]
  case move x =>
    have hx := h x (by simp)
    simp only [ev_set hx, tr_set hx]
    split <;> rfl
  case assign x =>
    have hx := h x (by simp)
    simp only [tr_set hx]; rfl
  case pick c a b =>
    have e : ∀ t' : Bool, ev C (sl.set t u) (if t' = true then a else b) = ev C sl (if t' = true then a else b) := fun t' => by cases t' <;> simp [ev_set (h a (by simp)), ev_set (h b (by simp))]
    simp only [ev_set (h c (by simp)), e]
    split <;> rfl
  case alloc e =>
    split
    · split <;> rfl
    · rfl
  case box e x =>
    have hx := h x (by simp)
    simp only [tr_set hx]
    split <;> rfl
  case build e ps =>
    have h1 : ∀ x ∈ ps.toList.map (·.2), x ≠ .tmp t := fun x hx => h x (by simpa using hx)
    have h2 : (ps.toList.map fun p => toView (ev C (sl.set t u) p.2)) = ps.toList.map fun p => toView (ev C sl p.2) :=
      List.map_congr_left fun p hp => by rw [ev_set (h1 p.2 (List.mem_map.2 ⟨p, hp, rfl⟩))]
    simp only [trL_set h1, h2]
    cases (Option.map (C.take f) dst).getD false
    · simp only [Bool.false_eq_true, if_false]
      repeat' (first | rfl | split)
    · simp only [if_true]
      repeat' (first | rfl | split)
  case buildSlice e n ps =>
    have h1 : ∀ x ∈ ps.toList.map (·.2), x ≠ .tmp t := fun x hx => h x (by simpa using hx)
    have h2 : (ps.toList.map fun p => (p.1, toView (ev C (sl.set t u) p.2))) = ps.toList.map fun p => (p.1, toView (ev C sl p.2)) :=
      List.map_congr_left fun p hp => by rw [ev_set (h1 p.2 (List.mem_map.2 ⟨p, hp, rfl⟩))]
    simp only [h2]
    repeat' (first | rfl | split)
  case load e x =>
    simp only [ev_set (h x (by simp))]
    repeat' (first | rfl | split)
  case store e a x =>
    simp only [ev_set (h a (by simp)), ev_set (h x (by simp)), tr_set (h x (by simp))]
    repeat' (first | rfl | split)
  case nilCheck x =>
    simp only [ev_set (h x (by simp))]
    repeat' (first | rfl | split)
  case binOp op e x y e' =>
    simp only [ev_set (h x (by simp)), ev_set (h y (by simp))]
    repeat' (first | rfl | split)
  case unOp op e x =>
    simp only [ev_set (h x (by simp))]
    repeat' (first | rfl | split)
  case convert e e' x =>
    simp only [ev_set (h x (by simp))]
    repeat' (first | rfl | split)
  case makeSlice e x y =>
    simp only [ev_set (h x (by simp)), ev_set (h y (by simp))]
    repeat' (first | rfl | split)
  case slice e x lo hi mx =>
    have e1 : lo.map (ev C (sl.set t u)) = lo.map (ev C sl) := by
      cases lo with
      | none => rfl
      | some y => simp only [Option.map_some, ev_set (h y (by simp))]
    have e2 : hi.map (ev C (sl.set t u)) = hi.map (ev C sl) := by
      cases hi with
      | none => rfl
      | some y => simp only [Option.map_some, ev_set (h y (by simp))]
    simp only [ev_set (h x (by simp)), e1, e2]
    repeat' (first | rfl | split)
  case fieldAddr s x i =>
    simp only [ev_set (h x (by simp))]
    repeat' (first | rfl | split)
  case indexAddr e x y =>
    simp only [ev_set (h x (by simp)), ev_set (h y (by simp))]
    repeat' (first | rfl | split)
  case index e x y =>
    simp only [ev_set (h x (by simp)), ev_set (h y (by simp))]
    repeat' (first | rfl | split)
  case extract x i =>
    simp only [ev_set (h x (by simp))]
    split
    · rename_i s vs hs
      have hs : s ≠ t := fun e => h (.tmp s) (by simp) (by rw [e])
      split
      · split
        · simp only [Option.map_some, up, Option.some.injEq, Prod.mk.injEq, true_and, and_true]
          exact List.set_comm _ _ (fun e => hs e.symm)
        · rfl
      · rfl
    · rfl
  case call c =>
    obtain ⟨cal, args, ts⟩ := c
    have ha : ∀ x ∈ args.toList, x ≠ .tmp t := fun x hx => h x (by simp only [Call.operands]; exact Array.mem_append_right _ (by simpa using hx))
    cases cal <;> try rfl
    rename_i b
    cases b <;> try rfl
    case append =>
      dsimp only
      cases hargs : args.toList with
      | nil => rfl
      | cons x l => cases l with
        | nil => rfl
        | cons y l => cases l with
          | cons => rfl
          | nil =>
            rw [hargs] at ha
            cases ts.toList with
            | nil => rfl
            | cons t1 m => cases m with
              | nil => rfl
              | cons t2 m => cases m with
                | cons => rfl
                | nil =>
                  simp only [ev_set (ha y (by simp)), tr_set (ha x (by simp))]
                  repeat' (first | rfl | split)
    case len =>
      dsimp only
      cases hargs : args.toList with
      | nil => rfl
      | cons x l => cases l with
        | cons => rfl
        | nil =>
          rw [hargs] at ha
          cases ts.toList with
          | nil => rfl
          | cons t1 m => cases m with
            | cons => rfl
            | nil =>
              simp only [ev_set (ha x (by simp))]
              repeat' (first | rfl | split)
    case max =>
      dsimp only
      cases hargs : args.toList with
      | nil => rfl
      | cons x l => cases l with
        | nil => rfl
        | cons y l =>
          rw [hargs] at ha
          simp only [ev_set (ha x (by simp)), evs_set (xs := y :: l) (fun z hz => ha z (by simp only [List.mem_cons] at hz ⊢; exact .inr hz))]
          repeat' (first | rfl | split)
    case min =>
      dsimp only
      cases hargs : args.toList with
      | nil => rfl
      | cons x l => cases l with
        | nil => rfl
        | cons y l =>
          rw [hargs] at ha
          simp only [ev_set (ha x (by simp)), evs_set (xs := y :: l) (fun z hz => ha z (by simp only [List.mem_cons] at hz ⊢; exact .inr hz))]
          repeat' (first | rfl | split)
  all_goals rfl

theorem gate_set {ops : Array Oper} (h : t ∉ o.looksAt ops) : gate ops (sl.set t u) o = gate ops sl o := by
  unfold gate
  cases hg : o.guard with
  | none => rfl
  | some jw =>
    obtain ⟨j, want⟩ := jw
    simp only
    cases hd : (ops[j]?).bind (·.dst) with
    | none => rfl
    | some d =>
      simp only
      rw [getS_set_ne fun e => h (by rw [← e]; simp [Oper.looksAt, hg, hd])]

theorem looks_operand {ops : Array Oper} (h : t ∉ o.looksAt ops) : ∀ x ∈ o.op.operands, x ≠ .tmp t := by
  rintro x hx rfl
  exact h (List.mem_append_left _ (List.mem_filterMap.2 ⟨.tmp t, by simpa using hx, rfl⟩))

theorem callee_set {c : Call} (h : ∀ x ∈ c.operands, x ≠ .tmp t) : callee C (sl.set t u) c = callee C sl c := by
  unfold callee
  cases hc : c.callee with
  | value x => simp only [ev_set (h x (by simp [Call.operands, hc]))]
  | _ => rfl

theorem putS_set {d : Option Tmp} {v : VV} (h : d ≠ some t) : putS (sl.set t u) d v = (putS sl d v).set t u := by
  cases d with
  | none => rfl
  | some d => exact List.set_comm _ _ fun e => h (by rw [e])

theorem vstep_set {K : Nat} {ops : Array Oper} (h : t ∉ o.looksAt ops) (hd : o.dst ≠ some t) : vstep C K f ops o (sl.set t u) B = (vstep C K f ops o sl B).map fun p => (p.1.set t u, p.2) := by
  unfold vstep
  rw [gate_set h]
  have hop := looks_operand h
  cases gate ops sl o with
  | none => rfl
  | some b =>
    cases b with
    | false => simp only [putS_set hd]; rfl
    | true =>
      simp only
      have plain : (match vop C f o (sl.set t u) B with
          | none => none
          | some (v, sl', B') => some (putS sl' o.dst v, B')) = (match vop C f o sl B with
          | none => none
          | some (v, sl', B') => some (putS sl' o.dst v, B') : Option (List VV × List Blk)).map fun p => (p.1.set t u, p.2) := by
        rw [vop_set hop]
        cases vop C f o sl B with
        | none => rfl
        | some p => simp only [Option.map_some, up, putS_set hd]
      by_cases hcall : isCall o = true
      · obtain ⟨dst, op, type, pos, after, guard⟩ := o
        cases op <;> simp only [isCall, Bool.false_eq_true] at hcall
        rename_i c
        obtain ⟨cal, args, ts⟩ := c
        cases cal <;> simp only [Bool.false_eq_true] at hcall
        rename_i x
        simp only [Op.operands] at hop
        simp only [callee_set hop]
        have ha : ∀ x ∈ args.toList, x ≠ .tmp t := fun x hx => hop x (by simp only [Call.operands]; exact Array.mem_append_right _ (by simpa using hx))
        cases hcal : callee C sl { callee := .value x, args, argTypes := ts } with
        | none => rfl
        | some p =>
          obtain ⟨gf, as, caps⟩ := p
          have has : as = args.toList := by
            simp only [callee] at hcal
            split at hcal <;> first | (cases hcal; done) | (split at hcal <;> first | (cases hcal; done) | (simp only [Option.some.injEq, Prod.mk.injEq] at hcal; exact hcal.2.1.symm))
          subst has
          simp only [pargs_set ha, vargs_set ha]
          split
          · split
            · split
              · rfl
              · simp only [Option.map_some, putS_set hd]
            · rfl
          · cases vargs C gf sl B 0 args.toList with
            | none => rfl
            | some q =>
              simp only [Option.map_some]
              cases vcall C K gf (q.1 ++ caps) q.2.2 with
              | none => rfl
              | some r => simp only [Option.map_some, putS_set hd]
      · obtain ⟨dst, op, type, pos, after, guard⟩ := o
        cases op <;> first | exact plain | skip
        rename_i c
        obtain ⟨cal, args, ts⟩ := c
        cases cal <;> first | exact plain | exact absurd rfl hcall
end
end Go.Wv
