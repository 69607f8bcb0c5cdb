/-
  A part of the proof: our library of the interpreter.
-/
import Derived.Test.YtilmjbljkkbakaaDoorS2
set_option linter.unusedSimpArgs false
set_option linter.unusedVariables false
set_option linter.unusedSectionVars false
set_option linter.unnecessarySimpa false
set_option linter.deprecated false
namespace Go.Wv

/-! Steps of the invariant. -/

def putL (tm : List Value) (d : Option Tmp) (u : Value) : List Value :=
  match d with
  | some i => tm.set i u
  | none => tm

theorem Inv.change {Pr : Nat → Prop} {g : G} {sl sl2 : List VV} {B : List Blk} {tm tm2 : List Value} {w : World} (h : Inv Pr g sl B tm w)
    (hr : All2 (Rep g) sl2 tm2) (ho : okRs B.length sl2 = true) (hc : ∀ b, cntS b sl2 tm2 ≤ cntS b sl tm) : Inv Pr g sl2 B tm2 w :=
  ⟨hr, ho, h.sto, fun b => by have := h.uniq b; have := hc b; omega, fun b hb => ⟨(h.prot b hb).1, by have := (h.prot b hb).2.1; have := hc b; omega, (h.prot b hb).2.2⟩⟩

theorem All2_put {g : G} {sl : List VV} {tm : List Value} (h : All2 (Rep g) sl tm) {v : VV} {u : Value} (hv : Rep g v u) (d : Option Tmp) : All2 (Rep g) (putS sl d v) (putL tm d u) := by
  cases d with
  | none => exact h
  | some i => exact h.set hv i
theorem okRs_put {n : Nat} {sl : List VV} (h : okRs n sl = true) {v : VV} (hv : okR n v = true) (d : Option Tmp) : okRs n (putS sl d v) = true := by
  cases d with
  | none => exact h
  | some i => exact okRs_set h hv i
theorem cntS_put {b : Nat} {sl : List VV} {tm : List Value} (h : sl.length = tm.length) (v : VV) (u : Value) (d : Option Tmp) : cntS b (putS sl d v) (putL tm d u) ≤ cntS b sl tm + cnt b v u := by
  cases d with
  | none => simp only [putS, putL]; omega
  | some i => exact cntS_set_le h v u i

/-- A value that holds no right is put into a slot. -/
theorem Inv.put {Pr : Nat → Prop} {g : G} {sl : List VV} {B : List Blk} {tm : List Value} {w : World} (h : Inv Pr g sl B tm w) {v : VV} {u : Value} (hv : Rep g v u)
    (ho : okR B.length v = true) (hc : ∀ b, cnt b v u = 0) (d : Option Tmp) : Inv Pr g (putS sl d v) B (putL tm d u) w :=
  h.change (All2_put h.rep hv d) (okRs_put h.ok ho d) fun b => by have := cntS_put (b := b) h.rep.length v u d; rw [hc b] at this; omega

/-! operands -/
theorem getS_rep {g : G} {sl : List VV} {tm : List Value} (h : All2 (Rep g) sl tm) (t : Nat) : Rep g (getS sl t) (tm.getD t undef) := by
  unfold getS
  cases hv : sl[t]? with
  | none => rw [List.getD_eq_getElem?_getD, hv]; trivial
  | some v =>
    obtain ⟨u, hu, hr⟩ := h.get hv
    rw [List.getD_eq_getElem?_getD, List.getD_eq_getElem?_getD, hv, hu]
    exact hr
theorem getS_ok {n : Nat} {sl : List VV} (h : okRs n sl = true) (t : Nat) : okR n (getS sl t) = true := by
  unfold getS
  cases hv : sl[t]? with
  | none => rw [List.getD_eq_getElem?_getD, hv]; rfl
  | some v => rw [List.getD_eq_getElem?_getD, hv]; exact okRs_get h hv

/-- what an operand holds -/
def evR (tm : List Value) : Operand → Value
  | .tmp t => tm.getD t undef
  | .const v => v
  | .global g => .pointer (some ⟨g, 0, none⟩)
  | .func f => .func (.func f) #[] #[]

theorem eval_evR (a : Act) (x : Operand) : a.eval x = evR a.tmps.toList x := by
  cases x <;> first | rfl | skip
  rename_i t
  simp only [Act.eval, evR, Array.getD_eq_getD_getElem?, List.getD_eq_getElem?_getD, Array.getElem?_toList]

theorem RepC_ofCell (g : G) (v : Value) : isVal0 (ofCell v) = true → RepC g (ofCell v) v := by
  intro h
  unfold ofCell at h ⊢
  split <;> first | exact ⟨rfl, rfl⟩ | rfl | skip
  simp [isVal0] at h
theorem RepV_ofV (g : G) (v : Value) : isVal0 (ofV v) = true → RepV g (ofV v) v := by
  intro h
  unfold ofV at h ⊢
  split
  · rename_i cs
    simp only at h
    split at h
    · rename_i hall
      rw [if_pos hall]
      refine ⟨cs, rfl, ?_⟩
      have : ∀ l : List Value, (l.map ofCell).all isVal0 = true → All2 (RepC g) (l.map ofCell) l := by
        intro l
        induction l with
        | nil => intro _; exact .nil
        | cons x l ih =>
          intro hl
          simp only [List.map_cons, List.all_cons, Bool.and_eq_true] at hl
          exact .cons (RepC_ofCell g x hl.1) (ih hl.2)
      exact this _ hall
    · simp [isVal0] at h
  · rename_i hne
    have hc := RepC_ofCell g v (by simpa using h)
    generalize ofCell v = x at hc
    cases x <;> first | exact hc | exact hc.elim
theorem ofC_ok (n : Nat) (v : Value) : okC n (ofCell v) = true := by
  unfold ofCell
  split <;> rfl
theorem ofV_ok (n : Nat) (v : Value) : okV n (ofV v) = true := by
  unfold ofV
  split
  · split
    · simp only [okV, List.all_map]
      exact List.all_eq_true.2 fun x _ => ofC_ok n x
    · rfl
  · generalize hx : ofCell v = x
    have := ofC_ok n v
    rw [hx] at this
    cases x <;> first | exact this | (unfold ofCell at hx; split at hx <;> cases hx)
theorem ofC_own (v : Value) : ownC (ofCell v) = false := by
  unfold ofCell
  split <;> rfl
theorem ofV_own (v : Value) : isOwn (ofV v) = false := by
  unfold ofV
  split
  · rename_i cs
    split
    · show (cs.toList.map ofCell).any ownC = false
      simp only [List.any_map]
      exact List.any_eq_false.2 fun x _ => by simp [ofC_own]
    · rfl
  · generalize hx : ofCell v = x
    have := ofC_own v
    rw [hx] at this
    cases x <;> first | exact this | (unfold ofCell at hx; split at hx <;> cases hx)
theorem ofV_tup (v : Value) : ¬ ∃ vs, ofV v = .tup vs := by
  rintro ⟨vs, h⟩
  unfold ofV at h
  split at h
  · split at h <;> cases h
  · unfold ofCell at h
    split at h <;> cases h
theorem Rep_of_RepV {g : G} {v : VV} {u : Value} (h : RepV g v u) : Rep g v u := by
  cases v <;> first | exact h | trivial | exact h.elim
theorem ofV_rep (g : G) (v : Value) : Rep g (ofV v) v := by
  by_cases h : isVal0 (ofV v) = true
  · exact Rep_of_RepV (RepV_ofV g v h)
  · have : ofV v = .gone := by
      generalize ofV v = x at h
      cases x <;> first | rfl | exact absurd rfl h
    rw [this]
    trivial

/-- what the interpreter knows of package-level variables -/
def GlobOk (C : Cfg) (g : G) : Prop := ∀ i cs, C.glob i = some cs → ∃ com, g.comm i = some com ∧ cs <+: com.cs

theorem ev_rep {C : Cfg} {g : G} (hg : GlobOk C g) {sl : List VV} {tm : List Value} (h : All2 (Rep g) sl tm) (x : Operand) : Rep g (ev C sl x) (evR tm x) := by
  cases x with
  | tmp t => exact getS_rep h t
  | const v => exact ofV_rep g v
  | func f => exact ⟨rfl, rfl⟩
  | global i =>
    cases hc : C.glob i with
    | none => simp only [ev, hc]; trivial
    | some cs =>
      simp only [ev, hc]
      obtain ⟨com, h1, h2⟩ := hg i cs hc
      exact ⟨i, 0, com, h1, rfl, by rw [List.drop_zero]; exact (List.prefix_iff_eq_take.1 h2).symm⟩
theorem ev_ok {C : Cfg} {n : Nat} {sl : List VV} (h : okRs n sl = true) (x : Operand) : okR n (ev C sl x) = true := by
  cases x with
  | tmp t => exact getS_ok h t
  | const v =>
    show okR n (ofV v) = true
    rw [okR_eq (ofV_tup v)]
    exact ofV_ok n v
  | func f => rfl
  | global i =>
    cases hc : C.glob i <;> simp only [ev, hc] <;> rfl
theorem toView_cnt {b : Nat} {v : VV} {u : Value} : cnt b (toView v) u = 0 := cnt_zero (isOwn_toView v)

end Go.Wv
