/-
  A part of the proof: our library of the interpreter.
-/
import Derived.Test.YtilmjbljkkbakaaDoorS3
import Derived.Laws.Entries
import Derived.Laws.Slices
import Derived.Laws.StructEq
set_option linter.unusedSimpArgs false
set_option linter.unusedVariables false
set_option linter.unusedSectionVars false
set_option linter.unnecessarySimpa false
set_option linter.deprecated false
namespace Go.Wv

/-! Each operation that hangs on its operands alone. -/

def OpOk (C : Cfg) (Pr : Nat → Prop) (o : Oper) (g : G) (n : Nat) (sl' : List VV) (v : VV) (B' : List Blk) (a : Act) (w : World) : Prop :=
  ∃ nx u w' g', (execOp a.eval o).run C.P w = .ok nx w' ∧ (nx = .value u ∨ (nx = .skip ∧ u = undef)) ∧ Ext Pr n g w g' w' ∧
    Inv Pr g' (putS sl' o.dst v) B' (putL a.tmps.toList o.dst u) w'

section
variable {C : Cfg} {Pr : Nat → Prop} {f : FuncId} {o : Oper} {g : G} {sl sl' : List VV} {B B' : List Blk} {a : Act} {w : World} {v : VV}

theorem OpOk.pure {u : Value} (hi : Inv Pr g sl B a.tmps.toList w) (hrun : (execOp a.eval o).run C.P w = .ok (.value u) w) (hr : Rep g v u) (ho : okR B.length v = true) (hc : isOwn v = false) :
    OpOk C Pr o g B.length sl v B a w :=
  ⟨_, u, w, g, hrun, .inl rfl, Ext.refl _ _ _ _, hi.put hr ho (fun _ => cnt_zero hc) o.dst⟩

theorem set_evR (tm : List Value) (t : Nat) : tm.set t (evR tm (.tmp t)) = tm := by
  apply List.ext_getElem?
  intro i
  rw [List.getElem?_set]
  split
  · rename_i hti
    subst hti
    split
    · rename_i ht
      simp only [evR, List.getD_eq_getElem?_getD, List.getElem?_eq_getElem ht, Option.getD_some]
    · rename_i ht
      rw [List.getElem?_eq_none (by omega)]
  · rfl

theorem tr_ok (hg : GlobOk C g) {tm : List Value} (hi : Inv Pr g sl B tm w) {x : Operand} (h : tr C sl x = (v, sl')) :
    Rep g v (evR tm x) ∧ okR B.length v = true ∧ All2 (Rep g) sl' tm ∧ okRs B.length sl' = true ∧ ∀ b, cntS b sl' tm + cnt b v (evR tm x) ≤ cntS b sl tm := by
  have hrep := ev_rep hg hi.rep x
  have hok := ev_ok (C := C) hi.ok x
  cases x with
  | tmp t =>
    simp only [tr] at h
    by_cases ho : isOwn (getS sl t) = true
    · rw [if_pos ho] at h
      obtain ⟨rfl, rfl⟩ := Prod.mk.inj h
      have hl := hi.rep.length
      have ht : t < sl.length := by
        rcases Nat.lt_or_ge t sl.length with h | h
        · exact h
        · rw [show getS sl t = .gone by simp [getS, List.getD_eq_getElem?_getD, List.getElem?_eq_none h]] at ho
          cases ho
      have hs : tm.set t (evR tm (.tmp t)) = tm := set_evR tm t
      refine ⟨hrep, hok, ?_, okRs_set hi.ok (okR_toView hok) t, ?_⟩
      · have := hi.rep.set (Rep_toView hrep) t
        rwa [hs] at this
      · intro b
        obtain ⟨v0, u0, e1, e2, e3⟩ := cntS_set (b := b) hl (toView (getS sl t)) (evR tm (.tmp t)) ht
        rw [hs, toView_cnt] at e3
        have h0 : v0 = getS sl t := by simp [getS, List.getD_eq_getElem?_getD, e1]
        have h1 : u0 = evR tm (.tmp t) := by simp [evR, List.getD_eq_getElem?_getD, e2]
        rw [h0, h1] at e3
        omega
    · rw [if_neg ho] at h
      obtain ⟨rfl, rfl⟩ := Prod.mk.inj h
      exact ⟨hrep, hok, hi.rep, hi.ok, fun b => by rw [cnt_zero (by simpa using ho)]; exact Nat.le_refl _⟩
  | const c =>
    obtain ⟨rfl, rfl⟩ := Prod.mk.inj h
    exact ⟨hrep, hok, hi.rep, hi.ok, fun b => by rw [show ev C sl (.const c) = ofV c from rfl, cnt_zero (ofV_own c)]; exact Nat.le_refl _⟩
  | func i =>
    obtain ⟨rfl, rfl⟩ := Prod.mk.inj h
    exact ⟨hrep, hok, hi.rep, hi.ok, fun b => by rw [cnt_zero rfl]; exact Nat.le_refl _⟩
  | global i =>
    obtain ⟨rfl, rfl⟩ := Prod.mk.inj h
    refine ⟨hrep, hok, hi.rep, hi.ok, fun b => ?_⟩
    rw [cnt_zero]
    · exact Nat.le_refl _
    · cases hc : C.glob i <;> simp only [ev, hc] <;> rfl

/-- a value that is handed on is put into a slot -/
theorem OpOk.tr {x : Operand} (hg : GlobOk C g) (hi : Inv Pr g sl B a.tmps.toList w) (h : tr C sl x = (v, sl')) (hrun : (execOp a.eval o).run C.P w = .ok (.value (evR a.tmps.toList x)) w) :
    OpOk C Pr o g B.length sl' v B a w := by
  obtain ⟨h1, h2, h3, h4, h5⟩ := tr_ok hg hi h
  exact ⟨_, _, w, g, hrun, .inl rfl, Ext.refl _ _ _ _, hi.change (All2_put h3 h1 o.dst) (okRs_put h4 h2 o.dst) fun b => by
    have := cntS_put (b := b) h3.length v (evR a.tmps.toList x) o.dst
    have := h5 b
    omega⟩

theorem Rep_lit {g : G} {x : Value} {u : Value} (h : Rep g (.lit x) u) : u = x ∧ x.oneCell' = true := h

/-! numbers, truths, texts -/
theorem lit_one {x : Value} : (∃ b, x = .bool b) ∨ (∃ k n, x = .int k n) ∨ (∃ s, x = .string s) → x.oneCell' = true := by
  rintro (⟨_, rfl⟩ | ⟨_, _, rfl⟩ | ⟨_, rfl⟩) <;> rfl

theorem beq_bytes (a b : ByteArray) : (a.toList == b.toList) = (a == b) := (beq_toListBytes a b).symm

theorem litBin_run {op : BinOp} {x y r : Value} (t : TypeId) (h : litBin op x y = some r) : (binOp op t x y).run C.P w = .ok r w ∧ r.oneCell' = true := by
  unfold litBin at h
  split at h
  · rename_i k n k' m
    by_cases hs : op = .shl ∨ op = .shr
    · rcases hs with rfl | rfl
      · simp only at h
        split at h
        · cases h
        · rename_i hb
          obtain rfl := Option.some.inj h
          constructor
          · simp [binOp, Op.shift, hb]
          · rfl
      · simp only at h
        split at h
        · cases h
        · rename_i hb
          obtain rfl := Option.some.inj h
          constructor
          · simp [binOp, Op.shift, hb]
          · rfl
    · have h' : (if k = k' then intBin op k n m else none) = some r := by
        cases op <;> first | exact h | (simp at hs)
      split at h'
      · rename_i hk
        subst hk
        cases op <;> simp only [intBin, reduceCtorEq] at h' <;> first
          | (obtain rfl := Option.some.inj h'; constructor <;> first | rfl | (simp [binOp, Op.intArith, Op.intCmp, Op.intBits]; done))
          | (split at h' <;> first | (cases h'; done) | (rename_i hz; obtain rfl := Option.some.inj h'; constructor <;> first | rfl | (simp [binOp, Op.intDiv, hz]; done)))
          | (simp at hs; done)
      · cases h'
  · rename_i s u
    cases op <;> simp only [strBin, reduceCtorEq] at h <;> first
      | (obtain rfl := Option.some.inj h; constructor <;> first | rfl | (simp [binOp, Op.stringOp, beq_bytes]; done))
      | skip
    split at h
    · rename_i hz
      obtain rfl := Option.some.inj h
      constructor
      · have : ¬ ((s.size + u.size : Nat) : Int) > IntKind.i64.max := by rw [IntKind.max_i64]; omega
        simp [binOp, Op.stringOp]
        omega
      · rfl
    · cases h
  · cases h

end
end Go.Wv
