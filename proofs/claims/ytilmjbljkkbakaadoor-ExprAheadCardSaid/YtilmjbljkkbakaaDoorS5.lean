/-
  A part of the proof: our library of the interpreter.
-/
import Derived.Test.YtilmjbljkkbakaaDoorS4
set_option linter.unusedSimpArgs false
set_option linter.unusedVariables false
set_option linter.unusedSectionVars false
set_option linter.unnecessarySimpa false
set_option linter.deprecated false
namespace Go.Wv

section
variable {P : Program} {w : World}

theorem szT_info {t : TypeId} (h : szT P t ≠ 0) : ∃ i, P.info? t = some i ∧ i.size = szT P t := by
  unfold szT at h ⊢
  cases hi : P.info? t with
  | none => simp [hi] at h
  | some i => exact ⟨i, rfl, by simp⟩
theorem sizeOf_run {t : TypeId} (h : szT P t ≠ 0) : (sizeOf t).run P w = .ok (szT P t) w := by
  obtain ⟨i, hi, hs⟩ := szT_info h
  simp [sizeOf, typeInfo, hi, hs]
theorem elemT_spec {t e : TypeId} (h : elemT P t = some e) : P.underlying t = some (.slice e) ∧ szT P e ≠ 0 := by
  unfold elemT at h
  split at h
  · rename_i e' hu
    split at h
    · cases h
    · rename_i hs
      obtain rfl := Option.some.inj h
      exact ⟨hu, hs⟩
  · cases h
theorem arrT_spec {t e : TypeId} {n : Nat} (h : arrT P t = some (n, e)) : P.underlying t = some (.array n e) ∧ szT P e ≠ 0 := by
  unfold arrT at h
  split at h
  · rename_i n' e' hu
    split at h
    · cases h
    · rename_i hs
      obtain ⟨rfl, rfl⟩ := Prod.mk.inj (Option.some.inj h)
      exact ⟨hu, hs⟩
  · cases h
theorem fldT_spec {s : TypeId} {i : Nat} {off sz : Nat} (h : fldT P s i = some (off, sz)) :
    ∃ fs x, P.underlying s = some (.struct fs) ∧ fs[i]? = some x ∧ x.offset = off ∧ szT P x.type = sz ∧ sz ≠ 0 := by
  unfold fldT at h
  split at h
  · rename_i fs hu
    split at h
    · rename_i x hx
      split at h
      · cases h
      · rename_i hs
        obtain ⟨rfl, rfl⟩ := Prod.mk.inj (Option.some.inj h)
        exact ⟨fs, x, hu, hx, rfl, rfl, hs⟩
    · cases h
  · cases h
theorem strT_spec {t : TypeId} (h : strT P t = true) : P.underlying t = some .string := by
  unfold strT at h
  split at h
  · assumption
  · cases h
theorem boolT_spec {t : TypeId} (h : boolT P t = true) : P.underlying t = some .bool := by
  unfold boolT at h
  split at h
  · assumption
  · cases h
theorem intT_spec {t : TypeId} {k : IntKind} (h : intT P t = some k) : P.underlying t = some (.int k) := by
  unfold intT at h
  split at h
  · rename_i k' hu; obtain rfl := Option.some.inj h; exact hu
  · cases h
theorem aggT_run {t : TypeId} {b : Bool} (h : aggT P t = some b) : (isAgg t).run P w = .ok b w := by
  unfold aggT at h
  unfold isAgg
  split at h
  · rename_i fs hu; obtain rfl := Option.some.inj h; simp [run_underlying hu]
  · rename_i n e hu; obtain rfl := Option.some.inj h; simp [run_underlying hu]
  · rename_i d h1 h2 hu
    obtain rfl := Option.some.inj h
    rw [Sem.run_bind, run_underlying hu]
    cases d <;> first | rfl | exact absurd rfl (h1 _) | exact absurd rfl (h2 _ _)
  · cases h

theorem Addr_add' (b o n : Nat) : Addr.add ⟨b, o, none⟩ n = ⟨b, o + n, none⟩ := Addr.add_lit b o n

theorem asIx_spec {v : VV} {i : Nat} (h : asIx v = some i) : ∃ k, v = .lit (.int k (i : Int)) := by
  unfold asIx at h
  split at h
  · rename_i k n
    split at h
    · rename_i h0
      obtain rfl := Option.some.inj h
      exact ⟨k, by rw [Int.toNat_of_nonneg h0]⟩
    · cases h
  · cases h

end

section
variable {C : Cfg} {Pr : Nat → Prop} {f : FuncId} {o : Oper} {g : G} {sl sl' : List VV} {B B' : List Blk} {a : Act} {w : World} {v : VV}

theorem Rep_cell {g : G} {v : VV} {u : Value} (h : Rep g v u) (h1 : ∀ vs, v ≠ .tup vs) (h2 : ∀ cs, v ≠ .agg cs) (h3 : v ≠ .gone) : RepC g v u := by
  cases v <;> first | exact h | exact absurd rfl (h1 _) | exact absurd rfl (h2 _) | exact absurd rfl h3

theorem ev_lit (hg : GlobOk C g) {tm : List Value} (hi : Inv Pr g sl B tm w) {x : Operand} {c : Value} (h : ev C sl x = .lit c) : evR tm x = c := by
  have := ev_rep hg hi.rep x
  rw [h] at this
  exact this.1
theorem ev_lit1 (hg : GlobOk C g) {tm : List Value} (hi : Inv Pr g sl B tm w) {x : Operand} {c : Value} (h : ev C sl x = .lit c) : c.oneCell' = true := by
  have := ev_rep hg hi.rep x
  rw [h] at this
  exact this.2

theorem move_ok (hg : GlobOk C g) (hi : Inv Pr g sl B a.tmps.toList w) {x : Operand} (ho : o.op = .move x) (h : vop C f o sl B = some (v, sl', B')) : OpOk C Pr o g B.length sl' v B' a w := by
  have hrun : (execOp a.eval o).run C.P w = .ok (.value (evR a.tmps.toList x)) w := by simp [execOp, ho, eval_evR]
  simp only [vop, ho] at h
  split at h
  · obtain ⟨rfl, rfl, rfl⟩ : v = (tr C sl x).1 ∧ sl' = (tr C sl x).2 ∧ B' = B := by
      have := Option.some.inj h
      simp only [Prod.mk.injEq] at this
      exact ⟨this.1.symm, this.2.1.symm, this.2.2.symm⟩
    exact OpOk.tr hg hi rfl hrun
  · simp only [Option.some.injEq, Prod.mk.injEq] at h
    obtain ⟨rfl, rfl, rfl⟩ := h
    exact OpOk.pure hi hrun (Rep_toView (ev_rep hg hi.rep x)) (okR_toView (ev_ok hi.ok x)) (isOwn_toView _)

theorem assign_ok (hg : GlobOk C g) (hi : Inv Pr g sl B a.tmps.toList w) {x : Operand} (ho : o.op = .assign x) (h : vop C f o sl B = some (v, sl', B')) : OpOk C Pr o g B.length sl' v B' a w := by
  have hrun : (execOp a.eval o).run C.P w = .ok (.value (evR a.tmps.toList x)) w := by simp [execOp, ho, eval_evR]
  simp only [vop, ho, Option.some.injEq, Prod.mk.injEq] at h
  obtain ⟨rfl, rfl, rfl⟩ := h
  exact OpOk.tr hg hi rfl hrun

theorem pick_ok (hg : GlobOk C g) (hi : Inv Pr g sl B a.tmps.toList w) {c x y : Operand} (ho : o.op = .pick c x y) (h : vop C f o sl B = some (v, sl', B')) : OpOk C Pr o g B.length sl' v B' a w := by
  simp only [vop, ho] at h
  split at h
  · rename_i t ht
    simp only [Option.some.injEq, Prod.mk.injEq] at h
    obtain ⟨rfl, rfl, rfl⟩ := h
    have hc := ev_lit hg hi ht
    have hrun : (execOp a.eval o).run C.P w = .ok (.value (evR a.tmps.toList (if t then x else y))) w := by
      simp only [execOp, ho, eval_evR, hc, asBool]
      cases t <;> simp
    exact OpOk.pure hi hrun (Rep_toView (ev_rep hg hi.rep _)) (okR_toView (ev_ok hi.ok _)) (isOwn_toView _)
  · cases h

theorem unOp_ok (hg : GlobOk C g) (hi : Inv Pr g sl B a.tmps.toList w) {op : UnOp} {t : TypeId} {x : Operand} (ho : o.op = .unOp op t x) (h : vop C f o sl B = some (v, sl', B')) : OpOk C Pr o g B.length sl' v B' a w := by
  simp only [vop, ho] at h
  split at h
  · rename_i r hr
    simp only [Option.some.injEq, Prod.mk.injEq] at h
    obtain ⟨rfl, rfl, rfl⟩ := h
    unfold vun at hr
    split at hr
    · rename_i b hx
      have hx' := ev_lit hg hi hx
      cases op <;> simp only [reduceCtorEq] at hr
      obtain rfl := Option.some.inj hr
      exact OpOk.pure hi (u := .bool (!b)) (by simp [execOp, ho, eval_evR, hx', Op.unary]) ⟨rfl, rfl⟩ rfl rfl
    · rename_i k n hx
      have hx' := ev_lit hg hi hx
      cases op <;> simp only [reduceCtorEq] at hr <;> obtain rfl := Option.some.inj hr
      · exact OpOk.pure hi (u := _) (by simp [execOp, ho, eval_evR, hx', Op.unary, Op.intArith]; rfl) ⟨by simp, rfl⟩ rfl rfl
      · exact OpOk.pure hi (u := _) (by simp [execOp, ho, eval_evR, hx', Op.unary, Op.intBits]; rfl) ⟨by simp, rfl⟩ rfl rfl
    · cases hr
  · cases h

theorem nilCheck_ok (hg : GlobOk C g) (hi : Inv Pr g sl B a.tmps.toList w) {x : Operand} (ho : o.op = .nilCheck x) (h : vop C f o sl B = some (v, sl', B')) : OpOk C Pr o g B.length sl' v B' a w := by
  have hrep := ev_rep hg hi.rep x
  have hok := ev_ok (C := C) hi.ok x
  simp only [vop, ho] at h
  split at h <;> first | (cases h; done) | skip
  all_goals
    rename_i he
    simp only [Option.some.injEq, Prod.mk.injEq] at h
    obtain ⟨rfl, rfl, rfl⟩ := h
    rw [he] at hrep hok
  · have hu : evR a.tmps.toList x = _ := hrep
    exact OpOk.pure hi (u := evR a.tmps.toList x) (by simp only [execOp, ho, eval_evR, hu]; rfl) hrep hok rfl
  · obtain ⟨b, base, com, h1, h2, h3⟩ := id hrep
    exact OpOk.pure hi (u := evR a.tmps.toList x) (by simp only [execOp, ho, eval_evR, h2]; rfl) hrep hok rfl
  · obtain ⟨p, q, h2, h3, h4⟩ := id hrep
    exact OpOk.pure hi (u := evR a.tmps.toList x) (by simp only [execOp, ho, eval_evR, h2]; rfl) hrep hok rfl
  · have h2 : evR a.tmps.toList x = _ := hrep.1
    exact OpOk.pure hi (u := evR a.tmps.toList x) (by simp only [execOp, ho, eval_evR, h2]; rfl) hrep hok rfl

theorem set_self {α : Type} {l : List α} {i : Nat} {x : α} (h : l[i]? = some x) : l.set i x = l := by
  apply List.ext_getElem?
  intro j
  rw [List.getElem?_set]
  split
  · rename_i hij
    subst hij
    obtain ⟨h1, h2⟩ := List.getElem?_eq_some_iff.1 h
    rw [if_pos h1, h]
  · rfl

theorem cntVL_set {b : Nat} {vs : List VV} {us : List Value} (x : VV) {i : Nat} {v0 : VV} {u0 : Value} (hv : vs[i]? = some v0) (hu : us[i]? = some u0) :
    cntVL b (vs.set i x) us + cntV b v0 u0 = cntVL b vs us + cntV b x u0 := by
  induction vs generalizing us i with
  | nil => simp at hv
  | cons v1 vs ih => cases us with
    | nil => simp at hu
    | cons u1 us =>
      cases i with
      | zero => simp at hv hu; subst hv hu; simp only [List.set_cons_zero, cntVL]; omega
      | succ i => have := ih (us := us) (i := i) (by simpa using hv) (by simpa using hu); simp only [List.set_cons_succ, cntVL]; omega

theorem isOwn_viewV {v : VV} (h : ¬ ∃ vs, v = .tup vs) : isOwn (viewV v) = false := by
  have := ownV_viewV v
  cases hx : viewV v <;> first | (rw [hx] at this; exact this) | exact absurd ⟨_, hx⟩ (viewV_tup h)

theorem RepV_not_tup {g : G} {v : VV} {u : Value} (h : RepV g v u) : ¬ ∃ vs, v = .tup vs := by
  rintro ⟨vs, rfl⟩; exact h

theorem extract_ok (hg : GlobOk C g) (hi : Inv Pr g sl B a.tmps.toList w) {x : Operand} {i : Nat} (ho : o.op = .extract x i) (h : vop C f o sl B = some (v, sl', B')) : OpOk C Pr o g B.length sl' v B' a w := by
  have hrep := ev_rep hg hi.rep x
  have hok := ev_ok (C := C) hi.ok x
  simp only [vop, ho] at h
  split at h
  · rename_i t vs he
    split at h
    · rename_i v0 hv0
      rw [he] at hrep hok
      obtain ⟨us, hu, h2⟩ := hrep
      obtain ⟨u0, hu0, h3⟩ := h2.get hv0
      have hok0 : okV B.length v0 = true := List.all_eq_true.1 (show vs.all (okV B.length) = true from hok) v0 (List.mem_of_getElem? hv0)
      have hnt := RepV_not_tup h3
      have hrun : (execOp a.eval o).run C.P w = .ok (.value u0) w := by
        simp only [execOp, ho, eval_evR, hu, Instr.extract]
        rw [← Array.getElem?_toList, hu0]
        rfl
      split at h
      · simp only [Option.some.injEq, Prod.mk.injEq] at h
        obtain ⟨rfl, rfl, rfl⟩ := h
        have hs := set_evR a.tmps.toList t
        have hl := hi.rep.length
        have ht : t < sl.length := by
          rcases Nat.lt_or_ge t sl.length with h | h
          · exact h
          · rw [show ev C sl (.tmp t) = getS sl t from rfl, show getS sl t = .gone by simp [getS, List.getD_eq_getElem?_getD, List.getElem?_eq_none h]] at he
            cases he
        have hnew : Rep g (.tup (vs.set i (viewV v0))) (evR a.tmps.toList (.tmp t)) := by
          refine ⟨us, hu, ?_⟩
          have := h2.set (RepV_viewV h3) i
          rwa [set_self hu0] at this
        have hoknew : okR B.length (.tup (vs.set i (viewV v0))) = true := by
          refine List.all_eq_true.2 fun y hy => ?_
          rcases List.mem_or_eq_of_mem_set hy with h1 | h1
          · exact List.all_eq_true.1 (show vs.all (okV B.length) = true from hok) y h1
          · subst h1; exact okV_viewV hok0
        have h1 : All2 (Rep g) (sl.set t (.tup (vs.set i (viewV v0)))) a.tmps.toList := by
          have := hi.rep.set hnew t
          rwa [hs] at this
        have hokv : okR B.length v0 = true := by rw [okR_eq hnt]; exact hok0
        refine ⟨_, u0, w, g, hrun, .inl rfl, Ext.refl _ _ _ _, hi.change (All2_put h1 (Rep_of_RepV h3) o.dst) (okRs_put (okRs_set hi.ok hoknew t) hokv o.dst) fun b => ?_⟩
        have c1 := cntS_put (b := b) h1.length v0 u0 o.dst
        obtain ⟨w0, z0, e1, e2, e3⟩ := cntS_set (b := b) hl (.tup (vs.set i (viewV v0))) (evR a.tmps.toList (.tmp t)) ht
        rw [hs] at e3
        have d0 : w0 = .tup vs := by
          have : ev C sl (.tmp t) = w0 := by show getS sl t = w0; simp [getS, List.getD_eq_getElem?_getD, e1]
          rw [← this]; exact he
        have d1 : z0 = .tuple us := by
          have : evR a.tmps.toList (.tmp t) = z0 := by simp [evR, List.getD_eq_getElem?_getD, e2]
          rw [← this]; exact hu
        rw [d0, d1, hu] at e3
        have e4 := cntVL_set (b := b) (viewV v0) hv0 hu0
        have e5 : cntV b (viewV v0) u0 = 0 := cntV_zero (ownV_viewV v0)
        have e6 : cnt b v0 u0 = cntV b v0 u0 := cnt_eq hnt
        simp only [cnt] at e3 e6
        simp only [cnt] at c1
        omega
      · simp only [Option.some.injEq, Prod.mk.injEq] at h
        obtain ⟨rfl, rfl, rfl⟩ := h
        exact OpOk.pure hi hrun (Rep_of_RepV (RepV_viewV h3)) (by rw [okR_eq (viewV_tup hnt)]; exact okV_viewV hok0) (isOwn_viewV hnt)
    · cases h
  · cases h

theorem fieldAddr_ok (hg : GlobOk C g) (hi : Inv Pr g sl B a.tmps.toList w) {s : TypeId} {x : Operand} {i : Nat} (ho : o.op = .fieldAddr s x i) (h : vop C f o sl B = some (v, sl', B')) : OpOk C Pr o g B.length sl' v B' a w := by
  have hrep := ev_rep hg hi.rep x
  have hok := ev_ok (C := C) hi.ok x
  simp only [vop, ho] at h
  have key : ∀ (b off fo sz : Nat), fldT C.P s i = some (fo, sz) → evR a.tmps.toList x = .pointer (some ⟨b, off, none⟩) →
      (execOp a.eval o).run C.P w = .ok (.value (.pointer (some ⟨b, off + fo, none⟩))) w := by
    intro b off fo sz hf hu
    obtain ⟨fs, fl, h1, h2, h3, h4, h5⟩ := fldT_spec hf
    simp only [execOp, ho, eval_evR, hu, Instr.fieldAt, Sem.run_bind, run_underlying h1, Result.andThen_ok, h2, Instr.sureAddr, Sem.run_pure, fieldPlace, sizeOf_run (w := w) (show szT C.P fl.type ≠ 0 by rw [h4]; exact h5), h4, h5, if_false, Addr_add', h3]
  split at h <;> first | (cases h; done) | skip
  · rename_i fo sz id off hf he
    simp only [Option.some.injEq, Prod.mk.injEq] at h
    obtain ⟨rfl, rfl, rfl⟩ := h
    rw [he] at hrep hok
    exact OpOk.pure hi (key _ _ _ _ hf hrep) rfl hok rfl
  · rename_i fo sz cs off hf he
    simp only [Option.some.injEq, Prod.mk.injEq] at h
    obtain ⟨rfl, rfl, rfl⟩ := h
    rw [he] at hrep hok
    obtain ⟨b, base, com, h1, h2, h3⟩ := hrep
    exact OpOk.pure hi (key _ _ _ _ hf h2) ⟨b, base, com, h1, by rw [Nat.add_assoc], h3⟩ hok rfl

theorem vlen_run {t : TypeId} {x r : VV} {u : Value} (h : vlen C.P t x = some r) (hx : Rep g x u) (ty : TypeId) :
    ∃ z, (Builtin.len_ #[t] ty #[u]).run C.P w = .ok z w ∧ r = .lit z ∧ z.oneCell' = true := by
  unfold vlen at h
  split at h
  · obtain ⟨rfl, _⟩ := hx
    split at h
    · rename_i hs
      obtain rfl := Option.some.inj h
      exact ⟨_, by simp [Builtin.len_, run_underlying (strT_spec hs), goInt], rfl, rfl⟩
    · cases h
  · rename_i fl xs
    split at h
    · rename_i e he
      obtain rfl := Option.some.inj h
      have hu := (elemT_spec he).1
      have : ∃ b c, u = .slice b xs.length c := by
        have h1 := RepSl_view (show RepSl g fl xs u from hx)
        cases xs with
        | nil => obtain ⟨b, c, e⟩ := h1; exact ⟨b, c, e⟩
        | cons y ys => obtain ⟨b, off, c, com, sz, e, _⟩ := h1; exact ⟨_, c, e⟩
      obtain ⟨b, c, rfl⟩ := this
      exact ⟨_, by simp [Builtin.len_, run_underlying hu, goInt], rfl, rfl⟩
    · cases h
  · rename_i id ag sz off n
    split at h
    · rename_i e he
      obtain rfl := Option.some.inj h
      have hu := (elemT_spec he).1
      obtain ⟨c, rfl, _⟩ := hx
      exact ⟨_, by simp [Builtin.len_, run_underlying hu, goInt], rfl, rfl⟩
    · cases h
  · cases h

end
end Go.Wv
