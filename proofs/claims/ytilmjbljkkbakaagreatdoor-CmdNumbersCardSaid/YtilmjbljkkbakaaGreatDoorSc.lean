/-
  A part of the proof: our library of the interpreter.
-/
import Derived.Test.YtilmjbljkkbakaaGreatDoorSb
import Derived.LoopN
import Derived.ChangeSame
import Derived.Lib.LaidTab
set_option linter.unusedSimpArgs false
set_option linter.unusedVariables false
set_option linter.unusedSectionVars false
set_option linter.unnecessarySimpa false
set_option linter.deprecated false
namespace Go.Wv

/-! Calls: what the caller keeps. -/
section
variable {C : Cfg} {Pr : Nat → Prop} {g g' : G} {sl sl' vs : List VV} {B B' : List Blk} {tm us : List Value} {w : World} {v : VV}

theorem Inv.frame (hl : vs.length = us.length) (hi : Inv Pr g (vs ++ sl) B (us ++ tm) w) : Inv (fun b => Pr b ∨ 0 < cntS b sl tm) g vs B us w := by
  obtain ⟨h1, h2⟩ := All2.split hl hi.rep
  have ho := hi.ok
  rw [okRs_append, Bool.and_eq_true] at ho
  have hu : ∀ b, cntS b vs us + cntS b sl tm + cntB b g w 0 B ≤ 1 := fun b => by have := hi.uniq b; rw [cntS_append hl] at this; exact this
  refine ⟨h1, ho.1, hi.sto, fun b => by have := hu b; omega, fun b hp => ?_⟩
  rcases hp with hp | hp
  · obtain ⟨p1, p2, p3⟩ := hi.prot b hp
    rw [cntS_append hl] at p2
    exact ⟨p1, by omega, p3⟩
  · obtain ⟨com, hc⟩ := cntS_known h2 hp
    refine ⟨hi.sto.lt hc, by have := hu b; omega, fun id cs hb e => ?_⟩
    have := (hi.sto.var id cs hb).2.1
    rw [e, hc] at this
    cases this

theorem Inv.unframe {g2 : G} {w2 : World} {r : VV} {ur : Value} {B2 : List Blk} (hl : vs.length = us.length) (hi : Inv Pr g (vs ++ sl) B (us ++ tm) w)
    (he : Ext (fun b => Pr b ∨ 0 < cntS b sl tm) B.length g w g2 w2) (hi2 : Inv (fun b => Pr b ∨ 0 < cntS b sl tm) g2 [r] B2 [ur] w2) (hB : B.length ≤ B2.length) (d : Option Tmp) :
    Inv Pr g2 (putS sl d r) B2 (putL tm d ur) w2 := by
  obtain ⟨h1, h2⟩ := All2.split hl hi.rep
  have ho := hi.ok
  rw [okRs_append, Bool.and_eq_true] at ho
  have hrr : Rep g2 r ur := by cases hi2.rep with | cons h _ => exact h
  have hro : okR B2.length r = true := by have := hi2.ok; simpa [okRs] using this
  have hsl : All2 (Rep g2) sl tm := All2_Rep_ext he.comm he.phi (fun b hb => (he.prot b (.inr hb)).1) ho.2 h2
  have hu2 : ∀ b, cnt b r ur + cntB b g2 w2 0 B2 ≤ 1 := fun b => by have := hi2.uniq b; rw [cntS_one] at this; exact this
  refine ⟨All2_put hsl hrr d, okRs_put (okRs_mono hB ho.2) hro d, hi2.sto, fun b => ?_, fun b hp => ?_⟩
  · have h3 := cntS_put (b := b) hsl.length r ur d
    have h4 := hu2 b
    by_cases hz : 0 < cntS b sl tm
    · obtain ⟨_, p2, _⟩ := hi2.prot b (.inr hz)
      rw [cntS_one] at p2
      have := hi.uniq b
      rw [cntS_append hl] at this
      omega
    · omega
  · obtain ⟨p1, p2, p3⟩ := hi2.prot b (.inl hp)
    rw [cntS_one] at p2
    have h3 := cntS_put (b := b) hsl.length r ur d
    have h4 := (hi.prot b hp).2.1
    rw [cntS_append hl] at h4
    exact ⟨p1, by omega, p3⟩

theorem cntB_known (hs : Sto g B w) {b : Nat} : ∀ {B' : List Blk} {k : Nat}, (∀ (i : Nat) x, B'[i]? = some x → B[k + i]? = some x) → 0 < cntB b g w k B' →
    ∃ com, g.comm b = some com
  | [], k, _, h => by simp [cntB] at h
  | x :: r, k, hsub, h => by
    rw [cntB_cons] at h
    by_cases hz : 0 < cntB b g w (k + 1) r
    · exact cntB_known hs (fun i y hy => by rw [show k + 1 + i = k + (i + 1) by omega]; exact hsub (i + 1) y (by simpa using hy)) hz
    · cases x with
      | ro cs => simp only [cntBlk] at h; omega
      | var cs =>
        obtain ⟨⟨arr, T, hh, hcs⟩, _, _⟩ := hs.var k cs (by simpa using hsub 0 _ rfl)
        simp only [cntBlk, cellsAt_of hh] at h
        exact cntL_known hcs (by omega)

/-- what a caller keeps beside a call that gets no block -/
def Kept (Pr : Nat → Prop) (g : G) (sl : List VV) (tm : List Value) (B : List Blk) (w : World) (b : Nat) : Prop :=
  Pr b ∨ 0 < cntS b sl tm + cntB b g w 0 B ∨ ∃ id cs, B[id]? = some (.var cs) ∧ g.phi id = b

theorem Inv.frame0 (hl : vs.length = us.length) (hi : Inv Pr g (vs ++ sl) B (us ++ tm) w) (hk : okRs 0 vs = true) : Inv (Kept Pr g sl tm B w) g vs [] us w := by
  obtain ⟨h1, h2⟩ := All2.split hl hi.rep
  have hu : ∀ b, cntS b vs us + cntS b sl tm + cntB b g w 0 B ≤ 1 := fun b => by have := hi.uniq b; rw [cntS_append hl] at this; exact this
  refine ⟨h1, hk, ⟨hi.sto.comm, fun id cs h => by simp at h, fun id cs h => by simp at h, fun i j ci cj h => by simp at h⟩, fun b => by have := hu b; simp only [cntB]; omega, fun b hp => ?_⟩
  have main : b < w.heap.size ∧ cntS b vs us = 0 := by
    rcases hp with hp | hp | ⟨id, cs, hb, rfl⟩
    · obtain ⟨p1, p2, p3⟩ := hi.prot b hp
      rw [cntS_append hl] at p2
      exact ⟨p1, by omega⟩
    · refine ⟨?_, by have := hu b; omega⟩
      by_cases hz : 0 < cntS b sl tm
      · obtain ⟨com, hc⟩ := cntS_known h2 hz
        exact hi.sto.lt hc
      · obtain ⟨com, hc⟩ := cntB_known hi.sto (B' := B) (k := 0) (fun i x hx => by simpa using hx) (show 0 < cntB b g w 0 B by omega)
        exact hi.sto.lt hc
    · refine ⟨hi.sto.phi_lt hb, ?_⟩
      rcases Nat.eq_zero_or_pos (cntS (g.phi id) vs us) with h | h
      · exact h
      · obtain ⟨com, hc⟩ := cntS_known h1 h
        rw [(hi.sto.var id cs hb).2.1] at hc
        cases hc
  exact ⟨main.1, by simp only [cntB]; omega, fun id cs h => by simp at h⟩

theorem Inv.unframe0 {g2 : G} {w2 : World} {r : VV} {ur : Value} (hl : vs.length = us.length) (hi : Inv Pr g (vs ++ sl) B (us ++ tm) w)
    (he : Ext (Kept Pr g sl tm B w) 0 g w g2 w2) (hi2 : Inv (Kept Pr g sl tm B w) g2 [r] [] [ur] w2) (d : Option Tmp) :
    Ext Pr B.length g w ⟨g2.comm, g.phi⟩ w2 ∧ Inv Pr ⟨g2.comm, g.phi⟩ (putS sl d r) B (putL tm d ur) w2 := by
  obtain ⟨h1, h2⟩ := All2.split hl hi.rep
  have ho := hi.ok
  rw [okRs_append, Bool.and_eq_true] at ho
  have hrr : Rep g2 r ur := by cases hi2.rep with | cons h _ => exact h
  have hro : okR 0 r = true := by have := hi2.ok; simpa [okRs] using this
  have hcomm : ∀ b com, g.comm b = some com → ∃ com', (⟨g2.comm, g.phi⟩ : G).comm b = some com' ∧ com.cs <+: com'.cs := he.comm
  have hsame2 : ∀ b com, g2.comm b = some com → ∃ com', (⟨g2.comm, g.phi⟩ : G).comm b = some com' ∧ com.cs <+: com'.cs := comm_same fun _ => rfl
  have hsl : All2 (Rep ⟨g2.comm, g.phi⟩) sl tm := All2_Rep_ext (n := B.length) hcomm (fun _ _ => rfl) (fun b hb => (he.prot b (.inr (.inl (by omega)))).1) ho.2 h2
  have hr3 : Rep ⟨g2.comm, g.phi⟩ r ur := Rep_ext (n := 0) hsame2 (fun i hi => absurd hi (Nat.not_lt_zero i)) (fun _ _ => rfl) hro hrr
  have hheap : ∀ (id : Nat) cs, B[id]? = some (.var cs) → w2.heap[g.phi id]? = w.heap[g.phi id]? ∧ g2.comm (g.phi id) = g.comm (g.phi id) := fun id cs hb =>
    let h := he.prot (g.phi id) (.inr (.inr ⟨id, cs, hb, rfl⟩)); ⟨h.2, h.1⟩
  have hcb : ∀ b, cntB b ⟨g2.comm, g.phi⟩ w2 0 B = cntB b g w 0 B := fun b => cntB_congr B 0 fun i cs hb => by
    simp only [cellsAt, Nat.zero_add, (hheap i cs hb).1]
  refine ⟨⟨hcomm, fun b hb => ⟨(he.prot b (.inl hb)).1, (he.prot b (.inl hb)).2⟩, he.size, fun _ _ => rfl, he.out⟩, ⟨All2_put hsl hr3 d, okRs_put ho.2 (okR_mono (Nat.zero_le _) hro) d, ⟨?_, ?_, ?_, hi.sto.inj⟩, fun b => ?_, fun b hp => ?_⟩⟩
  · intro b com hc
    obtain ⟨arr, T, fz, k1, k2, k3, k4⟩ := hi2.sto.comm b com hc
    exact ⟨arr, T, fz, k1, k2, comm_cells hsame2 k3, k4⟩
  · intro id cs hb
    obtain ⟨⟨arr, T, k1, k2⟩, k3, k4⟩ := hi.sto.var id cs hb
    obtain ⟨e1, e2⟩ := hheap id cs hb
    refine ⟨⟨arr, T, e1.trans k1, All2_RepC_ext (n := id + 1) hcomm (fun _ _ => rfl) (fun b hb' => ?_) k4 k2⟩, e2.trans k3, k4⟩
    refine (he.prot b (.inr (.inl ?_))).1
    have := cntB_get (b := b) (g := g) (w := w) B 0 id _ hb
    simp only [cntBlk, Nat.zero_add, cellsAt_of k1] at this
    omega
  · intro id cs hb
    obtain ⟨com, k1, k2, hn⟩ := hi.sto.ro id cs hb
    obtain ⟨com', k3, k4⟩ := he.comm _ com k1
    exact ⟨com', k3, k2.trans k4, hn⟩
  · rw [hcb]
    have h3 := cntS_put (b := b) hsl.length r ur d
    have h4 := hi2.uniq b
    rw [cntS_one] at h4
    have h5 := hi.uniq b
    rw [cntS_append hl] at h5
    by_cases hz : 0 < cntS b sl tm + cntB b g w 0 B
    · obtain ⟨_, p2, _⟩ := hi2.prot b (.inr (.inl hz))
      rw [cntS_one] at p2
      omega
    · omega
  · rw [hcb]
    obtain ⟨p1, p2, _⟩ := hi2.prot b (.inl hp)
    rw [cntS_one] at p2
    have h3 := cntS_put (b := b) hsl.length r ur d
    obtain ⟨_, q2, q3⟩ := hi.prot b hp
    rw [cntS_append hl] at q2
    exact ⟨p1, by omega, q3⟩

/-! one operation -/
def callUpon (P : Program) (R : Value → World → Prop) : Result Next → Prop
  | .ok (.value v) w' => R v w'
  | .ok (.enter f a) w' => Calls P f a w' fun
    | .returned v, w'' => R v w''
    | _, _ => False
  | .ok (.row row a) w' => Rows P row a w' R
  | _ => False

/-- blocks that hold just what the interpreter is told that they hold -/
def FixOk (C : Cfg) (w : World) : Prop := ∀ b arr, C.fix b = some arr → ∃ T fz, w.heap[b]? = some (.cells arr T fz)
structure GlobW (C : Cfg) (Pr : Nat → Prop) (g : G) (w : World) : Prop where
  glob : GlobOk C g
  kept : ∀ b arr, C.fix b = some arr → Pr b
  fix : FixOk C w
theorem Ext.globW {C : Cfg} {Pr : Nat → Prop} {n : Nat} {g g' : G} {w w' : World} (x : Ext Pr n g w g' w') (h : GlobW C Pr g w) : GlobW C Pr g' w' :=
  ⟨x.glob h.glob, h.kept, fun b arr hb => by obtain ⟨T, fz, hw⟩ := h.fix b arr hb; exact ⟨T, fz, (x.prot b (h.kept b arr hb)).2.trans hw⟩⟩
def CallOk (C : Cfg) (f : FuncId) (vs : List VV) (B : List Blk) (r : VV) (B' : List Blk) : Prop :=
  ∀ (Pr : Nat → Prop) (g : G) (us : List Value) (w : World), GlobW C Pr g w → Inv Pr g vs B us w →
    callUpon C.P (fun u w' => ∃ g', Ext Pr B.length g w g' w' ∧ Inv Pr g' [r] B' [u] w') ((callFunc f us.toArray).run C.P w)

/-- what the interpreter is told is right -/
structure CfgOk (C : Cfg) : Prop where
  ng : ∀ (g : FuncId) (fn : Func), C.P.funcs[g]? = some fn → (fn.name == "runtime.NumGoroutine") = false
  mixed : C.P.follows .mixedOrders = true
  pure : ∀ g, C.pure g = true → C.raw g = false
  ext : ∀ g e vs v B, C.ext g = some e → e vs = some v → CallOk C g vs B v B

theorem callUpon_upon {P : Program} {R : Value → World → Prop} {o : Oper} {a : Act} {next : Act → World → Prop} {Q : Exit → Act → World → Prop} {x : Result Next} (h : callUpon P R x)
    (hn : ∀ v w', R v w' → next (a.put o.dst v) w') : o.upon P a next Q x := by
  unfold callUpon at h
  split at h
  · exact hn _ _ h
  · exact Calls.mono h fun e w'' he => by cases e <;> first | exact hn _ _ he | exact he.elim
  · exact Rows.mono h fun v w'' he => hn _ _ he
  · exact h.elim

theorem put_toList (a : Act) (d : Option Tmp) (u : Value) : (a.put d u).tmps.toList = putL a.tmps.toList d u := by
  cases d with
  | none => rfl
  | some i => simp only [Act.put, putL, Array.toList_setIfInBounds]
theorem put_defers (a : Act) (d : Option Tmp) (u : Value) : (a.put d u).defers = a.defers := by cases d <;> rfl

theorem caps_rep {caps : List VV} {us : List Value} (h : All2 (RepP g) caps us) : All2 (Rep g) caps us := h.mono fun v u _ hr => by cases v <;> first | exact hr | exact hr.elim
theorem caps_ok {caps : List VV} {n : Nat} {us : List Value} (hr : All2 (RepP g) caps us) (h : caps.all (okP n) = true) : okRs n caps = true := by
  induction hr with
  | nil => rfl
  | cons hr _ ih =>
    simp only [List.all_cons, Bool.and_eq_true] at h
    simp only [okRs, List.all_cons, Bool.and_eq_true]
    refine ⟨?_, ih h.2⟩
    rename_i v u _ _ _
    cases v <;> first | rfl | exact h.1 | exact hr.elim
theorem caps_cnt {caps : List VV} {us : List Value} {b : Nat} (h : All2 (RepP g) caps us) : cntS b caps us = 0 := by
  induction h with
  | nil => rfl
  | cons hr _ ih =>
    simp only [cntS, ih]
    rename_i v u _ _ _
    rw [cnt_zero]
    cases v <;> first | rfl | exact hr.elim

theorem callee_ok (hg : GlobOk C g) (hi : Inv Pr g sl B tm w) {x : Operand} {args : Array Operand} {ts : Array TypeId} {gf : FuncId} {as : List Operand} {caps : List VV}
    (h : callee C sl { callee := .value x, args, argTypes := ts } = some (gf, as, caps)) :
    as = args.toList ∧ ∃ cu : Array Value, evR tm x = .func (.func gf) #[] cu ∧ All2 (RepP g) caps cu.toList ∧ caps.all (okP B.length) = true := by
  have hr := ev_rep hg hi.rep x
  have ho := ev_ok (C := C) hi.ok x
  simp only [callee] at h
  split at h <;> try (cases h; done)
  · rename_i f' fa fb e
    split at h <;> first | (cases h; done) | skip
    rename_i hf
    simp only [Option.some.injEq, Prod.mk.injEq] at h
    obtain ⟨rfl, rfl, rfl⟩ := h
    rw [e] at hr
    simp only [Bool.and_eq_true, Array.isEmpty_iff] at hf
    obtain ⟨rfl, rfl⟩ := hf
    exact ⟨rfl, #[], hr.1, .nil, rfl⟩
  · rename_i f' first cps e
    split at h <;> first | (cases h; done) | skip
    rename_i hf
    simp only [Option.some.injEq, Prod.mk.injEq] at h
    obtain ⟨rfl, rfl, rfl⟩ := h
    rw [e] at hr ho
    obtain ⟨fa, cu, e1, e2, e3⟩ := hr
    have : first = [] := by simpa using hf
    subst this
    have : fa = #[] := by
      have := e2.length
      simp at this
      exact Array.eq_empty_of_size_eq_zero (by simpa using this.symm)
    subst this
    simp only [okR, okV, okC, Bool.and_eq_true] at ho
    exact ⟨rfl, cu, e1, e3, ho.2⟩

theorem call_run {P : Program} {a : Act} {o : Oper} {x : Operand} {args : Array Operand} {ts : Array TypeId} {gf : FuncId} {cu : Array Value} (ho : o.op = .call { callee := .value x, args, argTypes := ts })
    (hx : evR a.tmps.toList x = .func (.func gf) #[] cu) : (execOp a.eval o).run P w = (callFunc gf (args.toList.map (evR a.tmps.toList) ++ cu.toList).toArray).run P w := by
  have e : (args.map a.eval) ++ cu = (args.toList.map (evR a.tmps.toList) ++ cu.toList).toArray := by
    apply Array.ext'
    simp only [Array.toList_append, Array.toList_map]
    rw [List.map_congr_left fun y _ => eval_evR a y]
  simp only [execOp, ho, resolve, eval_evR, hx, Deferred.ofValue, Sem.run_bind, Sem.run_pure, Result.andThen_ok, invoke, Array.empty_append]
  rw [← e]

theorem vcall_nil {k : Nat} {gf : FuncId} {r : VV} (hr : C.raw gf = false) (h : vcall C k gf vs [] = some (r, B')) : B' = [] := by
  cases k with
  | zero => rw [vcall] at h; cases h
  | succ k =>
    simp only [vcall, hr] at h
    split at h
    · split at h
      · simp only [Option.some.injEq, Prod.mk.injEq] at h; exact h.2.symm
      · cases h
    · split at h
      · cases h
      · split at h
        · cases h
        · split at h
          · cases h
          · cases h
          · split at h
            · cases h
            · simp only [Bool.false_eq_true, if_false] at h
              split at h
              · cases h
              · split at h
                · simp only [Option.some.injEq, Prod.mk.injEq] at h
                  rw [← h.2]; simp
                · cases h

theorem step_ok {K : Nat} (hC : CfgOk C) (hc : ∀ gf vs B r B', vcall C K gf vs B = some (r, B') → CallOk C gf vs B r B') (hg : GlobW C Pr g w) {a : Act} (hi : Inv Pr g sl B a.tmps.toList w) {f : FuncId} {ops : Array Oper} {o : Oper}
    (h : vstep C K f ops o sl B = some (sl', B')) {next : Act → World → Prop} {Q : Exit → Act → World → Prop}
    (hk : ∀ a' w' g', a'.defers = a.defers → Ext Pr B.length g w g' w' → Inv Pr g' sl' B' a'.tmps.toList w' → next a' w') :
    if Region.wanted o (yielded ops a.tmps) = true then o.wp C.P a w next Q else next (a.put o.dst undef) w := by
  unfold vstep at h
  cases hgt : gate ops sl o with
  | none => rw [hgt] at h; cases h
  | some b =>
    rw [hgt] at h
    have hw := gate_wanted hi.rep hgt
    cases b with
    | false =>
      simp only [Option.some.injEq, Prod.mk.injEq] at h
      obtain ⟨rfl, rfl⟩ := h
      rw [hw]
      simp only [Bool.false_eq_true, if_false]
      refine hk _ w g (put_defers a _ _) (Ext.refl _ _ _ _) ?_
      rw [put_toList]
      exact hi.put (v := .tup []) (show Rep g (.tup []) undef from ⟨#[], rfl, .nil⟩) rfl (fun _ => cnt_zero rfl) o.dst
    | true =>
      rw [hw]
      simp only [if_true] at h ⊢
      have plain : (match vop C f o sl B with
          | none => none
          | some (v, sl', B') => some (putS sl' o.dst v, B')) = some (sl', B') → o.wp C.P a w next Q := by
        intro h
        split at h <;> first | (cases h; done) | skip
        rename_i v sl1 B1 hv
        simp only [Option.some.injEq, Prod.mk.injEq] at h
        obtain ⟨rfl, rfl⟩ := h
        obtain ⟨nx, u, w', g', hrun, hnx, hext, hinv⟩ := vop_sound hg.glob hi hv
        unfold Oper.wp
        rw [hrun]
        rcases hnx with rfl | ⟨rfl, rfl⟩
        · exact hk _ w' g' (put_defers a _ _) hext (by rw [put_toList]; exact hinv)
        · exact hk _ w' g' (put_defers a _ _) hext (by rw [put_toList]; exact hinv)
      by_cases hcall : isCall o = true
      · obtain ⟨dst, op, type, pos, after, guard⟩ := o
        cases op <;> simp only [isCall, Bool.false_eq_true] at hcall
        rename_i c
        obtain ⟨cal, args, ts⟩ := c
        cases cal <;> simp only [Bool.false_eq_true] at hcall
        rename_i x
        simp only at h
        cases hcal : callee C sl { callee := .value x, args, argTypes := ts } with
        | none => rw [hcal] at h; cases h
        | some p =>
          obtain ⟨gf, as, caps⟩ := p
          rw [hcal] at h
          simp only at h
          obtain ⟨rfl, cu, hx, hcr, hco⟩ := callee_ok hg.glob hi hcal
          unfold Oper.wp
          rw [call_run rfl hx]
          have hlen : ∀ {vs : List VV}, vs.length = args.toList.length → (vs ++ caps).length = (args.toList.map (evR a.tmps.toList) ++ cu.toList).length := fun hl => by
            simp only [List.length_append, List.length_map, hl, hcr.length]
          by_cases hp : C.pure gf = true
          · simp only [hp, if_true] at h
            split at h <;> first | (cases h; done) | skip
            rename_i hok0
            simp only [Bool.and_eq_true] at hok0
            split at h <;> first | (cases h; done) | skip
            rename_i r B2 hv
            simp only [Option.some.injEq, Prod.mk.injEq] at h
            obtain ⟨rfl, rfl⟩ := h
            obtain ⟨hi1, hl1⟩ := pargs_ok hg.glob (gg := gf) (xs := args.toList) (i := 0) (acc := []) (uacc := []) rfl hi
            simp only [List.nil_append] at hi1
            have hr1 := hi1.right (by simp [hl1])
            have hi2 := hi1.insert (by simp [hl1]) (caps_rep hcr) (caps_ok hcr hco) hr1.rep hr1.ok (fun b => by rw [caps_cnt hcr]; omega)
            have hnil := vcall_nil (hC.pure gf hp) hv
            subst hnil
            have hf := hi2.frame0 (hlen hl1) (by rw [okRs_append, hok0.1, hok0.2]; rfl)
            refine callUpon_upon (hc _ _ _ _ _ hv _ g _ w ⟨hg.glob, fun b arr hb => .inl (hg.kept b arr hb), hg.fix⟩ hf) fun u w' ⟨g2, he2, hi3⟩ => ?_
            obtain ⟨k1, k2⟩ := hi2.unframe0 (hlen hl1) he2 hi3 dst
            exact hk _ w' _ (put_defers a _ _) k1 (by rw [put_toList]; exact k2)
          · simp only [hp, Bool.false_eq_true, if_false] at h
            split at h <;> first | (cases h; done) | skip
            rename_i vs sl1 B1 hva
            split at h <;> first | (cases h; done) | skip
            rename_i r B2 hv
            simp only [Option.some.injEq, Prod.mk.injEq] at h
            obtain ⟨rfl, rfl⟩ := h
            obtain ⟨g1, gr1, hi1, hl1⟩ := vargs_ok (acc := []) (uacc := []) hg.glob rfl hi hva
            simp only [List.nil_append] at hi1
            have hr1 := hi1.right (by simp [hl1])
            have hlb := vargs_len hva
            have hcr1 : All2 (RepP g1) caps cu.toList := All2_RepP (n := B.length) (fun i _ => gr1.phi i) hco hcr
            have hi2 := hi1.insert (by simp [hl1]) (caps_rep hcr1) (caps_ok hcr1 (by rw [hlb]; exact hco)) hr1.rep hr1.ok (fun b => by rw [caps_cnt hcr1]; omega)
            have hf := hi2.frame (hlen hl1)
            refine callUpon_upon (hc _ _ _ _ _ hv _ g1 _ w ⟨gr1.glob hg.glob, fun b arr hb => .inl (hg.kept b arr hb), hg.fix⟩ hf) fun u w' ⟨g2, he2, hi3⟩ => ?_
            have k2 := hi2.unframe (hlen hl1) he2 hi3 (vcall_len hv) dst
            refine hk _ w' g2 (put_defers a _ _) ?_ (by rw [put_toList]; exact k2)
            have he3 : Ext Pr B1.length g1 w g2 w' := ⟨he2.comm, fun b hb => he2.prot b (.inl hb), he2.size, he2.phi, he2.out⟩
            exact (gr1.ext B.length w).trans he3 (by omega)
      · obtain ⟨dst, op, type, pos, after, guard⟩ := o
        cases op <;> first | exact plain h | skip
        rename_i c
        obtain ⟨cal, args, ts⟩ := c
        cases cal <;> first | exact plain h | exact absurd rfl hcall
end
end Go.Wv
namespace Go.Wv

/-! An operation does not look at other slots. -/
section
variable {C : Cfg} {f : FuncId} {o : Oper} {sl : List VV} {B : List Blk} {t : Tmp} {u : VV}

theorem getS_set_ne {s : Nat} (h : s ≠ t) : getS (sl.set t u) s = getS sl s := by
  rw [getS_set_eq, if_neg (fun e => h e.1.symm)]
theorem ev_set {x : Operand} (h : x ≠ .tmp t) : ev C (sl.set t u) x = ev C sl x := by
  cases x <;> first | rfl | skip
  rename_i s
  exact getS_set_ne fun e => h (by rw [e])
theorem tr_set {x : Operand} (h : x ≠ .tmp t) : tr C (sl.set t u) x = ((tr C sl x).1, (tr C sl x).2.set t u) := by
  cases x <;> first | rfl | skip
  · rename_i s
    have hs : s ≠ t := fun e => h (by rw [e])
    simp only [tr, getS_set_ne hs]
    split
    · simp only [Prod.mk.injEq, true_and]
      exact List.set_comm _ _ (fun e => hs e.symm)
    · rfl
theorem evs_set : ∀ {xs : List Operand}, (∀ x ∈ xs, x ≠ .tmp t) → xs.map (ev C (sl.set t u)) = xs.map (ev C sl) :=
  fun h => List.map_congr_left fun x hx => ev_set (h x hx)
theorem trL_set : ∀ {xs : List Operand} {sl : List VV}, (∀ x ∈ xs, x ≠ .tmp t) → trL C (sl.set t u) xs = ((trL C sl xs).1, (trL C sl xs).2.set t u)
  | [], sl, _ => rfl
  | x :: xs, sl, h => by
    simp only [trL, tr_set (h x (by simp)), trL_set (xs := xs) (fun y hy => h y (by simp [hy]))]
theorem pargs_set {g : FuncId} : ∀ {xs : List Operand} {i : Nat} {sl : List VV}, (∀ x ∈ xs, x ≠ .tmp t) → pargs C g (sl.set t u) i xs = ((pargs C g sl i xs).1, (pargs C g sl i xs).2.set t u)
  | [], i, sl, _ => rfl
  | x :: xs, i, sl, h => by
    simp only [pargs]
    have ih := fun i sl => pargs_set (g := g) (xs := xs) (i := i) (sl := sl) (fun y hy => h y (by simp [hy]))
    cases C.argm g i with
    | own => simp only [tr_set (h x (by simp)), ih]
    | view => simp only [ev_set (h x (by simp)), ih]
    | ref => simp only [ev_set (h x (by simp)), ih]
theorem vargs_set {g : FuncId} : ∀ {xs : List Operand} {i : Nat} {sl : List VV} {B : List Blk}, (∀ x ∈ xs, x ≠ .tmp t) →
    vargs C g (sl.set t u) B i xs = (vargs C g sl B i xs).map fun p => (p.1, p.2.1.set t u, p.2.2)
  | [], i, sl, B, _ => rfl
  | x :: xs, i, sl, B, h => by
    simp only [vargs]
    have ih := fun i sl B => vargs_set (g := g) (xs := xs) (i := i) (sl := sl) (B := B) (fun y hy => h y (by simp [hy]))
    cases C.argm g i with
    | own =>
      simp only [tr_set (h x (by simp)), ih]
      cases vargs C g (tr C sl x).2 B (i + 1) xs <;> rfl
    | view =>
      simp only [ev_set (h x (by simp)), ih]
      cases freeze B (ev C sl x) with
      | none => rfl
      | some p =>
        simp only
        cases vargs C g sl p.2 (i + 1) xs <;> rfl
    | ref =>
      simp only [ev_set (h x (by simp)), ih]
      cases vargs C g sl B (i + 1) xs <;> rfl

abbrev up (t : Tmp) (u : VV) (p : VV × List VV × List Blk) : VV × List VV × List Blk := (p.1, p.2.1.set t u, p.2.2)

theorem vop_set (h : ∀ x ∈ o.op.operands, x ≠ .tmp t) : vop C f o (sl.set t u) B = (vop C f o sl B).map (up t u) := by
  obtain ⟨dst, op, type, pos, after, guard⟩ := o
  cases op <;> simp only [Op.operands] at h <;> simp only [vop]
  case move x =>
    have hx := h x (by simp)
    simp only [ev_set hx, tr_set hx]
    split <;> rfl
  case assign x =>
    have hx := h x (by simp)
    simp only [tr_set hx]; rfl
  case pick c a b =>
    have e : ∀ t' : Bool, ev C (sl.set t u) (if t' = true then a else b) = ev C sl (if t' = true then a else b) := fun t' => by cases t' <;> simp [ev_set (h a (by simp)), ev_set (h b (by simp))]
    simp only [ev_set (h c (by simp)), e]
    split <;> rfl
  case alloc e =>
    split
    · split <;> rfl
    · rfl
  case box e x =>
    have hx := h x (by simp)
    simp only [tr_set hx]
    split <;> rfl
  case build e ps =>
    have h1 : ∀ x ∈ ps.toList.map (·.2), x ≠ .tmp t := fun x hx => h x (by simpa using hx)
    have h2 : (ps.toList.map fun p => toView (ev C (sl.set t u) p.2)) = ps.toList.map fun p => toView (ev C sl p.2) :=
      List.map_congr_left fun p hp => by rw [ev_set (h1 p.2 (List.mem_map.2 ⟨p, hp, rfl⟩))]
    simp only [trL_set h1, h2]
    cases (Option.map (C.take f) dst).getD false
    · simp only [Bool.false_eq_true, if_false]
      repeat' (first | rfl | split)
    · simp only [if_true]
      repeat' (first | rfl | split)
  case buildSlice e n ps =>
    have h1 : ∀ x ∈ ps.toList.map (·.2), x ≠ .tmp t := fun x hx => h x (by simpa using hx)
    have h2 : (ps.toList.map fun p => (p.1, toView (ev C (sl.set t u) p.2))) = ps.toList.map fun p => (p.1, toView (ev C sl p.2)) :=
      List.map_congr_left fun p hp => by rw [ev_set (h1 p.2 (List.mem_map.2 ⟨p, hp, rfl⟩))]
    simp only [h2]
    repeat' (first | rfl | split)
  case load e x =>
    simp only [ev_set (h x (by simp))]
    repeat' (first | rfl | split)
  case store e a x =>
    simp only [ev_set (h a (by simp)), ev_set (h x (by simp)), tr_set (h x (by simp))]
    repeat' (first | rfl | split)
  case nilCheck x =>
    simp only [ev_set (h x (by simp))]
    repeat' (first | rfl | split)
  case binOp op e x y e' =>
    simp only [ev_set (h x (by simp)), ev_set (h y (by simp))]
    repeat' (first | rfl | split)
  case unOp op e x =>
    simp only [ev_set (h x (by simp))]
    repeat' (first | rfl | split)
  case convert e e' x =>
    simp only [ev_set (h x (by simp))]
    repeat' (first | rfl | split)
  case makeSlice e x y =>
    simp only [ev_set (h x (by simp)), ev_set (h y (by simp))]
    repeat' (first | rfl | split)
  case slice e x lo hi mx =>
    have e1 : lo.map (ev C (sl.set t u)) = lo.map (ev C sl) := by
      cases lo with
      | none => rfl
      | some y => simp only [Option.map_some, ev_set (h y (by simp))]
    have e2 : hi.map (ev C (sl.set t u)) = hi.map (ev C sl) := by
      cases hi with
      | none => rfl
      | some y => simp only [Option.map_some, ev_set (h y (by simp))]
    simp only [ev_set (h x (by simp)), e1, e2]
    repeat' (first | rfl | split)
  case fieldAddr s x i =>
    simp only [ev_set (h x (by simp))]
    repeat' (first | rfl | split)
  case indexAddr e x y =>
    simp only [ev_set (h x (by simp)), ev_set (h y (by simp))]
    repeat' (first | rfl | split)
  case index e x y =>
    simp only [ev_set (h x (by simp)), ev_set (h y (by simp))]
    repeat' (first | rfl | split)
  case extract x i =>
    simp only [ev_set (h x (by simp))]
    split
    · rename_i s vs hs
      have hs : s ≠ t := fun e => h (.tmp s) (by simp) (by rw [e])
      split
      · split
        · simp only [Option.map_some, up, Option.some.injEq, Prod.mk.injEq, true_and, and_true]
          exact List.set_comm _ _ (fun e => hs e.symm)
        · rfl
      · rfl
    · rfl
  case call c =>
    obtain ⟨cal, args, ts⟩ := c
    have ha : ∀ x ∈ args.toList, x ≠ .tmp t := fun x hx => h x (by simp only [Call.operands]; exact Array.mem_append_right _ (by simpa using hx))
    cases cal <;> try rfl
    rename_i b
    cases b <;> try rfl
    case append =>
      dsimp only
      cases hargs : args.toList with
      | nil => rfl
      | cons x l => cases l with
        | nil => rfl
        | cons y l => cases l with
          | cons => rfl
          | nil =>
            rw [hargs] at ha
            cases ts.toList with
            | nil => rfl
            | cons t1 m => cases m with
              | nil => rfl
              | cons t2 m => cases m with
                | cons => rfl
                | nil =>
                  simp only [ev_set (ha y (by simp)), tr_set (ha x (by simp))]
                  repeat' (first | rfl | split)
    case len =>
      dsimp only
      cases hargs : args.toList with
      | nil => rfl
      | cons x l => cases l with
        | cons => rfl
        | nil =>
          rw [hargs] at ha
          cases ts.toList with
          | nil => rfl
          | cons t1 m => cases m with
            | cons => rfl
            | nil =>
              simp only [ev_set (ha x (by simp))]
              repeat' (first | rfl | split)
    case max =>
      dsimp only
      cases hargs : args.toList with
      | nil => rfl
      | cons x l => cases l with
        | nil => rfl
        | cons y l =>
          rw [hargs] at ha
          simp only [ev_set (ha x (by simp)), evs_set (xs := y :: l) (fun z hz => ha z (by simp only [List.mem_cons] at hz ⊢; exact .inr hz))]
          repeat' (first | rfl | split)
    case min =>
      dsimp only
      cases hargs : args.toList with
      | nil => rfl
      | cons x l => cases l with
        | nil => rfl
        | cons y l =>
          rw [hargs] at ha
          simp only [ev_set (ha x (by simp)), evs_set (xs := y :: l) (fun z hz => ha z (by simp only [List.mem_cons] at hz ⊢; exact .inr hz))]
          repeat' (first | rfl | split)
  all_goals rfl

theorem gate_set {ops : Array Oper} (h : t ∉ o.looksAt ops) : gate ops (sl.set t u) o = gate ops sl o := by
  unfold gate
  cases hg : o.guard with
  | none => rfl
  | some jw =>
    obtain ⟨j, want⟩ := jw
    simp only
    cases hd : (ops[j]?).bind (·.dst) with
    | none => rfl
    | some d =>
      simp only
      rw [getS_set_ne fun e => h (by rw [← e]; simp [Oper.looksAt, hg, hd])]

theorem looks_operand {ops : Array Oper} (h : t ∉ o.looksAt ops) : ∀ x ∈ o.op.operands, x ≠ .tmp t := by
  rintro x hx rfl
  exact h (List.mem_append_left _ (List.mem_filterMap.2 ⟨.tmp t, by simpa using hx, rfl⟩))

theorem callee_set {c : Call} (h : ∀ x ∈ c.operands, x ≠ .tmp t) : callee C (sl.set t u) c = callee C sl c := by
  unfold callee
  cases hc : c.callee with
  | value x => simp only [ev_set (h x (by simp [Call.operands, hc]))]
  | _ => rfl

theorem putS_set {d : Option Tmp} {v : VV} (h : d ≠ some t) : putS (sl.set t u) d v = (putS sl d v).set t u := by
  cases d with
  | none => rfl
  | some d => exact List.set_comm _ _ fun e => h (by rw [e])

theorem vstep_set {K : Nat} {ops : Array Oper} (h : t ∉ o.looksAt ops) (hd : o.dst ≠ some t) : vstep C K f ops o (sl.set t u) B = (vstep C K f ops o sl B).map fun p => (p.1.set t u, p.2) := by
  unfold vstep
  rw [gate_set h]
  have hop := looks_operand h
  cases gate ops sl o with
  | none => rfl
  | some b =>
    cases b with
    | false => simp only [putS_set hd]; rfl
    | true =>
      simp only
      have plain : (match vop C f o (sl.set t u) B with
          | none => none
          | some (v, sl', B') => some (putS sl' o.dst v, B')) = (match vop C f o sl B with
          | none => none
          | some (v, sl', B') => some (putS sl' o.dst v, B') : Option (List VV × List Blk)).map fun p => (p.1.set t u, p.2) := by
        rw [vop_set hop]
        cases vop C f o sl B with
        | none => rfl
        | some p => simp only [Option.map_some, up, putS_set hd]
      by_cases hcall : isCall o = true
      · obtain ⟨dst, op, type, pos, after, guard⟩ := o
        cases op <;> simp only [isCall, Bool.false_eq_true] at hcall
        rename_i c
        obtain ⟨cal, args, ts⟩ := c
        cases cal <;> simp only [Bool.false_eq_true] at hcall
        rename_i x
        simp only [Op.operands] at hop
        simp only [callee_set hop]
        have ha : ∀ x ∈ args.toList, x ≠ .tmp t := fun x hx => hop x (by simp only [Call.operands]; exact Array.mem_append_right _ (by simpa using hx))
        cases hcal : callee C sl { callee := .value x, args, argTypes := ts } with
        | none => rfl
        | some p =>
          obtain ⟨gf, as, caps⟩ := p
          have has : as = args.toList := by
            simp only [callee] at hcal
            split at hcal <;> first | (cases hcal; done) | (split at hcal <;> first | (cases hcal; done) | (simp only [Option.some.injEq, Prod.mk.injEq] at hcal; exact hcal.2.1.symm))
          subst has
          simp only [pargs_set ha, vargs_set ha]
          split
          · split
            · split
              · rfl
              · simp only [Option.map_some, putS_set hd]
            · rfl
          · cases vargs C gf sl B 0 args.toList with
            | none => rfl
            | some q =>
              simp only [Option.map_some]
              cases vcall C K gf (q.1 ++ caps) q.2.2 with
              | none => rfl
              | some r => simp only [Option.map_some, putS_set hd]
      · obtain ⟨dst, op, type, pos, after, guard⟩ := o
        cases op <;> first | exact plain | skip
        rename_i c
        obtain ⟨cal, args, ts⟩ := c
        cases cal <;> first | exact plain | exact absurd rfl hcall
end
end Go.Wv
namespace Go.Wv

/-! Operations that only read see no rights to append. -/

theorem viewC_idem (v : VV) : viewC (viewC v) = viewC v := by
  cases v <;> first | rfl | skip
  rename_i f xs; cases f <;> rfl
theorem map_viewC_idem (cs : List VV) : (cs.map viewC).map viewC = cs.map viewC := by
  rw [List.map_map]; exact List.map_congr_left fun v _ => viewC_idem v
theorem viewV_idem (v : VV) : viewV (viewV v) = viewV v := by
  cases v <;> first | rfl | skip
  · exact congrArg VV.agg (map_viewC_idem _)
  · rename_i f xs; cases f <;> rfl
theorem map_viewV_idem (vs : List VV) : (vs.map viewV).map viewV = vs.map viewV := by
  rw [List.map_map]; exact List.map_congr_left fun v _ => viewV_idem v
theorem toView_idem (v : VV) : toView (toView v) = toView v := by
  cases v <;> first | rfl | skip
  · exact congrArg VV.agg (map_viewC_idem _)
  · exact congrArg VV.tup (map_viewV_idem _)
  · rename_i f xs; cases f <;> rfl

/-- alike, but for rights to append -/
def Alike (a b : VV) : Prop := toView a = toView b
theorem Alike.refl (a : VV) : Alike a a := rfl
theorem Alike.symm {a b : VV} (h : Alike a b) : Alike b a := Eq.symm h
theorem alike_view (a : VV) : Alike (toView a) a := toView_idem a

theorem eqC_view (k : CK) (a b : VV) : eqC k (viewC a) (viewC b) = eqC k a b := by
  have hsl : ∀ f xs, viewC (.sl f xs) = .sl .view xs := fun f xs => by cases f <;> rfl
  cases a <;> try (cases k <;> first | rfl | (rw [hsl]; rfl))
  rename_i v
  cases b <;> try (cases k <;> cases v <;> first | rfl | (rw [hsl]; rfl))
theorem eqCs_view : ∀ (ks : List CK) (as bs : List VV), eqCs ks (as.map viewC) (bs.map viewC) = eqCs ks as bs
  | [], [], [] => rfl
  | [], [], _ :: _ => rfl
  | [], _ :: _, _ => rfl
  | _ :: _, [], _ => rfl
  | _ :: _, _ :: _, [] => rfl
  | k :: ks, a :: as, b :: bs => by simp only [List.map_cons, eqCs, eqC_view, eqCs_view ks as bs]

theorem vbin_view (P : Program) (t : TypeId) (op : BinOp) (x y : VV) : vbin P t op (toView x) (toView y) = vbin P t op x y := by
  have hsl : ∀ f xs, toView (.sl f xs) = .sl .view xs := fun f xs => by cases f <;> rfl
  cases x <;> cases y <;> first | rfl | skip
  all_goals first
    | (simp only [hsl]; rfl)
    | (simp only [hsl]; rename_i a _ _; cases a <;> rfl)
    | (simp only [hsl]; rename_i _ _ a; cases a <;> rfl)
    | (rename_i a b; show vbin P t op (.agg (a.map viewC)) (.agg (b.map viewC)) = _; simp only [vbin, eqCs_view]; done)
    | (rename_i a b; show vbin P t op (.lit a) (.agg (b.map viewC)) = _; cases a <;> rfl)
    | (rename_i a b; show vbin P t op (.agg (a.map viewC)) (.lit b) = _; cases b <;> rfl)
    | (rename_i a b; show vbin P t op (.lit a) (.tup (b.map viewV)) = _; cases a <;> rfl)
    | skip
theorem vun_view (op : UnOp) (x : VV) : vun op (toView x) = vun op x := by
  cases x <;> first | rfl | (rename_i f xs; cases f <;> rfl)
theorem vconv_view (P : Program) (s d : TypeId) (x : VV) : vconv P s d (toView x) = vconv P s d x := by
  cases x <;> first | rfl | (rename_i f xs; cases f <;> rfl)
theorem vlen_view (P : Program) (t : TypeId) (x : VV) : vlen P t (toView x) = vlen P t x := by
  cases x <;> first | rfl | (rename_i f xs; cases f <;> rfl)
theorem asIx_view (x : VV) : asIx (toView x) = asIx x := by
  cases x <;> first | rfl | (rename_i f xs; cases f <;> rfl)
theorem vslice_view (P : Program) (t : TypeId) (x : VV) (lo hi : Option VV) : vslice P t (toView x) (lo.map toView) (hi.map toView) = vslice P t x lo hi := by
  have hb : ∀ (n : Nat) (v : Option VV), bound n (v.map toView) = bound n v := fun n v => by
    cases v with
    | none => rfl
    | some v => simp only [Option.map_some, bound, asIx_view]
  have hl : ∀ (n : Nat), bound n (some ((lo.map toView).getD (.lit (.int .i64 0)))) = bound n (some (lo.getD (.lit (.int .i64 0)))) := fun n => by
    cases lo with
    | none => rfl
    | some v => exact hb n (some v)
  have hx : vslice P t (toView x) (lo.map toView) (hi.map toView) = vslice P t (toView x) lo hi := by
    cases x <;> first
      | rfl
      | (rename_i f xs; cases f <;> simp only [toView, viewV, viewC, vslice, hb, hl]; done)
      | (simp only [toView, viewV, viewC, vslice, hb, hl]; done)
      | (rename_i v; cases v <;> simp only [toView, viewV, viewC, vslice, hb, hl]; done)
      | skip
  rw [hx]
  cases x <;> first | rfl | (rename_i f xs; cases f <;> rfl)
theorem vindexAddr_view (P : Program) (t : TypeId) (x i : VV) : vindexAddr P t (toView x) (toView i) = vindexAddr P t x i := by
  unfold vindexAddr
  rw [asIx_view]
  cases x <;> first | rfl | (rename_i f xs; cases f <;> rfl)
theorem vmin2_view (mx : Bool) (x y : VV) : vmin2 mx (toView x) (toView y) = vmin2 mx x y := by
  have hsl : ∀ f xs, toView (.sl f xs) = .sl .view xs := fun f xs => by cases f <;> rfl
  cases x <;> first | rfl | (simp only [hsl]; rfl) | skip
  rename_i v
  cases y <;> first | rfl | (simp only [hsl]; cases v <;> rfl) | (cases v <;> rfl)
theorem vminL_view (mx : Bool) : ∀ (l : List VV) (x : VV), l ≠ [] → vminL mx (toView x) (l.map toView) = vminL mx x l
  | [], _, h => absurd rfl h
  | [y], x, _ => by simp only [List.map_cons, List.map_nil, vminL, vmin2_view]
  | y :: z :: l, x, _ => by
    simp only [List.map_cons, vminL, vmin2_view]
    have hlit : ∀ {r : VV}, vmin2 mx x y = some r → toView r = r := fun {r} h => by
      unfold vmin2 at h
      split at h
      · obtain rfl := Option.some.inj h; rfl
      · cases h
    cases h0 : vmin2 mx x y with
    | none => rfl
    | some r =>
      simp only
      have := vminL_view mx (z :: l) r (by simp)
      simp only [List.map_cons, vminL] at this
      have hr : toView r = r := hlit h0
      rw [hr] at this
      exact this
theorem viewV_viewC (v : VV) : viewV (viewC v) = viewV v := by
  cases v <;> first | rfl | (rename_i f xs; cases f <;> rfl)
theorem readAt_view (P : Program) (t : TypeId) (cs : List VV) (off : Nat) : (readAt P t (cs.map viewC) off).map viewV = (readAt P t cs off).map viewV := by
  unfold readAt
  split
  · simp only [List.length_map]
    split
    · simp only [Option.map_some, viewV, List.map_drop, List.map_take, map_viewC_idem]
    · rfl
  · simp only [List.getElem?_map]
    cases cs[off]? with
    | none => rfl
    | some v =>
      simp only [Option.map_some, viewV_viewC]
  · rfl
theorem vindex_view (P : Program) (t : TypeId) (x i : VV) : (vindex P t (toView x) (toView i)).map viewV = (vindex P t x i).map viewV := by
  unfold vindex
  rw [asIx_view]
  cases asIx i with
  | none => rfl
  | some i =>
    cases x <;> first | rfl | (rename_i f xs; cases f <;> rfl) | skip
    simp only [toView, viewV]
    split
    · split
      · exact readAt_view P _ _ _
      · rfl
    · rfl
end Go.Wv
namespace Go.Wv

theorem Alike.lit {v : Value} {b : VV} (h : Alike (.lit v) b) : b = .lit v := by
  cases b <;> first | exact (show VV.lit v = _ from h).symm | cases h | skip
  rename_i f xs; cases f <;> cases h
theorem Alike.ptr {i o : Nat} {b : VV} (h : Alike (.ptr i o) b) : b = .ptr i o := by
  cases b <;> first | exact (show VV.ptr i o = _ from h).symm | cases h | skip
  rename_i f xs; cases f <;> cases h
theorem Alike.elp {i : List VV} {o : Nat} {b : VV} (h : Alike (.elp i o) b) : b = .elp i o := by
  cases b <;> first | exact (show VV.elp i o = _ from h).symm | cases h | skip
  rename_i f xs; cases f <;> cases h
theorem Alike.clo {fn : Fn} {x y : List VV} {b : VV} (h : Alike (.clo fn x y) b) : b = .clo fn x y := by
  cases b <;> first | exact (show VV.clo fn x y = _ from h).symm | cases h | skip
  rename_i f xs; cases f <;> cases h
theorem Alike.tup {vs : List VV} {b : VV} (h : Alike (.tup vs) b) : ∃ vs', b = .tup vs' ∧ vs'.map viewV = vs.map viewV := by
  cases b <;> first | cases h | skip
  · rename_i vs'
    exact ⟨vs', rfl, (VV.tup.inj h).symm⟩
  · rename_i f xs; cases f <;> cases h

theorem toView_of_viewV {a b : VV} (h : viewV a = viewV b) : toView a = toView b := by
  have e : ∀ a : VV, toView a = toView (viewV a) := fun a => by
    cases a <;> first | rfl | skip
    · exact congrArg VV.agg (map_viewC_idem _).symm
    · rename_i f xs; cases f <;> rfl
  rw [e a, e b, h]

/-- blocks alike, at least those of the first -/
def BV (B B2 : List Blk) : Prop := ∀ (id : Nat) b, B[id]? = some b → ∃ b2, B2[id]? = some b2 ∧ b2.cells.map viewC = b.cells.map viewC
theorem BV.refl (B : List Blk) : BV B B := fun _ b h => ⟨b, h, rfl⟩

section
variable {C : Cfg} {f : FuncId} {o : Oper} {sl sl' sl2 : List VV} {B B' B2 : List Blk} {t : Tmp} {u v : VV}

theorem ev_alike {x : Operand} (h : ∀ t, x = .tmp t → Alike (getS sl t) (getS sl2 t)) : Alike (ev C sl x) (ev C sl2 x) := by
  cases x <;> first | exact h _ rfl | exact Alike.refl _

theorem noTake {dst : Option Tmp} (h : (if (Option.map (C.take f) dst).getD false = true then 3 else 0) = 0) : (Option.map (C.take f) dst).getD false = false := by
  cases hh : (Option.map (C.take f) dst).getD false
  · rfl
  · rw [hh] at h; cases h

theorem vop_ro0 (hcls : cls C f o = 0) (hnc : isCall o = false) (h : vop C f o sl B = some (v, sl', B')) :
    sl' = sl ∧ B' = B ∧ ∀ sl2 B2, (∀ x ∈ o.op.operands, Alike (ev C sl x) (ev C sl2 x)) → vop C f o sl2 B2 = some (v, sl2, B2) := by
  obtain ⟨dst, op, type, pos, after, guard⟩ := o
  cases op <;> simp only [vop] at h ⊢ <;> try (cases h; done)
  case move x =>
    have ht := noTake (C := C) (f := f) (dst := dst) hcls
    simp only [ht, Bool.false_eq_true, if_false, Option.some.injEq, Prod.mk.injEq] at h ⊢
    obtain ⟨rfl, rfl, rfl⟩ := h
    exact ⟨rfl, rfl, fun sl2 B2 hx => ⟨(show toView _ = toView _ from hx x (by simp [Op.operands])).symm, trivial⟩⟩
  case assign x => cases hcls
  case alloc t => cases hcls
  case box t x => cases hcls
  case load t x => simp only [cls] at hcls; split at hcls <;> cases hcls
  case store t x y => cases hcls
  case makeSlice t x y => cases hcls
  case pick c a b =>
    split at h <;> first | (cases h; done) | skip
    rename_i t hc
    simp only [Option.some.injEq, Prod.mk.injEq] at h
    obtain ⟨rfl, rfl, rfl⟩ := h
    refine ⟨rfl, rfl, fun sl2 B2 hx => ?_⟩
    have h1 := hx c (by simp [Op.operands])
    rw [hc] at h1
    rw [h1.lit]
    have h2 : toView (ev C sl (if t = true then a else b)) = toView (ev C sl2 (if t = true then a else b)) := by
      cases t
      · exact hx b (by simp [Op.operands])
      · exact hx a (by simp [Op.operands])
    simp only [h2]
  case build e ps =>
    have ht := noTake (C := C) (f := f) (dst := dst) hcls
    simp only [ht, Bool.false_eq_true, if_false] at h ⊢
    split at h <;> first | (cases h; done) | skip
    rename_i z hz
    split at h <;> first | (cases h; done) | skip
    rename_i hc
    split at h <;> first | (cases h; done) | skip
    rename_i cs hcs
    simp only [Option.some.injEq, Prod.mk.injEq] at h
    obtain ⟨rfl, rfl, rfl⟩ := h
    refine ⟨rfl, rfl, fun sl2 B2 hx => ?_⟩
    have h2 : (ps.toList.map fun p => toView (ev C sl2 p.2)) = ps.toList.map fun p => toView (ev C sl p.2) :=
      List.map_congr_left fun p hp => (show toView _ = toView _ from hx p.2 (by simp only [Op.operands]; simp only [List.mem_toArray, List.mem_map]; exact ⟨p, hp, rfl⟩)).symm
    simp only [h2, hz, hcs]
    rw [if_pos hc]
  case buildSlice e n ps =>
    split at h <;> first | (cases h; done) | skip
    rename_i e1 he
    split at h <;> first | (cases h; done) | skip
    rename_i z hz
    split at h <;> first | (cases h; done) | skip
    rename_i hc
    split at h <;> first | (cases h; done) | skip
    rename_i xs hxs
    simp only [Option.some.injEq, Prod.mk.injEq] at h
    obtain ⟨rfl, rfl, rfl⟩ := h
    refine ⟨rfl, rfl, fun sl2 B2 hx => ?_⟩
    have h2 : (ps.toList.map fun p => (p.1, toView (ev C sl2 p.2))) = ps.toList.map fun p => (p.1, toView (ev C sl p.2)) :=
      List.map_congr_left fun p hp => by rw [(show toView _ = toView _ from hx p.2 (by simp only [Op.operands]; simp only [List.mem_toArray, List.mem_map]; exact ⟨p, hp, rfl⟩))]
    simp only [h2, hz, hxs]
    rw [if_pos hc]
  case nilCheck x =>
    split at h <;> first | (cases h; done) | skip
    all_goals
      rename_i hc
      simp only [Option.some.injEq, Prod.mk.injEq] at h
      obtain ⟨rfl, rfl, rfl⟩ := h
      refine ⟨rfl, rfl, fun sl2 B2 hx => ?_⟩
      have h1 := hx x (by simp [Op.operands])
      rw [hc] at h1
      first | rw [h1.ptr] | rw [h1.elp] | rw [h1.clo] | rw [h1.lit]
  case binOp op e x y e' =>
    split at h <;> first | (cases h; done) | skip
    rename_i r hr
    simp only [Option.some.injEq, Prod.mk.injEq] at h
    obtain ⟨rfl, rfl, rfl⟩ := h
    refine ⟨rfl, rfl, fun sl2 B2 hx => ?_⟩
    have h1 : toView _ = toView _ := hx x (by simp [Op.operands])
    have h2 : toView _ = toView _ := hx y (by simp [Op.operands])
    rw [← vbin_view, ← h1, ← h2, vbin_view, hr]
  case unOp op e x =>
    split at h <;> first | (cases h; done) | skip
    rename_i r hr
    simp only [Option.some.injEq, Prod.mk.injEq] at h
    obtain ⟨rfl, rfl, rfl⟩ := h
    refine ⟨rfl, rfl, fun sl2 B2 hx => ?_⟩
    have h1 : toView _ = toView _ := hx x (by simp [Op.operands])
    rw [← vun_view, ← h1, vun_view, hr]
  case convert s d x =>
    split at h <;> first | (cases h; done) | skip
    rename_i r hr
    simp only [Option.some.injEq, Prod.mk.injEq] at h
    obtain ⟨rfl, rfl, rfl⟩ := h
    refine ⟨rfl, rfl, fun sl2 B2 hx => ?_⟩
    have h1 : toView _ = toView _ := hx x (by simp [Op.operands])
    rw [← vconv_view, ← h1, vconv_view, hr]
  case slice e x lo hi mx =>
    split at h <;> first | (cases h; done) | skip
    split at h <;> first | (cases h; done) | skip
    rename_i r hr
    simp only [Option.some.injEq, Prod.mk.injEq] at h
    obtain ⟨rfl, rfl, rfl⟩ := h
    refine ⟨rfl, rfl, fun sl2 B2 hx => ?_⟩
    have h1 : toView _ = toView _ := hx x (by simp [Op.operands])
    have h2 : (lo.map (ev C sl)).map toView = (lo.map (ev C sl2)).map toView := by
      cases lo with
      | none => rfl
      | some y => exact congrArg some (hx y (by simp [Op.operands]))
    have h3 : (hi.map (ev C sl)).map toView = (hi.map (ev C sl2)).map toView := by
      cases hi with
      | none => rfl
      | some y => exact congrArg some (hx y (by simp [Op.operands]))
    rw [← vslice_view, ← h1, ← h2, ← h3, vslice_view, hr]
  case fieldAddr s x i =>
    split at h <;> first | (cases h; done) | skip
    all_goals
      rename_i hf hc
      simp only [Option.some.injEq, Prod.mk.injEq] at h
      obtain ⟨rfl, rfl, rfl⟩ := h
      refine ⟨rfl, rfl, fun sl2 B2 hx => ?_⟩
      have h1 := hx x (by simp [Op.operands])
      rw [hc] at h1
      first | rw [h1.ptr, hf] | rw [h1.elp, hf]
  case indexAddr e x y =>
    split at h <;> first | (cases h; done) | skip
    rename_i r hr
    simp only [Option.some.injEq, Prod.mk.injEq] at h
    obtain ⟨rfl, rfl, rfl⟩ := h
    refine ⟨rfl, rfl, fun sl2 B2 hx => ?_⟩
    have h1 : toView _ = toView _ := hx x (by simp [Op.operands])
    have h2 : toView _ = toView _ := hx y (by simp [Op.operands])
    rw [← vindexAddr_view, ← h1, ← h2, vindexAddr_view, hr]
  case index e x y =>
    split at h <;> first | (cases h; done) | skip
    rename_i r hr
    simp only [Option.some.injEq, Prod.mk.injEq] at h
    obtain ⟨rfl, rfl, rfl⟩ := h
    refine ⟨rfl, rfl, fun sl2 B2 hx => ?_⟩
    have h1 : toView _ = toView _ := hx x (by simp [Op.operands])
    have h2 : toView _ = toView _ := hx y (by simp [Op.operands])
    have h3 := vindex_view C.P e (ev C sl2 x) (ev C sl2 y)
    rw [← h1, ← h2, vindex_view, hr] at h3
    cases hq : vindex C.P e (ev C sl2 x) (ev C sl2 y) with
    | none => rw [hq] at h3; cases h3
    | some q =>
      rw [hq] at h3
      simp only [Option.map_some, Option.some.injEq] at h3
      simp only [h3]
  case extract x i =>
    have ht := noTake (C := C) (f := f) (dst := dst) hcls
    simp only [ht, Bool.false_eq_true, if_false] at h ⊢
    split at h <;> first | (cases h; done) | skip
    rename_i s vs hs
    split at h <;> first | (cases h; done) | skip
    rename_i r hr
    simp only [Option.some.injEq, Prod.mk.injEq] at h
    obtain ⟨rfl, rfl, rfl⟩ := h
    refine ⟨rfl, rfl, fun sl2 B2 hx => ?_⟩
    have h1 := hx (.tmp s) (by simp [Op.operands])
    rw [hs] at h1
    obtain ⟨vs', e1, e2⟩ := h1.tup
    rw [e1]
    simp only
    have e3 : (vs'.map viewV)[i]? = some (viewV r) := by rw [e2, List.getElem?_map, hr]; rfl
    rw [List.getElem?_map] at e3
    cases hq : vs'[i]? with
    | none => rw [hq] at e3; cases e3
    | some q =>
      rw [hq] at e3
      simp only [Option.map_some, Option.some.injEq] at e3
      simp only [e3]
  case call c =>
    obtain ⟨cal, args, ts⟩ := c
    cases cal <;> try (cases h; done)
    rename_i b
    have ha : ∀ x ∈ args.toList, x ∈ (Op.call { callee := .builtin b, args := args, argTypes := ts }).operands := fun x hx => by
      simp only [Op.operands, Call.operands]; exact Array.mem_append_right _ (by simpa using hx)
    cases b <;> try (cases h; done)
    case append => cases hcls
    case len =>
      dsimp only at h ⊢
      cases hargs : args.toList with
      | nil => rw [hargs] at h; cases h
      | cons x l => cases l with
        | cons => rw [hargs] at h; cases h
        | nil => cases hts : ts.toList with
          | nil => rw [hargs, hts] at h; cases h
          | cons t1 m => cases m with
            | cons => rw [hargs, hts] at h; cases h
            | nil =>
              rw [hargs, hts] at h
              simp only at h ⊢
              split at h <;> first | (cases h; done) | skip
              rename_i r hr
              simp only [Option.some.injEq, Prod.mk.injEq] at h
              obtain ⟨rfl, rfl, rfl⟩ := h
              refine ⟨rfl, rfl, fun sl2 B2 hx => ?_⟩
              have h1 : toView _ = toView _ := hx x (ha x (by rw [hargs]; simp))
              rw [← vlen_view, ← h1, vlen_view, hr]
    case max =>
      dsimp only at h ⊢
      cases hargs : args.toList with
      | nil => rw [hargs] at h; cases h
      | cons x l => cases l with
        | nil => rw [hargs] at h; cases h
        | cons y l =>
          rw [hargs] at h
          simp only at h ⊢
          split at h <;> first | (cases h; done) | skip
          rename_i r hr
          simp only [Option.some.injEq, Prod.mk.injEq] at h
          obtain ⟨rfl, rfl, rfl⟩ := h
          refine ⟨rfl, rfl, fun sl2 B2 hx => ?_⟩
          have h1 : toView _ = toView _ := hx x (ha x (by rw [hargs]; simp))
          have h2 : ((y :: l).map (ev C sl)).map toView = ((y :: l).map (ev C sl2)).map toView := by
            rw [List.map_map, List.map_map]
            exact List.map_congr_left fun z hz => hx z (ha z (by rw [hargs]; exact List.mem_cons_of_mem _ hz))
          rw [← vminL_view _ _ _ (by simp), ← h1, ← h2, vminL_view _ _ _ (by simp), hr]
    case min =>
      dsimp only at h ⊢
      cases hargs : args.toList with
      | nil => rw [hargs] at h; cases h
      | cons x l => cases l with
        | nil => rw [hargs] at h; cases h
        | cons y l =>
          rw [hargs] at h
          simp only at h ⊢
          split at h <;> first | (cases h; done) | skip
          rename_i r hr
          simp only [Option.some.injEq, Prod.mk.injEq] at h
          obtain ⟨rfl, rfl, rfl⟩ := h
          refine ⟨rfl, rfl, fun sl2 B2 hx => ?_⟩
          have h1 : toView _ = toView _ := hx x (ha x (by rw [hargs]; simp))
          have h2 : ((y :: l).map (ev C sl)).map toView = ((y :: l).map (ev C sl2)).map toView := by
            rw [List.map_map, List.map_map]
            exact List.map_congr_left fun z hz => hx z (ha z (by rw [hargs]; exact List.mem_cons_of_mem _ hz))
          rw [← vminL_view _ _ _ (by simp), ← h1, ← h2, vminL_view _ _ _ (by simp), hr]

theorem vop_ro1 (hcls : cls C f o = 1) (h : vop C f o sl B = some (v, sl', B')) :
    sl' = sl ∧ B' = B ∧ ∀ sl2 B2, (∀ x ∈ o.op.operands, Alike (ev C sl x) (ev C sl2 x)) → BV B B2 → vop C f o sl2 B2 = some (v, sl2, B2) := by
  obtain ⟨dst, op, type, pos, after, guard⟩ := o
  have hload : ∃ t x, op = .load t x ∧ (Option.map (C.take f) dst).getD false = false := by
    unfold cls at hcls
    split at hcls <;> (repeat' (split at hcls)) <;> first | (cases hcls; done) | skip
    rename_i t x hop ht
    exact ⟨_, _, hop, by simpa using ht⟩
  obtain ⟨t, x, rfl, ht⟩ := hload
  simp only [vop, ht, Bool.false_eq_true, if_false] at h ⊢
  split at h <;> first | (cases h; done) | skip
  · rename_i id off he
    split at h <;> first | (cases h; done) | skip
    rename_i b hb
    split at h <;> first | (cases h; done) | skip
    rename_i v0 hv0
    simp only [Option.some.injEq, Prod.mk.injEq] at h
    obtain ⟨rfl, rfl, rfl⟩ := h
    refine ⟨rfl, rfl, fun sl2 B2 hx hB => ?_⟩
    have h1 := hx x (by simp [Op.operands])
    rw [he] at h1
    rw [h1.ptr]
    obtain ⟨b2, e1, e2⟩ := hB id b hb
    simp only [e1]
    have h3 := readAt_view C.P t b2.cells off
    rw [e2, readAt_view, hv0] at h3
    cases hq : readAt C.P t b2.cells off with
    | none => rw [hq] at h3; cases h3
    | some q =>
      rw [hq] at h3
      simp only [Option.map_some, Option.some.injEq] at h3
      simp only [toView_of_viewV h3]
  · rename_i cs off he
    split at h <;> first | (cases h; done) | skip
    rename_i v0 hv0
    simp only [Option.some.injEq, Prod.mk.injEq] at h
    obtain ⟨rfl, rfl, rfl⟩ := h
    refine ⟨rfl, rfl, fun sl2 B2 hx hB => ?_⟩
    have h1 := hx x (by simp [Op.operands])
    rw [he] at h1
    rw [h1.elp]
    simp only [hv0]

theorem gate_alike {ops : Array Oper} {b : Bool} (h : gate ops sl o = some b) (hx : ∀ t ∈ o.looksAt ops, Alike (getS sl t) (getS sl2 t)) : gate ops sl2 o = some b := by
  unfold gate at h ⊢
  cases hg : o.guard with
  | none => rw [hg] at h; exact h
  | some jw =>
    obtain ⟨j, want⟩ := jw
    rw [hg] at h
    simp only at h ⊢
    cases hd : (ops[j]?).bind (·.dst) with
    | none => rw [hd] at h; cases h
    | some d =>
      rw [hd] at h
      simp only at h ⊢
      have h1 := hx d (by simp [Oper.looksAt, hg, hd])
      split at h
      · rename_i hv; rw [hv] at h1; rw [h1.lit]; exact h
      · rename_i hv
        rw [hv] at h1
        obtain ⟨vs', e1, e2⟩ := h1.tup
        have : vs' = [] := by simpa using e2
        rw [e1, this]; exact h
      · cases h

theorem pargs_view {g : FuncId} : ∀ {xs : List Operand} {i : Nat}, (∀ j, j < xs.length → C.argm g (i + j) ≠ .own) → pargs C g sl i xs = (xs.map (fun x => toView (ev C sl x)), sl)
  | [], _, _ => rfl
  | x :: xs, i, h => by
    have ih := pargs_view (g := g) (xs := xs) (i := i + 1) (fun j hj => by rw [show i + 1 + j = i + (j + 1) by omega]; exact h (j + 1) (by simpa using hj))
    have h0 := h 0 (by simp)
    simp only [Nat.add_zero] at h0
    unfold pargs
    cases hm : C.argm g i with
    | own => exact absurd hm h0
    | view => simp only [ih, List.map_cons]
    | ref => simp only [ih, List.map_cons]

theorem vstep_ro {K : Nat} {ops : Array Oper} (hcls : cls C f o = 0 ∨ cls C f o = 1) (h : vstep C K f ops o sl B = some (sl', B')) :
    B' = B ∧ ∃ v, sl' = putS sl o.dst v ∧ ∀ sl2 B2, (∀ t ∈ o.looksAt ops, Alike (getS sl t) (getS sl2 t)) → (cls C f o = 1 → BV B B2) → vstep C K f ops o sl2 B2 = some (putS sl2 o.dst v, B2) := by
  have hopnd : ∀ {sl2 : List VV}, (∀ t ∈ o.looksAt ops, Alike (getS sl t) (getS sl2 t)) → ∀ x ∈ o.op.operands, Alike (ev C sl x) (ev C sl2 x) := fun {sl2} hx x hxo =>
    ev_alike fun t e => hx t (by subst e; exact List.mem_append_left _ (List.mem_filterMap.2 ⟨.tmp t, by simpa using hxo, rfl⟩))
  unfold vstep at h
  cases hgt : gate ops sl o with
  | none => rw [hgt] at h; cases h
  | some b =>
    rw [hgt] at h
    cases b with
    | false =>
      simp only [Option.some.injEq, Prod.mk.injEq] at h
      obtain ⟨rfl, rfl⟩ := h
      exact ⟨rfl, _, rfl, fun sl2 B2 hx _ => by unfold vstep; rw [gate_alike hgt hx]⟩
    | true =>
      simp only at h
      have plain : isCall o = false → (match vop C f o sl B with
          | none => none
          | some (v, sl', B') => some (putS sl' o.dst v, B')) = some (sl', B') →
          B' = B ∧ ∃ v, sl' = putS sl o.dst v ∧ ∀ sl2 B2, (∀ t ∈ o.looksAt ops, Alike (getS sl t) (getS sl2 t)) → (cls C f o = 1 → BV B B2) → vop C f o sl2 B2 = some (v, sl2, B2) := by
        intro hnc h
        split at h <;> first | (cases h; done) | skip
        rename_i v sl1 B1 hv
        simp only [Option.some.injEq, Prod.mk.injEq] at h
        obtain ⟨rfl, rfl⟩ := h
        rcases hcls with hc | hc
        · obtain ⟨rfl, rfl, h3⟩ := vop_ro0 hc hnc hv
          exact ⟨rfl, v, rfl, fun sl2 B2 hx _ => h3 sl2 B2 (hopnd hx)⟩
        · obtain ⟨rfl, rfl, h3⟩ := vop_ro1 hc hv
          exact ⟨rfl, v, rfl, fun sl2 B2 hx hb => h3 sl2 B2 (hopnd hx) (hb hc)⟩
      have fin : (∀ sl2 B2, vstep C K f ops o sl2 B2 = match gate ops sl2 o with
          | none => none
          | some false => some (putS sl2 o.dst (.tup []), B2)
          | some true => match vop C f o sl2 B2 with
            | none => none
            | some (v, sl', B') => some (putS sl' o.dst v, B')) → isCall o = false → (match vop C f o sl B with
          | none => none
          | some (v, sl', B') => some (putS sl' o.dst v, B')) = some (sl', B') →
          B' = B ∧ ∃ v, sl' = putS sl o.dst v ∧ ∀ sl2 B2, (∀ t ∈ o.looksAt ops, Alike (getS sl t) (getS sl2 t)) → (cls C f o = 1 → BV B B2) → vstep C K f ops o sl2 B2 = some (putS sl2 o.dst v, B2) := by
        intro hst hnc h
        obtain ⟨e1, v, e2, e3⟩ := plain hnc h
        exact ⟨e1, v, e2, fun sl2 B2 hx hb => by rw [hst, gate_alike hgt hx]; simp only [e3 sl2 B2 hx hb]⟩
      by_cases hcall : isCall o = true
      · obtain ⟨dst, op, type, pos, after, guard⟩ := o
        cases op <;> simp only [isCall, Bool.false_eq_true] at hcall
        rename_i c
        obtain ⟨cal, args, ts⟩ := c
        cases cal <;> simp only [Bool.false_eq_true] at hcall
        rename_i x
        cases x <;> try (rcases hcls with hc | hc <;> (simp only [cls] at hc; cases hc; done))
        rename_i gf
        have hp : (C.pure gf && (List.range args.size).all (fun i => C.argm gf i != .own)) = true := by
          simp only [cls] at hcls
          by_cases hh : (C.pure gf && (List.range args.size).all (fun i => C.argm gf i != .own)) = true
          · exact hh
          · rw [if_neg hh] at hcls; rcases hcls with hc | hc <;> cases hc
        have hc0 : cls C f { dst := dst, op := .call { callee := .value (.func gf), args := args, argTypes := ts }, type := type, pos := pos, after := after, guard := guard } = 0 := by
          simp only [cls]; rw [if_pos hp]
        rw [Bool.and_eq_true] at hp
        have hpv : ∀ sl, pargs C gf sl 0 args.toList = (args.toList.map (fun x => toView (ev C sl x)), sl) := fun sl => pargs_view fun j hj => by
          have := List.all_eq_true.1 hp.2 j (by simpa using hj)
          simpa using this
        have hcal : ∀ sl, callee C sl { callee := .value (.func gf), args := args, argTypes := ts } = some (gf, args.toList, []) := fun sl => rfl
        simp only [hcal, hp.1, if_true, hpv] at h
        split at h <;> first | (cases h; done) | skip
        rename_i hok
        split at h <;> first | (cases h; done) | skip
        rename_i r B2 hv
        simp only [Option.some.injEq, Prod.mk.injEq] at h
        obtain ⟨rfl, rfl⟩ := h
        refine ⟨rfl, r, rfl, fun sl2 B2 hx _ => ?_⟩
        have e : args.toList.map (fun x => toView (ev C sl2 x)) = args.toList.map (fun x => toView (ev C sl x)) := List.map_congr_left fun y hy =>
          (show toView _ = toView _ from hopnd hx y (by simp only [Op.operands, Call.operands]; exact Array.mem_append_right _ (by simpa using hy))).symm
        unfold vstep
        rw [gate_alike hgt hx]
        simp only [hcal, hp.1, if_true, hpv, e, hv, hok]
      · have hnc : isCall o = false := by simpa using hcall
        obtain ⟨dst, op, type, pos, after, guard⟩ := o
        cases op <;> first | exact fin (fun _ _ => rfl) hnc h | skip
        rename_i c
        obtain ⟨cal, args, ts⟩ := c
        cases cal <;> first | exact fin (fun _ _ => rfl) hnc h | exact absurd rfl hcall
end
end Go.Wv
namespace Go.Wv

/-! What an operation leaves of the slots. -/
section
variable {C : Cfg} {f : FuncId} {o : Oper} {sl sl' sl2 : List VV} {B B' B2 : List Blk} {t : Tmp} {u v : VV}

theorem tr_slen (x : Operand) : (tr C sl x).2.length = sl.length := by
  cases x <;> first | rfl | skip
  simp only [tr]; split <;> simp
theorem trL_slen : ∀ (xs : List Operand) (sl : List VV), (trL C sl xs).2.length = sl.length
  | [], _ => rfl
  | x :: xs, sl => by simp only [trL, trL_slen xs, tr_slen]
theorem pargs_slen {g : FuncId} : ∀ (xs : List Operand) (i : Nat) (sl : List VV), (pargs C g sl i xs).2.length = sl.length
  | [], _, _ => rfl
  | x :: xs, i, sl => by
    simp only [pargs]
    cases C.argm g i <;> simp only [pargs_slen xs, tr_slen]
theorem vargs_slen {g : FuncId} : ∀ {xs : List Operand} {i : Nat} {sl sl' : List VV} {B B' : List Blk} {vs : List VV}, vargs C g sl B i xs = some (vs, sl', B') → sl'.length = sl.length
  | [], i, sl, sl', B, B', vs, h => by simp only [vargs, Option.some.injEq, Prod.mk.injEq] at h; rw [← h.2.1]
  | x :: xs, i, sl, sl', B, B', vs, h => by
    unfold vargs at h
    split at h
    · split at h <;> first | (cases h; done) | skip
      split at h <;> first | (cases h; done) | skip
      rename_i h2
      simp only [Option.some.injEq, Prod.mk.injEq] at h
      rw [← h.2.1, vargs_slen h2]
    · simp only at h
      split at h <;> first | (cases h; done) | skip
      rename_i h2
      simp only [Option.some.injEq, Prod.mk.injEq] at h
      rw [← h.2.1, vargs_slen h2, tr_slen]
    · split at h <;> first | (cases h; done) | skip
      rename_i h2
      simp only [Option.some.injEq, Prod.mk.injEq] at h
      rw [← h.2.1, vargs_slen h2]

theorem vop_slen (h : vop C f o sl B = some (v, sl', B')) : sl'.length = sl.length := by
  obtain ⟨dst, op, type, pos, after, guard⟩ := o
  cases op
  case build e ps =>
    simp only [vop] at h
    cases hh : (Option.map (C.take f) dst).getD false <;> simp only [hh, Bool.false_eq_true, if_false, if_true] at h <;> (repeat' (split at h)) <;> first
      | (cases h; done)
      | (simp only [Option.some.injEq, Prod.mk.injEq] at h; rw [← h.2.1]; done)
      | (simp only [Option.some.injEq, Prod.mk.injEq] at h; rw [← h.2.1, trL_slen]; done)
  all_goals
    simp only [vop, reduceCtorEq] at h <;> (repeat' (split at h)) <;> first
      | (cases h; done)
      | (simp only [Option.some.injEq, Prod.mk.injEq] at h; rw [← h.2.1]; done)
      | (simp only [Option.some.injEq, Prod.mk.injEq] at h; rw [← h.2.1, tr_slen]; done)
      | (simp only [Option.some.injEq, Prod.mk.injEq] at h; rw [← h.2.1]; simp; done)
      | contradiction

theorem putS_slen (d : Option Tmp) : (putS sl d v).length = sl.length := by cases d <;> simp [putS]

theorem vstep_slen {K : Nat} {ops : Array Oper} (h : vstep C K f ops o sl B = some (sl', B')) : sl'.length = sl.length := by
  unfold vstep at h
  split at h
  · cases h
  · simp only [Option.some.injEq, Prod.mk.injEq] at h; rw [← h.1, putS_slen]
  · split at h
    · split at h
      · cases h
      · split at h
        · split at h
          · split at h
            · cases h
            · simp only [Option.some.injEq, Prod.mk.injEq] at h; rw [← h.1, putS_slen, pargs_slen]
          · cases h
        · split at h
          · cases h
          · rename_i hv
            split at h
            · cases h
            · simp only [Option.some.injEq, Prod.mk.injEq] at h
              rw [← h.1, putS_slen, vargs_slen hv]
    · split at h
      · cases h
      · rename_i hv
        simp only [Option.some.injEq, Prod.mk.injEq] at h
        rw [← h.1, putS_slen, vop_slen hv]

theorem set_getS (sl : List VV) (t : Nat) : sl.set t (getS sl t) = sl := by
  apply List.ext_getElem?
  intro i
  rw [List.getElem?_set]
  split
  · rename_i e
    subst e
    split
    · rename_i h; simp [getS, List.getD_eq_getElem?_getD, List.getElem?_eq_getElem h]
    · rename_i h; rw [List.getElem?_eq_none (by omega)]
  · rfl

/-- Slots that are neither looked at nor written stay. -/
theorem vstep_keeps {K : Nat} {ops : Array Oper} (h : vstep C K f ops o sl B = some (sl', B')) (ht : t ∉ o.looksAt ops) (hd : o.dst ≠ some t) : getS sl' t = getS sl t := by
  have h1 := vstep_set (C := C) (K := K) (f := f) (ops := ops) (sl := sl) (B := B) (u := getS sl t) ht hd
  rw [set_getS, h] at h1
  simp only [Option.map_some, Option.some.injEq, Prod.mk.injEq, and_true] at h1
  have hl := vstep_slen h
  have h2 : getS sl' t = getS (sl'.set t (getS sl t)) t := by rw [← h1]
  rw [h2, getS_set_eq]
  split
  · rfl
  · rename_i hn
    have : sl.length ≤ t := by rw [← hl]; simpa using hn
    simp [getS, List.getD_eq_getElem?_getD, List.getElem?_eq_none this, List.getElem?_eq_none (show sl'.length ≤ t by omega)]

theorem tr_alike (x : Operand) : ∀ t, Alike (getS sl t) (getS (tr C sl x).2 t) := by
  intro t
  cases x <;> first | exact Alike.refl _ | skip
  rename_i s
  simp only [tr]
  split
  · rw [getS_set_eq]
    split
    · rename_i e
      obtain ⟨rfl, _⟩ := e
      exact (alike_view _).symm
    · exact Alike.refl _
  · exact Alike.refl _
theorem Alike.trans {a b c : VV} (h : Alike a b) (h' : Alike b c) : Alike a c := Eq.trans h h'
theorem trL_alike : ∀ (xs : List Operand) (sl : List VV) (t : Nat), Alike (getS sl t) (getS (trL C sl xs).2 t)
  | [], _, _ => Alike.refl _
  | x :: xs, sl, t => by
    simp only [trL]
    exact (tr_alike x t).trans (trL_alike xs _ t)

theorem BV.set {id : Nat} {b b2 : Blk} (hb : B[id]? = some b) (he : b2.cells.map viewC = b.cells.map viewC) : BV B (B.set id b2) ∧ BV (B.set id b2) B := by
  have hid : id < B.length := (List.getElem?_eq_some_iff.1 hb).1
  constructor
  · intro i x hx
    by_cases e : id = i
    · subst e
      rw [hb] at hx
      obtain rfl := Option.some.inj hx
      exact ⟨b2, List.getElem?_set_self hid, he⟩
    · exact ⟨x, by rw [List.getElem?_set_ne e]; exact hx, rfl⟩
  · intro i x hx
    rcases set_get hid hx with ⟨rfl, rfl⟩ | ⟨_, h⟩
    · exact ⟨b, hb, he.symm⟩
    · exact ⟨x, h, rfl⟩

theorem readAt_cells {P : Program} {t : TypeId} {cs : List VV} {off : Nat} {v0 : VV} (h : readAt P t cs off = some v0) (hn : ¬ ∃ vs, v0 = .tup vs) (hcell : aggT P t = some false → ∀ xs, v0 ≠ .agg xs) :
    (splice cs off (toView v0).cells).map viewC = cs.map viewC := by
  rw [toView_viewV hn, viewV_cells hn]
  unfold readAt at h
  split at h <;> first | (cases h; done) | skip
  · split at h <;> first | (cases h; done) | skip
    rename_i hc
    obtain rfl := Option.some.inj h
    obtain ⟨hle, _⟩ := hc
    have hlen : ((cs.drop off).take (szT P t)).length = szT P t := by simp; omega
    unfold splice
    rw [List.length_map, show (VV.agg ((cs.drop off).take (szT P t))).cells = (cs.drop off).take (szT P t) from rfl, hlen]
    rw [List.map_append, List.map_append, map_viewC_idem, ← List.map_append, ← List.map_append]
    rw [← List.drop_drop, List.append_assoc, List.take_append_drop, List.take_append_drop]
  · rename_i hag
    obtain ⟨hlt, hz⟩ := List.getElem?_eq_some_iff.1 h
    have hc : v0.cells = [v0] := by
      cases v0 <;> first | rfl | exact absurd rfl (hcell hag _)
    rw [hc]
    unfold splice
    simp only [List.map_cons, List.map_nil, List.length_cons, List.length_nil, List.map_append, viewC_idem]
    rw [← hz, ← List.map_singleton, ← List.map_append, ← List.map_append]
    rw [List.append_assoc, show [cs[off]] ++ cs.drop (off + (0 + 1)) = cs.drop off from by rw [List.drop_eq_getElem_cons hlt]; simp, List.take_append_drop]

/-- Operations that take a right: what they leave is alike. -/
theorem vop_take (hcls : cls C f o = 3) (h : vop C f o sl B = some (v, sl', B')) :
    (∀ t, Alike (getS sl t) (getS sl' t)) ∧ BV B B' ∧ BV B' B := by
  obtain ⟨dst, op, type, pos, after, guard⟩ := o
  cases op <;> simp only [vop] at h <;> try (cases h; done)
  case move x =>
    split at h
    · simp only [Option.some.injEq, Prod.mk.injEq] at h
      obtain ⟨rfl, rfl, rfl⟩ := h
      exact ⟨tr_alike x, BV.refl _, BV.refl _⟩
    · simp only [Option.some.injEq, Prod.mk.injEq] at h
      obtain ⟨rfl, rfl, rfl⟩ := h
      exact ⟨fun _ => Alike.refl _, BV.refl _, BV.refl _⟩
  case assign x =>
    simp only [Option.some.injEq, Prod.mk.injEq] at h
    obtain ⟨rfl, rfl, rfl⟩ := h
    exact ⟨tr_alike x, BV.refl _, BV.refl _⟩
  case build e ps =>
    cases hh : (Option.map (C.take f) dst).getD false <;> simp only [hh, Bool.false_eq_true, if_false, if_true] at h <;> (repeat' (split at h)) <;> first
      | (cases h; done)
      | (simp only [Option.some.injEq, Prod.mk.injEq] at h; obtain ⟨rfl, rfl, rfl⟩ := h; exact ⟨fun _ => Alike.refl _, BV.refl _, BV.refl _⟩)
      | (simp only [Option.some.injEq, Prod.mk.injEq] at h; obtain ⟨rfl, rfl, rfl⟩ := h; exact ⟨trL_alike _ _, BV.refl _, BV.refl _⟩)
  case load t x =>
    split at h <;> first | (cases h; done) | skip
    · rename_i id off he
      split at h <;> first | (cases h; done) | skip
      rename_i b hb
      split at h <;> first | (cases h; done) | skip
      rename_i v0 hv0
      split at h
      · split at h <;> first | (cases h; done) | skip
        rename_i cs
        split at h <;> first | (cases h; done) | skip
        rename_i hck
        simp only [Option.some.injEq, Prod.mk.injEq] at h
        obtain ⟨rfl, rfl, rfl⟩ := h
        have h1 : ¬ ∃ vs, v0 = .tup vs := by
          rintro ⟨vs, rfl⟩
          unfold readAt at hv0
          split at hv0 <;> first | (cases hv0; done) | skip
          · split at hv0 <;> cases hv0
          · rename_i ha
            simp only [cellOk, ha] at hck
            cases hck
        have h2 : aggT C.P t = some false → ∀ xs, v0 ≠ .agg xs := by
          rintro ha xs rfl
          simp only [cellOk, ha] at hck
          cases hck
        have h3 := readAt_cells (P := C.P) hv0 h1 h2
        obtain ⟨k1, k2⟩ := BV.set (B := B) (b := .var cs) (b2 := .var (splice cs off (toView v0).cells)) hb h3
        exact ⟨fun _ => Alike.refl _, k1, k2⟩
      · simp only [Option.some.injEq, Prod.mk.injEq] at h
        obtain ⟨rfl, rfl, rfl⟩ := h
        exact ⟨fun _ => Alike.refl _, BV.refl _, BV.refl _⟩
    · split at h <;> first | (cases h; done) | skip
      simp only [Option.some.injEq, Prod.mk.injEq] at h
      obtain ⟨rfl, rfl, rfl⟩ := h
      exact ⟨fun _ => Alike.refl _, BV.refl _, BV.refl _⟩
  case extract x i =>
    split at h <;> first | (cases h; done) | skip
    rename_i s vs hs
    split at h <;> first | (cases h; done) | skip
    rename_i r hr
    split at h
    · simp only [Option.some.injEq, Prod.mk.injEq] at h
      obtain ⟨rfl, rfl, rfl⟩ := h
      refine ⟨fun t => ?_, BV.refl _, BV.refl _⟩
      rw [getS_set_eq]
      split
      · rename_i e
        obtain ⟨rfl, _⟩ := e
        rw [show getS sl s = .tup vs from hs]
        show VV.tup (vs.map viewV) = VV.tup ((vs.set i (viewV r)).map viewV)
        rw [List.map_set, viewV_idem]
        congr 1
        apply List.ext_getElem?
        intro j
        rw [List.getElem?_set]
        split
        · rename_i e
          subst e
          rw [List.getElem?_map, hr]
          simp
          exact (List.getElem?_eq_some_iff.1 hr).1
        · rfl
      · exact Alike.refl _
    · simp only [Option.some.injEq, Prod.mk.injEq] at h
      obtain ⟨rfl, rfl, rfl⟩ := h
      exact ⟨fun _ => Alike.refl _, BV.refl _, BV.refl _⟩
  case call c =>
    obtain ⟨cal, args, ts⟩ := c
    cases cal <;> try (cases h; done)
    rename_i b
    cases b <;> try (first | (cases h; done) | (cases hcls; done))
    dsimp only at h
    repeat' (split at h)
    all_goals first
      | (cases h; done)
      | contradiction
      | (simp only [Option.some.injEq, Prod.mk.injEq] at h; obtain ⟨rfl, rfl, rfl⟩ := h; exact ⟨tr_alike _, BV.refl _, BV.refl _⟩)
  all_goals (cases hcls)

theorem vop_alloc (hcls : cls C f o = 4) (h : vop C f o sl B = some (v, sl', B')) : sl' = sl ∧ BV B B' := by
  have hload : ∃ t, o.op = .alloc t := by
    unfold cls at hcls
    split at hcls <;> (repeat' (split at hcls)) <;> first | (cases hcls; done) | skip
    rename_i t hop
    exact ⟨_, hop⟩
  obtain ⟨t, ho⟩ := hload
  simp only [vop, ho] at h
  split at h <;> first | (cases h; done) | skip
  split at h <;> first | (cases h; done) | skip
  simp only [Option.some.injEq, Prod.mk.injEq] at h
  obtain ⟨_, rfl, rfl⟩ := h
  refine ⟨rfl, fun id b hb => ⟨b, ?_, rfl⟩⟩
  rw [List.getElem?_append_left (List.getElem?_eq_some_iff.1 hb).1]
  exact hb

theorem vstep_vop {K : Nat} {ops : Array Oper} (hnc : isCall o = false) (h : vstep C K f ops o sl B = some (sl', B')) :
    (sl' = putS sl o.dst (.tup []) ∧ B' = B) ∨ ∃ v sl1, vop C f o sl B = some (v, sl1, B') ∧ sl' = putS sl1 o.dst v := by
  unfold vstep at h
  split at h
  · cases h
  · simp only [Option.some.injEq, Prod.mk.injEq] at h
    exact .inl ⟨h.1.symm, h.2.symm⟩
  · split at h
    · rename_i hop
      unfold isCall at hnc
      rw [hop] at hnc
      cases hnc
    · split at h
      · cases h
      · rename_i v sl1 B1 hv
        simp only [Option.some.injEq, Prod.mk.injEq] at h
        obtain ⟨rfl, rfl⟩ := h
        exact .inr ⟨v, sl1, hv, rfl⟩

theorem cls_call (h : isCall o = true) : cls C f o = 0 ∨ cls C f o = 2 := by
  obtain ⟨dst, op, type, pos, after, guard⟩ := o
  cases op <;> simp only [isCall, Bool.false_eq_true] at h
  rename_i c
  obtain ⟨cal, args, ts⟩ := c
  cases cal <;> simp only [Bool.false_eq_true] at h
  rename_i x
  cases x <;> simp only [cls] <;> try exact .inr trivial
  split
  · exact .inl rfl
  · exact .inr rfl

theorem getS_put_ne {d : Option Tmp} (h : d ≠ some t) : getS (putS sl d v) t = getS sl t := by
  cases d with
  | none => rfl
  | some d => exact getS_set_ne fun e => h (by rw [e])

/-- what a step leaves of the slots that it does not write -/
theorem vstep_leaves {K : Nat} {ops : Array Oper} (h : vstep C K f ops o sl B = some (sl', B')) :
    (cls C f o = 2 ∨ ∀ t, o.dst ≠ some t → Alike (getS sl t) (getS sl' t)) ∧ ((cls C f o = 0 ∨ cls C f o = 1 ∨ cls C f o = 3) → BV B B' ∧ BV B' B) ∧ (cls C f o = 4 → BV B B') := by
  by_cases hr : cls C f o = 0 ∨ cls C f o = 1
  · obtain ⟨rfl, v, rfl, _⟩ := vstep_ro hr h
    exact ⟨.inr fun t ht => by rw [getS_put_ne ht]; exact Alike.refl _, fun _ => ⟨BV.refl _, BV.refl _⟩, fun _ => BV.refl _⟩
  · by_cases h2 : cls C f o = 2
    · exact ⟨.inl h2, fun hh => (by rcases hh with e | e | e <;> rw [h2] at e <;> cases e), fun e => (by rw [h2] at e; cases e)⟩
    · have hnc : isCall o = false := by
        cases hc : isCall o
        · rfl
        · rcases cls_call (C := C) (f := f) hc with e | e
          · exact absurd (.inl e) hr
          · exact absurd e h2
      rcases vstep_vop hnc h with ⟨rfl, rfl⟩ | ⟨v, sl1, hv, rfl⟩
      · exact ⟨.inr fun t ht => by rw [getS_put_ne ht]; exact Alike.refl _, fun _ => ⟨BV.refl _, BV.refl _⟩, fun _ => BV.refl _⟩
      · by_cases h3 : cls C f o = 3
        · obtain ⟨k1, k2, k3⟩ := vop_take h3 hv
          exact ⟨.inr fun t ht => by rw [getS_put_ne ht]; exact k1 t, fun _ => ⟨k2, k3⟩, fun e => by rw [h3] at e; cases e⟩
        · by_cases h4 : cls C f o = 4
          · obtain ⟨rfl, k⟩ := vop_alloc h4 hv
            exact ⟨.inr fun t ht => by rw [getS_put_ne ht]; exact Alike.refl _, fun e => (by rcases e with e | e | e <;> rw [h4] at e <;> cases e), fun _ => k⟩
          · exfalso
            have : cls C f o = 0 ∨ cls C f o = 1 ∨ cls C f o = 2 ∨ cls C f o = 3 ∨ cls C f o = 4 := by
              unfold cls
              split <;> (repeat' split) <;> simp
            rcases this with e | e | e | e | e
            · exact hr (.inl e)
            · exact hr (.inr e)
            · exact h2 e
            · exact h3 e
            · exact h4 e
end
end Go.Wv
namespace Go.Wv

/-! Any order that the edges let. -/
section
variable {C : Cfg} {f : FuncId} {x y : Oper} {sl sl1 sl2 : List VV} {B B1 B2 : List Blk} {K : Nat} {ops : Array Oper}

theorem freePair_spec (h : freePair C f ops x y = true) : x.apart ops y = true ∧
    (((cls C f y = 0 ∨ cls C f y = 1) ∧ (cls C f x = 2 → disj (x.looksAt ops) (y.looksAt ops) = true) ∧ (cls C f y = 1 → cls C f x = 0 ∨ cls C f x = 1 ∨ cls C f x = 3)) ∨
     ((cls C f x = 0 ∨ cls C f x = 1) ∧ (cls C f y = 2 → disj (x.looksAt ops) (y.looksAt ops) = true) ∧ (cls C f x = 1 → cls C f y = 3 ∨ cls C f y = 4))) := by
  unfold freePair at h
  rw [Bool.and_eq_true] at h
  refine ⟨h.1, ?_⟩
  have h2 := h.2
  split at h2 <;> first | (cases h2; done) | (simp_all; done)

theorem swap (hfp : freePair C f ops x y = true) (h1 : vstep C K f ops x sl B = some (sl1, B1)) (h2 : vstep C K f ops y sl1 B1 = some (sl2, B2)) :
    ∃ sl1' B1', vstep C K f ops y sl B = some (sl1', B1') ∧ vstep C K f ops x sl1' B1' = some (sl2, B2) := by
  obtain ⟨hap, hcl⟩ := freePair_spec hfp
  obtain ⟨a1, a2, a3⟩ := Oper.apart_spec hap
  have hxl := vstep_leaves h1
  rcases hcl with ⟨hy, hd, hb⟩ | ⟨hx, hd, hb⟩
  · obtain ⟨rfl, v, rfl, hun⟩ := vstep_ro hy h2
    have k1 := hun sl B (fun t ht => by
      have hdx : x.dst ≠ some t := fun e => a1 t e ht
      by_cases h2 : cls C f x = 2
      · have := List.all_eq_true.1 (hd h2)
        have htx : t ∉ x.looksAt ops := fun hm => by
          have := this t hm
          simp [ht] at this
        rw [vstep_keeps h1 htx hdx]
        exact Alike.refl _
      · exact (hxl.1.resolve_left h2 t hdx).symm) (fun e => by
      rcases hb e with e | e | e
      · exact (hxl.2.1 (.inl e)).2
      · exact (hxl.2.1 (.inr (.inl e))).2
      · exact (hxl.2.1 (.inr (.inr e))).2)
    refine ⟨_, _, k1, ?_⟩
    cases hdy : y.dst with
    | none => rw [show putS sl none v = sl from rfl]; exact h1
    | some d =>
      show vstep C K f ops x (sl.set d v) B = some (sl1.set d v, _)
      rw [vstep_set (a3 d hdy) (fun e => a2 d e hdy), h1]
      rfl
  · obtain ⟨rfl, u, rfl, hun⟩ := vstep_ro hx h1
    have key : ∃ q, vstep C K f ops y sl B1 = some (q, B2) ∧ sl2 = putS q x.dst u := by
      cases hdx : x.dst with
      | none => rw [hdx] at h2; exact ⟨sl2, h2, rfl⟩
      | some d =>
        rw [hdx] at h2
        rw [show putS sl (some d) u = sl.set d u from rfl, vstep_set (a1 d hdx) (fun e => a2 d hdx e)] at h2
        cases hq : vstep C K f ops y sl B1 with
        | none => rw [hq] at h2; cases h2
        | some q =>
          rw [hq] at h2
          simp only [Option.map_some, Option.some.injEq, Prod.mk.injEq] at h2
          exact ⟨q.1, by rw [← h2.2], h2.1.symm⟩
    obtain ⟨q, hq, rfl⟩ := key
    have hyl := vstep_leaves hq
    refine ⟨q, B2, hq, ?_⟩
    refine hun q B2 (fun t ht => ?_) (fun e => ?_)
    · have hdy : y.dst ≠ some t := fun e => a3 t e ht
      by_cases h2 : cls C f y = 2
      · have := List.all_eq_true.1 (hd h2)
        have hty : t ∉ y.looksAt ops := fun hm => by
          have := this t ht
          simp [hm] at this
        rw [vstep_keeps hq hty hdy]
        exact Alike.refl _
      · exact hyl.1.resolve_left h2 t hdy
    · rcases hb e with e | e
      · exact (hyl.2.1 (.inr (.inr e))).1
      · exact hyl.2.2 e

theorem tr_keeps {x : Operand} {t : Tmp} (h : x ≠ .tmp t) : getS (tr C sl x).2 t = getS sl t := by
  cases x with
  | tmp s =>
    have hs : s ≠ t := fun e => h (by rw [e])
    simp only [tr]
    split
    · exact getS_set_ne hs.symm
    · rfl
  | _ => rfl
theorem ptrNe_spec {v w : VV} (h : ptrNe v w = true) : ∃ p o q o', v = .ptr p o ∧ w = .ptr q o' ∧ p ≠ q := by
  unfold ptrNe at h
  split at h
  · exact ⟨_, _, _, _, rfl, rfl, by simpa using h⟩
  · cases h
theorem lsPair_spec {id i j : Nat} (h : lsPair C f id ops i j x y = true) : ∃ t a t' b w, x.op = .load t (.tmp a) ∧ y.op = .store t' (.tmp b) w ∧ x.apart ops y = true ∧ disj (x.looksAt ops) (y.looksAt ops) = true ∧ x.guard = none ∧ y.guard = none ∧ y.dst = none ∧
    (x.dst.map (C.take f)).getD false = false ∧ x.dst ≠ some a ∧ x.dst ≠ some b ∧ w ≠ .tmp b ∧ (a, b) ∈ C.dyn f id ∧ ∀ k o, ops[k]? = some o → i < k → k ≠ j → a ∉ o.looksAt ops ∧ b ∉ o.looksAt ops ∧ o.dst ≠ some a ∧ o.dst ≠ some b := by
  unfold lsPair at h
  split at h
  · rename_i t a t' b w hx hy
    simp only [Bool.and_eq_true, Option.isNone_iff_eq_none, Bool.not_eq_true', bne_iff_ne, ne_eq, List.contains_iff_mem] at h
    obtain ⟨⟨⟨⟨⟨⟨⟨⟨⟨⟨h1, h2⟩, h3⟩, h4⟩, h5⟩, h6⟩, h7⟩, h8⟩, h9⟩, h10⟩, h11⟩ := h
    have h9' : w ≠ .tmp b := by
      rintro rfl
      simp at h9
    refine ⟨t, a, t', b, w, hx, hy, h1, h2, h3, h4, h5, h6, h7, h8, h9', h10, fun k o ho hk hj => ?_⟩
    have := List.all_eq_true.1 h11 k (List.mem_range.2 (Array.getElem?_eq_some_iff.1 ho).1)
    rw [ho] at this
    simp only [Bool.or_eq_true, decide_eq_true_eq, beq_iff_eq, Bool.and_eq_true, Bool.not_eq_true', bne_iff_ne, ne_eq] at this
    rcases this with (h | h) | ⟨⟨⟨k1, k2⟩, k3⟩, k4⟩
    · omega
    · exact absurd h hj
    · refine ⟨?_, ?_, k3, k4⟩
      · intro hm; rw [List.contains_iff_mem.2 hm] at k1; cases k1
      · intro hm; rw [List.contains_iff_mem.2 hm] at k2; cases k2
  · cases h
/-- what is read in one block and what is written into another one -/
theorem swap_ls {id i j : Nat} (hp : lsPair C f id ops i j x y = true) (h1 : vstep C K f ops x sl B = some (sl1, B1)) (h2 : vstep C K f ops y sl1 B1 = some (sl2, B2))
    (hne : ∀ t a t' b w, x.op = .load t (.tmp a) → y.op = .store t' (.tmp b) w → ptrNe (getS sl2 a) (getS sl2 b) = true) :
    ∃ sl1' B1', vstep C K f ops y sl B = some (sl1', B1') ∧ vstep C K f ops x sl1' B1' = some (sl2, B2) := by
  obtain ⟨t, a, t', b, w, hx, hy, hap, hdj, gx, gy, dy, htk, da, db, hw, _, _⟩ := lsPair_spec hp
  obtain ⟨p, o1, q, o2, e1, e2, hpq⟩ := ptrNe_spec (hne _ _ _ _ _ hx hy)
  obtain ⟨a1, a2, a3⟩ := Oper.apart_spec hap
  have hxa : a ∈ x.looksAt ops := by
    unfold Oper.looksAt
    simp [hx, Op.operands]
  have hya : a ∉ y.looksAt ops := fun hm => by
    have := List.all_eq_true.1 hdj a hxa
    simp [hm] at this
  -- the reading alone
  obtain ⟨xd, xo, xt, xp, xaf, xg⟩ := x
  obtain ⟨yd, yo, yt, yp, yaf, yg⟩ := y
  simp only at hx hy gx gy dy htk da db
  subst hx hy gx gy dy
  have hl : ∀ (s : List VV) (L : List Blk), vstep C K f ops { dst := xd, op := .load t (.tmp a), type := xt, pos := xp, after := xaf, guard := none } s L = match getS s a with
      | .ptr id off => match L[id]? with
        | some bk => match readAt C.P t bk.cells off with
          | some v => some (putS s xd (toView v), L)
          | none => none
        | none => none
      | .elp cs off => match readAt C.P t cs off with
        | some v => some (putS s xd v, L)
        | none => none
      | _ => none := by
    intro s L
    simp only [vstep, gate, vop, ev]
    cases getS s a <;> simp only [htk, Bool.false_eq_true, if_false]
    · rename_i id off
      cases L[id]? with
      | none => rfl
      | some bk => simp only; cases readAt C.P t bk.cells off <;> rfl
    · rename_i cs off
      cases readAt C.P t cs off <;> rfl
  have hs : ∀ (s : List VV) (L : List Blk) r, vstep C K f ops { dst := none, op := .store t' (.tmp b) w, type := yt, pos := yp, after := yaf, guard := none } s L = some r → getS s b = .ptr q o2 → ∃ nb, r = ((tr C s w).2, L.set q nb) := by
    intro s L r h hb
    simp only [vstep, gate, vop, ev, hb] at h
    cases hq : L[q]? with
    | none => rw [hq] at h; cases h
    | some bk =>
      rw [hq] at h
      cases bk with
      | ro cs => cases h
      | var cs =>
        simp only at h
        split at h <;> first | (cases h; done) | skip
        rename_i v' sl' B' hv
        split at hv <;> first | (cases hv; done) | skip
        simp only [Option.some.injEq, Prod.mk.injEq] at hv h
        obtain ⟨rfl, rfl, rfl⟩ := hv
        exact ⟨_, h.symm⟩
  have hb1 : getS sl1 b = .ptr q o2 := by
    have : getS sl2 b = getS sl1 b := by
      simp only [vstep, gate, vop, ev] at h2
      cases hb : getS sl1 b <;> rw [hb] at h2 <;> simp only [reduceCtorEq] at h2
      rename_i id off
      split at h2 <;> first | (cases h2; done) | skip
      rename_i v' sl' B' hv
      split at hv <;> first | (cases hv; done) | skip
      split at hv <;> first | (cases hv; done) | skip
      simp only [Option.some.injEq, Prod.mk.injEq] at hv h2
      obtain ⟨rfl, rfl, rfl⟩ := hv
      rw [← h2.1, ← hb]
      exact tr_keeps hw
    rw [← this, e2]
  obtain ⟨nb, hr2⟩ := hs _ _ _ h2 hb1
  obtain ⟨rfl, rfl⟩ := Prod.mk.inj hr2
  have ha1 : getS sl1 a = .ptr p o1 := by rw [← e1]; exact (vstep_keeps h2 hya (by simp)).symm
  -- the slot of what is read
  have hset : sl1 = putS sl xd (getS sl1 (xd.getD 0)) ∨ xd = none := by
    cases xd with
    | none => exact .inr rfl
    | some d =>
      left
      rw [hl] at h1
      split at h1
      · split at h1 <;> first | (cases h1; done) | skip
        split at h1 <;> first | (cases h1; done) | skip
        simp only [Option.some.injEq, Prod.mk.injEq] at h1
        obtain ⟨rfl, rfl⟩ := h1
        show sl.set d _ = sl.set d (getS (sl.set d _) d)
        by_cases hd' : d < sl.length
        · congr 1; unfold getS; simp [List.getD_eq_getElem?_getD, hd']
        · rw [List.set_eq_of_length_le (Nat.le_of_not_lt hd'), List.set_eq_of_length_le (Nat.le_of_not_lt hd')]
      · split at h1 <;> first | (cases h1; done) | skip
        simp only [Option.some.injEq, Prod.mk.injEq] at h1
        obtain ⟨rfl, rfl⟩ := h1
        show sl.set d _ = sl.set d (getS (sl.set d _) d)
        by_cases hd' : d < sl.length
        · congr 1; unfold getS; simp [List.getD_eq_getElem?_getD, hd']
        · rw [List.set_eq_of_length_le (Nat.le_of_not_lt hd'), List.set_eq_of_length_le (Nat.le_of_not_lt hd')]
      · cases h1
  have ha0 : getS sl a = .ptr p o1 := by
    rw [← ha1]
    rcases hset with h | h
    · rw [h]; exact (getS_put_ne da).symm
    · subst h
      rw [hl] at h1
      split at h1
      · split at h1 <;> first | (cases h1; done) | skip
        split at h1 <;> first | (cases h1; done) | skip
        simp only [Option.some.injEq, Prod.mk.injEq] at h1
        rw [← h1.1]; rfl
      · split at h1 <;> first | (cases h1; done) | skip
        simp only [Option.some.injEq, Prod.mk.injEq] at h1
        rw [← h1.1]; rfl
      · cases h1
  rw [hl, ha0] at h1
  simp only at h1
  cases hbk : B[p]? with
  | none => rw [hbk] at h1; cases h1
  | some bk =>
    rw [hbk] at h1
    simp only at h1
    cases hrd : readAt C.P t bk.cells o1 with
    | none => rw [hrd] at h1; cases h1
    | some v =>
      rw [hrd] at h1
      simp only [Option.some.injEq, Prod.mk.injEq] at h1
      obtain ⟨rfl, rfl⟩ := h1
      have key : ∃ r0, vstep C K f ops { dst := none, op := .store t' (.tmp b) w, type := yt, pos := yp, after := yaf, guard := none } sl B = some (r0, B.set q nb) ∧ (tr C (putS sl xd (toView v)) w).2 = putS r0 xd (toView v) := by
        cases xd with
        | none => exact ⟨_, h2, rfl⟩
        | some d =>
          rw [show putS sl (some d) (toView v) = sl.set d (toView v) from rfl, vstep_set (a1 d rfl) (fun e => a2 d rfl e)] at h2
          cases hq : vstep C K f ops { dst := none, op := .store t' (.tmp b) w, type := yt, pos := yp, after := yaf, guard := none } sl B with
          | none => rw [hq] at h2; cases h2
          | some r =>
            rw [hq] at h2
            simp only [Option.map_some, Option.some.injEq, Prod.mk.injEq] at h2
            exact ⟨r.1, by rw [← h2.2], h2.1.symm⟩
      obtain ⟨r0, k1, k2⟩ := key
      refine ⟨r0, B.set q nb, k1, ?_⟩
      have ha' : getS r0 a = .ptr p o1 := by rw [vstep_keeps k1 hya (by simp)]; exact ha0
      rw [hl, ha']
      simp only
      rw [List.getElem?_set_ne (Ne.symm hpq), hbk]
      simp only [hrd, k2]

/-- operations by their places -/
def vrunI (C : Cfg) (K : Nat) (f : FuncId) (ops : Array Oper) : List Nat → List VV → List Blk → Option (List VV × List Blk)
  | [], sl, B => some (sl, B)
  | i :: rest, sl, B => match ops[i]? with
    | none => vrunI C K f ops rest sl B
    | some o => match vstep C K f ops o sl B with
      | none => none
      | some (sl', B') => vrunI C K f ops rest sl' B'

theorem vrun_range : ∀ (l : List Oper) (k : Nat) (sl : List VV) (B : List Blk), ops.toList.drop k = l → vrun C K f ops l sl B = vrunI C K f ops (List.range' k l.length) sl B
  | [], k, sl, B, _ => rfl
  | o :: l, k, sl, B, h => by
    have ho : ops[k]? = some o := by
      have : (ops.toList.drop k)[0]? = some o := by rw [h]; rfl
      rw [List.getElem?_drop] at this
      simpa using this
    simp only [List.length_cons, List.range'_succ, vrun, vrunI, ho]
    cases vstep C K f ops o sl B with
    | none => rfl
    | some p => exact vrun_range l (k + 1) p.1 p.2 (by rw [← List.tail_drop, h]; rfl)

theorem vrun_all {sl : List VV} {B : List Blk} : vrun C K f ops ops.toList sl B = vrunI C K f ops (List.range ops.size) sl B := by
  rw [vrun_range ops.toList 0 sl B rfl, List.range_eq_range']
  simp
end

section
variable {C : Cfg} {Pr : Nat → Prop} {f : FuncId} {K : Nat} {ops : Array Oper} {Q : Exit → Act → World → Prop}

/-- what is known behind some code: e is how it was left -/
def Done (C : Cfg) (Pr : Nat → Prop) (n : Nat) (g : G) (w : World) (ds : List Deferred) (sl' : List VV) (B' : List Blk) (a' : Act) (w' : World) : Prop :=
  a'.defers = ds ∧ ∃ g', Ext Pr n g w g' w' ∧ Inv Pr g' sl' B' a'.tmps.toList w'

theorem runI_ok (hC : CfgOk C) (hc : ∀ gf vs B r B', vcall C K gf vs B = some (r, B') → CallOk C gf vs B r B') : ∀ (l : List Nat) {g : G} {sl : List VV} {B : List Blk} {a : Act} {w : World} {sl' : List VV} {B' : List Blk},
    GlobW C Pr g w → Inv Pr g sl B a.tmps.toList w → vrunI C K f ops l sl B = some (sl', B') → (∀ a' w', Done C Pr B.length g w a.defers sl' B' a' w' → Q .normal a' w') → wpOps C.P ops Q l a w
  | [], g, sl, B, a, w, sl', B', hg, hi, h, hq => by
    simp only [vrunI, Option.some.injEq, Prod.mk.injEq] at h
    obtain ⟨rfl, rfl⟩ := h
    exact hq a w ⟨rfl, g, Ext.refl _ _ _ _, hi⟩
  | i :: l, g, sl, B, a, w, sl', B', hg, hi, h, hq => by
    unfold vrunI at h
    simp only [wpOps]
    cases ho : ops[i]? with
    | none => rw [ho] at h; exact runI_ok hC hc l hg hi h hq
    | some o =>
      rw [ho] at h
      simp only at h ⊢
      split at h <;> first | (cases h; done) | skip
      rename_i sl1 B1 hs
      have hl : B.length ≤ B1.length := vstep_len (fun _ _ _ _ _ => vcall_len) hs
      have := step_ok hC hc hg hi hs (next := wpOps C.P ops Q l) (Q := Q) fun a' w' g' hd he hi' => runI_ok hC hc l (he.globW hg) hi' h fun a2 w2 ⟨d2, g2, e2, i2⟩ => hq a2 w2 ⟨d2.trans hd, g2, he.trans e2 hl, i2⟩
      split
      · rename_i hw; rw [if_pos hw] at this; exact .inl this
      · rename_i hw; rw [if_neg hw] at this; exact this

/-- what a region's order may not turn: of two, the second hangs on the first -/
def Hangs (hs : List Nat) (i j : Nat) : Prop := (hs.getD j 0).testBit i = true

theorem drawOk_spec {id : Nat} (h : drawOk C f id ops = true) : ∀ (i j : Nat) x y, i < j → ops[i]? = some x → ops[j]? = some y →
    (Hangs ((C.cut f id).getD []) i j → ∃ e ∈ y.after, Region.binds .any e = true ∧ (e.on = i ∨ (i < e.on ∧ Hangs ((C.cut f id).getD []) i e.on))) ∧ (¬ Hangs ((C.cut f id).getD []) i j → freePair C f ops x y = true ∨ lsPair C f id ops i j x y = true) := by
  intro i j x y hij hx hy
  unfold drawOk at h
  rw [Bool.and_eq_true] at h
  replace h := h.2
  have hj := (Array.getElem?_eq_some_iff.1 hy).1
  have h1 := List.all_eq_true.1 (List.all_eq_true.1 h j (List.mem_range.2 hj)) i (List.mem_range.2 hij)
  rw [hx, hy] at h1
  simp only at h1
  constructor
  · intro hh
    unfold Hangs at hh
    rw [if_pos hh] at h1
    obtain ⟨e, he, h2⟩ := Array.any_eq_true'.1 h1
    simp only [Bool.and_eq_true, Bool.or_eq_true, beq_iff_eq, decide_eq_true_eq] at h2
    exact ⟨e, he, h2.1, h2.2.imp (fun h => h) fun h => h⟩
  · intro hh
    unfold Hangs at hh
    rw [if_neg hh] at h1
    simpa using h1

theorem drawOk_back {id : Nat} (h : drawOk C f id ops = true) {j : Nat} {y : Oper} (hy : ops[j]? = some y) : ∀ e ∈ y.after, Region.binds .any e = true → e.on < j := by
  unfold drawOk at h
  rw [Bool.and_eq_true] at h
  have hj := (Array.getElem?_eq_some_iff.1 hy).1
  have h1 := List.all_eq_true.1 h.1 j (List.mem_range.2 hj)
  rw [hy] at h1
  simp only at h1
  intro e he hb
  have := Array.all_eq_true_iff_forall_mem.1 h1 e he
  rw [hb] at this
  simpa using this

theorem vrunI_keeps {t : Tmp} : ∀ (L : List Nat) {sl : List VV} {B : List Blk} {r : List VV × List Blk}, vrunI C K f ops L sl B = some r → (∀ k ∈ L, ∀ o, ops[k]? = some o → t ∉ o.looksAt ops ∧ o.dst ≠ some t) → getS r.1 t = getS sl t
  | [], sl, B, r, h, _ => by
    simp only [vrunI, Option.some.injEq] at h
    rw [← h]
  | k :: L, sl, B, r, h, hk => by
    unfold vrunI at h
    cases ho : ops[k]? with
    | none => rw [ho] at h; exact vrunI_keeps L h fun k' h' => hk k' (List.mem_cons_of_mem _ h')
    | some o =>
      rw [ho] at h
      simp only at h
      split at h <;> first | (cases h; done) | skip
      rename_i sl1 B1 h1
      obtain ⟨k1, k2⟩ := hk k (by simp) o ho
      rw [vrunI_keeps L h fun k' h' => hk k' (List.mem_cons_of_mem _ h')]
      exact vstep_keeps h1 k1 k2
/-- one operation is moved ahead -/
theorem bubble {i id : Nat} {o : Oper} (ho : ops[i]? = some o) : ∀ (M : List Nat) {sl : List VV} {B : List Blk} {r : List VV × List Blk}, i ∈ M → M.Pairwise (· < ·) → dynAll (C.dyn f id) r.1 = true →
    (∀ m ∈ M, m < i → ∃ x, ops[m]? = some x ∧ (freePair C f ops x o = true ∨ lsPair C f id ops m i x o = true)) → vrunI C K f ops M sl B = some r →
    ∃ sl1 B1, vstep C K f ops o sl B = some (sl1, B1) ∧ vrunI C K f ops (M.erase i) sl1 B1 = some r
  | [], _, _, _, hm, _, _, _, _ => by cases hm
  | m :: M, sl, B, r, hm, hs, hdy, hfp, h => by
    rw [List.pairwise_cons] at hs
    by_cases e : m = i
    · subst e
      unfold vrunI at h
      rw [ho] at h
      simp only at h
      split at h <;> first | (cases h; done) | skip
      rename_i sl1 B1 h1
      exact ⟨sl1, B1, h1, by rw [List.erase_cons_head]; exact h⟩
    · have hiM : i ∈ M := by
        rcases List.mem_cons.1 hm with e' | e'
        · exact absurd e'.symm e
        · exact e'
      obtain ⟨x, hx, hf⟩ := hfp m (by simp) (hs.1 i hiM)
      unfold vrunI at h
      rw [hx] at h
      simp only at h
      split at h <;> first | (cases h; done) | skip
      rename_i sl1 B1 h1
      obtain ⟨sl2, B2, h2, h3⟩ := bubble ho M hiM hs.2 hdy (fun m' hm' => hfp m' (List.mem_cons_of_mem _ hm')) h
      have hsw : ∃ sl1' B1', vstep C K f ops o sl B = some (sl1', B1') ∧ vstep C K f ops x sl1' B1' = some (sl2, B2) := by
        rcases hf with hf | hf
        · exact swap hf h1 h2
        · refine swap_ls hf h1 h2 fun t a t' b w ex ey => ?_
          obtain ⟨t0, a0, t0', b0, w0, ex0, ey0, _, _, _, _, _, _, _, _, _, hmem, hrest⟩ := lsPair_spec hf
          rw [ex0] at ex
          rw [ey0] at ey
          injection ex with _ ea
          injection ey with _ eb _
          injection ea with ea
          injection eb with eb
          subst ea eb
          have hall := List.all_eq_true.1 hdy (a0, b0) hmem
          have hnd : M.Nodup := hs.2.imp fun h => Nat.ne_of_lt h
          have hk : ∀ k ∈ M.erase i, ∀ o', ops[k]? = some o' → a0 ∉ o'.looksAt ops ∧ b0 ∉ o'.looksAt ops ∧ o'.dst ≠ some a0 ∧ o'.dst ≠ some b0 := fun k hk o' ho' => by
            obtain ⟨q1, q2⟩ := hnd.mem_erase_iff.1 hk
            exact hrest k o' ho' (hs.1 k q2) q1
          rw [vrunI_keeps _ h3 fun k hk' o' ho' => ⟨(hk k hk' o' ho').1, (hk k hk' o' ho').2.2.1⟩, vrunI_keeps _ h3 fun k hk' o' ho' => ⟨(hk k hk' o' ho').2.1, (hk k hk' o' ho').2.2.2⟩] at hall
          exact hall
      obtain ⟨sl1', B1', k1, k2⟩ := hsw
      refine ⟨sl1', B1', k1, ?_⟩
      rw [List.erase_cons_tail (by simpa using e)]
      unfold vrunI
      rw [hx]
      simp only [k2]
      exact h3

/-- Any order that the edges let. -/
theorem any_ok (hC : CfgOk C) (hc : ∀ gf vs B r B', vcall C K gf vs B = some (r, B') → CallOk C gf vs B r B') {id : Nat} (hd : drawOk C f id ops = true) : ∀ (n : Nat) (listed : Array Bool) (M : List Nat) {g : G} {sl : List VV} {B : List Blk} {a : Act} {w : World} {sl' : List VV} {B' : List Blk},
    M.length = n → M.Pairwise (· < ·) → (∀ j, j ∈ M ↔ (j < ops.size ∧ listed.getD j true = false)) → listed.size = ops.size →
    (∀ j, listed.getD j false = true → ∀ i, i < j → Hangs ((C.cut f id).getD []) i j → listed.getD i false = true) →
    dynAll (C.dyn f id) sl' = true → GlobW C Pr g w → Inv Pr g sl B a.tmps.toList w → vrunI C K f ops M sl B = some (sl', B') → (∀ a' w', Done C Pr B.length g w a.defers sl' B' a' w' → Q .normal a' w') → wpAny C.P .any ops Q n listed a w
  | 0, listed, M, g, sl, B, a, w, sl', B', hl, hs, hM, hsz, hcl, hdy, hg, hi, h, hq => by
    have hnil : M = [] := List.length_eq_zero_iff.1 hl
    subst hnil
    simp only [vrunI, Option.some.injEq, Prod.mk.injEq] at h
    obtain ⟨rfl, rfl⟩ := h
    refine ⟨?_, hq a w ⟨rfl, g, Ext.refl _ _ _ _, hi⟩⟩
    refine List.eq_nil_iff_forall_not_mem.2 fun j hj => ?_
    obtain ⟨h0, o, ho, _⟩ := mem_ready.1 hj
    exact absurd ((hM j).2 ⟨(Array.getElem?_eq_some_iff.1 ho).1, h0⟩) (by simp)
  | n + 1, listed, M, g, sl, B, a, w, sl', B', hl, hs, hM, hsz, hcl, hdy, hg, hi, h, hq => by
    refine ⟨fun hnil => ?_, fun i hi' => ?_⟩
    · exfalso
      cases M with
      | nil => simp at hl
      | cons m M =>
        have hm := (hM m).1 (by simp)
        obtain ⟨o, ho⟩ : ∃ o, ops[m]? = some o := ⟨_, Array.getElem?_eq_getElem hm.1⟩
        have : m ∈ Region.ready .any ops listed := mem_ready.2 ⟨hm.2, o, ho, fun e he hb => by
          have hlt := drawOk_back hd ho e he hb
          cases hx : listed.getD e.on false with
          | true => rfl
          | false =>
            exfalso
            have hx' : listed.getD e.on true = false := by
              have hes : e.on < listed.size := by rw [hsz]; omega
              simp only [Array.getD_eq_getD_getElem?, Array.getElem?_eq_getElem hes, Option.getD_some] at hx ⊢
              exact hx
            have hmem := (hM e.on).2 ⟨by omega, hx'⟩
            rcases List.mem_cons.1 hmem with e' | e'
            · omega
            · have := (List.pairwise_cons.1 hs).1 _ e'
              omega⟩
        rw [hnil] at this
        cases this
    · obtain ⟨h0, o, ho, hedges⟩ := mem_ready.1 hi'
      have hisz := (Array.getElem?_eq_some_iff.1 ho).1
      have hiM := (hM i).2 ⟨hisz, h0⟩
      have hnd : M.Nodup := hs.imp fun h => Nat.ne_of_lt h
      have hunl : ∀ {j : Nat}, listed.getD j true = false → listed.getD j false ≠ true := fun {j} h1 h2 => by
        cases hj : listed[j]? with
        | none => rw [Array.getD_eq_getD_getElem?, hj] at h1; cases h1
        | some b =>
          rw [Array.getD_eq_getD_getElem?, hj] at h1 h2
          simp only [Option.getD_some] at h1 h2
          rw [h1] at h2; cases h2
      have before : ∀ m, m < i → Hangs ((C.cut f id).getD []) m i → listed.getD m false = true := fun m hmi hh => by
        obtain ⟨x, hx⟩ : ∃ x, ops[m]? = some x := ⟨_, Array.getElem?_eq_getElem (by omega)⟩
        obtain ⟨e, he, hb, hor⟩ := (drawOk_spec hd m i x o hmi hx ho).1 hh
        have hle := hedges e he hb
        rcases hor with rfl | ⟨hlt, hh'⟩
        · exact hle
        · exact hcl e.on hle m hlt hh'
      obtain ⟨sl1, B1, hs1, hrest⟩ := bubble (C := C) (K := K) (f := f) (id := id) ho M hiM hs hdy (fun m hm hmi => by
        have hm' := (hM m).1 hm
        obtain ⟨x, hx⟩ : ∃ x, ops[m]? = some x := ⟨_, Array.getElem?_eq_getElem hm'.1⟩
        exact ⟨x, hx, (drawOk_spec hd m i x o hmi hx ho).2 fun hh => hunl hm'.2 (before m hmi hh)⟩) h
      have hlen : B.length ≤ B1.length := vstep_len (fun _ _ _ _ _ => vcall_len) hs1
      have hset : ∀ j d, j ≠ i → (listed.setIfInBounds i true).getD j d = listed.getD j d := fun j d hj => getD_set_ne d (Ne.symm hj)
      have hself : ∀ d, (listed.setIfInBounds i true).getD i d = true := fun d => by
        rw [Array.getD_eq_getD_getElem?, Array.getElem?_setIfInBounds_self_of_lt (by omega)]; rfl
      have next : ∀ a' w' g', a'.defers = a.defers → Ext Pr B.length g w g' w' → Inv Pr g' sl1 B1 a'.tmps.toList w' → wpAny C.P .any ops Q n (listed.setIfInBounds i true) a' w' := by
        intro a' w' g' hd' he' hi1
        refine any_ok hC hc hd n _ (M.erase i) (by rw [List.length_erase_of_mem hiM, hl]; rfl) (hs.sublist List.erase_sublist) (fun j => ?_) (by simpa using hsz) (fun j hj m hmj hh => ?_) hdy (he'.globW hg) hi1 hrest
          fun a2 w2 ⟨d2, g2, e2, i2⟩ => hq a2 w2 ⟨d2.trans hd', g2, he'.trans e2 hlen, i2⟩
        · rw [hnd.mem_erase_iff, hM j]
          by_cases e : j = i
          · subst e
            rw [hself]
            simp
          · rw [hset j true e]
            simp [e]
        · by_cases e : m = i
          · subst e; exact hself false
          · rw [hset m false e]
            by_cases e' : j = i
            · subst e'
              exact before m hmj hh
            · rw [hset j false e'] at hj
              exact hcl j hj m hmj hh
      unfold wpOp
      rw [ho]
      simp only
      have := step_ok hC hc hg hi hs1 (next := wpAny C.P .any ops Q n (listed.setIfInBounds i true)) (Q := Q) next
      split
      · rename_i hw; rw [if_pos hw] at this; exact .inl this
      · rename_i hw; rw [if_neg hw] at this; exact this
end
end Go.Wv
namespace Go.Wv

/-! The interpreter is right about the model. -/

def exitOf : Ex → Exit
  | .normal => .normal
  | .exit i => .exit i
  | .ret => .ret

section
variable {C : Cfg}

def CodeOk (C : Cfg) (k : Nat) : Prop := ∀ (f : FuncId) (c : Code) (sl : List VV) (B : List Blk) (e : Ex) (sl' : List VV) (B' : List Blk), vcode C k f c sl B = some (e, sl', B') →
  ∀ (Pr : Nat → Prop) (g : G) (a : Act) (w : World) (Q : Exit → Act → World → Prop), GlobW C Pr g w → Inv Pr g sl B a.tmps.toList w →
    (∀ a' w', Done C Pr B.length g w a.defers sl' B' a' w' → Q (exitOf e) a' w') → c.wp C.P Q a w
def LoopOk (C : Cfg) (k : Nat) : Prop := ∀ (f : FuncId) (b : Code) (ks : List (Nat × Bool)) (n : Nat) (sl : List VV) (B : List Blk) (e : Ex) (sl' : List VV) (B' : List Blk), vloop C k f b ks n sl B = some (e, sl', B') → n ≤ B.length →
  ∀ (Pr : Nat → Prop) (g : G) (a : Act) (w : World) (Q : Exit → Act → World → Prop), GlobW C Pr g w → Inv Pr g sl B a.tmps.toList w →
    (∀ a' w', Done C Pr n g w a.defers sl' B' a' w' → Q (exitOf e) a' w') → Code.rounds C.P b Q k a w
def CallsOk (C : Cfg) (k : Nat) : Prop := ∀ (f : FuncId) (vs : List VV) (B : List Blk) (r : VV) (B' : List Blk), vcall C k f vs B = some (r, B') → CallOk C f vs B r B'

theorem Inv.drawn {Pr : Nat → Prop} {g : G} {sl : List VV} {B : List Blk} {tm : List Value} {w : World} (hi : Inv Pr g sl B tm w) (n : Nat) : Inv Pr g sl B tm { w with drawn := n } := by
  have hcb : ∀ b, cntB b g { w with drawn := n } 0 B = cntB b g w 0 B := fun b => cntB_congr B 0 fun _ _ _ => rfl
  exact ⟨hi.rep, hi.ok, ⟨hi.sto.comm, hi.sto.var, hi.sto.ro, hi.sto.inj⟩, fun b => by rw [hcb]; exact hi.uniq b, fun b hb => ⟨(hi.prot b hb).1, by rw [hcb]; exact (hi.prot b hb).2.1, (hi.prot b hb).2.2⟩⟩

theorem code_step (hC : CfgOk C) {k : Nat} (ihc : CodeOk C k) (ihl : LoopOk C k) (ihk : CallsOk C k) : CodeOk C (k + 1) := by
  intro f c sl B e sl' B' h Pr g a w Q hg hi hq
  cases c <;> simp only [vcode, reduceCtorEq] at h
  case skip =>
    simp only [Option.some.injEq, Prod.mk.injEq] at h
    obtain ⟨rfl, rfl, rfl⟩ := h
    exact wp_skip (hq a w ⟨rfl, g, Ext.refl _ _ _ _, hi⟩)
  case ret =>
    simp only [Option.some.injEq, Prod.mk.injEq] at h
    obtain ⟨rfl, rfl, rfl⟩ := h
    exact wp_ret (hq a w ⟨rfl, g, Ext.refl _ _ _ _, hi⟩)
  case exit i =>
    simp only [Option.some.injEq, Prod.mk.injEq] at h
    obtain ⟨rfl, rfl, rfl⟩ := h
    exact wp_exit (hq a w ⟨rfl, g, Ext.refl _ _ _ _, hi⟩)
  case seq x y =>
    refine wp_seq ?_
    cases ha : vcode C k f x sl B with
    | none => rw [ha] at h; cases h
    | some p =>
      obtain ⟨e1, sl1, B1⟩ := p
      rw [ha] at h
      have hl := vcode_len ha
      refine ihc f x sl B e1 sl1 B1 ha Pr g a w _ hg hi fun a1 w1 ⟨d1, g1, x1, i1⟩ => ?_
      cases e1 with
      | normal =>
        simp only at h
        split at h <;> first | (cases h; done) | skip
        rename_i sl2 B2 hj
        obtain ⟨i1', hB⟩ := joinS_ok i1 hj
        subst hB
        exact ihc f y sl2 B2 e sl' B' h Pr g1 a1 w1 Q (x1.globW hg) i1' fun a2 w2 ⟨d2, g2, x2, i2⟩ => hq a2 w2 ⟨d2.trans d1, g2, x1.trans x2 hl, i2⟩
      | exit i =>
        simp only [Option.some.injEq, Prod.mk.injEq] at h
        obtain ⟨rfl, rfl, rfl⟩ := h
        exact hq a1 w1 ⟨d1, g1, x1, i1⟩
      | ret =>
        simp only [Option.some.injEq, Prod.mk.injEq] at h
        obtain ⟨rfl, rfl, rfl⟩ := h
        exact hq a1 w1 ⟨d1, g1, x1, i1⟩
  case cond x y z =>
    split at h <;> first | (cases h; done) | skip
    rename_i t ht
    have hx : a.eval x = .bool t := by rw [eval_evR]; exact ev_lit hg.glob hi ht
    refine wp_cond hx ?_
    cases t with
    | true => exact ihc f y sl B e sl' B' h Pr g a w Q hg hi hq
    | false => exact ihc f z sl B e sl' B' h Pr g a w Q hg hi hq
  case block i b =>
    refine wp_block ?_
    cases ha : vcode C k f b sl B with
    | none => rw [ha] at h; cases h
    | some p =>
      obtain ⟨e1, sl1, B1⟩ := p
      rw [ha] at h
      refine ihc f b sl B e1 sl1 B1 ha Pr g a w _ hg hi fun a1 w1 hd1 => ?_
      cases e1 with
      | exit j =>
        simp only at h
        by_cases hj : j = i
        · rw [if_pos hj] at h
          simp only [Option.some.injEq, Prod.mk.injEq] at h
          obtain ⟨rfl, rfl, rfl⟩ := h
          simp only [exitOf, Exit.inBlock, hj, if_true]
          exact hq a1 w1 hd1
        · rw [if_neg hj] at h
          simp only [Option.some.injEq, Prod.mk.injEq] at h
          obtain ⟨rfl, rfl, rfl⟩ := h
          simp only [exitOf, Exit.inBlock, hj, if_false]
          exact hq a1 w1 hd1
      | normal =>
        simp only [Option.some.injEq, Prod.mk.injEq] at h
        obtain ⟨rfl, rfl, rfl⟩ := h
        exact hq a1 w1 hd1
      | ret =>
        simp only [Option.some.injEq, Prod.mk.injEq] at h
        obtain ⟨rfl, rfl, rfl⟩ := h
        exact hq a1 w1 hd1
  case region i ops draw =>
    split at h <;> first | (cases h; done) | skip
    rename_i hd
    split at h <;> first | (cases h; done) | skip
    rename_i e1 sl1 B1 hvo
    split at h <;> first | (cases h; done) | skip
    rename_i hdy
    simp only [Option.some.injEq, Prod.mk.injEq] at h
    obtain ⟨rfl, rfl, rfl⟩ := h
    obtain ⟨rfl, hr⟩ := vops_run (Nat.le_refl k) hvo
    rw [vrun_all] at hr
    cases draw with
    | false => exact wp_region (runI_ok hC ihk _ hg hi hr hq)
    | true =>
      have hd : drawOk C f i ops = true := by simpa using hd
      refine wp_region_any hC.mixed ?_
      refine any_ok hC ihk hd ops.size _ (List.range ops.size) (by simp) List.pairwise_lt_range (fun j => ?_) (by simp) (fun j hj => ?_) hdy ⟨hg.glob, hg.kept, hg.fix⟩ (hi.drawn (w.drawn + 1)) hr fun a' w' ⟨d', g', x', i'⟩ => hq a' w' ⟨d', g', ⟨x'.comm, x'.prot, x'.size, x'.phi, x'.out⟩, i'⟩
      · rw [List.mem_range]
        constructor
        · intro hj
          refine ⟨hj, ?_⟩
          simp [Array.getD_eq_getD_getElem?, hj]
        · exact fun h => h.1
      · exfalso
        rw [Array.getD_eq_getD_getElem?, Array.getElem?_replicate] at hj
        split at hj <;> simp at hj
  case loop b =>
    split at h <;> first | (cases h; done) | skip
    rename_i ks hks
    split at h <;> first | (cases h; done) | skip
    rename_i sl1 B1 hn
    obtain ⟨i1, l1⟩ := norm_ok hi (Nat.le_refl _) hn
    exact wp_loop_rounds k (ihl f b ks B.length sl1 B1 e sl' B' h (by omega) Pr g a w Q hg i1 hq)

theorem loop_step {k : Nat} (ihc : CodeOk C k) (ihl : LoopOk C k) : LoopOk C (k + 1) := by
  intro f b ks n sl B e sl' B' h hn Pr g a w Q hg hi hq
  rw [rounds_succ]
  simp only [vloop] at h
  cases ha : vcode C k f b sl B with
  | none => rw [ha] at h; cases h
  | some p =>
    obtain ⟨e1, sl1, B1⟩ := p
    rw [ha] at h
    have hl := vcode_len ha
    refine ihc f b sl B e1 sl1 B1 ha Pr g a w _ hg hi fun a1 w1 ⟨d1, g1, x1, i1⟩ => ?_
    have x1' : Ext Pr n g w g1 w1 := ⟨x1.comm, x1.prot, x1.size, fun i hi => x1.phi i (by omega), x1.out⟩
    cases e1 with
    | normal =>
      simp only at h
      split at h <;> first | (cases h; done) | skip
      rename_i sl2 B2 hno
      obtain ⟨i2, l2⟩ := norm_ok i1 (by omega) hno
      exact ihl f b ks n sl2 B2 e sl' B' h (by omega) Pr g1 a1 w1 Q (x1.globW hg) i2 fun a2 w2 ⟨d2, g2, x2, i3⟩ => hq a2 w2 ⟨d2.trans d1, g2, x1'.trans x2 (Nat.le_refl n), i3⟩
    | exit i =>
      simp only [Option.some.injEq, Prod.mk.injEq] at h
      obtain ⟨rfl, rfl, rfl⟩ := h
      exact hq a1 w1 ⟨d1, g1, x1', i1⟩
    | ret =>
      simp only [Option.some.injEq, Prod.mk.injEq] at h
      obtain ⟨rfl, rfl, rfl⟩ := h
      exact hq a1 w1 ⟨d1, g1, x1', i1⟩

theorem cntS_undef {b : Nat} : ∀ n : Nat, cntS b (List.replicate n (.tup [])) (List.replicate n undef) = 0
  | 0 => rfl
  | n + 1 => by
    simp only [List.replicate_succ, cntS, cntS_undef n, Nat.add_zero]
    exact cnt_zero rfl

theorem call_step (hC : CfgOk C) {k : Nat} (ihc : CodeOk C k) : CallsOk C (k + 1) := by
  intro f vs B r B' h
  simp only [vcall] at h
  split at h
  · rename_i e he
    split at h <;> first | (cases h; done) | skip
    rename_i v hv
    simp only [Option.some.injEq, Prod.mk.injEq] at h
    obtain ⟨rfl, rfl⟩ := h
    exact hC.ext f e vs v B he hv
  · split at h <;> first | (cases h; done) | skip
    rename_i fn hf
    split at h <;> first | (cases h; done) | skip
    rename_i c hb
    intro Pr g us w hg hi
    have hrun : (callFunc f us.toArray).run C.P w = .ok (.enter f us.toArray) w := by
      have h1 : fn.name ≠ "runtime.NumGoroutine" := by simpa using hC.ng f fn hf
      simp [callFunc, hf, h1, hb]
    rw [hrun]
    show Calls _ _ _ _ _
    refine calls_of_wp hf hb ?_
    have hl := hi.rep.length
    cases hcode : vcode C k f c (vs ++ List.replicate (fn.ntmps - vs.length) (.tup [])) B with
    | none => rw [hcode] at h; cases h
    | some p =>
      obtain ⟨e, sl1, B1⟩ := p
      rw [hcode] at h
      have hlen := vcode_len hcode
      have hi0 : Inv Pr g (vs ++ List.replicate (fn.ntmps - vs.length) (.tup [])) B (us.toArray ++ Array.replicate (fn.ntmps - us.toArray.size) undef).toList w := by
        have e1 : (us.toArray ++ Array.replicate (fn.ntmps - us.toArray.size) undef).toList = us ++ List.replicate (fn.ntmps - vs.length) undef := by simp [hl]
        rw [e1]
        refine hi.change (hi.rep.append (All2.replicate (show Rep g (.tup []) undef from ⟨#[], rfl, .nil⟩) _)) ?_ fun b => ?_
        · rw [okRs_append, hi.ok]
          simp only [Bool.true_and, okRs]
          exact List.all_eq_true.2 fun x hx => by rw [List.eq_of_mem_replicate hx]; rfl
        · rw [cntS_append hl, cntS_undef]; omega
      refine ihc f c _ B e sl1 B1 hcode Pr g { tmps := us.toArray ++ Array.replicate (fn.ntmps - us.toArray.size) undef, defers := [] } w _ hg hi0 fun a1 w1 ⟨d1, g1, x1, i1⟩ => ?_
      have fin : (match resL C sl1 B1 fn.results.toList with
          | none => none
          | some vs => if C.raw f then some (tuple1 vs, B1) else
            match freezeR (C.resm f == .own) B1 vs with
            | none => none
            | some (vs', B'') => if okRs B.length vs' then some (tuple1 vs', B''.take B.length) else none : Option (VV × List Blk)) = some (r, B') →
          ∃ v, (results fn a1.tmps).run C.P w1 = .ok v w1 ∧ ∃ g', Ext Pr B.length g w g' w1 ∧ Inv Pr g' [r] B' [v] w1 := by
        intro h
        split at h <;> first | (cases h; done) | skip
        rename_i rs hrs
        obtain ⟨ur, r1, r2, r3⟩ := results_run (x1.globW hg).glob i1 hrs
        refine ⟨_, r1, ?_⟩
        split at h
        · simp only [Option.some.injEq, Prod.mk.injEq] at h
          obtain ⟨rfl, rfl⟩ := h
          exact ⟨g1, x1, tuple1_ok r3 r2⟩
        · split at h <;> first | (cases h; done) | skip
          rename_i rs' B2 hfz
          split at h <;> first | (cases h; done) | skip
          rename_i hok
          simp only [Option.some.injEq, Prod.mk.injEq] at h
          obtain ⟨rfl, rfl⟩ := h
          obtain ⟨g2, gr2, i2, v2⟩ := freezeR_ok (acc := []) (uacc := []) rfl (by simpa using r3) r2 hfz
          simp only [List.nil_append] at i2
          have hl2 := freezeR_len hfz
          exact ⟨g2, x1.trans (gr2.ext B.length w1) (Nat.le_refl _), tuple1_ok (i2.take B.length hok (by omega)) v2⟩
      cases e with
      | exit i => cases h
      | normal =>
        obtain ⟨v, hv, g', x', i'⟩ := fin h
        exact ⟨d1, v, hv, g', x', i'⟩
      | ret =>
        obtain ⟨v, hv, g', x', i'⟩ := fin h
        exact ⟨d1, v, hv, g', x', i'⟩

theorem all_ok (hC : CfgOk C) : ∀ k, CodeOk C k ∧ LoopOk C k ∧ CallsOk C k
  | 0 => ⟨fun _ _ _ _ _ _ _ h => (by rw [vcode] at h; cases h), fun _ _ _ _ _ _ _ _ _ h => (by rw [vloop] at h; cases h), fun _ _ _ _ _ h => (by rw [vcall] at h; cases h)⟩
  | k + 1 => let ⟨h1, h2, h3⟩ := all_ok hC k; ⟨code_step hC h1 h2 h3, loop_step h1 h2, call_step hC h1⟩

/-- What the interpreter says of a call holds of the model. -/
theorem vcall_sound (hC : CfgOk C) {k : Nat} {f : FuncId} {vs : List VV} {B B' : List Blk} {r : VV} (h : vcall C k f vs B = some (r, B')) : CallOk C f vs B r B' := (all_ok hC k).2.2 f vs B r B' h

theorem Vc_sound (hC : CfgOk C) {f : FuncId} {vs : List VV} {B : List Blk} {R : VV → List Blk → Prop} (h : Vc C f vs B R) : ∃ r B', R r B' ∧ CallOk C f vs B r B' := by
  obtain ⟨⟨r, B'⟩, hR, k, hk⟩ := h
  exact ⟨r, B', hR, vcall_sound hC (hk k (Nat.le_refl k))⟩
end
end Go.Wv
namespace Go.Wv

/-! From the interpreter to a law's statement. -/

theorem inv_start {g : G} {W : World} {vs : List VV} {us : List Value} (hs : Sto g [] W) (hr : All2 (Rep g) vs us) (hok : okRs 0 vs = true) (hno : vs.any isOwn = false) : Inv (fun b => b < W.heap.size) g vs [] us W := by
  have hz : ∀ b, cntS b vs us = 0 := fun b => by
    induction hr with
    | nil => rfl
    | cons _ _ ih =>
      simp only [okRs, List.all_cons, Bool.and_eq_true] at hok
      simp only [List.any_cons, Bool.or_eq_false_iff] at hno
      simp only [cntS, ih hok.2 hno.2, cnt_zero hno.1]
  exact ⟨hr, hok, hs, fun b => by rw [hz b]; simp [cntB], fun b hb => ⟨hb, by rw [hz b]; simp [cntB], fun id cs h => by simp at h⟩⟩

/-- the ghost of package-level variables alone -/
def gGlob (C : Cfg) : G := ⟨fun b => (C.glob b).map fun cs => ⟨cs, none⟩, fun _ => 0⟩

theorem sto_glob {C : Cfg} {W : World} (h : ∀ b cs, C.glob b = some cs → ∃ arr T fz, W.heap[b]? = some (.cells arr T fz) ∧ cs.length ≤ arr.size ∧ ∀ (j : Nat) c, cs[j]? = some c → ∃ u, arr[j]? = some u ∧ RepC (gGlob C) c u ∧ ownC c = false ∧ okC 0 c = true) :
    Sto (gGlob C) [] W ∧ GlobOk C (gGlob C) := by
  refine ⟨⟨fun b com hc => ?_, fun id cs h => by simp at h, fun id cs h => by simp at h, fun i j ci cj h => by simp at h⟩, fun i cs hc => ⟨⟨cs, none⟩, by simp [gGlob, hc], List.prefix_refl _, fun c hm => ?_⟩⟩
  · simp only [gGlob, Option.map_eq_some_iff] at hc
    obtain ⟨cs, hc, rfl⟩ := hc
    obtain ⟨arr, T, fz, h1, h2, h3⟩ := h b cs hc
    exact ⟨arr, T, fz, h1, h2, fun j c hj _ => h3 j c hj, fun _ _ h => by cases h⟩
  · obtain ⟨arr, T, fz, h1, h2, h3⟩ := h i cs hc
    obtain ⟨j, hj⟩ := List.getElem?_of_mem hm
    obtain ⟨u, _, hr, _⟩ := h3 j c hj
    exact RepC_ng hr

/-- the ghost of package-level variables, and of other blocks whose cells are told -/
def gMore (C : Cfg) (x : Nat → Option (List VV)) : G := ⟨fun b => match C.glob b with | some cs => some ⟨cs, none⟩ | none => (x b).map fun cs => ⟨cs, none⟩, fun _ => 0⟩
theorem gMore_glob {C : Cfg} {x : Nat → Option (List VV)} {b : Nat} {cs : List VV} (h : C.glob b = some cs) : (gMore C x).comm b = some ⟨cs, none⟩ := by simp only [gMore, h]
theorem gMore_more {C : Cfg} {x : Nat → Option (List VV)} {b : Nat} {cs : List VV} (h : C.glob b = none) (hx : x b = some cs) : (gMore C x).comm b = some ⟨cs, none⟩ := by simp only [gMore, h, hx, Option.map_some]
theorem sto_more {C : Cfg} {x : Nat → Option (List VV)} {W : World} (h : ∀ b cs, C.glob b = some cs → ∃ arr T fz, W.heap[b]? = some (.cells arr T fz) ∧ cs.length ≤ arr.size ∧ ∀ (j : Nat) c, cs[j]? = some c → ∃ u, arr[j]? = some u ∧ RepC (gMore C x) c u ∧ ownC c = false ∧ okC 0 c = true)
    (hx : ∀ b cs, x b = some cs → ∃ arr T fz, W.heap[b]? = some (.cells arr T fz) ∧ cs.length ≤ arr.size ∧ ∀ (j : Nat) c, cs[j]? = some c → c ≠ .gone → ∃ u, arr[j]? = some u ∧ RepC (gMore C x) c u ∧ ownC c = false ∧ okC 0 c = true) :
    Sto (gMore C x) [] W ∧ GlobOk C (gMore C x) := by
  refine ⟨⟨fun b com hc => ?_, fun id cs h => by simp at h, fun id cs h => by simp at h, fun i j ci cj h => by simp at h⟩, fun i cs hc => ⟨⟨cs, none⟩, gMore_glob hc, List.prefix_refl _, fun c hm => ?_⟩⟩
  · cases hg : C.glob b with
    | some cs =>
      rw [gMore_glob hg] at hc
      obtain rfl := Option.some.inj hc
      obtain ⟨arr, T, fz, h1, h2, h3⟩ := h b cs hg
      exact ⟨arr, T, fz, h1, h2, fun j c hj _ => h3 j c hj, fun _ _ h => by cases h⟩
    | none =>
      cases hxb : x b with
      | none => simp only [gMore, hg, hxb, Option.map_none] at hc; cases hc
      | some cs =>
        rw [gMore_more hg hxb] at hc
        obtain rfl := Option.some.inj hc
        obtain ⟨arr, T, fz, h1, h2, h3⟩ := hx b cs hxb
        exact ⟨arr, T, fz, h1, h2, h3, fun _ _ h => by cases h⟩
  · obtain ⟨arr, T, fz, h1, h2, h3⟩ := h i cs hc
    obtain ⟨j, hj⟩ := List.getElem?_of_mem hm
    obtain ⟨u, _, hr, _⟩ := h3 j c hj
    exact RepC_ng hr

theorem keptBut_same {W W' : World} (h1 : W'.os = W.os ∧ W'.output = W.output) (h2 : ∀ i : Nat, i < W.heap.size → W'.heap[i]? = W.heap[i]?) (may : MemPlace → Prop) : W.keptBut W' may := by
  refine ⟨h1.1, h1.2, fun i hi => ?_⟩
  rw [h2 i hi]
  cases W.heap[i]? with
  | none => rfl
  | some o => cases o <;> first | exact ⟨rfl, rfl, rfl, fun _ _ => rfl⟩ | exact .inr ⟨rfl, rfl⟩ | rfl

theorem Vc_calls {C : Cfg} (hC : CfgOk C) {f : FuncId} {fn : Func} {c : Code} (hf : C.P.funcs[f]? = some fn) (hb : fn.body = some c) {vs : List VV} {R : VV → List Blk → Prop} (h : Vc C f vs [] R) {g : G} {W : World} {us : List Value}
    (hg : GlobOk C g) (hx : FixOk C W) (hi : Inv (fun b => b < W.heap.size) g vs [] us W) :
    Calls C.P f us.toArray W fun e W' => ∃ u r B' g', e = .returned u ∧ R r B' ∧ Rep g' r u ∧ (W'.os = W.os ∧ W'.output = W.output) ∧ ∀ i : Nat, i < W.heap.size → W'.heap[i]? = W.heap[i]? := by
  obtain ⟨r, B', hR, hok⟩ := Vc_sound hC h
  have h1 := hok _ g us W ⟨hg, fun b arr hb => by obtain ⟨T, fz, hw⟩ := hx b arr hb; exact heap_lt hw, hx⟩ hi
  have hrun : (callFunc f us.toArray).run C.P W = .ok (.enter f us.toArray) W := by
    have h1 : fn.name ≠ "runtime.NumGoroutine" := by simpa using hC.ng f fn hf
    simp [callFunc, hf, h1, hb]
  rw [hrun] at h1
  refine Calls.mono (show Calls _ _ _ _ _ from h1) fun e W' he => ?_
  cases e with
  | returned u =>
    obtain ⟨g', hext, hinv⟩ := he
    exact ⟨u, r, B', g', rfl, hR, by cases hinv.rep with | cons h _ => exact h, hext.out, fun i hi => (hext.prot i hi).2⟩
  | panicked ch => exact he.elim
  | outgrown => exact he.elim

section
variable {H : Type} {enc : TypeId × Value → H} {P : Program}
/-- A row's demand where nothing has changed (no second reading of the results is asked). -/
theorem post_same {f : Func} {s : ChangeSpec} {apart fresh handsOn : Bool} {W W' : World} {args : Array Value} {v : Value} {ds gs : List (DataW H)} {before pa pv : List MemPlace}
    (hW : DataW.Whole enc P f.params.toList s.vars apart W args.toList ds gs before)
    (hres : ∀ (b : Nat) (sp : Nat → Bool) (hd : Bool), DataW.TrodAll enc P W' b sp hd f.resultTypes.toList (v.resultList f.resultTypes.size) (s.fn H (ds ++ gs)).results [])
    (hargs : ∀ sp : Nat → Bool, (∀ p ∈ before, sp p.block = true) → DataW.TrodAll enc P W' 0 sp true f.params.toList args.toList (s.fn H (ds ++ gs)).args pa)
    (hvars : ∀ sp : Nat → Bool, (∀ p ∈ before, sp p.block = true) → DataW.TrodVars enc P W' sp s.vars (s.fn H (ds ++ gs)).vars pv)
    (hps : before = pa ++ pv) (hk : W.keptBut W' (· ∈ before)) : s.post enc P f apart fresh handsOn false W args v W' := by
  have hold : ∀ p ∈ before, (fun b => decide (b < W.heap.size)) p.block = true := fun p hp => by simpa using hW.lt p hp
  refine ⟨ds, gs, before, [], pa, pv, hW, hres _ _ _, hargs _ hold, hvars _ hold, World.keptBut_mono (fun p hp => ⟨hp, ?_⟩) hk, fun h => by cases h⟩
  rw [hps, List.mem_append] at hp
  exact Or.inr hp
end

/-- An array of strings that reads as the table holds the table's strings. -/
theorem cells_of_strs {H : Type} {enc : TypeId × Value → H} {P : Program} {w : World} {base : Nat} {sp : Nat → Bool} {held : Bool} {fuel : Nat} {t e : TypeId} {n : Nat} {cs : List Value} {zs : List (List UInt8)} {p : List MemPlace}
    (ht : P.underlying t = some (.array n e)) (he : P.underlying e = some .string) (hce : P.cellsOf e = 1) (hct : P.cellsOf t = n)
    (h : DataW.trod enc P w base sp held fuel t cs = some (.agg (zs.map fun z => .lit (.string z)), p)) : cs = zs.map fun z => Value.string ⟨z.toArray⟩ := by
  cases fuel with
  | zero => simp [DataW.trod] at h
  | succ fuel =>
    simp only [DataW.trod, ht, hce, hct, Nat.mul_one] at h
    split at h
    · rename_i hl
      obtain ⟨xs, hm, hx⟩ := Option.map_eq_some_iff.1 h
      have hxs : xs.map (·.1) = zs.map fun z => (DataW.lit (.string z) : DataW H) := by
        have := congrArg Prod.fst hx
        simpa using this
      have hxl : xs.length = n := by simpa using Lib.mapM_length hm
      have hzl : zs.length = n := by
        have := congrArg List.length hxs
        simp at this
        omega
      apply List.ext_getElem?
      intro i
      by_cases hi : i < n
      · obtain ⟨b, hb, hf⟩ := Lib.mapM_at hm i i (by simp [hi])
        obtain ⟨z, hc, rfl, _⟩ := DataW.trod_string he hf
        have h1 : cs[i]? = some (.string z) := by
          have := congrArg (·[0]?) hc
          simpa [List.getElem?_take, List.getElem?_drop] using this
        have h2 : (xs.map (·.1))[i]? = some (DataW.lit (.string z.data.toList) : DataW H) := by simp [hb]
        rw [hxs] at h2
        simp only [List.getElem?_map, Option.map_eq_some_iff, DataW.lit.injEq, Lit.string.injEq] at h2
        obtain ⟨z', hz', rfl⟩ := h2
        simp [h1, hz']
      · rw [List.getElem?_eq_none (by omega), List.getElem?_eq_none (by simp; omega)]
    · cases h

/-- the literal cells of strings -/
theorem strs_cells {g : G} {zs : List (List UInt8)} {arr : Array Value} (h : arr.toList = zs.map fun z => Value.string ⟨z.toArray⟩) :
    (zs.map fun z => VV.lit (.string ⟨z.toArray⟩)).length ≤ arr.size ∧ ∀ (j : Nat) c, (zs.map fun z => VV.lit (.string ⟨z.toArray⟩))[j]? = some c → ∃ u, arr[j]? = some u ∧ RepC g c u ∧ ownC c = false ∧ okC 0 c = true := by
  refine ⟨by have := congrArg List.length h; simp at this; simp [this], fun j c hc => ?_⟩
  simp only [List.getElem?_map, Option.map_eq_some_iff] at hc
  obtain ⟨z, hz, rfl⟩ := hc
  refine ⟨.string ⟨z.toArray⟩, ?_, ⟨rfl, rfl⟩, rfl, rfl⟩
  rw [← Array.getElem?_toList, h, List.getElem?_map, hz]
  rfl
end Go.Wv
