/-
  A part of the proof: our library of the interpreter.
-/
import Derived.Test.YtilmjbljkkbakaaDoorS20
set_option linter.unusedSimpArgs false
set_option linter.unusedVariables false
set_option linter.unusedSectionVars false
set_option linter.unnecessarySimpa false
set_option linter.deprecated false
namespace Go.Wv

/-! Calls: what the caller keeps. -/
section
variable {C : Cfg} {Pr : Nat → Prop} {g g' : G} {sl sl' vs : List VV} {B B' : List Blk} {tm us : List Value} {w : World} {v : VV}

theorem Inv.frame (hl : vs.length = us.length) (hi : Inv Pr g (vs ++ sl) B (us ++ tm) w) : Inv (fun b => Pr b ∨ 0 < cntS b sl tm) g vs B us w := by
  obtain ⟨h1, h2⟩ := All2.split hl hi.rep
  have ho := hi.ok
  rw [okRs_append, Bool.and_eq_true] at ho
  have hu : ∀ b, cntS b vs us + cntS b sl tm + cntB b g w 0 B ≤ 1 := fun b => by have := hi.uniq b; rw [cntS_append hl] at this; exact this
  refine ⟨h1, ho.1, hi.sto, fun b => by have := hu b; omega, fun b hp => ?_⟩
  rcases hp with hp | hp
  · obtain ⟨p1, p2, p3⟩ := hi.prot b hp
    rw [cntS_append hl] at p2
    exact ⟨p1, by omega, p3⟩
  · obtain ⟨com, hc⟩ := cntS_known h2 hp
    refine ⟨hi.sto.lt hc, by have := hu b; omega, fun id cs hb e => ?_⟩
    have := (hi.sto.var id cs hb).2.1
    rw [e, hc] at this
    cases this

theorem Inv.unframe {g2 : G} {w2 : World} {r : VV} {ur : Value} {B2 : List Blk} (hl : vs.length = us.length) (hi : Inv Pr g (vs ++ sl) B (us ++ tm) w)
    (he : Ext (fun b => Pr b ∨ 0 < cntS b sl tm) B.length g w g2 w2) (hi2 : Inv (fun b => Pr b ∨ 0 < cntS b sl tm) g2 [r] B2 [ur] w2) (hB : B.length ≤ B2.length) (d : Option Tmp) :
    Inv Pr g2 (putS sl d r) B2 (putL tm d ur) w2 := by
  obtain ⟨h1, h2⟩ := All2.split hl hi.rep
  have ho := hi.ok
  rw [okRs_append, Bool.and_eq_true] at ho
  have hrr : Rep g2 r ur := by cases hi2.rep with | cons h _ => exact h
  have hro : okR B2.length r = true := by have := hi2.ok; simpa [okRs] using this
  have hsl : All2 (Rep g2) sl tm := All2_Rep_ext he.comm he.phi (fun b hb => (he.prot b (.inr hb)).1) ho.2 h2
  have hu2 : ∀ b, cnt b r ur + cntB b g2 w2 0 B2 ≤ 1 := fun b => by have := hi2.uniq b; rw [cntS_one] at this; exact this
  refine ⟨All2_put hsl hrr d, okRs_put (okRs_mono hB ho.2) hro d, hi2.sto, fun b => ?_, fun b hp => ?_⟩
  · have h3 := cntS_put (b := b) hsl.length r ur d
    have h4 := hu2 b
    by_cases hz : 0 < cntS b sl tm
    · obtain ⟨_, p2, _⟩ := hi2.prot b (.inr hz)
      rw [cntS_one] at p2
      have := hi.uniq b
      rw [cntS_append hl] at this
      omega
    · omega
  · obtain ⟨p1, p2, p3⟩ := hi2.prot b (.inl hp)
    rw [cntS_one] at p2
    have h3 := cntS_put (b := b) hsl.length r ur d
    have h4 := (hi.prot b hp).2.1
    rw [cntS_append hl] at h4
    exact ⟨p1, by omega, p3⟩

theorem cntB_known (hs : Sto g B w) {b : Nat} : ∀ {B' : List Blk} {k : Nat}, (∀ (i : Nat) x, B'[i]? = some x → B[k + i]? = some x) → 0 < cntB b g w k B' →
    ∃ com, g.comm b = some com
  | [], k, _, h => by simp [cntB] at h
  | x :: r, k, hsub, h => by
    rw [cntB_cons] at h
    by_cases hz : 0 < cntB b g w (k + 1) r
    · exact cntB_known hs (fun i y hy => by rw [show k + 1 + i = k + (i + 1) by omega]; exact hsub (i + 1) y (by simpa using hy)) hz
    · cases x with
      | ro cs => simp only [cntBlk] at h; omega
      | var cs =>
        obtain ⟨⟨arr, T, hh, hcs⟩, _, _⟩ := hs.var k cs (by simpa using hsub 0 _ rfl)
        simp only [cntBlk, cellsAt_of hh] at h
        exact cntL_known hcs (by omega)

/-- what a caller keeps beside a call that gets no block -/
def Kept (Pr : Nat → Prop) (g : G) (sl : List VV) (tm : List Value) (B : List Blk) (w : World) (b : Nat) : Prop :=
  Pr b ∨ 0 < cntS b sl tm + cntB b g w 0 B ∨ ∃ id cs, B[id]? = some (.var cs) ∧ g.phi id = b

theorem Inv.frame0 (hl : vs.length = us.length) (hi : Inv Pr g (vs ++ sl) B (us ++ tm) w) (hk : okRs 0 vs = true) : Inv (Kept Pr g sl tm B w) g vs [] us w := by
  obtain ⟨h1, h2⟩ := All2.split hl hi.rep
  have hu : ∀ b, cntS b vs us + cntS b sl tm + cntB b g w 0 B ≤ 1 := fun b => by have := hi.uniq b; rw [cntS_append hl] at this; exact this
  refine ⟨h1, hk, ⟨hi.sto.comm, fun id cs h => by simp at h, fun id cs h => by simp at h, fun i j ci cj h => by simp at h⟩, fun b => by have := hu b; simp only [cntB]; omega, fun b hp => ?_⟩
  have main : b < w.heap.size ∧ cntS b vs us = 0 := by
    rcases hp with hp | hp | ⟨id, cs, hb, rfl⟩
    · obtain ⟨p1, p2, p3⟩ := hi.prot b hp
      rw [cntS_append hl] at p2
      exact ⟨p1, by omega⟩
    · refine ⟨?_, by have := hu b; omega⟩
      by_cases hz : 0 < cntS b sl tm
      · obtain ⟨com, hc⟩ := cntS_known h2 hz
        exact hi.sto.lt hc
      · obtain ⟨com, hc⟩ := cntB_known hi.sto (B' := B) (k := 0) (fun i x hx => by simpa using hx) (show 0 < cntB b g w 0 B by omega)
        exact hi.sto.lt hc
    · refine ⟨hi.sto.phi_lt hb, ?_⟩
      rcases Nat.eq_zero_or_pos (cntS (g.phi id) vs us) with h | h
      · exact h
      · obtain ⟨com, hc⟩ := cntS_known h1 h
        rw [(hi.sto.var id cs hb).2.1] at hc
        cases hc
  exact ⟨main.1, by simp only [cntB]; omega, fun id cs h => by simp at h⟩

theorem Inv.unframe0 {g2 : G} {w2 : World} {r : VV} {ur : Value} (hl : vs.length = us.length) (hi : Inv Pr g (vs ++ sl) B (us ++ tm) w)
    (he : Ext (Kept Pr g sl tm B w) 0 g w g2 w2) (hi2 : Inv (Kept Pr g sl tm B w) g2 [r] [] [ur] w2) (d : Option Tmp) :
    Ext Pr B.length g w ⟨g2.comm, g.phi⟩ w2 ∧ Inv Pr ⟨g2.comm, g.phi⟩ (putS sl d r) B (putL tm d ur) w2 := by
  obtain ⟨h1, h2⟩ := All2.split hl hi.rep
  have ho := hi.ok
  rw [okRs_append, Bool.and_eq_true] at ho
  have hrr : Rep g2 r ur := by cases hi2.rep with | cons h _ => exact h
  have hro : okR 0 r = true := by have := hi2.ok; simpa [okRs] using this
  have hcomm : ∀ b com, g.comm b = some com → ∃ com', (⟨g2.comm, g.phi⟩ : G).comm b = some com' ∧ com.cs <+: com'.cs := he.comm
  have hsame2 : ∀ b com, g2.comm b = some com → ∃ com', (⟨g2.comm, g.phi⟩ : G).comm b = some com' ∧ com.cs <+: com'.cs := comm_same fun _ => rfl
  have hsl : All2 (Rep ⟨g2.comm, g.phi⟩) sl tm := All2_Rep_ext (n := B.length) hcomm (fun _ _ => rfl) (fun b hb => (he.prot b (.inr (.inl (by omega)))).1) ho.2 h2
  have hr3 : Rep ⟨g2.comm, g.phi⟩ r ur := Rep_ext (n := 0) hsame2 (fun i hi => absurd hi (Nat.not_lt_zero i)) (fun _ _ => rfl) hro hrr
  have hheap : ∀ (id : Nat) cs, B[id]? = some (.var cs) → w2.heap[g.phi id]? = w.heap[g.phi id]? ∧ g2.comm (g.phi id) = g.comm (g.phi id) := fun id cs hb =>
    let h := he.prot (g.phi id) (.inr (.inr ⟨id, cs, hb, rfl⟩)); ⟨h.2, h.1⟩
  have hcb : ∀ b, cntB b ⟨g2.comm, g.phi⟩ w2 0 B = cntB b g w 0 B := fun b => cntB_congr B 0 fun i cs hb => by
    simp only [cellsAt, Nat.zero_add, (hheap i cs hb).1]
  refine ⟨⟨hcomm, fun b hb => ⟨(he.prot b (.inl hb)).1, (he.prot b (.inl hb)).2⟩, he.size, fun _ _ => rfl, he.out⟩, ⟨All2_put hsl hr3 d, okRs_put ho.2 (okR_mono (Nat.zero_le _) hro) d, ⟨?_, ?_, ?_, hi.sto.inj⟩, fun b => ?_, fun b hp => ?_⟩⟩
  · intro b com hc
    obtain ⟨arr, T, fz, k1, k2, k3, k4⟩ := hi2.sto.comm b com hc
    exact ⟨arr, T, fz, k1, k2, comm_cells hsame2 k3, k4⟩
  · intro id cs hb
    obtain ⟨⟨arr, T, k1, k2⟩, k3, k4⟩ := hi.sto.var id cs hb
    obtain ⟨e1, e2⟩ := hheap id cs hb
    refine ⟨⟨arr, T, e1.trans k1, All2_RepC_ext (n := id + 1) hcomm (fun _ _ => rfl) (fun b hb' => ?_) k4 k2⟩, e2.trans k3, k4⟩
    refine (he.prot b (.inr (.inl ?_))).1
    have := cntB_get (b := b) (g := g) (w := w) B 0 id _ hb
    simp only [cntBlk, Nat.zero_add, cellsAt_of k1] at this
    omega
  · intro id cs hb
    obtain ⟨com, k1, k2⟩ := hi.sto.ro id cs hb
    obtain ⟨com', k3, k4⟩ := he.comm _ com k1
    exact ⟨com', k3, k2.trans k4⟩
  · rw [hcb]
    have h3 := cntS_put (b := b) hsl.length r ur d
    have h4 := hi2.uniq b
    rw [cntS_one] at h4
    have h5 := hi.uniq b
    rw [cntS_append hl] at h5
    by_cases hz : 0 < cntS b sl tm + cntB b g w 0 B
    · obtain ⟨_, p2, _⟩ := hi2.prot b (.inr (.inl hz))
      rw [cntS_one] at p2
      omega
    · omega
  · rw [hcb]
    obtain ⟨p1, p2, _⟩ := hi2.prot b (.inl hp)
    rw [cntS_one] at p2
    have h3 := cntS_put (b := b) hsl.length r ur d
    obtain ⟨_, q2, q3⟩ := hi.prot b hp
    rw [cntS_append hl] at q2
    exact ⟨p1, by omega, q3⟩

/-! one operation -/
def callUpon (P : Program) (R : Value → World → Prop) : Result Next → Prop
  | .ok (.value v) w' => R v w'
  | .ok (.enter f a) w' => Calls P f a w' fun
    | .returned v, w'' => R v w''
    | _, _ => False
  | .ok (.row row a) w' => Rows P row a w' R
  | _ => False

def CallOk (C : Cfg) (f : FuncId) (vs : List VV) (B : List Blk) (r : VV) (B' : List Blk) : Prop :=
  ∀ (Pr : Nat → Prop) (g : G) (us : List Value) (w : World), GlobOk C g → Inv Pr g vs B us w →
    callUpon C.P (fun u w' => ∃ g', Ext Pr B.length g w g' w' ∧ Inv Pr g' [r] B' [u] w') ((callFunc f us.toArray).run C.P w)

/-- what the interpreter is told is right -/
structure CfgOk (C : Cfg) : Prop where
  ng : ∀ (g : FuncId) (fn : Func), C.P.funcs[g]? = some fn → (fn.name == "runtime.NumGoroutine") = false
  mixed : C.P.follows .mixedOrders = true
  pure : ∀ g, C.pure g = true → C.raw g = false
  ext : ∀ g e vs v B, C.ext g = some e → e vs = some v → CallOk C g vs B v B

theorem callUpon_upon {P : Program} {R : Value → World → Prop} {o : Oper} {a : Act} {next : Act → World → Prop} {Q : Exit → Act → World → Prop} {x : Result Next} (h : callUpon P R x)
    (hn : ∀ v w', R v w' → next (a.put o.dst v) w') : o.upon P a next Q x := by
  unfold callUpon at h
  split at h
  · exact hn _ _ h
  · exact Calls.mono h fun e w'' he => by cases e <;> first | exact hn _ _ he | exact he.elim
  · exact Rows.mono h fun v w'' he => hn _ _ he
  · exact h.elim

theorem put_toList (a : Act) (d : Option Tmp) (u : Value) : (a.put d u).tmps.toList = putL a.tmps.toList d u := by
  cases d with
  | none => rfl
  | some i => simp only [Act.put, putL, Array.toList_setIfInBounds]
theorem put_defers (a : Act) (d : Option Tmp) (u : Value) : (a.put d u).defers = a.defers := by cases d <;> rfl

theorem caps_rep {caps : List VV} {us : List Value} (h : All2 (RepP g) caps us) : All2 (Rep g) caps us := h.mono fun v u _ hr => by cases v <;> first | exact hr | exact hr.elim
theorem caps_ok {caps : List VV} {n : Nat} {us : List Value} (hr : All2 (RepP g) caps us) (h : caps.all (okP n) = true) : okRs n caps = true := by
  induction hr with
  | nil => rfl
  | cons hr _ ih =>
    simp only [List.all_cons, Bool.and_eq_true] at h
    simp only [okRs, List.all_cons, Bool.and_eq_true]
    refine ⟨?_, ih h.2⟩
    rename_i v u _ _ _
    cases v <;> first | rfl | exact h.1 | exact hr.elim
theorem caps_cnt {caps : List VV} {us : List Value} {b : Nat} (h : All2 (RepP g) caps us) : cntS b caps us = 0 := by
  induction h with
  | nil => rfl
  | cons hr _ ih =>
    simp only [cntS, ih]
    rename_i v u _ _ _
    rw [cnt_zero]
    cases v <;> first | rfl | exact hr.elim

theorem callee_ok (hg : GlobOk C g) (hi : Inv Pr g sl B tm w) {x : Operand} {args : Array Operand} {ts : Array TypeId} {gf : FuncId} {as : List Operand} {caps : List VV}
    (h : callee C sl { callee := .value x, args, argTypes := ts } = some (gf, as, caps)) :
    as = args.toList ∧ ∃ cu : Array Value, evR tm x = .func (.func gf) #[] cu ∧ All2 (RepP g) caps cu.toList ∧ caps.all (okP B.length) = true := by
  have hr := ev_rep hg hi.rep x
  have ho := ev_ok (C := C) hi.ok x
  simp only [callee] at h
  split at h <;> try (cases h; done)
  · rename_i f' fa fb e
    split at h <;> first | (cases h; done) | skip
    rename_i hf
    simp only [Option.some.injEq, Prod.mk.injEq] at h
    obtain ⟨rfl, rfl, rfl⟩ := h
    rw [e] at hr
    simp only [Bool.and_eq_true, Array.isEmpty_iff] at hf
    obtain ⟨rfl, rfl⟩ := hf
    exact ⟨rfl, #[], hr.1, .nil, rfl⟩
  · rename_i f' first cps e
    split at h <;> first | (cases h; done) | skip
    rename_i hf
    simp only [Option.some.injEq, Prod.mk.injEq] at h
    obtain ⟨rfl, rfl, rfl⟩ := h
    rw [e] at hr ho
    obtain ⟨fa, cu, e1, e2, e3⟩ := hr
    have : first = [] := by simpa using hf
    subst this
    have : fa = #[] := by
      have := e2.length
      simp at this
      exact Array.eq_empty_of_size_eq_zero (by simpa using this.symm)
    subst this
    simp only [okR, okV, okC, Bool.and_eq_true] at ho
    exact ⟨rfl, cu, e1, e3, ho.2⟩

theorem call_run {P : Program} {a : Act} {o : Oper} {x : Operand} {args : Array Operand} {ts : Array TypeId} {gf : FuncId} {cu : Array Value} (ho : o.op = .call { callee := .value x, args, argTypes := ts })
    (hx : evR a.tmps.toList x = .func (.func gf) #[] cu) : (execOp a.eval o).run P w = (callFunc gf (args.toList.map (evR a.tmps.toList) ++ cu.toList).toArray).run P w := by
  have e : (args.map a.eval) ++ cu = (args.toList.map (evR a.tmps.toList) ++ cu.toList).toArray := by
    apply Array.ext'
    simp only [Array.toList_append, Array.toList_map]
    rw [List.map_congr_left fun y _ => eval_evR a y]
  simp only [execOp, ho, resolve, eval_evR, hx, Deferred.ofValue, Sem.run_bind, Sem.run_pure, Result.andThen_ok, invoke, Array.empty_append]
  rw [← e]

theorem vcall_nil {k : Nat} {gf : FuncId} {r : VV} (hr : C.raw gf = false) (h : vcall C k gf vs [] = some (r, B')) : B' = [] := by
  cases k with
  | zero => rw [vcall] at h; cases h
  | succ k =>
    simp only [vcall, hr] at h
    split at h
    · split at h
      · simp only [Option.some.injEq, Prod.mk.injEq] at h; exact h.2.symm
      · cases h
    · split at h
      · cases h
      · split at h
        · cases h
        · split at h
          · cases h
          · cases h
          · split at h
            · cases h
            · simp only [Bool.false_eq_true, if_false] at h
              split at h
              · cases h
              · split at h
                · simp only [Option.some.injEq, Prod.mk.injEq] at h
                  rw [← h.2]; simp
                · cases h

theorem step_ok {K : Nat} (hC : CfgOk C) (hc : ∀ gf vs B r B', vcall C K gf vs B = some (r, B') → CallOk C gf vs B r B') (hg : GlobOk C g) {a : Act} (hi : Inv Pr g sl B a.tmps.toList w) {f : FuncId} {ops : Array Oper} {o : Oper}
    (h : vstep C K f ops o sl B = some (sl', B')) {next : Act → World → Prop} {Q : Exit → Act → World → Prop}
    (hk : ∀ a' w' g', a'.defers = a.defers → Ext Pr B.length g w g' w' → Inv Pr g' sl' B' a'.tmps.toList w' → next a' w') :
    if Region.wanted o (yielded ops a.tmps) = true then o.wp C.P a w next Q else next (a.put o.dst undef) w := by
  unfold vstep at h
  cases hgt : gate ops sl o with
  | none => rw [hgt] at h; cases h
  | some b =>
    rw [hgt] at h
    have hw := gate_wanted hi.rep hgt
    cases b with
    | false =>
      simp only [Option.some.injEq, Prod.mk.injEq] at h
      obtain ⟨rfl, rfl⟩ := h
      rw [hw]
      simp only [Bool.false_eq_true, if_false]
      refine hk _ w g (put_defers a _ _) (Ext.refl _ _ _ _) ?_
      rw [put_toList]
      exact hi.put (v := .tup []) (show Rep g (.tup []) undef from ⟨#[], rfl, .nil⟩) rfl (fun _ => cnt_zero rfl) o.dst
    | true =>
      rw [hw]
      simp only [if_true] at h ⊢
      have plain : (match vop C f o sl B with
          | none => none
          | some (v, sl', B') => some (putS sl' o.dst v, B')) = some (sl', B') → o.wp C.P a w next Q := by
        intro h
        split at h <;> first | (cases h; done) | skip
        rename_i v sl1 B1 hv
        simp only [Option.some.injEq, Prod.mk.injEq] at h
        obtain ⟨rfl, rfl⟩ := h
        obtain ⟨nx, u, w', g', hrun, hnx, hext, hinv⟩ := vop_sound hg hi hv
        unfold Oper.wp
        rw [hrun]
        rcases hnx with rfl | ⟨rfl, rfl⟩
        · exact hk _ w' g' (put_defers a _ _) hext (by rw [put_toList]; exact hinv)
        · exact hk _ w' g' (put_defers a _ _) hext (by rw [put_toList]; exact hinv)
      by_cases hcall : isCall o = true
      · obtain ⟨dst, op, type, pos, after, guard⟩ := o
        cases op <;> simp only [isCall, Bool.false_eq_true] at hcall
        rename_i c
        obtain ⟨cal, args, ts⟩ := c
        cases cal <;> simp only [Bool.false_eq_true] at hcall
        rename_i x
        simp only at h
        cases hcal : callee C sl { callee := .value x, args, argTypes := ts } with
        | none => rw [hcal] at h; cases h
        | some p =>
          obtain ⟨gf, as, caps⟩ := p
          rw [hcal] at h
          simp only at h
          obtain ⟨rfl, cu, hx, hcr, hco⟩ := callee_ok hg hi hcal
          unfold Oper.wp
          rw [call_run rfl hx]
          have hlen : ∀ {vs : List VV}, vs.length = args.toList.length → (vs ++ caps).length = (args.toList.map (evR a.tmps.toList) ++ cu.toList).length := fun hl => by
            simp only [List.length_append, List.length_map, hl, hcr.length]
          by_cases hp : C.pure gf = true
          · simp only [hp, if_true] at h
            split at h <;> first | (cases h; done) | skip
            rename_i hok0
            simp only [Bool.and_eq_true] at hok0
            split at h <;> first | (cases h; done) | skip
            rename_i r B2 hv
            simp only [Option.some.injEq, Prod.mk.injEq] at h
            obtain ⟨rfl, rfl⟩ := h
            obtain ⟨hi1, hl1⟩ := pargs_ok hg (gg := gf) (xs := args.toList) (i := 0) (acc := []) (uacc := []) rfl hi
            simp only [List.nil_append] at hi1
            have hr1 := hi1.right (by simp [hl1])
            have hi2 := hi1.insert (by simp [hl1]) (caps_rep hcr) (caps_ok hcr hco) hr1.rep hr1.ok (fun b => by rw [caps_cnt hcr]; omega)
            have hnil := vcall_nil (hC.pure gf hp) hv
            subst hnil
            have hf := hi2.frame0 (hlen hl1) (by rw [okRs_append, hok0.1, hok0.2]; rfl)
            refine callUpon_upon (hc _ _ _ _ _ hv _ g _ w hg hf) fun u w' ⟨g2, he2, hi3⟩ => ?_
            obtain ⟨k1, k2⟩ := hi2.unframe0 (hlen hl1) he2 hi3 dst
            exact hk _ w' _ (put_defers a _ _) k1 (by rw [put_toList]; exact k2)
          · simp only [hp, Bool.false_eq_true, if_false] at h
            split at h <;> first | (cases h; done) | skip
            rename_i vs sl1 B1 hva
            split at h <;> first | (cases h; done) | skip
            rename_i r B2 hv
            simp only [Option.some.injEq, Prod.mk.injEq] at h
            obtain ⟨rfl, rfl⟩ := h
            obtain ⟨g1, gr1, hi1, hl1⟩ := vargs_ok (acc := []) (uacc := []) hg rfl hi hva
            simp only [List.nil_append] at hi1
            have hr1 := hi1.right (by simp [hl1])
            have hlb := vargs_len hva
            have hcr1 : All2 (RepP g1) caps cu.toList := All2_RepP (n := B.length) (fun i _ => gr1.phi i) hco hcr
            have hi2 := hi1.insert (by simp [hl1]) (caps_rep hcr1) (caps_ok hcr1 (by rw [hlb]; exact hco)) hr1.rep hr1.ok (fun b => by rw [caps_cnt hcr1]; omega)
            have hf := hi2.frame (hlen hl1)
            refine callUpon_upon (hc _ _ _ _ _ hv _ g1 _ w (gr1.glob hg) hf) fun u w' ⟨g2, he2, hi3⟩ => ?_
            have k2 := hi2.unframe (hlen hl1) he2 hi3 (vcall_len hv) dst
            refine hk _ w' g2 (put_defers a _ _) ?_ (by rw [put_toList]; exact k2)
            have he3 : Ext Pr B1.length g1 w g2 w' := ⟨he2.comm, fun b hb => he2.prot b (.inl hb), he2.size, he2.phi, he2.out⟩
            exact (gr1.ext B.length w).trans he3 (by omega)
      · obtain ⟨dst, op, type, pos, after, guard⟩ := o
        cases op <;> first | exact plain h | skip
        rename_i c
        obtain ⟨cal, args, ts⟩ := c
        cases cal <;> first | exact plain h | exact absurd rfl hcall
end
end Go.Wv
