/-
  A part of the proof: our library of the interpreter.
-/
import Derived.Test.YtilmjbljkkbakaaDoorS25
set_option linter.unusedSimpArgs false
set_option linter.unusedVariables false
set_option linter.unusedSectionVars false
set_option linter.unnecessarySimpa false
set_option linter.deprecated false
namespace Go.Wv

/-! Any order that the edges let. -/
section
variable {C : Cfg} {f : FuncId} {x y : Oper} {sl sl1 sl2 : List VV} {B B1 B2 : List Blk} {K : Nat} {ops : Array Oper}

theorem freePair_spec (h : freePair C f ops x y = true) : x.apart ops y = true ∧
    (((cls C f y = 0 ∨ cls C f y = 1) ∧ (cls C f x = 2 → disj (x.looksAt ops) (y.looksAt ops) = true) ∧ (cls C f y = 1 → cls C f x = 0 ∨ cls C f x = 1 ∨ cls C f x = 3)) ∨
     ((cls C f x = 0 ∨ cls C f x = 1) ∧ (cls C f y = 2 → disj (x.looksAt ops) (y.looksAt ops) = true) ∧ (cls C f x = 1 → cls C f y = 3 ∨ cls C f y = 4))) := by
  unfold freePair at h
  rw [Bool.and_eq_true] at h
  refine ⟨h.1, ?_⟩
  have h2 := h.2
  split at h2 <;> first | (cases h2; done) | (simp_all; done)

theorem swap (hfp : freePair C f ops x y = true) (h1 : vstep C K f ops x sl B = some (sl1, B1)) (h2 : vstep C K f ops y sl1 B1 = some (sl2, B2)) :
    ∃ sl1' B1', vstep C K f ops y sl B = some (sl1', B1') ∧ vstep C K f ops x sl1' B1' = some (sl2, B2) := by
  obtain ⟨hap, hcl⟩ := freePair_spec hfp
  obtain ⟨a1, a2, a3⟩ := Oper.apart_spec hap
  have hxl := vstep_leaves h1
  rcases hcl with ⟨hy, hd, hb⟩ | ⟨hx, hd, hb⟩
  · obtain ⟨rfl, v, rfl, hun⟩ := vstep_ro hy h2
    have k1 := hun sl B (fun t ht => by
      have hdx : x.dst ≠ some t := fun e => a1 t e ht
      by_cases h2 : cls C f x = 2
      · have := List.all_eq_true.1 (hd h2)
        have htx : t ∉ x.looksAt ops := fun hm => by
          have := this t hm
          simp [ht] at this
        rw [vstep_keeps h1 htx hdx]
        exact Alike.refl _
      · exact (hxl.1.resolve_left h2 t hdx).symm) (fun e => by
      rcases hb e with e | e | e
      · exact (hxl.2.1 (.inl e)).2
      · exact (hxl.2.1 (.inr (.inl e))).2
      · exact (hxl.2.1 (.inr (.inr e))).2)
    refine ⟨_, _, k1, ?_⟩
    cases hdy : y.dst with
    | none => rw [show putS sl none v = sl from rfl]; exact h1
    | some d =>
      show vstep C K f ops x (sl.set d v) B = some (sl1.set d v, _)
      rw [vstep_set (a3 d hdy) (fun e => a2 d e hdy), h1]
      rfl
  · obtain ⟨rfl, u, rfl, hun⟩ := vstep_ro hx h1
    have key : ∃ q, vstep C K f ops y sl B1 = some (q, B2) ∧ sl2 = putS q x.dst u := by
      cases hdx : x.dst with
      | none => rw [hdx] at h2; exact ⟨sl2, h2, rfl⟩
      | some d =>
        rw [hdx] at h2
        rw [show putS sl (some d) u = sl.set d u from rfl, vstep_set (a1 d hdx) (fun e => a2 d hdx e)] at h2
        cases hq : vstep C K f ops y sl B1 with
        | none => rw [hq] at h2; cases h2
        | some q =>
          rw [hq] at h2
          simp only [Option.map_some, Option.some.injEq, Prod.mk.injEq] at h2
          exact ⟨q.1, by rw [← h2.2], h2.1.symm⟩
    obtain ⟨q, hq, rfl⟩ := key
    have hyl := vstep_leaves hq
    refine ⟨q, B2, hq, ?_⟩
    refine hun q B2 (fun t ht => ?_) (fun e => ?_)
    · have hdy : y.dst ≠ some t := fun e => a3 t e ht
      by_cases h2 : cls C f y = 2
      · have := List.all_eq_true.1 (hd h2)
        have hty : t ∉ y.looksAt ops := fun hm => by
          have := this t ht
          simp [hm] at this
        rw [vstep_keeps hq hty hdy]
        exact Alike.refl _
      · exact hyl.1.resolve_left h2 t hdy
    · rcases hb e with e | e
      · exact (hyl.2.1 (.inr (.inr e))).1
      · exact hyl.2.2 e

/-- operations by their places -/
def vrunI (C : Cfg) (K : Nat) (f : FuncId) (ops : Array Oper) : List Nat → List VV → List Blk → Option (List VV × List Blk)
  | [], sl, B => some (sl, B)
  | i :: rest, sl, B => match ops[i]? with
    | none => vrunI C K f ops rest sl B
    | some o => match vstep C K f ops o sl B with
      | none => none
      | some (sl', B') => vrunI C K f ops rest sl' B'

theorem vrun_range : ∀ (l : List Oper) (k : Nat) (sl : List VV) (B : List Blk), ops.toList.drop k = l → vrun C K f ops l sl B = vrunI C K f ops (List.range' k l.length) sl B
  | [], k, sl, B, _ => rfl
  | o :: l, k, sl, B, h => by
    have ho : ops[k]? = some o := by
      have : (ops.toList.drop k)[0]? = some o := by rw [h]; rfl
      rw [List.getElem?_drop] at this
      simpa using this
    simp only [List.length_cons, List.range'_succ, vrun, vrunI, ho]
    cases vstep C K f ops o sl B with
    | none => rfl
    | some p => exact vrun_range l (k + 1) p.1 p.2 (by rw [← List.tail_drop, h]; rfl)

theorem vrun_all {sl : List VV} {B : List Blk} : vrun C K f ops ops.toList sl B = vrunI C K f ops (List.range ops.size) sl B := by
  rw [vrun_range ops.toList 0 sl B rfl, List.range_eq_range']
  simp
end

section
variable {C : Cfg} {Pr : Nat → Prop} {f : FuncId} {K : Nat} {ops : Array Oper} {Q : Exit → Act → World → Prop}

/-- what is known behind some code: e is how it was left -/
def Done (C : Cfg) (Pr : Nat → Prop) (n : Nat) (g : G) (w : World) (ds : List Deferred) (sl' : List VV) (B' : List Blk) (a' : Act) (w' : World) : Prop :=
  a'.defers = ds ∧ ∃ g', Ext Pr n g w g' w' ∧ Inv Pr g' sl' B' a'.tmps.toList w'

theorem runI_ok (hC : CfgOk C) (hc : ∀ gf vs B r B', vcall C K gf vs B = some (r, B') → CallOk C gf vs B r B') : ∀ (l : List Nat) {g : G} {sl : List VV} {B : List Blk} {a : Act} {w : World} {sl' : List VV} {B' : List Blk},
    GlobOk C g → Inv Pr g sl B a.tmps.toList w → vrunI C K f ops l sl B = some (sl', B') → (∀ a' w', Done C Pr B.length g w a.defers sl' B' a' w' → Q .normal a' w') → wpOps C.P ops Q l a w
  | [], g, sl, B, a, w, sl', B', hg, hi, h, hq => by
    simp only [vrunI, Option.some.injEq, Prod.mk.injEq] at h
    obtain ⟨rfl, rfl⟩ := h
    exact hq a w ⟨rfl, g, Ext.refl _ _ _ _, hi⟩
  | i :: l, g, sl, B, a, w, sl', B', hg, hi, h, hq => by
    unfold vrunI at h
    simp only [wpOps]
    cases ho : ops[i]? with
    | none => rw [ho] at h; exact runI_ok hC hc l hg hi h hq
    | some o =>
      rw [ho] at h
      simp only at h ⊢
      split at h <;> first | (cases h; done) | skip
      rename_i sl1 B1 hs
      have hl : B.length ≤ B1.length := vstep_len (fun _ _ _ _ _ => vcall_len) hs
      have := step_ok hC hc hg hi hs (next := wpOps C.P ops Q l) (Q := Q) fun a' w' g' hd he hi' => runI_ok hC hc l (he.glob hg) hi' h fun a2 w2 ⟨d2, g2, e2, i2⟩ => hq a2 w2 ⟨d2.trans hd, g2, he.trans e2 hl, i2⟩
      split
      · rename_i hw; rw [if_pos hw] at this; exact .inl this
      · rename_i hw; rw [if_neg hw] at this; exact this

/-- what a region's order may not turn: of two, the second hangs on the first -/
def Hangs (hs : List Nat) (i j : Nat) : Prop := (hs.getD j 0).testBit i = true

theorem drawOk_spec {id : Nat} (h : drawOk C f id ops = true) : ∀ (i j : Nat) x y, i < j → ops[i]? = some x → ops[j]? = some y →
    (Hangs ((C.cut f id).getD []) i j → ∃ e ∈ y.after, Region.binds .any e = true ∧ (e.on = i ∨ (i < e.on ∧ Hangs ((C.cut f id).getD []) i e.on))) ∧ (¬ Hangs ((C.cut f id).getD []) i j → freePair C f ops x y = true) := by
  intro i j x y hij hx hy
  unfold drawOk at h
  rw [Bool.and_eq_true] at h
  replace h := h.2
  have hj := (Array.getElem?_eq_some_iff.1 hy).1
  have h1 := List.all_eq_true.1 (List.all_eq_true.1 h j (List.mem_range.2 hj)) i (List.mem_range.2 hij)
  rw [hx, hy] at h1
  simp only at h1
  constructor
  · intro hh
    unfold Hangs at hh
    rw [if_pos hh] at h1
    obtain ⟨e, he, h2⟩ := Array.any_eq_true'.1 h1
    simp only [Bool.and_eq_true, Bool.or_eq_true, beq_iff_eq, decide_eq_true_eq] at h2
    exact ⟨e, he, h2.1, h2.2.imp (fun h => h) fun h => h⟩
  · intro hh
    unfold Hangs at hh
    rw [if_neg hh] at h1
    exact h1

theorem drawOk_back {id : Nat} (h : drawOk C f id ops = true) {j : Nat} {y : Oper} (hy : ops[j]? = some y) : ∀ e ∈ y.after, Region.binds .any e = true → e.on < j := by
  unfold drawOk at h
  rw [Bool.and_eq_true] at h
  have hj := (Array.getElem?_eq_some_iff.1 hy).1
  have h1 := List.all_eq_true.1 h.1 j (List.mem_range.2 hj)
  rw [hy] at h1
  simp only at h1
  intro e he hb
  have := Array.all_eq_true_iff_forall_mem.1 h1 e he
  rw [hb] at this
  simpa using this

/-- one operation is moved ahead -/
theorem bubble {i : Nat} {o : Oper} (ho : ops[i]? = some o) : ∀ (M : List Nat) {sl : List VV} {B : List Blk} {r : List VV × List Blk}, i ∈ M → M.Pairwise (· < ·) →
    (∀ m ∈ M, m < i → ∃ x, ops[m]? = some x ∧ freePair C f ops x o = true) → vrunI C K f ops M sl B = some r →
    ∃ sl1 B1, vstep C K f ops o sl B = some (sl1, B1) ∧ vrunI C K f ops (M.erase i) sl1 B1 = some r
  | [], _, _, _, hm, _, _, _ => by cases hm
  | m :: M, sl, B, r, hm, hs, hfp, h => by
    rw [List.pairwise_cons] at hs
    by_cases e : m = i
    · subst e
      unfold vrunI at h
      rw [ho] at h
      simp only at h
      split at h <;> first | (cases h; done) | skip
      rename_i sl1 B1 h1
      exact ⟨sl1, B1, h1, by rw [List.erase_cons_head]; exact h⟩
    · have hiM : i ∈ M := by
        rcases List.mem_cons.1 hm with e' | e'
        · exact absurd e'.symm e
        · exact e'
      obtain ⟨x, hx, hf⟩ := hfp m (by simp) (hs.1 i hiM)
      unfold vrunI at h
      rw [hx] at h
      simp only at h
      split at h <;> first | (cases h; done) | skip
      rename_i sl1 B1 h1
      obtain ⟨sl2, B2, h2, h3⟩ := bubble ho M hiM hs.2 (fun m' hm' => hfp m' (List.mem_cons_of_mem _ hm')) h
      obtain ⟨sl1', B1', k1, k2⟩ := swap hf h1 h2
      refine ⟨sl1', B1', k1, ?_⟩
      rw [List.erase_cons_tail (by simpa using e)]
      unfold vrunI
      rw [hx]
      simp only [k2]
      exact h3

/-- Any order that the edges let. -/
theorem any_ok (hC : CfgOk C) (hc : ∀ gf vs B r B', vcall C K gf vs B = some (r, B') → CallOk C gf vs B r B') {id : Nat} (hd : drawOk C f id ops = true) : ∀ (n : Nat) (listed : Array Bool) (M : List Nat) {g : G} {sl : List VV} {B : List Blk} {a : Act} {w : World} {sl' : List VV} {B' : List Blk},
    M.length = n → M.Pairwise (· < ·) → (∀ j, j ∈ M ↔ (j < ops.size ∧ listed.getD j true = false)) → listed.size = ops.size →
    (∀ j, listed.getD j false = true → ∀ i, i < j → Hangs ((C.cut f id).getD []) i j → listed.getD i false = true) →
    GlobOk C g → Inv Pr g sl B a.tmps.toList w → vrunI C K f ops M sl B = some (sl', B') → (∀ a' w', Done C Pr B.length g w a.defers sl' B' a' w' → Q .normal a' w') → wpAny C.P .any ops Q n listed a w
  | 0, listed, M, g, sl, B, a, w, sl', B', hl, hs, hM, hsz, hcl, hg, hi, h, hq => by
    have hnil : M = [] := List.length_eq_zero_iff.1 hl
    subst hnil
    simp only [vrunI, Option.some.injEq, Prod.mk.injEq] at h
    obtain ⟨rfl, rfl⟩ := h
    refine ⟨?_, hq a w ⟨rfl, g, Ext.refl _ _ _ _, hi⟩⟩
    refine List.eq_nil_iff_forall_not_mem.2 fun j hj => ?_
    obtain ⟨h0, o, ho, _⟩ := mem_ready.1 hj
    exact absurd ((hM j).2 ⟨(Array.getElem?_eq_some_iff.1 ho).1, h0⟩) (by simp)
  | n + 1, listed, M, g, sl, B, a, w, sl', B', hl, hs, hM, hsz, hcl, hg, hi, h, hq => by
    refine ⟨fun hnil => ?_, fun i hi' => ?_⟩
    · exfalso
      cases M with
      | nil => simp at hl
      | cons m M =>
        have hm := (hM m).1 (by simp)
        obtain ⟨o, ho⟩ : ∃ o, ops[m]? = some o := ⟨_, Array.getElem?_eq_getElem hm.1⟩
        have : m ∈ Region.ready .any ops listed := mem_ready.2 ⟨hm.2, o, ho, fun e he hb => by
          have hlt := drawOk_back hd ho e he hb
          cases hx : listed.getD e.on false with
          | true => rfl
          | false =>
            exfalso
            have hx' : listed.getD e.on true = false := by
              have hes : e.on < listed.size := by rw [hsz]; omega
              simp only [Array.getD_eq_getD_getElem?, Array.getElem?_eq_getElem hes, Option.getD_some] at hx ⊢
              exact hx
            have hmem := (hM e.on).2 ⟨by omega, hx'⟩
            rcases List.mem_cons.1 hmem with e' | e'
            · omega
            · have := (List.pairwise_cons.1 hs).1 _ e'
              omega⟩
        rw [hnil] at this
        cases this
    · obtain ⟨h0, o, ho, hedges⟩ := mem_ready.1 hi'
      have hisz := (Array.getElem?_eq_some_iff.1 ho).1
      have hiM := (hM i).2 ⟨hisz, h0⟩
      have hnd : M.Nodup := hs.imp fun h => Nat.ne_of_lt h
      have hunl : ∀ {j : Nat}, listed.getD j true = false → listed.getD j false ≠ true := fun {j} h1 h2 => by
        cases hj : listed[j]? with
        | none => rw [Array.getD_eq_getD_getElem?, hj] at h1; cases h1
        | some b =>
          rw [Array.getD_eq_getD_getElem?, hj] at h1 h2
          simp only [Option.getD_some] at h1 h2
          rw [h1] at h2; cases h2
      have before : ∀ m, m < i → Hangs ((C.cut f id).getD []) m i → listed.getD m false = true := fun m hmi hh => by
        obtain ⟨x, hx⟩ : ∃ x, ops[m]? = some x := ⟨_, Array.getElem?_eq_getElem (by omega)⟩
        obtain ⟨e, he, hb, hor⟩ := (drawOk_spec hd m i x o hmi hx ho).1 hh
        have hle := hedges e he hb
        rcases hor with rfl | ⟨hlt, hh'⟩
        · exact hle
        · exact hcl e.on hle m hlt hh'
      obtain ⟨sl1, B1, hs1, hrest⟩ := bubble (C := C) (K := K) (f := f) ho M hiM hs (fun m hm hmi => by
        have hm' := (hM m).1 hm
        obtain ⟨x, hx⟩ : ∃ x, ops[m]? = some x := ⟨_, Array.getElem?_eq_getElem hm'.1⟩
        exact ⟨x, hx, (drawOk_spec hd m i x o hmi hx ho).2 fun hh => hunl hm'.2 (before m hmi hh)⟩) h
      have hlen : B.length ≤ B1.length := vstep_len (fun _ _ _ _ _ => vcall_len) hs1
      have hset : ∀ j d, j ≠ i → (listed.setIfInBounds i true).getD j d = listed.getD j d := fun j d hj => getD_set_ne d (Ne.symm hj)
      have hself : ∀ d, (listed.setIfInBounds i true).getD i d = true := fun d => by
        rw [Array.getD_eq_getD_getElem?, Array.getElem?_setIfInBounds_self_of_lt (by omega)]; rfl
      have next : ∀ a' w' g', a'.defers = a.defers → Ext Pr B.length g w g' w' → Inv Pr g' sl1 B1 a'.tmps.toList w' → wpAny C.P .any ops Q n (listed.setIfInBounds i true) a' w' := by
        intro a' w' g' hd' he' hi1
        refine any_ok hC hc hd n _ (M.erase i) (by rw [List.length_erase_of_mem hiM, hl]; rfl) (hs.sublist List.erase_sublist) (fun j => ?_) (by simpa using hsz) (fun j hj m hmj hh => ?_) (he'.glob hg) hi1 hrest
          fun a2 w2 ⟨d2, g2, e2, i2⟩ => hq a2 w2 ⟨d2.trans hd', g2, he'.trans e2 hlen, i2⟩
        · rw [hnd.mem_erase_iff, hM j]
          by_cases e : j = i
          · subst e
            rw [hself]
            simp
          · rw [hset j true e]
            simp [e]
        · by_cases e : m = i
          · subst e; exact hself false
          · rw [hset m false e]
            by_cases e' : j = i
            · subst e'
              exact before m hmj hh
            · rw [hset j false e'] at hj
              exact hcl j hj m hmj hh
      unfold wpOp
      rw [ho]
      simp only
      have := step_ok hC hc hg hi hs1 (next := wpAny C.P .any ops Q n (listed.setIfInBounds i true)) (Q := Q) next
      split
      · rename_i hw; rw [if_pos hw] at this; exact .inl this
      · rename_i hw; rw [if_neg hw] at this; exact this
end
end Go.Wv
