/-
  A part of the proof: our library of the interpreter.
-/
import Derived.Test.YtilmjbljkkbakaaDoorS17
set_option linter.unusedSimpArgs false
set_option linter.unusedVariables false
set_option linter.unusedSectionVars false
set_option linter.unnecessarySimpa false
set_option linter.deprecated false
namespace Go.Wv

/-! Blocks that are not written any more. -/
structure Grow (Pr : Nat → Prop) (g g' : G) : Prop where
  phi : ∀ i, g'.phi i = g.phi i
  comm : ∀ b com, g.comm b = some com → g'.comm b = some com
  prot : ∀ b, Pr b → g'.comm b = g.comm b

theorem Grow.refl {Pr : Nat → Prop} (g : G) : Grow Pr g g := ⟨fun _ => rfl, fun _ _ h => h, fun _ _ => rfl⟩
theorem Grow.trans {Pr : Nat → Prop} {g g1 g2 : G} (h : Grow Pr g g1) (h' : Grow Pr g1 g2) : Grow Pr g g2 :=
  ⟨fun i => (h'.phi i).trans (h.phi i), fun b com hc => h'.comm b com (h.comm b com hc), fun b hb => (h'.prot b hb).trans (h.prot b hb)⟩

section
variable {C : Cfg} {Pr : Nat → Prop} {g g' : G} {sl sl' : List VV} {B B' : List Blk} {tm : List Value} {w : World} {v : VV}

theorem Grow.pre (h : Grow Pr g g') : ∀ b com, g.comm b = some com → ∃ com', g'.comm b = some com' ∧ com.cs <+: com'.cs :=
  fun b com hc => ⟨com, h.comm b com hc, List.prefix_refl _⟩
theorem Grow.same (h : Grow Pr g g') {b : Nat} (hb : ∃ com, g.comm b = some com) : g'.comm b = g.comm b := by
  obtain ⟨com, hc⟩ := hb
  rw [hc, h.comm b com hc]
theorem Grow.repC (h : Grow Pr g g') {n : Nat} {v : VV} {u : Value} (ho : okC n v = true) (hr : RepC g v u) : RepC g' v u :=
  RepC_ext (n := n) h.pre (fun i _ => h.phi i) (fun _ hb => h.same (cntC_known hr hb)) ho hr
theorem Grow.rep (h : Grow Pr g g') {n : Nat} {v : VV} {u : Value} (ho : okR n v = true) (hr : Rep g v u) : Rep g' v u :=
  Rep_ext (n := n) h.pre (fun i _ => h.phi i) (fun _ hb => h.same (cnt_known hr hb)) ho hr
theorem Grow.reps (h : Grow Pr g g') {n : Nat} {vs : List VV} {us : List Value} (ho : okRs n vs = true) (hr : All2 (Rep g) vs us) : All2 (Rep g') vs us :=
  All2_Rep_ext (n := n) h.pre (fun i _ => h.phi i) (fun _ hb => h.same (cntS_known hr hb)) ho hr
theorem Grow.repCs (h : Grow Pr g g') {n : Nat} {vs : List VV} {us : List Value} (ho : vs.all (okC n) = true) (hr : All2 (RepC g) vs us) : All2 (RepC g') vs us :=
  All2_RepC_ext (n := n) h.pre (fun i _ => h.phi i) (fun _ hb => h.same (cntL_known hr hb)) ho hr
theorem Grow.glob (h : Grow Pr g g') (hg : GlobOk C g) : GlobOk C g' := fun i cs hc => let ⟨com, h1, h2⟩ := hg i cs hc; ⟨com, h.comm i com h1, h2⟩
theorem Ext.glob {n : Nat} {w' : World} (h : Ext Pr n g w g' w') (hg : GlobOk C g) : GlobOk C g' := fun i cs hc =>
  let ⟨com, h1, h2⟩ := hg i cs hc; let ⟨com', h3, h4⟩ := h.comm i com h1; ⟨com', h3, h2.trans h4⟩
theorem Grow.ext (h : Grow Pr g g') (n : Nat) (w : World) : Ext Pr n g w g' w := ⟨h.pre, fun b hb => ⟨h.prot b hb, rfl⟩, Nat.le_refl _, fun i _ => h.phi i, rfl, rfl⟩

theorem cntB_ro {b : Nat} {id : Nat} {cs : List VV} (hb : B[id]? = some (.var cs)) (hall : cs.any ownC = false) : cntB b g w 0 (B.set id (.ro cs)) = cntB b g w 0 B := by
  have := cntB_set (b := b) (g := g) (w := w) B 0 id (.ro cs) _ hb
  simp only [cntBlk, cntL_zero hall] at this
  omega

theorem Inv.freeze (hi : Inv Pr g sl B tm w) {id : Nat} {cs : List VV} (hb : B[id]? = some (.var cs)) (hall : cs.all (fun c => okC 0 c && !ownC c) = true) :
    Grow Pr g (g.told (g.phi id) ⟨cs, none⟩) ∧ Inv Pr (g.told (g.phi id) ⟨cs, none⟩) sl (B.set id (.ro cs)) tm w := by
  obtain ⟨⟨arr, T, hh, hcs⟩, hcn, hok⟩ := hi.sto.var id cs hb
  have hidl : id < B.length := (List.getElem?_eq_some_iff.1 hb).1
  have hall' : ∀ c ∈ cs, ownC c = false ∧ okC 0 c = true := fun c hc => by
    have := List.all_eq_true.1 hall c hc
    simp only [Bool.and_eq_true, Bool.not_eq_true'] at this
    exact ⟨this.2, this.1⟩
  have hany : cs.any ownC = false := List.any_eq_false.2 fun c hc => by simp [(hall' c hc).1]
  have hgr : Grow Pr g (g.told (g.phi id) ⟨cs, none⟩) := by
    refine ⟨fun _ => rfl, fun b com hc => ?_, fun b hp => ?_⟩
    · have : b ≠ g.phi id := by rintro rfl; rw [hcn] at hc; cases hc
      rw [G.told_other this]; exact hc
    · exact G.told_other (fun e => (hi.prot b hp).2.2 id cs hb e.symm)
  have hget : ∀ (i : Nat) cs', (B.set id (.ro cs))[i]? = some (.var cs') → i ≠ id ∧ B[i]? = some (.var cs') := by
    intro i cs' h
    rcases set_get hidl h with ⟨_, e⟩ | h
    · cases e
    · exact h
  have hcntB : ∀ b, cntB b (g.told (g.phi id) ⟨cs, none⟩) w 0 (B.set id (.ro cs)) = cntB b g w 0 B := fun b => by
    rw [cntB_congr (g := g) (g' := g.told (g.phi id) ⟨cs, none⟩) (w := w) (w' := w) (B.set id (.ro cs)) 0 fun _ _ _ => rfl]
    exact cntB_ro hb hany
  refine ⟨hgr, ⟨hgr.reps hi.ok hi.rep, by rw [List.length_set]; exact hi.ok, ⟨?_, ?_, ?_, ?_⟩, fun b => by rw [hcntB]; exact hi.uniq b, fun b hp => ⟨(hi.prot b hp).1, by rw [hcntB]; exact (hi.prot b hp).2.1, fun i cs' h => (hi.prot b hp).2.2 i cs' (hget i cs' h).2⟩⟩⟩
  · intro b com hc
    by_cases e : b = g.phi id
    · subst e
      rw [G.told_self] at hc
      obtain rfl := Option.some.inj hc
      have hl := hcs.length
      refine ⟨arr, T, (0, 0), hh, by simpa using Nat.le_of_eq hl, fun j c hj => ?_, fun _ _ h => by cases h⟩
      obtain ⟨u, hu, hr⟩ := hcs.get hj
      have hm := hall' c (List.mem_of_getElem? hj)
      exact ⟨u, by simpa using hu, hgr.repC hm.2 hr, hm.1, hm.2⟩
    · rw [G.told_other e] at hc
      obtain ⟨ar, T', fz, h1, h2, h3, h4⟩ := hi.sto.comm b com hc
      exact ⟨ar, T', fz, h1, h2, comm_cells hgr.pre h3, h4⟩
  · intro i cs' h
    obtain ⟨hne, h⟩ := hget i cs' h
    obtain ⟨⟨ar, T', h1, h2⟩, h3, h4⟩ := hi.sto.var i cs' h
    refine ⟨⟨ar, T', h1, hgr.repCs h4 h2⟩, ?_, h4⟩
    show (g.told (g.phi id) ⟨cs, none⟩).comm (g.phi i) = none
    rw [G.told_other fun e => hne (hi.sto.inj i id _ _ h hb e)]
    exact h3
  · intro i cs' h
    rcases set_get hidl h with ⟨rfl, e⟩ | ⟨_, h⟩
    · obtain rfl := Blk.ro.inj e
      exact ⟨_, G.told_self, List.prefix_refl _⟩
    · obtain ⟨com, h1, h2⟩ := hi.sto.ro i cs' h
      exact ⟨com, hgr.comm _ _ h1, h2⟩
  · intro i j ci cj h1 h2 e
    exact hi.sto.inj i j _ _ (hget i ci h1).2 (hget j cj h2).2 e

theorem groupN_length (ag : Bool) (sz : Nat) : ∀ (n : Nat) (cs : List VV), (groupN ag sz n cs).length = n
  | 0, _ => rfl
  | n + 1, cs => by simp only [groupN, List.length_cons, groupN_length ag sz n]
theorem groupN_flat {ag : Bool} {sz : Nat} (hag : ag = true ∨ sz = 1) : ∀ (n : Nat) (cs : List VV), (∀ c ∈ cs, c.cells = [c]) → n * sz ≤ cs.length →
    flatC (groupN ag sz n cs) = cs.take (n * sz) ∧ ∀ x ∈ groupN ag sz n cs, x.cells.length = sz
  | 0, cs, _, _ => by simp [groupN, flatC]
  | n + 1, cs, h1, hl => by
    rw [Nat.succ_mul] at hl
    obtain ⟨e1, e2⟩ := groupN_flat hag n (cs.drop sz) (fun c hc => h1 c (List.mem_of_mem_drop hc)) (by simp; omega)
    have hx : (if ag then VV.agg (cs.take sz) else cs.headD .gone).cells = cs.take sz := by
      cases ag with
      | true => rfl
      | false =>
        have : sz = 1 := hag.resolve_left (by simp)
        subst this
        cases cs with
        | nil => simp at hl
        | cons c cs => simpa using h1 c (by simp)
    refine ⟨?_, ?_⟩
    · simp only [groupN, flatC, List.flatMap_cons, hx]
      rw [show (groupN ag sz n (cs.drop sz)).flatMap VV.cells = flatC (groupN ag sz n (cs.drop sz)) from rfl, e1, Nat.succ_mul, Nat.add_comm, List.take_add]
    · intro x hx'
      simp only [groupN, List.mem_cons] at hx'
      rcases hx' with rfl | hx'
      · rw [hx, List.length_take]; omega
      · exact e2 x hx'

theorem RepC_cells1 {c : VV} {u : Value} (h : RepC g c u) : c.cells = [c] := by cases c <;> first | rfl | exact h.elim

/-- what a told block's window is a slice of -/
theorem groupN_rep {id sz off n : Nat} {ag : Bool} {cs : List VV} {com : Com} {u : Value} (hc : g.comm (g.phi id) = some com) (hp : cs <+: com.cs) (hcells : ∀ c ∈ cs, c.cells = [c])
    (hu : RepC g (.mref id ag sz off n) u) (hle : (off + n) * sz ≤ cs.length) (hsz : 0 < sz) (hag : ag = true ∨ sz = 1) : RepSl g .view (groupN ag sz n (cs.drop (off * sz))) u := by
  obtain ⟨c, rfl, hnc⟩ := hu
  rw [Nat.add_mul] at hle
  obtain ⟨e1, e2⟩ := groupN_flat hag n (cs.drop (off * sz)) (fun c hc => hcells c (List.mem_of_mem_drop hc)) (by simp; omega)
  have e3 := groupN_length ag sz n (cs.drop (off * sz))
  generalize groupN ag sz n (cs.drop (off * sz)) = xs at e1 e2 e3
  cases xs with
  | nil =>
    simp only [List.length_nil] at e3
    subst e3
    exact ⟨_, c, rfl⟩
  | cons x xs =>
    refine ⟨g.phi id, off * sz, c, com, sz, by rw [e3], by rw [e3]; exact hnc, hc, hsz, e2, ?_, ?_, fun h => by cases h⟩
    · rw [e3]; exact Nat.le_trans hle hp.length_le
    · rw [e3, e1]; exact window_prefix hp hle

/-- a value after freezing: what it stands for, and where -/
structure Frz (Pr : Nat → Prop) (g g' : G) (sl : List VV) (B' : List Blk) (tm : List Value) (w : World) : Prop where
  grow : Grow Pr g g'
  inv : Inv Pr g' sl B' tm w

theorem freezeC_ok (hi : Inv Pr g sl B tm w) {u : Value} (hv : RepC g v u) (hok : okC B.length v = true) {v' : VV} (h : freezeC B v = some (v', B')) :
    ∃ g', Frz Pr g g' sl B' tm w ∧ RepC g' v' u ∧ ownC v' = false ∧ okC B.length v' = true := by
  have plain : v' = viewC v → B' = B → ∃ g', Frz Pr g g' sl B' tm w ∧ RepC g' v' u ∧ ownC v' = false ∧ okC B.length v' = true := by
    rintro rfl rfl
    exact ⟨g, ⟨Grow.refl g, hi⟩, RepC_viewC hv, ownC_viewC v, okC_viewC hok⟩
  cases v <;> simp only [freezeC] at h <;> try (simp only [Option.some.injEq, Prod.mk.injEq] at h; exact plain h.1.symm h.2.symm)
  rename_i id ag sz off n
  split at h <;> first | (cases h; done) | skip
  rename_i b hb
  split at h <;> first | (cases h; done) | skip
  rename_i hc
  obtain ⟨hle, hsz, hag, hall⟩ := hc
  simp only [Option.some.injEq, Prod.mk.injEq] at h
  obtain ⟨rfl, rfl⟩ := h
  cases b with
  | var cs =>
    obtain ⟨hgr, hinv⟩ := hi.freeze hb hall
    obtain ⟨⟨arr, T, hh, hcs⟩, _, _⟩ := hi.sto.var id cs hb
    refine ⟨_, ⟨hgr, hinv⟩, ?_, rfl, rfl⟩
    exact groupN_rep (g := g.told (g.phi id) ⟨cs, none⟩) G.told_self (List.prefix_refl _) (fun c hc => by
      obtain ⟨j, hj⟩ := List.getElem?_of_mem hc
      obtain ⟨u, _, hr⟩ := hcs.get hj
      exact RepC_cells1 hr) hv hle hsz hag
  | ro cs =>
    have e : B.set id (.ro cs) = B := set_self hb
    rw [show Blk.ro (Blk.ro cs).cells = Blk.ro cs from rfl, e]
    obtain ⟨com, h1, h2⟩ := hi.sto.ro id cs hb
    refine ⟨g, ⟨Grow.refl g, hi⟩, ?_, rfl, rfl⟩
    refine groupN_rep h1 h2 (fun c hc => ?_) hv hle hsz hag
    obtain ⟨j, hj⟩ := List.getElem?_of_mem hc
    obtain ⟨arr, T, fz, _, _, h3, _⟩ := hi.sto.comm _ _ h1
    obtain ⟨u, _, hr, _⟩ := h3 j c (prefix_get h2 hj)
    exact RepC_cells1 hr

theorem freezeL_ok : ∀ {vs vs' : List VV} {us : List Value} {g : G} {B B' : List Blk}, Inv Pr g sl B tm w → All2 (RepC g) vs us → vs.all (okC B.length) = true → freezeL B vs = some (vs', B') →
    ∃ g', Frz Pr g g' sl B' tm w ∧ All2 (RepC g') vs' us ∧ vs'.any ownC = false ∧ vs'.all (okC B.length) = true
  | [], vs', us, g, B, B', hi, hr, hok, h => by
    simp only [freezeL, Option.some.injEq, Prod.mk.injEq] at h
    obtain ⟨rfl, rfl⟩ := h
    exact ⟨g, ⟨Grow.refl g, hi⟩, hr, rfl, rfl⟩
  | v :: vs, vs', us, g, B, B', hi, hr, hok, h => by
    unfold freezeL at h
    split at h <;> first | (cases h; done) | skip
    rename_i v1 B1 h1
    split at h <;> first | (cases h; done) | skip
    rename_i vs2 B2 h2
    simp only [Option.some.injEq, Prod.mk.injEq] at h
    obtain ⟨rfl, rfl⟩ := h
    cases hr with
    | cons hr hrs =>
      simp only [List.all_cons, Bool.and_eq_true] at hok
      obtain ⟨g1, f1, r1, o1, k1⟩ := freezeC_ok hi hr hok.1 h1
      have hl := freezeC_len h1
      obtain ⟨g2, f2, r2, o2, k2⟩ := freezeL_ok f1.inv (f1.grow.repCs hok.2 hrs) (by rw [hl]; exact hok.2) h2
      rw [hl] at k2
      exact ⟨g2, ⟨f1.grow.trans f2.grow, f2.inv⟩, .cons (f2.grow.repC k1 r1) r2, by simp [o1, o2], by simp only [List.all_cons, k1, k2, Bool.and_self]⟩

theorem freeze_ok (hi : Inv Pr g sl B tm w) {u : Value} (hv : Rep g v u) (hok : okR B.length v = true) {v' : VV} (h : freeze B v = some (v', B')) :
    ∃ g', Frz Pr g g' sl B' tm w ∧ Rep g' v' u ∧ isOwn v' = false ∧ okR B.length v' = true := by
  have hnt : ∀ vs, v ≠ .tup vs := by rintro vs rfl; cases h
  by_cases ha : ∃ cs, v = .agg cs
  · obtain ⟨cs, rfl⟩ := ha
    simp only [freeze] at h
    split at h <;> first | (cases h; done) | skip
    rename_i cs1 B1 h1
    simp only [Option.some.injEq, Prod.mk.injEq] at h
    obtain ⟨rfl, rfl⟩ := h
    obtain ⟨arr, rfl, hr⟩ := hv
    obtain ⟨g', f, r, o, k⟩ := freezeL_ok hi hr hok h1
    exact ⟨g', f, ⟨arr, rfl, r⟩, o, k⟩
  · have e : freeze B v = freezeC B v := by cases v <;> first | rfl | exact absurd ⟨_, rfl⟩ ha | exact absurd rfl (hnt _)
    rw [e] at h
    by_cases hgone : v = .gone
    · subst hgone
      simp only [freezeC, Option.some.injEq, Prod.mk.injEq] at h
      obtain ⟨rfl, rfl⟩ := h
      exact ⟨g, ⟨Grow.refl g, hi⟩, trivial, rfl, rfl⟩
    · have hna : ∀ cs, v ≠ .agg cs := fun cs e => ha ⟨cs, e⟩
      have hc := Rep_cell hv hnt hna hgone
      have hokc : okC B.length v = true := by rw [okR_eq (fun ⟨vs, e⟩ => hnt vs e), okV_eq ha] at hok; exact hok
      obtain ⟨g', f, r, o, k⟩ := freezeC_ok hi hc hokc h
      have h1 : ∀ cs, v' ≠ .agg cs := by
        rintro cs rfl
        exact r.elim
      have h2 : ∀ cs, v' ≠ .tup cs := by
        rintro cs rfl
        exact r.elim
      exact ⟨g', f, cell_rep r, cell_own o h1 h2, cell_ok k h1 h2⟩
end
end Go.Wv
