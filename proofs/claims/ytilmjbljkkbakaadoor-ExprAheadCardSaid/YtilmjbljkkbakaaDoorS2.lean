/-
  A part of the proof: our library of the interpreter.
-/
import Derived.Test.YtilmjbljkkbakaaDoorS1
set_option linter.unusedSimpArgs false
set_option linter.unusedVariables false
set_option linter.unusedSectionVars false
set_option linter.unnecessarySimpa false
set_option linter.deprecated false
namespace Go.Wv

/-! What stays true when the world goes on. -/

structure Sto (g : G) (B : List Blk) (w : World) : Prop where
  comm : ∀ b com, g.comm b = some com → ∃ arr T fz, w.heap[b]? = some (.cells arr T fz) ∧ com.cs.length ≤ arr.size ∧
    (∀ (j : Nat) c, com.cs[j]? = some c → ∃ u, arr[j]? = some u ∧ RepC g c u ∧ ownC c = false ∧ okC 0 c = true) ∧
    (∀ cap sz, com.own = some (cap, sz) → fz = (0, 0) ∧ arr.size = cap * sz ∧ cap ≤ maxLen)
  var : ∀ (id : Nat) cs, B[id]? = some (.var cs) → (∃ arr T, w.heap[g.phi id]? = some (.cells arr T (0, 0)) ∧ All2 (RepC g) cs arr.toList) ∧
    g.comm (g.phi id) = none ∧ cs.all (okC (id + 1)) = true
  ro : ∀ (id : Nat) cs, B[id]? = some (.ro cs) → ∃ com, g.comm (g.phi id) = some com ∧ cs <+: com.cs
  inj : ∀ (i j : Nat) ci cj, B[i]? = some (.var ci) → B[j]? = some (.var cj) → g.phi i = g.phi j → i = j

structure Inv (Pr : Nat → Prop) (g : G) (sl : List VV) (B : List Blk) (tm : List Value) (w : World) : Prop where
  rep : All2 (Rep g) sl tm
  ok : okRs B.length sl = true
  sto : Sto g B w
  uniq : ∀ b, cntS b sl tm + cntB b g w 0 B ≤ 1
  prot : ∀ b, Pr b → b < w.heap.size ∧ cntS b sl tm + cntB b g w 0 B = 0 ∧ ∀ (id : Nat) cs, B[id]? = some (.var cs) → g.phi id ≠ b

structure Ext (Pr : Nat → Prop) (n : Nat) (g : G) (w : World) (g' : G) (w' : World) : Prop where
  comm : ∀ b com, g.comm b = some com → ∃ com', g'.comm b = some com' ∧ com.cs <+: com'.cs
  prot : ∀ b, Pr b → g'.comm b = g.comm b ∧ w'.heap[b]? = w.heap[b]?
  size : w.heap.size ≤ w'.heap.size
  phi : ∀ i, i < n → g'.phi i = g.phi i
  out : w'.os = w.os ∧ w'.output = w.output

theorem Ext.refl (Pr : Nat → Prop) (n : Nat) (g : G) (w : World) : Ext Pr n g w g w :=
  ⟨fun _ com h => ⟨com, h, List.prefix_refl _⟩, fun _ _ => ⟨rfl, rfl⟩, Nat.le_refl _, fun _ _ => rfl, rfl, rfl⟩
theorem Ext.trans {Pr : Nat → Prop} {n n' : Nat} {g g1 g2 : G} {w w1 w2 : World} (h : Ext Pr n g w g1 w1) (h' : Ext Pr n' g1 w1 g2 w2) (hn : n ≤ n') : Ext Pr n g w g2 w2 :=
  ⟨fun b com hc => let ⟨c1, e1, p1⟩ := h.comm b com hc; let ⟨c2, e2, p2⟩ := h'.comm b c1 e1; ⟨c2, e2, p1.trans p2⟩,
   fun b hb => ⟨(h'.prot b hb).1.trans (h.prot b hb).1, (h'.prot b hb).2.trans (h.prot b hb).2⟩, Nat.le_trans h.size h'.size,
   fun i hi => (h'.phi i (Nat.lt_of_lt_of_le hi hn)).trans (h.phi i hi), h'.out.1.trans h.out.1, h'.out.2.trans h.out.2⟩

theorem window_prefix {l l' : List VV} (h : l <+: l') {off k : Nat} (hk : off + k ≤ l.length) : (l'.drop off).take k = (l.drop off).take k := by
  obtain ⟨t, rfl⟩ := h
  rw [List.drop_append_of_le_length (by omega), List.take_append_of_le_length (by simp; omega)]

theorem RepP_phi {n : Nat} {g g' : G} (hphi : ∀ i, i < n → g'.phi i = g.phi i) {v : VV} {u : Value} (hok : okP n v = true) (h : RepP g v u) : RepP g' v u := by
  cases v <;> first | exact h | skip
  rename_i id off
  have : id < n := by simpa [okP] using hok
  simp only [RepP, hphi id this] at h ⊢
  exact h

theorem All2_RepP {n : Nat} {g g' : G} (hphi : ∀ i, i < n → g'.phi i = g.phi i) {vs : List VV} {us : List Value} (hok : vs.all (okP n) = true) (h : All2 (RepP g) vs us) : All2 (RepP g') vs us :=
  h.mono fun _ _ ha hr => RepP_phi hphi (List.all_eq_true.1 hok _ ha) hr

/-- A cell's value is told by a later world, too, if nobody else has appended to what it owns. -/
theorem RepC_ext {n : Nat} {g g' : G} (hcomm : ∀ b com, g.comm b = some com → ∃ com', g'.comm b = some com' ∧ com.cs <+: com'.cs)
    (hphi : ∀ i, i < n → g'.phi i = g.phi i) {v : VV} {u : Value} (hown : ∀ b, 0 < cntC b v u → g'.comm b = g.comm b) (hok : okC n v = true) (h : RepC g v u) : RepC g' v u := by
  cases v <;> first | exact h | skip
  · rename_i f xs
    simp only [RepC] at h ⊢
    cases xs with
    | nil => exact h
    | cons x xs =>
      obtain ⟨B, off, c, com, sz, rfl, h2, h3, h4, h5, h6, h7, h8⟩ := h
      cases f with
      | view =>
        obtain ⟨com', h3', hp⟩ := hcomm B com h3
        exact ⟨B, off, c, com', sz, rfl, h2, h3', h4, h5, Nat.le_trans h6 hp.length_le, by rw [window_prefix hp h6]; exact h7, fun h => by cases h⟩
      | own =>
        have := hown B (by simp [cntC])
        exact ⟨B, off, c, com, sz, rfl, h2, by rw [this]; exact h3, h4, h5, h6, h7, h8⟩
  · rename_i id ag sz off n'
    have : id < n := by simpa [okC] using hok
    simp only [RepC, hphi id this] at h ⊢
    exact h
  · rename_i id off
    have : id < n := by simpa [okC] using hok
    simp only [RepC, hphi id this] at h ⊢
    exact h
  · rename_i cells off
    obtain ⟨B, base, com, h1, rfl, h3⟩ := h
    obtain ⟨com', h1', hp⟩ := hcomm B com h1
    refine ⟨B, base, com', h1', rfl, ?_⟩
    by_cases hk : cells.length = 0
    · rw [hk]; rw [List.length_eq_zero_iff.1 hk]; rfl
    · have hl := congrArg List.length h3
      simp only [List.length_take, List.length_drop] at hl
      rw [window_prefix hp (by omega)]
      exact h3
  · rename_i fn first caps
    obtain ⟨a, b, rfl, h1, h2⟩ := h
    simp only [okC, Bool.and_eq_true] at hok
    exact ⟨a, b, rfl, All2_RepP hphi hok.1 h1, All2_RepP hphi hok.2 h2⟩

theorem All2_RepC_ext {n : Nat} {g g' : G} (hcomm : ∀ b com, g.comm b = some com → ∃ com', g'.comm b = some com' ∧ com.cs <+: com'.cs)
    (hphi : ∀ i, i < n → g'.phi i = g.phi i) {vs : List VV} {us : List Value} (hown : ∀ b, 0 < cntL b vs us → g'.comm b = g.comm b) (hok : vs.all (okC n) = true) (h : All2 (RepC g) vs us) :
    All2 (RepC g') vs us := by
  induction h with
  | nil => exact .nil
  | cons h _ ih =>
    simp only [List.all_cons, Bool.and_eq_true] at hok
    exact .cons (RepC_ext hcomm hphi (fun b hb => hown b (by simp only [cntL]; omega)) hok.1 h) (ih (fun b hb => hown b (by simp only [cntL]; omega)) hok.2)

theorem RepV_ext {n : Nat} {g g' : G} (hcomm : ∀ b com, g.comm b = some com → ∃ com', g'.comm b = some com' ∧ com.cs <+: com'.cs)
    (hphi : ∀ i, i < n → g'.phi i = g.phi i) {v : VV} {u : Value} (hown : ∀ b, 0 < cntV b v u → g'.comm b = g.comm b) (hok : okV n v = true) (h : RepV g v u) : RepV g' v u := by
  by_cases hv : ∃ cs, v = .agg cs
  · obtain ⟨cs, rfl⟩ := hv
    obtain ⟨a, rfl, h⟩ := h
    exact ⟨a, rfl, All2_RepC_ext hcomm hphi (fun b hb => hown b (by simpa [cntV] using hb)) (by simpa [okV] using hok) h⟩
  · have h1 : ∀ g : G, RepV g v u = RepC g v u := fun g => by cases v <;> first | rfl | exact absurd ⟨_, rfl⟩ hv
    rw [h1] at h ⊢
    refine RepC_ext hcomm hphi (fun b hb => hown b ?_) ?_ h
    · cases v <;> first | exact hb | exact absurd ⟨_, rfl⟩ hv
    · cases v <;> first | exact hok | exact absurd ⟨_, rfl⟩ hv

theorem All2_RepV_ext {n : Nat} {g g' : G} (hcomm : ∀ b com, g.comm b = some com → ∃ com', g'.comm b = some com' ∧ com.cs <+: com'.cs)
    (hphi : ∀ i, i < n → g'.phi i = g.phi i) {vs : List VV} {us : List Value} (hown : ∀ b, 0 < cntVL b vs us → g'.comm b = g.comm b) (hok : vs.all (okV n) = true) (h : All2 (RepV g) vs us) :
    All2 (RepV g') vs us := by
  induction h with
  | nil => exact .nil
  | cons h _ ih =>
    simp only [List.all_cons, Bool.and_eq_true] at hok
    exact .cons (RepV_ext hcomm hphi (fun b hb => hown b (by simp only [cntVL]; omega)) hok.1 h) (ih (fun b hb => hown b (by simp only [cntVL]; omega)) hok.2)

theorem Rep_ext {n : Nat} {g g' : G} (hcomm : ∀ b com, g.comm b = some com → ∃ com', g'.comm b = some com' ∧ com.cs <+: com'.cs)
    (hphi : ∀ i, i < n → g'.phi i = g.phi i) {v : VV} {u : Value} (hown : ∀ b, 0 < cnt b v u → g'.comm b = g.comm b) (hok : okR n v = true) (h : Rep g v u) : Rep g' v u := by
  by_cases hg : v = .gone
  · subst hg; trivial
  by_cases hv : ∃ cs, v = .tup cs
  · obtain ⟨cs, rfl⟩ := hv
    obtain ⟨a, rfl, h⟩ := h
    exact ⟨a, rfl, All2_RepV_ext hcomm hphi (fun b hb => hown b (by simpa [cnt] using hb)) (by simpa [okR] using hok) h⟩
  · have h1 : ∀ g : G, Rep g v u = RepV g v u := fun g => by cases v <;> first | rfl | exact absurd ⟨_, rfl⟩ hv | exact absurd rfl hg
    rw [h1] at h ⊢
    refine RepV_ext hcomm hphi (fun b hb => hown b ?_) ?_ h
    · cases v <;> first | exact hb | exact absurd ⟨_, rfl⟩ hv
    · cases v <;> first | exact hok | exact absurd ⟨_, rfl⟩ hv

theorem All2_Rep_ext {n : Nat} {g g' : G} (hcomm : ∀ b com, g.comm b = some com → ∃ com', g'.comm b = some com' ∧ com.cs <+: com'.cs)
    (hphi : ∀ i, i < n → g'.phi i = g.phi i) {vs : List VV} {us : List Value} (hown : ∀ b, 0 < cntS b vs us → g'.comm b = g.comm b) (hok : okRs n vs = true) (h : All2 (Rep g) vs us) :
    All2 (Rep g') vs us := by
  induction h with
  | nil => exact .nil
  | cons h _ ih =>
    simp only [okRs, List.all_cons, Bool.and_eq_true] at hok
    exact .cons (Rep_ext hcomm hphi (fun b hb => hown b (by simp only [cntS]; omega)) hok.1 h) (ih (fun b hb => hown b (by simp only [cntS]; omega)) hok.2)

/-! counts -/
theorem cnt_eq {b : Nat} {v : VV} {u : Value} (h : ¬ ∃ vs, v = .tup vs) : cnt b v u = cntV b v u := by
  unfold cnt
  split
  · exact absurd ⟨_, rfl⟩ h
  · rfl
theorem cntVL_zero {b : Nat} {vs : List VV} {us : List Value} (h : vs.any ownV = false) : cntVL b vs us = 0 := by
  induction vs generalizing us with
  | nil => cases us <;> rfl
  | cons v vs ih =>
    simp only [List.any_cons, Bool.or_eq_false_iff] at h
    cases us with
    | nil => rfl
    | cons u us => simp only [cntVL, cntV_zero h.1, ih h.2]
theorem cnt_zero {b : Nat} {v : VV} {u : Value} (h : isOwn v = false) : cnt b v u = 0 := by
  by_cases hv : ∃ vs, v = .tup vs
  · obtain ⟨vs, rfl⟩ := hv
    cases u <;> first | exact cntVL_zero (show vs.any ownV = false from h) | rfl
  · rw [cnt_eq hv]
    exact cntV_zero (by cases v <;> first | exact h | exact absurd ⟨_, rfl⟩ hv)
theorem cntS_append {b : Nat} {vs vs' : List VV} {us us' : List Value} (h : vs.length = us.length) : cntS b (vs ++ vs') (us ++ us') = cntS b vs us + cntS b vs' us' := by
  induction vs generalizing us with
  | nil => cases us with
    | nil => simp [cntS]
    | cons => simp at h
  | cons v vs ih => cases us with
    | nil => simp at h
    | cons u us => simp only [List.cons_append, cntS, ih (by simpa using h)]; omega
theorem cntS_set {b : Nat} {vs : List VV} {us : List Value} (h : vs.length = us.length) (v : VV) (u : Value) {i : Nat} (hi : i < vs.length) :
    ∃ v0 u0, vs[i]? = some v0 ∧ us[i]? = some u0 ∧ cntS b (vs.set i v) (us.set i u) + cnt b v0 u0 = cntS b vs us + cnt b v u := by
  induction vs generalizing us i with
  | nil => simp at hi
  | cons v1 vs ih => cases us with
    | nil => simp at h
    | cons u1 us =>
      cases i with
      | zero => exact ⟨v1, u1, rfl, rfl, by simp only [List.set_cons_zero, cntS]; omega⟩
      | succ i =>
        obtain ⟨v0, u0, e1, e2, e3⟩ := ih (us := us) (by simpa using h) (i := i) (by simpa using hi)
        exact ⟨v0, u0, by simpa using e1, by simpa using e2, by simp only [List.set_cons_succ, cntS]; omega⟩
theorem cntS_set_le {b : Nat} {vs : List VV} {us : List Value} (h : vs.length = us.length) (v : VV) (u : Value) (i : Nat) :
    cntS b (vs.set i v) (us.set i u) ≤ cntS b vs us + cnt b v u := by
  by_cases hi : i < vs.length
  · obtain ⟨_, _, _, _, e⟩ := cntS_set (b := b) h v u hi
    omega
  · rw [List.set_eq_of_length_le (by omega), List.set_eq_of_length_le (by omega)]
    omega
theorem cntS_get {b : Nat} {vs : List VV} {us : List Value} {i : Nat} {v : VV} {u : Value} (hv : vs[i]? = some v) (hu : us[i]? = some u) : cnt b v u ≤ cntS b vs us := by
  induction vs generalizing us i with
  | nil => simp at hv
  | cons v1 vs ih => cases us with
    | nil => simp at hu
    | cons u1 us =>
      cases i with
      | zero => simp at hv hu; subst hv hu; simp only [cntS]; omega
      | succ i => have := ih (by simpa using hv) (by simpa using hu); simp only [cntS]; omega

/-- The blocks' rights, where the world goes on without touching them. -/
theorem cntB_congr {b : Nat} {g g' : G} {w w' : World} : ∀ (B : List Blk) (k : Nat), (∀ (i : Nat) cs, B[i]? = some (.var cs) → cellsAt w' (g'.phi (k + i)) = cellsAt w (g.phi (k + i))) → cntB b g' w' k B = cntB b g w k B
  | [], _, _ => rfl
  | x :: r, k, h => by
    have e : cntB b g' w' (k + 1) r = cntB b g w (k + 1) r := cntB_congr r (k + 1) fun i cs hi => by
      have h1 := h (i + 1) cs (by simpa using hi)
      have e1 : k + (i + 1) = k + 1 + i := by omega
      rw [e1] at h1
      exact h1
    cases x with
    | var cs =>
      have h0 := h 0 cs rfl
      simp only [Nat.add_zero] at h0
      simp only [cntB, h0, e]
    | ro cs => simp only [cntB, e]
theorem cntB_append {b : Nat} {g : G} {w : World} : ∀ (B : List Blk) (k : Nat) (L : List Blk), cntB b g w k (B ++ L) = cntB b g w k B + cntB b g w (k + B.length) L
  | [], k, L => by simp [cntB]
  | .var cs :: r, k, L => by simp only [List.cons_append, cntB, cntB_append r (k + 1) L, List.length_cons]; rw [show k + 1 + r.length = k + (r.length + 1) by omega]; omega
  | .ro cs :: r, k, L => by simp only [List.cons_append, cntB, cntB_append r (k + 1) L, List.length_cons]; rw [show k + 1 + r.length = k + (r.length + 1) by omega]
theorem cntB_take {b : Nat} {g : G} {w : World} (B : List Blk) (k n : Nat) : cntB b g w k (B.take n) ≤ cntB b g w k B := by
  have h := cntB_append (b := b) (g := g) (w := w) (B.take n) k (B.drop n)
  rw [List.take_append_drop] at h
  omega

/-- what one block holds -/
def cntBlk (b : Nat) (g : G) (w : World) (k : Nat) : Blk → Nat
  | .var cs => cntL b cs (cellsAt w (g.phi k))
  | .ro _ => 0
theorem cntB_cons {b : Nat} {g : G} {w : World} (k : Nat) (x : Blk) (r : List Blk) : cntB b g w k (x :: r) = cntBlk b g w k x + cntB b g w (k + 1) r := by
  cases x <;> simp [cntB, cntBlk]
theorem cntB_set {b : Nat} {g : G} {w : World} : ∀ (B : List Blk) (k i : Nat) (x x0 : Blk), B[i]? = some x0 → cntB b g w k (B.set i x) + cntBlk b g w (k + i) x0 = cntB b g w k B + cntBlk b g w (k + i) x
  | [], k, i, x, x0, h => by simp at h
  | y :: r, k, 0, x, x0, h => by simp at h; subst h; simp only [List.set_cons_zero, cntB_cons, Nat.add_zero]; omega
  | y :: r, k, i + 1, x, x0, h => by
    have := cntB_set (b := b) (g := g) (w := w) r (k + 1) i x x0 (by simpa using h)
    rw [show k + 1 + i = k + (i + 1) by omega] at this
    simp only [List.set_cons_succ, cntB_cons]
    omega
theorem cntB_get {b : Nat} {g : G} {w : World} : ∀ (B : List Blk) (k i : Nat) (x : Blk), B[i]? = some x → cntBlk b g w (k + i) x ≤ cntB b g w k B
  | [], k, i, x, h => by simp at h
  | y :: r, k, 0, x, h => by simp at h; subst h; simp only [cntB_cons, Nat.add_zero]; omega
  | y :: r, k, i + 1, x, h => by
    have := cntB_get (b := b) (g := g) (w := w) r (k + 1) i x (by simpa using h)
    rw [show k + 1 + i = k + (i + 1) by omega] at this
    simp only [cntB_cons]
    omega

/-! ok -/
theorem okP_mono {n m : Nat} (hnm : n ≤ m) {v : VV} (h : okP n v = true) : okP m v = true := by
  cases v <;> first | rfl | skip
  simp [okP] at h ⊢; omega
theorem okC_mono {n m : Nat} (hnm : n ≤ m) {v : VV} (h : okC n v = true) : okC m v = true := by
  cases v <;> first | rfl | skip
  · simp [okC] at h ⊢; omega
  · simp [okC] at h ⊢; omega
  · simp only [okC, Bool.and_eq_true] at h ⊢
    exact ⟨List.all_eq_true.2 fun x hx => okP_mono hnm (List.all_eq_true.1 h.1 x hx), List.all_eq_true.2 fun x hx => okP_mono hnm (List.all_eq_true.1 h.2 x hx)⟩
theorem all_okC_mono {n m : Nat} (hnm : n ≤ m) {l : List VV} (h : l.all (okC n) = true) : l.all (okC m) = true :=
  List.all_eq_true.2 fun x hx => okC_mono hnm (List.all_eq_true.1 h x hx)
theorem okV_eq {n : Nat} {v : VV} (h : ¬ ∃ cs, v = .agg cs) : okV n v = okC n v := by cases v <;> first | rfl | exact absurd ⟨_, rfl⟩ h
theorem okR_eq {n : Nat} {v : VV} (h : ¬ ∃ cs, v = .tup cs) : okR n v = okV n v := by cases v <;> first | rfl | exact absurd ⟨_, rfl⟩ h
theorem okV_mono {n m : Nat} (hnm : n ≤ m) {v : VV} (h : okV n v = true) : okV m v = true := by
  by_cases hv : ∃ cs, v = .agg cs
  · obtain ⟨cs, rfl⟩ := hv; exact all_okC_mono (l := cs) hnm h
  · rw [okV_eq hv] at h ⊢; exact okC_mono hnm h
theorem okR_mono {n m : Nat} (hnm : n ≤ m) {v : VV} (h : okR n v = true) : okR m v = true := by
  by_cases hv : ∃ cs, v = .tup cs
  · obtain ⟨cs, rfl⟩ := hv; exact List.all_eq_true.2 fun x hx => okV_mono hnm (List.all_eq_true.1 (show cs.all (okV n) = true from h) x hx)
  · rw [okR_eq hv] at h ⊢; exact okV_mono hnm h
theorem okRs_mono {n m : Nat} (hnm : n ≤ m) {l : List VV} (h : okRs n l = true) : okRs m l = true :=
  List.all_eq_true.2 fun x hx => okR_mono hnm (List.all_eq_true.1 h x hx)
theorem okC_viewC {n : Nat} {v : VV} (h : okC n v = true) : okC n (viewC v) = true := by
  cases v <;> first | exact h | skip
  rename_i f xs
  cases f <;> rfl
theorem okV_viewV {n : Nat} {v : VV} (h : okV n v = true) : okV n (viewV v) = true := by
  cases v <;> first | exact h | skip
  · rename_i cs
    simp only [okV, viewV, List.all_map] at h ⊢
    exact List.all_eq_true.2 fun x hx => okC_viewC (List.all_eq_true.1 h x hx)
  · rename_i f xs
    cases f <;> rfl
theorem viewV_tup {v : VV} (h : ¬ ∃ cs, v = .tup cs) : ¬ ∃ cs, viewV v = .tup cs := by
  rintro ⟨cs, e⟩
  cases v <;> first | (cases e; done) | exact absurd ⟨_, rfl⟩ h | skip
  rename_i f xs
  cases f <;> cases e
theorem okR_toView {n : Nat} {v : VV} (h : okR n v = true) : okR n (toView v) = true := by
  by_cases hv : ∃ cs, v = .tup cs
  · obtain ⟨cs, rfl⟩ := hv
    simp only [okR, toView, List.all_map] at h ⊢
    exact List.all_eq_true.2 fun x hx => okV_viewV (List.all_eq_true.1 h x hx)
  · have e : toView v = viewV v := by cases v <;> first | rfl | exact absurd ⟨_, rfl⟩ hv
    rw [okR_eq hv] at h; rw [e, okR_eq (viewV_tup hv)]; exact okV_viewV h
theorem okRs_set {n : Nat} {l : List VV} (h : okRs n l = true) {v : VV} (hv : okR n v = true) (i : Nat) : okRs n (l.set i v) = true :=
  List.all_eq_true.2 fun x hx => by
    rcases List.mem_or_eq_of_mem_set hx with h1 | h1
    · exact List.all_eq_true.1 h x h1
    · subst h1; exact hv
theorem okRs_get {n : Nat} {l : List VV} (h : okRs n l = true) {v : VV} {i : Nat} (hv : l[i]? = some v) : okR n v = true :=
  List.all_eq_true.1 h v (List.mem_of_getElem? hv)

end Go.Wv
