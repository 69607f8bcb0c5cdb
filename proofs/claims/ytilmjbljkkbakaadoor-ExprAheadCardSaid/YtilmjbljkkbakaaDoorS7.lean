/-
  A part of the proof: our library of the interpreter.
-/
import Derived.Test.YtilmjbljkkbakaaDoorS6
set_option linter.unusedSimpArgs false
set_option linter.unusedVariables false
set_option linter.unusedSectionVars false
set_option linter.unnecessarySimpa false
set_option linter.deprecated false
namespace Go.Wv

/-! cells of values; structs that are put together -/

theorem cntL_append {b : Nat} {vs vs' : List VV} {us us' : List Value} (h : vs.length = us.length) : cntL b (vs ++ vs') (us ++ us') = cntL b vs us + cntL b vs' us' := by
  induction vs generalizing us with
  | nil => cases us with
    | nil => simp [cntL]
    | cons => simp at h
  | cons v vs ih => cases us with
    | nil => simp at h
    | cons u us => simp only [List.cons_append, cntL, ih (by simpa using h)]; omega
theorem cntL_split {b : Nat} {vs : List VV} {us : List Value} (h : vs.length = us.length) (n : Nat) : cntL b (vs.take n) (us.take n) + cntL b (vs.drop n) (us.drop n) = cntL b vs us := by
  have := cntL_append (b := b) (vs := vs.take n) (vs' := vs.drop n) (us := us.take n) (us' := us.drop n) (by simp [h])
  rw [List.take_append_drop, List.take_append_drop] at this
  exact this.symm

def spliceR (us : List Value) (off : Nat) (zs : List Value) : List Value := us.take off ++ zs ++ us.drop (off + zs.length)

theorem All2_splice {g : G} {cs vs : List VV} {us zs : List Value} (h : All2 (RepC g) cs us) (h' : All2 (RepC g) vs zs) (off : Nat) : All2 (RepC g) (splice cs off vs) (spliceR us off zs) := by
  unfold splice spliceR
  rw [h'.length]
  exact ((h.take off).append h').append (h.drop _)
theorem cntL_splice {b : Nat} {cs vs : List VV} {us zs : List Value} (h : cs.length = us.length) (h' : vs.length = zs.length) {off : Nat} (ho : off + vs.length ≤ cs.length) :
    cntL b (splice cs off vs) (spliceR us off zs) + cntL b ((cs.drop off).take vs.length) ((us.drop off).take zs.length) = cntL b cs us + cntL b vs zs := by
  unfold splice spliceR
  rw [cntL_append (by simp; omega), cntL_append (by simp; omega)]
  have e1 := cntL_split (b := b) h off
  have e2 := cntL_split (b := b) (vs := cs.drop off) (us := us.drop off) (by simp [h]) vs.length
  rw [List.drop_drop, List.drop_drop] at e2
  rw [← h']
  omega
theorem length_splice {cs vs : List VV} {off : Nat} (ho : off + vs.length ≤ cs.length) : (splice cs off vs).length = cs.length := by
  unfold splice; simp; omega
theorem length_spliceR {us zs : List Value} {off : Nat} (ho : off + zs.length ≤ us.length) : (spliceR us off zs).length = us.length := by
  unfold spliceR; simp; omega
theorem all_splice {p : VV → Bool} {cs vs : List VV} (h : cs.all p = true) (h' : vs.all p = true) (off : Nat) : (splice cs off vs).all p = true := by
  unfold splice
  refine List.all_eq_true.2 fun x hx => ?_
  simp only [List.mem_append] at hx
  rcases hx with (hx | hx) | hx
  · exact List.all_eq_true.1 h x (List.mem_of_mem_take hx)
  · exact List.all_eq_true.1 h' x hx
  · exact List.all_eq_true.1 h x (List.mem_of_mem_drop hx)

theorem RepSl_one {g : G} {f : Fl} {xs : List VV} {z : Value} (h : RepSl g f xs z) : z.oneCell' = true := by
  cases xs with
  | nil => cases f with
    | own => rw [show z = _ from h]; rfl
    | view => obtain ⟨_, _, e⟩ := h; rw [e]; rfl
  | cons x xs => obtain ⟨_, _, _, _, _, e, _⟩ := h; rw [e]; rfl
theorem RepC_one {g : G} {c : VV} {z : Value} (h : RepC g c z) : z.oneCell' = true := by
  cases c with
  | lit v => rw [h.1]; exact h.2
  | sl f xs => exact RepSl_one h
  | mref => obtain ⟨c, e, _⟩ := h; rw [e]; rfl
  | ptr => rw [show z = _ from h]; rfl
  | elp => obtain ⟨_, _, _, _, e, _⟩ := h; rw [e]; rfl
  | clo => obtain ⟨_, _, e, _⟩ := h; rw [e]; rfl
  | agg => exact h.elim
  | tup => exact h.elim
  | gone => exact h.elim

/-- the cells of a value that may lie in memory -/
theorem cells_rep {g : G} {v : VV} {u : Value} (h : Rep g v u) (hv : isVal v = true) : All2 (RepC g) v.cells u.cells.toList ∧ (∀ b, cntL b v.cells u.cells.toList = cnt b v u) := by
  by_cases ha : ∃ cs, v = .agg cs
  · obtain ⟨cs, rfl⟩ := ha
    obtain ⟨us, rfl, h⟩ := h
    exact ⟨h, fun b => rfl⟩
  · have hc : RepC g v u := Rep_cell h (by rintro vs rfl; cases hv) (fun cs e => ha ⟨cs, e⟩) (by rintro rfl; cases hv)
    have hcell : v.cells = [v] := by cases v <;> first | rfl | exact absurd ⟨_, rfl⟩ ha
    have hu : u.cells = #[u] := by
      have h1 := RepC_one hc
      cases u <;> first | rfl | cases h1
    rw [hcell, hu]
    refine ⟨.cons hc .nil, fun b => ?_⟩
    have : cnt b v u = cntC b v u := by
      have hnt : ¬ ∃ vs, v = .tup vs := by rintro ⟨vs, rfl⟩; cases hv
      rw [cnt_eq hnt]
      cases v <;> first | rfl | exact absurd ⟨_, rfl⟩ ha
    rw [this]
    simp [cntL]
theorem cells_ok {n : Nat} {v : VV} (h : okR n v = true) (hv : isVal v = true) : v.cells.all (okC n) = true := by
  cases v <;> first | exact h | (simp only [VV.cells, List.all_cons, List.all_nil, Bool.and_true]; exact h) | cases hv
theorem All2_one {g : G} {cs : List VV} {us : List Value} (h : All2 (RepC g) cs us) : ∀ z ∈ us, z.oneCell' = true := by
  induction h with
  | nil => intro z hz; cases hz
  | cons h _ ih =>
    intro z hz
    rcases List.mem_cons.1 hz with rfl | hz
    · exact RepC_one h
    · exact ih z hz

theorem spliceR_cons {us : List Value} {z : Value} {zs : List Value} {p : Nat} (h : p + 1 + zs.length ≤ us.length) : spliceR (us.set p z) (p + 1) zs = spliceR us p (z :: zs) := by
  unfold spliceR
  rw [List.set_eq_take_append_cons_drop, if_pos (by omega)]
  have h1 : (us.take p).length = p := by simp; omega
  have e1 : (us.take p ++ z :: us.drop (p + 1)).take (p + 1) = us.take p ++ [z] := by
    rw [List.take_append, h1, List.take_of_length_le (by omega), show p + 1 - p = 1 by omega]
    rfl
  have e2 : (us.take p ++ z :: us.drop (p + 1)).drop (p + 1 + zs.length) = us.drop (p + (z :: zs).length) := by
    rw [List.drop_append, h1, List.drop_of_length_le (by omega), List.nil_append, show p + 1 + zs.length - p = zs.length + 1 by omega, List.drop_succ_cons, List.drop_drop, List.length_cons]
    congr 1; omega
  rw [e1, e2]
  simp

theorem fold_splice (off : Nat) : ∀ (zs : List Value) (k : Nat) (us : Array Value), off + k + zs.length ≤ us.size →
    ((zs.zipIdx k).foldl (fun cs (p : Value × Nat) => cs.setIfInBounds (off + p.2) p.1) us).toList = spliceR us.toList (off + k) zs
  | [], k, us, _ => by simp [spliceR]
  | z :: zs, k, us, h => by
    simp only [List.length_cons] at h
    simp only [List.zipIdx_cons, List.foldl_cons]
    rw [fold_splice off zs (k + 1) _ (by simp; omega), Array.toList_setIfInBounds, show off + (k + 1) = off + k + 1 by omega]
    exact spliceR_cons (by simp; omega)

theorem fill_step (off : Nat) (u : Value) (us : Array Value) (h : off + u.cells.size ≤ us.size) :
    (u.cells.zipIdx.foldl (fun cs (c, j) => cs.setIfInBounds (off + j) c) us).toList = spliceR us.toList off u.cells.toList := by
  rw [← Array.foldl_toList, Array.toList_zipIdx]
  exact fold_splice off u.cells.toList 0 us (by simpa using h)

/-- what becomes of a struct's cells when parts are filled in -/
theorem fillS_run {P : Program} {g : G} {t : TypeId} {place : Nat → Option (Nat × Nat)}
    (hpl : ∀ i off sz, (match arrT P t with | some (n, e) => if i < n then some (i * szT P e, szT P e) else none | none => fldT P t i) = some (off, sz) → place i = some (off, sz)) :
    ∀ (ps : List (Nat × VV)) (qs : List (Nat × Value)) (cs cs' : List VV) (us : Array Value), fillS P t cs ps = some cs' → All2 (fun (p : Nat × VV) (q : Nat × Value) => p.1 = q.1 ∧ Rep g p.2 q.2) ps qs → All2 (RepC g) cs us.toList →
      ∃ us', Instr.fill place us qs = some us' ∧ All2 (RepC g) cs' us'.toList ∧ cs'.length = cs.length ∧ (∀ b, cntL b cs' us'.toList ≤ cntL b cs us.toList + cntS b (ps.map (·.2)) (qs.map (·.2))) ∧
        ∀ n, cs.all (okC n) = true → okRs n (ps.map (·.2)) = true → cs'.all (okC n) = true
  | [], _, cs, cs', us, h, .nil, h2 => by
    obtain rfl := Option.some.inj h
    exact ⟨us, rfl, h2, rfl, fun b => by simp [cntS], fun n h _ => h⟩
  | (i, v) :: ps, _, cs, cs', us, h, .cons (b := (j, u)) (bs := qs) ⟨hij, hr⟩ hl, h2 => by
    simp only at hij hr
    subst hij
    unfold fillS at h
    split at h <;> first | (cases h; done) | skip
    rename_i off sz hp
    split at h <;> first | (cases h; done) | skip
    rename_i hc
    obtain ⟨hv, hsz, hle⟩ := hc
    obtain ⟨h3, h4⟩ := cells_rep hr hv
    have hl3 := h3.length
    have hl2 := h2.length
    simp only [Array.length_toList] at hl3 hl2
    have hle' : off + u.cells.size ≤ us.size := by omega
    have hstep := fill_step off u us hle'
    have h5 : All2 (RepC g) (splice cs off v.cells) (u.cells.zipIdx.foldl (fun cs (c, j) => cs.setIfInBounds (off + j) c) us).toList := by
      rw [hstep]; exact All2_splice h2 h3 off
    obtain ⟨us', e1, e2, e3, e4, e5⟩ := fillS_run hpl ps qs _ cs' _ h hl h5
    refine ⟨us', ?_, e2, by rw [e3, length_splice (by omega)], ?_, ?_⟩
    · simp only [Instr.fill, hpl i off sz hp]
      rw [if_neg (by simp; omega)]
      exact e1
    · intro b
      have := e4 b
      rw [hstep] at this
      have c1 := cntL_splice (b := b) h2.length h3.length (off := off) (by omega)
      simp only [List.map_cons, cntS]
      rw [h4 b] at c1
      omega
    · intro n hn hps
      simp only [List.map_cons, okRs, List.all_cons, Bool.and_eq_true] at hps
      exact e5 n (all_splice hn (cells_ok hps.1 hv) off) hps.2

end Go.Wv
