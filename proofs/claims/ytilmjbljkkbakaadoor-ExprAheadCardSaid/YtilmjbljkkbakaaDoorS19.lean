/-
  A part of the proof: our library of the interpreter.
-/
import Derived.Test.YtilmjbljkkbakaaDoorS18
set_option linter.unusedSimpArgs false
set_option linter.unusedVariables false
set_option linter.unusedSectionVars false
set_option linter.unnecessarySimpa false
set_option linter.deprecated false
namespace Go.Wv

/-! Arguments, kept slots. -/

theorem All2.split {α β : Type} {R : α → β → Prop} : ∀ {as cs : List α} {bs ds : List β}, as.length = bs.length → All2 R (as ++ cs) (bs ++ ds) → All2 R as bs ∧ All2 R cs ds
  | [], _, [], _, _, h => ⟨.nil, h⟩
  | [], _, _ :: _, _, hl, _ => by simp at hl
  | _ :: _, _, [], _, hl, _ => by simp at hl
  | a :: as, cs, b :: bs, ds, hl, h => by
    cases h with
    | cons h h' =>
      obtain ⟨h1, h2⟩ := All2.split (by simpa using hl) h'
      exact ⟨.cons h h1, h2⟩

theorem okRs_append {n : Nat} {a b : List VV} : okRs n (a ++ b) = (okRs n a && okRs n b) := by simp [okRs]

section
variable {C : Cfg} {Pr : Nat → Prop} {g g' : G} {sl sl' acc : List VV} {B B' : List Blk} {tm uacc : List Value} {w : World} {v : VV}

theorem Inv.right (hl : acc.length = uacc.length) (hi : Inv Pr g (acc ++ sl) B (uacc ++ tm) w) : Inv Pr g sl B tm w := by
  obtain ⟨h1, h2⟩ := All2.split hl hi.rep
  have ho := hi.ok
  rw [okRs_append, Bool.and_eq_true] at ho
  exact hi.change h2 ho.2 fun b => by rw [cntS_append hl]; omega
theorem Inv.left (hl : acc.length = uacc.length) (hi : Inv Pr g (acc ++ sl) B (uacc ++ tm) w) : Inv Pr g acc B uacc w := by
  obtain ⟨h1, h2⟩ := All2.split hl hi.rep
  have ho := hi.ok
  rw [okRs_append, Bool.and_eq_true] at ho
  exact hi.change h1 ho.1 fun b => by rw [cntS_append hl]; omega

/-- Something is put between. -/
theorem Inv.insert (hl : acc.length = uacc.length) (hi : Inv Pr g (acc ++ sl) B (uacc ++ tm) w) {vs : List VV} {us : List Value} (hv : All2 (Rep g) vs us) (ho : okRs B.length vs = true)
    (hs : All2 (Rep g) sl' tm) (hso : okRs B.length sl' = true) (hc : ∀ b, cntS b vs us + cntS b sl' tm ≤ cntS b sl tm) : Inv Pr g ((acc ++ vs) ++ sl') B ((uacc ++ us) ++ tm) w := by
  obtain ⟨h1, h2⟩ := All2.split hl hi.rep
  have ho' := hi.ok
  rw [okRs_append, Bool.and_eq_true] at ho'
  refine hi.change ((h1.append hv).append hs) ?_ fun b => ?_
  · rw [okRs_append, okRs_append, ho'.1, ho, hso]; rfl
  · rw [cntS_append (by simp [hl, hv.length]), cntS_append hl, cntS_append hl]
    have := hc b
    omega

theorem cntS_one {b : Nat} {v : VV} {u : Value} : cntS b [v] [u] = cnt b v u := by simp [cntS]

theorem vargs_ok {gg : FuncId} : ∀ {xs : List Operand} {i : Nat} {g : G} {sl sl' : List VV} {B B' : List Blk} {vs acc : List VV} {uacc : List Value}, GlobOk C g → acc.length = uacc.length → Inv Pr g (acc ++ sl) B (uacc ++ tm) w →
    vargs C gg sl B i xs = some (vs, sl', B') → ∃ g', Grow Pr g g' ∧ Inv Pr g' ((acc ++ vs) ++ sl') B' ((uacc ++ xs.map (evR tm)) ++ tm) w ∧ vs.length = xs.length
  | [], i, g, sl, sl', B, B', vs, acc, uacc, hg, hl, hi, h => by
    simp only [vargs, Option.some.injEq, Prod.mk.injEq] at h
    obtain ⟨rfl, rfl, rfl⟩ := h
    exact ⟨g, Grow.refl g, by simpa using hi, rfl⟩
  | x :: xs, i, g, sl, sl', B, B', vs, acc, uacc, hg, hl, hi, h => by
    have hr := hi.right hl
    unfold vargs at h
    split at h
    · split at h <;> first | (cases h; done) | skip
      rename_i v1 B1 h1
      split at h <;> first | (cases h; done) | skip
      rename_i vs2 sl2 B2 h2
      simp only [Option.some.injEq, Prod.mk.injEq] at h
      obtain ⟨rfl, rfl, rfl⟩ := h
      obtain ⟨g1, f1, r1, o1, k1⟩ := freeze_ok hi (ev_rep hg hr.rep x) (ev_ok (C := C) hr.ok x) h1
      have hlb := freeze_len h1
      have hr1 := f1.inv.right hl
      have hi1 := f1.inv.insert hl (vs := [v1]) (us := [evR tm x]) (.cons r1 .nil) (by simp [okRs, hlb, k1]) hr1.rep hr1.ok (fun b => by rw [cntS_one, cnt_zero o1]; omega)
      obtain ⟨g2, f2, hi2, hl2⟩ := vargs_ok (f1.grow.glob hg) (by simp [hl]) hi1 h2
      exact ⟨g2, f1.grow.trans f2, by simpa using hi2, by simp [hl2]⟩
    · simp only at h
      split at h <;> first | (cases h; done) | skip
      rename_i vs2 sl2 B2 h2
      simp only [Option.some.injEq, Prod.mk.injEq] at h
      obtain ⟨rfl, rfl, rfl⟩ := h
      obtain ⟨t1, t2, t3, t4, t5⟩ := tr_ok hg hr (x := x) (v := (tr C sl x).1) (sl' := (tr C sl x).2) rfl
      have hi1 := hi.insert hl (vs := [(tr C sl x).1]) (us := [evR tm x]) (.cons t1 .nil) (by simp [okRs, t2]) t3 t4 (fun b => by have := t5 b; rw [cntS_one]; omega)
      obtain ⟨g2, f2, hi2, hl2⟩ := vargs_ok hg (by simp [hl]) hi1 h2
      exact ⟨g2, f2, by simpa using hi2, by simp [hl2]⟩
    · split at h <;> first | (cases h; done) | skip
      rename_i vs2 sl2 B2 h2
      simp only [Option.some.injEq, Prod.mk.injEq] at h
      obtain ⟨rfl, rfl, rfl⟩ := h
      have hi1 := hi.insert hl (vs := [toView (ev C sl x)]) (us := [evR tm x]) (.cons (Rep_toView (ev_rep hg hr.rep x)) .nil) (by simp [okRs, okR_toView (ev_ok (C := C) hr.ok x)]) hr.rep hr.ok
        (fun b => by rw [cntS_one, toView_cnt]; omega)
      obtain ⟨g2, f2, hi2, hl2⟩ := vargs_ok hg (by simp [hl]) hi1 h2
      exact ⟨g2, f2, by simpa using hi2, by simp [hl2]⟩

theorem pargs_ok {gg : FuncId} (hg : GlobOk C g) : ∀ {xs : List Operand} {i : Nat} {sl acc : List VV} {uacc : List Value}, acc.length = uacc.length → Inv Pr g (acc ++ sl) B (uacc ++ tm) w →
    Inv Pr g ((acc ++ (pargs C gg sl i xs).1) ++ (pargs C gg sl i xs).2) B ((uacc ++ xs.map (evR tm)) ++ tm) w ∧ (pargs C gg sl i xs).1.length = xs.length
  | [], i, sl, acc, uacc, hl, hi => ⟨by simpa [pargs] using hi, rfl⟩
  | x :: xs, i, sl, acc, uacc, hl, hi => by
    have hr := hi.right hl
    unfold pargs
    split
    · simp only
      obtain ⟨t1, t2, t3, t4, t5⟩ := tr_ok hg hr (x := x) (v := (tr C sl x).1) (sl' := (tr C sl x).2) rfl
      have hi1 := hi.insert hl (vs := [(tr C sl x).1]) (us := [evR tm x]) (.cons t1 .nil) (by simp [okRs, t2]) t3 t4 (fun b => by have := t5 b; rw [cntS_one]; omega)
      obtain ⟨hi2, hl2⟩ := pargs_ok hg (xs := xs) (i := i + 1) (by simp [hl]) hi1
      exact ⟨by simpa using hi2, by simp [hl2]⟩
    · simp only
      have hi1 := hi.insert hl (vs := [toView (ev C sl x)]) (us := [evR tm x]) (.cons (Rep_toView (ev_rep hg hr.rep x)) .nil) (by simp [okRs, okR_toView (ev_ok (C := C) hr.ok x)]) hr.rep hr.ok
        (fun b => by rw [cntS_one, toView_cnt]; omega)
      obtain ⟨hi2, hl2⟩ := pargs_ok hg (xs := xs) (i := i + 1) (by simp [hl]) hi1
      exact ⟨by simpa using hi2, by simp [hl2]⟩

/-! masked slots -/
theorem getS_set_eq {sl : List VV} {i : Nat} {v : VV} (j : Nat) : getS (sl.set i v) j = if i = j ∧ i < sl.length then v else getS sl j := by
  unfold getS
  rw [List.getD_eq_getElem?_getD, List.getD_eq_getElem?_getD, List.getElem?_set]
  by_cases e : i = j
  · subst e
    by_cases hl : i < sl.length
    · simp [hl]
    · simp [hl, List.getElem?_eq_none (Nat.le_of_not_lt hl)]
  · simp [e]

theorem mask_spec (sl : List VV) : ∀ (ks : List Nat) (acc : List VV), acc.length = sl.length → (∀ j, getS acc j = .gone ∨ (getS acc j = getS sl j)) →
    (ks.foldl (fun acc k => acc.set k (getS sl k)) acc).length = sl.length ∧ ∀ j, getS (ks.foldl (fun acc k => acc.set k (getS sl k)) acc) j = .gone ∨ getS (ks.foldl (fun acc k => acc.set k (getS sl k)) acc) j = getS sl j
  | [], acc, hl, h => ⟨hl, h⟩
  | k :: ks, acc, hl, h => mask_spec sl ks (acc.set k (getS sl k)) (by simpa using hl) fun j => by
    rw [getS_set_eq]
    split
    · rename_i e; exact .inr (by rw [e.1])
    · exact h j

theorem getS_replicate (n j : Nat) : getS (List.replicate n .gone) j = .gone := by
  unfold getS
  rw [List.getD_eq_getElem?_getD, List.getElem?_replicate]
  split <;> rfl

theorem mask_getS (ks : List Nat) (sl : List VV) : (mask ks sl.length sl).length = sl.length ∧ ∀ j, getS (mask ks sl.length sl) j = .gone ∨ getS (mask ks sl.length sl) j = getS sl j :=
  mask_spec sl ks _ (by simp) fun j => .inl (getS_replicate _ j)

theorem getS_get {sl : List VV} {j : Nat} {v : VV} (h : sl[j]? = some v) : getS sl j = v := by
  unfold getS; rw [List.getD_eq_getElem?_getD, h]; rfl

theorem mask_mem {ks : List Nat} {sl : List VV} : ∀ (acc : List VV), (∀ x ∈ acc, x = .gone ∨ ∃ k ∈ ks, x = getS sl k) → ∀ (ls : List Nat), (∀ k ∈ ls, k ∈ ks) →
    ∀ x ∈ ls.foldl (fun acc k => acc.set k (getS sl k)) acc, x = .gone ∨ ∃ k ∈ ks, x = getS sl k
  | acc, h, [], _, x, hx => h x hx
  | acc, h, k :: ls, hk, x, hx => mask_mem (acc.set k (getS sl k)) (fun y hy => by
      rcases List.mem_or_eq_of_mem_set hy with h1 | rfl
      · exact h y h1
      · exact .inr ⟨k, hk k (by simp), rfl⟩) ls (fun k' hk' => hk k' (by simp [hk'])) x hx

theorem cnt_gone {b : Nat} {u : Value} : cnt b .gone u = 0 := cnt_zero rfl

/-- slots that hold less -/
theorem cntS_less {b : Nat} : ∀ {sl sl2 : List VV} {tm : List Value}, sl2.length = sl.length → (∀ j, getS sl2 j = .gone ∨ getS sl2 j = getS sl j) → cntS b sl2 tm ≤ cntS b sl tm
  | [], [], _, _, _ => Nat.le_refl _
  | [], _ :: _, _, hl, _ => by simp at hl
  | _ :: _, [], _, hl, _ => by simp at hl
  | v :: sl, v2 :: sl2, [], _, _ => Nat.le_refl _
  | v :: sl, v2 :: sl2, u :: tm, hl, h => by
    have h0 := h 0
    have := cntS_less (b := b) (sl := sl) (sl2 := sl2) (tm := tm) (by simpa using hl) fun j => h (j + 1)
    simp only [cntS]
    rcases h0 with e | e
    · rw [show v2 = .gone from e, cnt_gone]; omega
    · rw [show v2 = v from e]; omega
theorem All2_less : ∀ {sl sl2 : List VV} {tm : List Value}, All2 (Rep g) sl tm → sl2.length = sl.length → (∀ j, getS sl2 j = .gone ∨ getS sl2 j = getS sl j) → All2 (Rep g) sl2 tm
  | [], [], _, h, _, _ => h
  | [], _ :: _, _, _, hl, _ => by simp at hl
  | _ :: _, [], _, _, hl, _ => by simp at hl
  | v :: sl, v2 :: sl2, _, .cons hr hrs, hl, h => by
    refine .cons ?_ (All2_less hrs (by simpa using hl) fun j => h (j + 1))
    rcases h 0 with e | e
    · rw [show v2 = .gone from e]; trivial
    · rw [show v2 = v from e]; exact hr

theorem take_get {B : List Blk} {n i : Nat} {x : Blk} (h : (B.take n)[i]? = some x) : B[i]? = some x := by
  rw [List.getElem?_take] at h
  split at h
  · exact h
  · cases h

theorem Sto.take (h : Sto g B w) (n : Nat) : Sto g (B.take n) w :=
  ⟨h.comm, fun id cs hb => h.var id cs (take_get hb), fun id cs hb => h.ro id cs (take_get hb), fun i j ci cj hi hj => h.inj i j ci cj (take_get hi) (take_get hj)⟩

/-- Blocks that are not reached any more are forgotten. -/
theorem Inv.take (hi : Inv Pr g sl B tm w) (n : Nat) (ho : okRs n sl = true) (hn : n ≤ B.length) : Inv Pr g sl (B.take n) tm w :=
  ⟨hi.rep, by rw [List.length_take, Nat.min_eq_left hn]; exact ho, hi.sto.take n, fun b => by have := hi.uniq b; have := cntB_take (b := b) (g := g) (w := w) B 0 n; omega,
   fun b hp => ⟨(hi.prot b hp).1, by have := (hi.prot b hp).2.1; have := cntB_take (b := b) (g := g) (w := w) B 0 n; omega, fun id cs hb => (hi.prot b hp).2.2 id cs (take_get hb)⟩⟩

theorem norm_ok (hi : Inv Pr g sl B tm w) {ks : List Nat} {n : Nat} (hn : n ≤ B.length) (h : norm ks n sl B = some (sl', B')) : Inv Pr g sl' B' tm w ∧ B'.length = n := by
  unfold norm at h
  split at h <;> first | (cases h; done) | skip
  rename_i hk
  simp only [Option.some.injEq, Prod.mk.injEq] at h
  obtain ⟨rfl, rfl⟩ := h
  obtain ⟨m1, m2⟩ := mask_getS ks sl
  have hok : okRs n (mask ks sl.length sl) = true := by
    refine List.all_eq_true.2 fun x hx => ?_
    rcases mask_mem (ks := ks) (sl := sl) (List.replicate sl.length .gone) (fun x hx => .inl (List.eq_of_mem_replicate hx)) ks (fun _ h => h) x hx with rfl | ⟨k, hk', rfl⟩
    · rfl
    · exact List.all_eq_true.1 hk k hk'
  have h1 : Inv Pr g (mask ks sl.length sl) B tm w := hi.change (All2_less hi.rep m1 m2) (okRs_mono hn hok) fun b => cntS_less m1 m2
  exact ⟨h1.take n hok hn, by rw [List.length_take, Nat.min_eq_left hn]⟩
end
end Go.Wv
