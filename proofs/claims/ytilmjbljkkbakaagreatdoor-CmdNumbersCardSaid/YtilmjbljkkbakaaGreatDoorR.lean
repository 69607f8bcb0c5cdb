/-
  A part of the proof: our library of the interpreter.
-/
import Derived.Test.YtilmjbljkkbakaaGreatDoorL
import Derived.Laws.BitsLemmas
set_option linter.unusedSimpArgs false
set_option linter.unusedVariables false
set_option linter.unusedSectionVars false
set_option linter.unnecessarySimpa false
set_option linter.deprecated false
namespace Go.Wv
/-! A calculus for printed functions: total correctness. -/
def Ret {α : Type} (x : Option α) (P : α → Prop) : Prop := ∃ r, x = some r ∧ P r
theorem Ret.some {α : Type} {a : α} {P : α → Prop} (h : P a) : Ret (some a) P := ⟨a, rfl, h⟩
theorem Ret.mono {α : Type} {x : Option α} {P Q : α → Prop} (h : Ret x P) (hq : ∀ a, P a → Q a) : Ret x Q := by
  obtain ⟨r, h, p⟩ := h; exact ⟨r, h, hq r p⟩
theorem Ret.bind {α β : Type} {x : Option α} {f : α → Option β} {P : α → Prop} {Q : β → Prop} (h : Ret x P) (hf : ∀ a, P a → Ret (f a) Q) : Ret (x.bind f) Q := by
  obtain ⟨r, rfl, p⟩ := h; exact hf r p
theorem Ret.map {α β : Type} {x : Option α} {f : α → β} {P : α → Prop} {Q : β → Prop} (h : Ret x P) (hf : ∀ a, P a → Q (f a)) : Ret (x.map f) Q := by
  obtain ⟨r, rfl, p⟩ := h; exact ⟨_, rfl, hf r p⟩
theorem Ret.ite {α : Type} {c : Prop} [Decidable c] {x y : Option α} {P : α → Prop} (h1 : c → Ret x P) (h2 : ¬ c → Ret y P) : Ret (if c then x else y) P := by
  by_cases hc : c
  · rw [if_pos hc]; exact h1 hc
  · rw [if_neg hc]; exact h2 hc
theorem Ret.get {α : Type} {x : Option α} {P : α → Prop} (h : Ret x P) {r : α} (hr : x = Option.some r) : P r := by
  obtain ⟨r', h', p⟩ := h; rw [hr] at h'; cases h'; exact p
theorem Ret.idx {α : Type} {l : List α} {i : Int} {P : α → Prop} (h0 : 0 ≤ i) (h1 : i < l.length) (h : ∀ x, l[i.toNat]? = Option.some x → P x) : Ret (idx l i) P := by
  have hl : i.toNat < l.length := by omega
  exact ⟨l[i.toNat], idx_some.2 ⟨h0, List.getElem?_eq_getElem hl⟩, h _ (List.getElem?_eq_getElem hl)⟩
theorem Ret.run {S R : Type} {f : S → Option (S ⊕ R)} (I : S → Prop) (P : R → Prop) (μ : S → Nat)
    (h : ∀ s, I s → Ret (f s) fun x => match x with
      | .inl s' => I s' ∧ μ s' < μ s
      | .inr r => P r) {s : S} (hs : I s) : Ret (run f s) P := by
  induction hm : μ s using Nat.strongRecOn generalizing s with
  | _ m ih =>
    obtain ⟨x, hx, hp⟩ := h s hs
    rw [run_eq, hx]
    cases x with
    | inl s' => exact ih (μ s') (by rw [← hm]; exact hp.2) hp.1 rfl
    | inr r => exact Ret.some hp
/-- two loops step by step -/
theorem run_sim {S S' R R' : Type} {f : S → Option (S ⊕ R)} {g : S' → Option (S' ⊕ R')} (Rel : S → S' → Prop) (Q : R → R' → Prop)
    (h : ∀ s s' x, Rel s s' → f s = some x → Ret (g s') fun y => match x, y with
      | .inl a, .inl b => Rel a b
      | .inr a, .inr b => Q a b
      | _, _ => False) {s : S} {s' : S'} {r : R} (hs : Rel s s') (hr : run f s = some r) : Ret (run g s') (Q r) := by
  obtain ⟨n, hn⟩ := run_some.1 hr
  clear hr
  induction n generalizing s s' with
  | zero => simp [iter] at hn
  | succ n ih =>
    simp only [iter] at hn
    cases hf : f s with
    | none => simp [hf] at hn
    | some x =>
      rw [hf] at hn
      obtain ⟨y, hy, hp⟩ := h s s' x hs hf
      rw [run_eq, hy]
      cases x with
      | inl a => cases y with
        | inl b => exact ih hp hn
        | inr b => exact hp.elim
      | inr a =>
        cases hn
        cases y with
        | inl b => exact hp.elim
        | inr b => exact Ret.some hp
/-- a loop: an invariant, a measure, what holds at its end -/
theorem run_loop {S R : Type} {f : S → Option (S ⊕ R)} (I : S → Prop) (P : R → Prop) (μ : S → Nat)
    (h : ∀ s, I s → (∃ s', f s = some (.inl s') ∧ I s' ∧ μ s' < μ s) ∨ (∃ r, f s = some (.inr r) ∧ P r)) {s : S} (hs : I s) : ∃ r, run f s = some r ∧ P r := by
  induction hm : μ s using Nat.strongRecOn generalizing s with
  | _ m ih =>
    rw [run_eq]
    rcases h s hs with ⟨s', h1, h2, h3⟩ | ⟨r, h1, h2⟩
    · rw [h1]; exact ih (μ s') (by rw [← hm]; exact h3) h2 rfl
    · rw [h1]; exact ⟨r, rfl, h2⟩
theorem w64 {x : Int} (h1 : -9223372036854775808 ≤ x) (h2 : x ≤ 9223372036854775807) : IntKind.i64.wrap x = x := by
  rw [IntKind.wrap_i64]; omega
theorem cat_ok {a b : List UInt8} (h : a.length + b.length ≤ 9223372036854775807) : cat a b = some (a ++ b) := by
  unfold cat; rw [if_pos h]
theorem app_ok {α : Type} {n : Nat} {xs ys : List α} (h1 : (xs.length + ys.length) * n ≤ lim) (h2 : xs.length + ys.length ≤ lim) : app n xs ys = some (xs ++ ys) := by
  unfold app; rw [if_pos ⟨h1, h2⟩]
theorem sub_ok {α : Type} {l : List α} {i j : Nat} (h1 : i ≤ j) (h2 : j ≤ l.length) : sub l (i : Int) (j : Int) = some ((l.drop i).take (j - i)) := by
  unfold sub; rw [if_pos (by omega)]; simp
theorem subF_ok {α : Type} {l : List α} {i : Nat} (h : i ≤ l.length) : subF l (i : Int) = some (l.drop i) := by
  unfold subF; rw [if_pos (by omega)]; simp
theorem subT_ok {α : Type} {l : List α} {i : Nat} (h : i ≤ l.length) : subT l (i : Int) = some (l.take i) := by
  unfold subT; rw [if_pos (by omega)]; simp
theorem idx_nat {α : Type} {l : List α} {i : Nat} : idx l (i : Int) = l[i]? := by
  unfold idx; rw [if_pos (by omega)]; simp
theorem byts_ok {s : List UInt8} (h : s.length ≤ lim) : byts s = some (s.map fun b => (b.toNat : Int)) := by
  unfold byts; rw [if_pos h]

/-- how many bytes are so, from a place on -/
def scan (p : UInt8 → Bool) (s : List UInt8) (i : Nat) : Nat := i + ((s.drop i).takeWhile p).length
theorem scan_ge (p : UInt8 → Bool) (s : List UInt8) (i : Nat) : i ≤ scan p s i := Nat.le_add_right _ _
theorem takeWhile_length_le {α : Type} (p : α → Bool) : ∀ l : List α, (l.takeWhile p).length ≤ l.length
  | [] => Nat.le_refl _
  | a :: l => by
    rw [List.takeWhile_cons]
    split
    · simpa using takeWhile_length_le p l
    · simp
theorem scan_le (p : UInt8 → Bool) (s : List UInt8) {i : Nat} (h : i ≤ s.length) : scan p s i ≤ s.length := by
  have := takeWhile_length_le p (s.drop i)
  unfold scan
  simp at this
  omega
theorem scan_step {p : UInt8 → Bool} {s : List UInt8} {i : Nat} {c : UInt8} (hc : s[i]? = some c) : scan p s i = if p c = true then scan p s (i + 1) else i := by
  have hl : i < s.length := by
    rcases Nat.lt_or_ge i s.length with h | h
    · exact h
    · rw [List.getElem?_eq_none h] at hc; cases hc
  have hd : s.drop i = c :: s.drop (i + 1) := by
    rw [List.drop_eq_getElem_cons hl]
    rw [List.getElem?_eq_getElem hl] at hc
    rw [Option.some.inj hc]
  unfold scan
  rw [hd, List.takeWhile_cons]
  split
  · simp; omega
  · simp
theorem scan_end {p : UInt8 → Bool} {s : List UInt8} {i : Nat} (h : s.length ≤ i) : scan p s i = i := by
  unfold scan; rw [List.drop_eq_nil_of_le h]; rfl
/-- what follows a text with a byte that is not so makes no difference -/
theorem scan_app {p : UInt8 → Bool} {s u : List UInt8} {c : UInt8} (hu : u.head? = some c) (hc : p c = false) {i : Nat} (hi : i ≤ s.length) : scan p (s ++ u) i = scan p s i := by
  unfold scan
  rw [List.drop_append_of_le_length hi]
  congr 1
  generalize s.drop i = l
  induction l with
  | nil =>
    cases u with
    | nil => rfl
    | cons a u => cases hu; simp [List.takeWhile_cons, hc]
  | cons a l ih =>
    rw [List.cons_append, List.takeWhile_cons, List.takeWhile_cons]
    split
    · simp [ih]
    · rfl
end Go.Wv
