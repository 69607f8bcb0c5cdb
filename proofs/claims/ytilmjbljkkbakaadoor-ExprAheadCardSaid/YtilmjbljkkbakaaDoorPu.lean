/-
  A part of the proof: lemmas.
-/
import Derived.Test.YtilmjbljkkbakaaDoorR
import Derived.Test.YtilmjbljkkbakaaDoorFunsc
set_option linter.unusedSimpArgs false
set_option linter.unusedVariables false
set_option linter.unusedSectionVars false
set_option linter.unnecessarySimpa false
set_option linter.deprecated false
/-! The lexer over plain data. -/
namespace Go.Proofs.YtilmjbljkkbakaaDoor
open Go.Wv
set_option linter.unusedSimpArgs false
set_option linter.unusedVariables false
set_option linter.unusedSectionVars false

def smallB (c : UInt8) : Bool := decide (97 ≤ c.toNat) && decide (c.toNat ≤ 122)
def digitB (c : UInt8) : Bool := decide (48 ≤ c.toNat) && decide (c.toNat ≤ 57)
def wordB (c : UInt8) : Bool := smallB c || digitB c || ((c.toNat : Int) == 95)
def blankB (c : UInt8) : Bool := (c.toNat : Int) == 32
def unquoteB (c : UInt8) : Bool := (c.toNat : Int) != 39

theorem small_eq (c : UInt8) : tok_small (c.toNat : Int) = some (smallB c) := by
  unfold tok_small smallB
  by_cases h : 97 ≤ c.toNat
  · have : (97 : Int) ≤ (c.toNat : Int) := by omega
    rw [if_pos this]
    have e : ((c.toNat : Int) ≤ 122) = (c.toNat ≤ 122) := propext (by omega)
    simp [h, e]
  · have : ¬ (97 : Int) ≤ (c.toNat : Int) := by omega
    rw [if_neg this]; simp [h]
theorem digit_eq (c : UInt8) : tok_digit (c.toNat : Int) = some (digitB c) := by
  unfold tok_digit digitB
  by_cases h : 48 ≤ c.toNat
  · have : (48 : Int) ≤ (c.toNat : Int) := by omega
    rw [if_pos this]
    have e : ((c.toNat : Int) ≤ 57) = (c.toNat ≤ 57) := propext (by omega)
    simp [h, e]
  · have : ¬ (48 : Int) ≤ (c.toNat : Int) := by omega
    rw [if_neg this]; simp [h]
theorem word1_eq (c : UInt8) : tok_reader_word_1 (c.toNat : Int) = some (wordB c) := by
  unfold tok_reader_word_1 wordB
  rw [small_eq, Option.bind_some]
  cases h : smallB c
  · simp only [Bool.false_eq_true, if_false, digit_eq, Option.bind_some, Bool.false_or]
    cases h' : digitB c <;> simp
  · simp
theorem blank_eq (c : UInt8) : tok_Lex_1 (c.toNat : Int) = some (blankB c) := rfl
theorem unquote_eq (c : UInt8) : tok_reader_quote_1 (c.toNat : Int) = some (unquoteB c) := rfl

/-- the loop that the readers share -/
noncomputable def whileStep (isf : Int → Option Bool) (p0 : TokReader) (s1 : Int) : Option ((Int) ⊕ ((List UInt8) × TokReader)) :=
  if s1 < (p0.s.length : Int) then
    (idx p0.s s1).bind fun c2 =>
    (isf (c2.toNat : Int)).bind fun r3 =>
    if r3 then
      some (.inl ((IntKind.i64.wrap (s1 + 1))))
    else
      (sub p0.s p0.at_ s1).bind fun m4 =>
      some (.inr ((m4, (TokReader.mk p0.s s1))))
  else
    (sub p0.s p0.at_ s1).bind fun m5 =>
    some (.inr ((m5, (TokReader.mk p0.s s1))))
/-- what is read -/
def piece (p : UInt8 → Bool) (s : List UInt8) (i : Nat) : List UInt8 := (s.drop i).take (scan p s i - i)

theorem while_gen {isf : Int → Option Bool} {p : UInt8 → Bool} (hp : ∀ c : UInt8, isf (c.toNat : Int) = some (p c)) {s : List UInt8} {i : Nat} (hi : i ≤ s.length) (hs : s.length < 4611686018427387904) :
    run (whileStep isf ⟨s, (i : Int)⟩) (i : Int) = some (piece p s i, ⟨s, (scan p s i : Nat)⟩) := by
  have key : Ret (run (whileStep isf ⟨s, (i : Int)⟩) (i : Int)) fun r => r = (piece p s i, ⟨s, (scan p s i : Nat)⟩) := by
    refine Ret.run (fun j => ∃ k : Nat, j = (k : Int) ∧ i ≤ k ∧ k ≤ s.length ∧ scan p s k = scan p s i) _ (fun j => s.length - j.toNat) ?_ ⟨i, rfl, Nat.le_refl i, hi, rfl⟩
    rintro j ⟨k, rfl, hik, hk, hsc⟩
    unfold whileStep
    refine Ret.ite (fun hlt => ?_) (fun hlt => ?_)
    · have hlt' : k < s.length := by simpa using hlt
      have hget : s[k]? = some s[k] := List.getElem?_eq_getElem hlt'
      show Ret ((idx s (k : Int)).bind _) _
      rw [idx_nat, hget, Option.bind_some, hp, Option.bind_some]
      have hst := scan_step (p := p) hget
      refine Ret.ite (fun hb => ?_) (fun hb => ?_)
      · refine Ret.some ⟨⟨k + 1, ?_, by omega, by omega, ?_⟩, ?_⟩
        · rw [w64 (by omega) (by omega)]; rfl
        · rw [hst, if_pos hb] at hsc; exact hsc
        · rw [w64 (by omega) (by omega)]; omega
      · rw [hst, if_neg hb] at hsc
        show Ret ((sub s (i : Int) (k : Int)).bind _) _
        rw [sub_ok hik hk, Option.bind_some]
        refine Ret.some ?_
        rw [piece, ← hsc]
    · have hlt' : s.length ≤ k := by simpa using hlt
      rw [scan_end hlt'] at hsc
      show Ret ((sub s (i : Int) (k : Int)).bind _) _
      rw [sub_ok hik hk, Option.bind_some]
      refine Ret.some ?_
      rw [piece, ← hsc]
  obtain ⟨r, h, rfl⟩ := key
  exact h

section
variable {s : List UInt8} {i : Nat} (hi : i ≤ s.length) (hs : s.length < 4611686018427387904)
include hi hs
theorem while18 : tok_reader_while_at18 ⟨s, (i : Int)⟩ = some (piece blankB s i, ⟨s, (scan blankB s i : Nat)⟩) := while_gen blank_eq hi hs
theorem while33 : tok_reader_while_at33 ⟨s, (i : Int)⟩ = some (piece digitB s i, ⟨s, (scan digitB s i : Nat)⟩) := while_gen digit_eq hi hs
theorem while60 : tok_reader_while_at60 ⟨s, (i : Int)⟩ = some (piece unquoteB s i, ⟨s, (scan unquoteB s i : Nat)⟩) := while_gen unquote_eq hi hs
theorem word_eq : tok_reader_word ⟨s, (i : Int)⟩ = some (piece wordB s i, ⟨s, (scan wordB s i : Nat)⟩) := by
  unfold tok_reader_word
  have : tok_reader_while_at72 ⟨s, (i : Int)⟩ = some (piece wordB s i, ⟨s, (scan wordB s i : Nat)⟩) := while_gen word1_eq hi hs
  rw [this]; rfl
end
theorem piece_app {p : UInt8 → Bool} {s u : List UInt8} {i : Nat} (hi : i ≤ s.length) (h : scan p (s ++ u) i = scan p s i) : piece p (s ++ u) i = piece p s i := by
  unfold piece
  rw [h, List.drop_append_of_le_length hi, List.take_append_of_le_length]
  have := scan_le p s hi
  simp; omega
theorem piece_len (p : UInt8 → Bool) (s : List UInt8) (i : Nat) : (piece p s i).length = scan p s i - i := by
  unfold piece scan
  have := takeWhile_length_le p (s.drop i)
  simp at this ⊢
  omega
theorem piece_le {p : UInt8 → Bool} {s : List UInt8} {i : Nat} (hi : i ≤ s.length) : (piece p s i).length ≤ s.length := by
  rw [piece_len]; have := scan_le p s hi; omega

/-- two runs at once: the second is the first with something behind the text -/
theorem run2 {S R S' R' : Type} {f : S → Option (S ⊕ R)} {g : S' → Option (S' ⊕ R')} (I : S → Prop) (P : R → Prop) (μ : S → Nat) (φ : S → S') (ψ : R → R')
    (h : ∀ s, I s → ∃ x, f s = some x ∧ (match x with
      | .inl s' => I s' ∧ μ s' < μ s
      | .inr r => P r) ∧ g (φ s) = some (Sum.map φ ψ x)) {s : S} (hs : I s) : ∃ r, run f s = some r ∧ P r ∧ run g (φ s) = some (ψ r) := by
  induction hm : μ s using Nat.strongRecOn generalizing s with
  | _ m ih =>
    obtain ⟨x, hx, hp, hg⟩ := h s hs
    rw [run_eq, hx, run_eq, hg]
    cases x with
    | inl s' => exact ih (μ s') (by rw [← hm]; exact hp.2) hp.1 rfl
    | inr r => exact ⟨r, rfl, hp, rfl⟩

/-- a token's answer, with something behind the text -/
def shift (u : List UInt8) (r : TokToken × Int × TokReader) : TokToken × Int × TokReader := (r.1, r.2.1, ⟨r.2.2.s ++ u, r.2.2.at_⟩)
/-- a token's answer is within the text -/
def Within (s : List UInt8) (i : Nat) (r : TokToken × Int × TokReader) : Prop := ∃ j : Nat, r.2.2 = ⟨s, (j : Int)⟩ ∧ i ≤ j ∧ j ≤ s.length

section
variable {s u : List UInt8} {c0 : UInt8} (hu : u.head? = some c0) (hc : c0.toNat = 32) (hs : s.length ≤ 1000000) (hul : u.length ≤ 1000000)
include hu hc hs hul

theorem get_app {k : Nat} (hk : k < s.length) : (s ++ u)[k]? = s[k]? := List.getElem?_append_left hk
theorem get_u0 : (s ++ u)[s.length]? = some c0 := by
  rw [List.getElem?_append_right (Nat.le_refl _), Nat.sub_self]
  cases u with
  | nil => cases hu
  | cons a u => exact hu
theorem u_pos : 0 < u.length := by
  cases u with
  | nil => cases hu
  | cons a u => simp
theorem scan_word {i : Nat} (hi : i ≤ s.length) : scan wordB (s ++ u) i = scan wordB s i := scan_app hu (by simp [wordB, smallB, digitB, hc]) hi
theorem scan_digit {i : Nat} (hi : i ≤ s.length) : scan digitB (s ++ u) i = scan digitB s i := scan_app hu (by simp [digitB, hc]) hi
theorem word_u {i : Nat} (hi : i ≤ s.length) : tok_reader_word ⟨s ++ u, (i : Int)⟩ = some (piece wordB s i, ⟨s ++ u, (scan wordB s i : Nat)⟩) := by
  rw [word_eq (by simp; omega) (by simp; omega), scan_word hu hc hs hul hi, piece_app hi (scan_word hu hc hs hul hi)]

theorem path2 {i : Nat} (hi : i ≤ s.length) : ∃ r, tok_reader_path ⟨s, (i : Int)⟩ = some r ∧ Within s (scan wordB s i) r ∧ tok_reader_path ⟨s ++ u, (i : Int)⟩ = some (shift u r) := by
  have hj := scan_le wordB s hi
  have hup := u_pos hu hc hs hul
  have hpl := piece_le (p := wordB) hi
  unfold tok_reader_path
  rw [word_eq hi (by omega), word_u hu hc hs hul hi, Option.bind_some, Option.bind_some]
  by_cases hlen : 16 < ((piece wordB s i).length : Int)
  · rw [if_pos hlen, if_pos hlen]
    exact ⟨_, rfl, ⟨scan wordB s i, rfl, Nat.le_refl _, hj⟩, rfl⟩
  · rw [if_neg hlen, if_neg hlen]
    unfold tok_reader_path_l0
    refine run2 (fun st : Int × List UInt8 × List UInt8 × Int => ∃ k : Nat, st.2.2 = (s, (k : Int)) ∧ scan wordB s i ≤ k ∧ k ≤ s.length ∧ st.2.1.length ≤ k) (Within s (scan wordB s i)) (fun st : Int × List UInt8 × List UInt8 × Int => s.length - st.2.2.2.toNat) (fun st : Int × List UInt8 × List UInt8 × Int => (st.1, st.2.1, st.2.2.1 ++ u, st.2.2.2)) (shift u) ?_ ⟨scan wordB s i, rfl, Nat.le_refl _, hj, by rw [piece_len]; omega⟩
    rintro ⟨kd, tx, s', a⟩ ⟨k, he, hik, hk, htx⟩
    simp only [Prod.mk.injEq] at he
    obtain ⟨rfl, rfl⟩ := he
    have htx : tx.length ≤ k := htx
    unfold tok_reader_path_l0_step
    simp only
    have hw : IntKind.i64.wrap ((k : Int) + 1) = ((k + 1 : Nat) : Int) := w64 (by omega) (by omega)
    rw [hw]
    have done : ∃ x, (if 32 < (tx.length : Int) then (some (.inr (TokToken.mk kd tx 0 (scan wordB s' i : Nat), 15, TokReader.mk s' (k : Int))) : Option ((Int × (List UInt8) × (List UInt8) × Int) ⊕ (TokToken × Int × TokReader))) else some (.inr (TokToken.mk kd tx 0 (scan wordB s' i : Nat), 0, TokReader.mk s' (k : Int)))) = some (.inr x) ∧ Within s' (scan wordB s' i) x ∧
        (if 32 < (tx.length : Int) then (some (.inr (TokToken.mk kd tx 0 (scan wordB s' i : Nat), 15, TokReader.mk (s' ++ u) (k : Int))) : Option ((Int × (List UInt8) × (List UInt8) × Int) ⊕ (TokToken × Int × TokReader))) else some (.inr (TokToken.mk kd tx 0 (scan wordB s' i : Nat), 0, TokReader.mk (s' ++ u) (k : Int)))) = some (.inr (shift u x)) := by
      by_cases h32 : 32 < (tx.length : Int)
      · rw [if_pos h32, if_pos h32]; exact ⟨_, rfl, ⟨k, rfl, hik, hk⟩, rfl⟩
      · rw [if_neg h32, if_neg h32]; exact ⟨_, rfl, ⟨k, rfl, hik, hk⟩, rfl⟩
    obtain ⟨x, hx1, hx2, hx3⟩ := done
    by_cases hk1 : k + 1 < s'.length
    · have h1 : ((k + 1 : Nat) : Int) < (s'.length : Int) := by omega
      have h2 : ((k + 1 : Nat) : Int) < ((s' ++ u).length : Int) := by simp; omega
      have e1 : idx s' (k : Int) = some s'[k] := by rw [idx_nat, List.getElem?_eq_getElem]
      have e2 : idx (s' ++ u) (k : Int) = some s'[k] := by rw [idx_nat, get_app hu hc hs hul (by omega), List.getElem?_eq_getElem]
      have e3 : idx s' ((k + 1 : Nat) : Int) = some s'[k + 1] := by rw [idx_nat, List.getElem?_eq_getElem]
      have e4 : idx (s' ++ u) ((k + 1 : Nat) : Int) = some s'[k + 1] := by rw [idx_nat, get_app hu hc hs hul hk1, List.getElem?_eq_getElem]
      rw [if_pos h1, if_pos h2, e1, e2, Option.bind_some, Option.bind_some]
      by_cases hdot : ((s'[k].toNat : Int) == 46) = true
      · rw [if_pos hdot, if_pos hdot, e3, e4, Option.bind_some, Option.bind_some, small_eq, Option.bind_some, Option.bind_some]
        by_cases hsm : smallB s'[k + 1] = true
        · rw [if_pos hsm, if_pos hsm, word_eq (by omega) (by omega), word_u hu hc hs hul (by omega), Option.bind_some, Option.bind_some]
          have hg := scan_ge wordB s' (k + 1)
          have hl := scan_le wordB s' (show k + 1 ≤ s'.length by omega)
          have hpl := piece_len wordB s' (k + 1)
          have hc1 : cat [46] (piece wordB s' (k + 1)) = some ([46] ++ piece wordB s' (k + 1)) := cat_ok (by simp; omega)
          have hc2 : cat tx ([46] ++ piece wordB s' (k + 1)) = some (tx ++ ([46] ++ piece wordB s' (k + 1))) := cat_ok (by simp; omega)
          simp only [hc1, hc2, Option.bind_some]
          by_cases h16 : 16 < ((piece wordB s' (k + 1)).length : Int)
          · rw [if_pos h16, if_pos h16]
            exact ⟨_, rfl, ⟨scan wordB s' (k + 1), rfl, by omega, hl⟩, rfl⟩
          · rw [if_neg h16, if_neg h16]
            refine ⟨_, rfl, ⟨⟨scan wordB s' (k + 1), rfl, by omega, hl, ?_⟩, ?_⟩, rfl⟩
            · simp; omega
            · simp; omega
        · rw [if_neg hsm, if_neg hsm]
          exact ⟨_, hx1, hx2, hx3⟩
      · rw [if_neg hdot, if_neg hdot]
        exact ⟨_, hx1, hx2, hx3⟩
    · have h1 : ¬ ((k + 1 : Nat) : Int) < (s'.length : Int) := by omega
      rw [if_neg h1]
      refine ⟨_, hx1, hx2, ?_⟩
      by_cases h2 : ((k + 1 : Nat) : Int) < ((s' ++ u).length : Int)
      · rw [if_pos h2, idx_nat]
        by_cases hke : k = s'.length
        · have := get_u0 hu hc hs hul
          rw [hke, this, Option.bind_some, if_neg (by simp [hc])]
          rw [hke] at hx3
          exact hx3
        · have hk2 : k + 1 = s'.length := by omega
          rw [get_app hu hc hs hul (by omega), List.getElem?_eq_getElem (show k < s'.length by omega), Option.bind_some]
          by_cases hdot : ((s'[k].toNat : Int) == 46) = true
          · rw [if_pos hdot, idx_nat, hk2, get_u0 hu hc hs hul, Option.bind_some, small_eq, Option.bind_some, if_neg (by simp [smallB, hc])]
            exact hx3
          · rw [if_neg hdot]; exact hx3
      · rw [if_neg h2]; exact hx3
end
end Go.Proofs.YtilmjbljkkbakaaDoor
/-! The lexer over plain data: tokens. -/
namespace Go.Proofs.YtilmjbljkkbakaaDoor
open Go.Wv
set_option linter.unusedSimpArgs false
set_option linter.unusedVariables false
set_option linter.unusedSectionVars false

theorem quo10 (k : IntKind) (a : Int) : quo k a 10 = some (k.wrap (a.tdiv 10)) := by
  unfold quo; rw [if_neg (by omega)]

theorem num_l0 (t : List UInt8) (st st' : TokReader) (b : List Int) (hb : b.length ≤ 1000000) : ∃ r, tok_reader_number_l0 (t, st) b (0, 0) = some r ∧ r.2.2 = st ∧ tok_reader_number_l0 (t, st') b (0, 0) = some (r.1, r.2.1, st') := by
  unfold tok_reader_number_l0
  refine run2 (fun s : Int × Int => ∃ k : Nat, s.2 = (k : Int) ∧ k ≤ b.length) (fun r : TokToken × Int × TokReader => r.2.2 = st) (fun s => b.length - s.2.toNat) (fun s => s) (fun r : TokToken × Int × TokReader => (r.1, r.2.1, st')) ?_ ⟨0, rfl, Nat.zero_le _⟩
  rintro ⟨n, a⟩ ⟨k, he, hk⟩
  have he : a = (k : Int) := he
  subst he
  unfold tok_reader_number_l0_step
  simp only
  by_cases hlt : k < b.length
  · have h1 : (k : Int) < (b.length : Int) := by omega
    rw [if_pos h1, if_pos h1, idx_nat, List.getElem?_eq_getElem hlt, Option.bind_some, Option.bind_some, quo10, Option.bind_some, Option.bind_some]
    split
    · exact ⟨_, rfl, rfl, rfl⟩
    · refine ⟨_, rfl, ⟨⟨k + 1, ?_, by omega⟩, ?_⟩, rfl⟩
      · show IntKind.i64.wrap _ = _; rw [w64 (by omega) (by omega)]; rfl
      · show b.length - (IntKind.i64.wrap _).toNat < _; rw [w64 (by omega) (by omega)]; simp; omega
  · have h1 : ¬ (k : Int) < (b.length : Int) := by omega
    rw [if_neg h1, if_neg h1]
    exact ⟨_, rfl, rfl, rfl⟩
theorem num_l1 (t : List UInt8) (st st' : TokReader) (b : List Int) (hb : b.length ≤ 1000000) : ∃ r, tok_reader_number_l1 (t, st) b (0, 0) = some r ∧ r.2.2 = st ∧ tok_reader_number_l1 (t, st') b (0, 0) = some (r.1, r.2.1, st') := num_l0 t st st' b hb

theorem plain_ok (t : List UInt8) (ht : t.length ≤ 1000000) : ∃ b, val_Plain t = some b := by
  unfold val_Plain
  rw [byts_ok (by unfold lim; omega), Option.bind_some]
  unfold val_Plain_l0
  have key : Ret (run (val_Plain_l0_step t (t.map fun b => (b.toNat : Int))) 0) fun _ => True := by
    refine Ret.run (fun s => ∃ k : Nat, s = (k : Int) ∧ k ≤ t.length) _ (fun s => t.length - s.toNat) ?_ ⟨0, rfl, Nat.zero_le _⟩
    rintro s ⟨k, rfl, hk⟩
    unfold val_Plain_l0_step
    refine Ret.ite (fun h => ?_) (fun h => Ret.some trivial)
    have hlt : k < t.length := by simpa using h
    rw [idx_nat, List.getElem?_map, List.getElem?_eq_getElem hlt, Option.map_some, Option.bind_some]
    refine Ret.ite (fun _ => Ret.some trivial) fun _ => Ret.ite (fun _ => Ret.some trivial) fun _ => Ret.ite (fun _ => Ret.some trivial) fun _ => Ret.some ?_
    rw [w64 (by omega) (by omega)]
    exact ⟨⟨k + 1, rfl, by omega⟩, by omega⟩
  obtain ⟨r, h, _⟩ := key
  exact ⟨r, h⟩

def hpB (l x : List UInt8) : Bool := decide (x.length ≤ l.length) && (l.take x.length == x)
theorem hasPrefix_eq (l x : List UInt8) : strings_HasPrefix l x = some (hpB l x) := by
  unfold strings_HasPrefix internal_stringslite_HasPrefix hpB
  by_cases h : x.length ≤ l.length
  · have h1 : (x.length : Int) ≤ (l.length : Int) := by omega
    rw [if_pos h1, subT_ok h, Option.bind_some]; simp [h]
  · have h1 : ¬ (x.length : Int) ≤ (l.length : Int) := by omega
    rw [if_neg h1]; simp [h]
theorem tab0_ok : ∀ x ∈ tab0, (∀ c ∈ x, c.toNat ≠ 32) ∧ 0 < x.length := by decide
theorem hpB_app {l u x : List UInt8} {c0 : UInt8} (hu : u.head? = some c0) (hc : c0.toNat = 32) (hx : ∀ c ∈ x, c.toNat ≠ 32) : hpB (l ++ u) x = hpB l x := by
  unfold hpB
  by_cases h : x.length ≤ l.length
  · rw [List.take_append_of_le_length h]
    have : x.length ≤ (l ++ u).length := by simp; omega
    simp only [h, this]
  · simp only [h, decide_false, Bool.false_and]
    by_cases h2 : x.length ≤ (l ++ u).length
    · simp only [h2, decide_true, Bool.true_and]
      rw [beq_eq_false_iff_ne]
      intro he
      have hl : l.length < x.length := by omega
      have h3 : x[l.length]? = some c0 := by
        rw [← he, List.getElem?_take_of_lt hl, List.getElem?_append_right (Nat.le_refl _), Nat.sub_self]
        cases u with
        | nil => cases hu
        | cons a u => exact hu
      exact hx c0 (List.mem_of_getElem? h3) hc
    · simp only [h2, decide_false, Bool.false_and]

/-- A token's answer is within the text, and takes something where it is no error. -/
def Tk (s : List UInt8) (i : Nat) (r : TokToken × Int × TokReader) : Prop := ∃ j : Nat, r.2.2 = ⟨s, (j : Int)⟩ ∧ i ≤ j ∧ j ≤ s.length ∧ (r.2.1 = 0 → i < j)

section
variable {s u : List UInt8} {c0 : UInt8} (hu : u.head? = some c0) (hc : c0.toNat = 32) (hs : s.length ≤ 1000000) (hul : u.length ≤ 1000000)
include hu hc hs hul

theorem number2 {i : Nat} (hi : i ≤ s.length) : ∃ r, tok_reader_number ⟨s, (i : Int)⟩ = some r ∧ Within s (scan digitB s i) r ∧ tok_reader_number ⟨s ++ u, (i : Int)⟩ = some (shift u r) := by
  have hj := scan_le digitB s hi
  have hsc := scan_digit hu hc hs hul hi
  have hpl := piece_le (p := digitB) hi
  unfold tok_reader_number
  rw [while33 hi (by omega), while33 (s := s ++ u) (by simp; omega) (by simp; omega), hsc, piece_app hi hsc, Option.bind_some, Option.bind_some]
  simp only
  have hb := byts_ok (s := piece digitB s i) (by unfold lim; omega)
  by_cases h1 : 1 < ((piece digitB s i).length : Int)
  · rw [if_pos h1, if_pos h1]
    have h0 : 0 < (piece digitB s i).length := by omega
    have e0 : idx (piece digitB s i) 0 = some (piece digitB s i)[0] := by
      show idx _ ((0 : Nat) : Int) = _
      rw [idx_nat, List.getElem?_eq_getElem h0]
    rw [e0, Option.bind_some, Option.bind_some]
    split
    · exact ⟨_, rfl, ⟨scan digitB s i, rfl, Nat.le_refl _, hj⟩, rfl⟩
    · rw [hb, Option.bind_some, Option.bind_some]
      obtain ⟨r, hr1, hr2, hr3⟩ := num_l0 (piece digitB s i) ⟨s, (scan digitB s i : Nat)⟩ ⟨s ++ u, (scan digitB s i : Nat)⟩ ((piece digitB s i).map fun b => (b.toNat : Int)) (by simp; omega)
      refine ⟨r, hr1, ⟨scan digitB s i, hr2, Nat.le_refl _, hj⟩, ?_⟩
      rw [hr3, shift, hr2]
  · rw [if_neg h1, if_neg h1, hb, Option.bind_some, Option.bind_some]
    obtain ⟨r, hr1, hr2, hr3⟩ := num_l1 (piece digitB s i) ⟨s, (scan digitB s i : Nat)⟩ ⟨s ++ u, (scan digitB s i : Nat)⟩ ((piece digitB s i).map fun b => (b.toNat : Int)) (by simp; omega)
    refine ⟨r, hr1, ⟨scan digitB s i, hr2, Nat.le_refl _, hj⟩, ?_⟩
    rw [hr3, shift, hr2]

theorem scan_unquote {i : Nat} (hi : i ≤ s.length) (h : scan unquoteB s i ≠ s.length) : scan unquoteB (s ++ u) i = scan unquoteB s i := by
  have hlt : scan unquoteB s i < s.length := by have := scan_le unquoteB s hi; omega
  have key : ∀ l : List UInt8, (l.takeWhile unquoteB).length < l.length → ((l ++ u).takeWhile unquoteB) = l.takeWhile unquoteB := by
    intro l
    induction l with
    | nil => intro h; simp at h
    | cons a l ih =>
      intro h
      rw [List.cons_append, List.takeWhile_cons, List.takeWhile_cons]
      rw [List.takeWhile_cons] at h
      split
      · rename_i ha
        rw [if_pos ha] at h
        rw [ih (by simpa using h)]
      · rfl
  unfold scan at hlt ⊢
  rw [List.drop_append_of_le_length hi, key]
  simp; omega

theorem quote2 {i : Nat} (hi : i < s.length) : ∃ r, tok_reader_quote ⟨s, (i : Int)⟩ = some r ∧ Tk s i r ∧ (r.2.1 = 0 → tok_reader_quote ⟨s ++ u, (i : Int)⟩ = some (shift u r)) := by
  have hj := scan_le unquoteB s (show i + 1 ≤ s.length by omega)
  have hg := scan_ge unquoteB s (i + 1)
  have hpl := piece_le (p := unquoteB) (show i + 1 ≤ s.length by omega)
  have hw : IntKind.i64.wrap ((i : Int) + 1) = ((i + 1 : Nat) : Int) := w64 (by omega) (by omega)
  unfold tok_reader_quote
  simp only [hw]
  rw [while60 (by omega) (by omega), while60 (s := s ++ u) (by simp; omega) (by simp; omega), Option.bind_some, Option.bind_some]
  simp only
  by_cases he : ((scan unquoteB s (i + 1) : Nat) : Int) == (s.length : Int)
  · rw [if_pos he]
    exact ⟨_, rfl, ⟨scan unquoteB s (i + 1), rfl, by omega, hj, fun h => by simp at h⟩, fun h => by simp at h⟩
  · rw [if_neg he]
    have hne : scan unquoteB s (i + 1) ≠ s.length := by
      intro h; apply he; rw [h]; simp
    have hsc := scan_unquote hu hc hs hul (show i + 1 ≤ s.length by omega) hne
    have hw2 : IntKind.i64.wrap (((scan unquoteB s (i + 1) : Nat) : Int) + 1) = ((scan unquoteB s (i + 1) + 1 : Nat) : Int) := w64 (by omega) (by omega)
    have he2 : ¬ (((scan unquoteB (s ++ u) (i + 1) : Nat) : Int) == ((s ++ u).length : Int)) = true := by
      rw [hsc]; simp; omega
    rw [if_neg he2, hsc, piece_app (by omega) hsc, hw2]
    by_cases h48 : 48 < ((piece unquoteB s (i + 1)).length : Int)
    · rw [if_pos h48]
      exact ⟨_, rfl, ⟨scan unquoteB s (i + 1) + 1, rfl, by omega, by omega, fun h => by simp at h⟩, fun h => by simp at h⟩
    · rw [if_neg h48, if_neg h48]
      obtain ⟨b, hb⟩ := plain_ok (piece unquoteB s (i + 1)) (by omega)
      rw [hb, Option.bind_some, Option.bind_some]
      cases b
      · exact ⟨_, rfl, ⟨scan unquoteB s (i + 1) + 1, rfl, by omega, by omega, fun h => by simp at h⟩, fun h => by simp at h⟩
      · exact ⟨_, rfl, ⟨scan unquoteB s (i + 1) + 1, rfl, by omega, by omega, fun _ => by omega⟩, fun _ => rfl⟩

theorem sign2 {i : Nat} (hi : i ≤ s.length) : ∃ r, tok_reader_sign ⟨s, (i : Int)⟩ = some r ∧ Tk s i r ∧ tok_reader_sign ⟨s ++ u, (i : Int)⟩ = some (shift u r) := by
  unfold tok_reader_sign tok_reader_sign_l0
  refine run2 (fun a => ∃ k : Nat, a = (k : Int) ∧ k ≤ 15) (Tk s i) (fun a => 15 - a.toNat) (fun a => a) (shift u) ?_ ⟨0, rfl, by omega⟩
  rintro a ⟨k, rfl, hk⟩
  unfold tok_reader_sign_l0_step
  simp only
  by_cases hlt : k < 15
  · have h1 : (k : Int) < 15 := by omega
    have hl : k < tab0.length := by show k < 15; exact hlt
    have e1 : idx tab0 (k : Int) = some tab0[k] := by rw [idx_nat, List.getElem?_eq_getElem hl]
    obtain ⟨hx, hpos⟩ := tab0_ok _ (List.getElem_mem hl)
    rw [if_pos h1, if_pos h1, e1, Option.bind_some, Option.bind_some, subF_ok hi, subF_ok (l := s ++ u) (by simp; omega), Option.bind_some, Option.bind_some, hasPrefix_eq, hasPrefix_eq, List.drop_append_of_le_length hi, hpB_app hu hc hx, Option.bind_some, Option.bind_some]
    by_cases hp : hpB (s.drop i) tab0[k] = true
    · rw [if_pos hp, if_pos hp]
      have hle : tab0[k].length ≤ (s.drop i).length := by
        unfold hpB at hp
        simp only [Bool.and_eq_true, decide_eq_true_eq] at hp
        exact hp.1
      simp at hle
      have hw : IntKind.i64.wrap ((i : Int) + (tab0[k].length : Int)) = ((i + tab0[k].length : Nat) : Int) := w64 (by omega) (by omega)
      rw [hw]
      exact ⟨_, rfl, ⟨i + tab0[k].length, rfl, by omega, by omega, fun _ => by omega⟩, rfl⟩
    · rw [if_neg hp, if_neg hp]
      refine ⟨_, rfl, ⟨⟨k + 1, ?_, by omega⟩, ?_⟩, rfl⟩
      · rw [w64 (by omega) (by omega)]; rfl
      · rw [w64 (by omega) (by omega)]; omega
  · have h1 : ¬ (k : Int) < 15 := by omega
    rw [if_neg h1, if_neg h1]
    exact ⟨_, rfl, ⟨i, rfl, Nat.le_refl _, hi, fun h => by simp at h⟩, rfl⟩

theorem token2 {i : Nat} (hi : i < s.length) : ∃ r, tok_reader_token ⟨s, (i : Int)⟩ = some r ∧ Tk s i r ∧ (r.2.1 = 0 → tok_reader_token ⟨s ++ u, (i : Int)⟩ = some (shift u r)) := by
  have e1 : idx s (i : Int) = some s[i] := by rw [idx_nat, List.getElem?_eq_getElem hi]
  have e2 : idx (s ++ u) (i : Int) = some s[i] := by rw [idx_nat, get_app hu hc hs hul hi, List.getElem?_eq_getElem hi]
  have hget : s[i]? = some s[i] := List.getElem?_eq_getElem hi
  unfold tok_reader_token
  simp only
  rw [e1, e2, Option.bind_some, Option.bind_some, small_eq, Option.bind_some, Option.bind_some]
  by_cases h1 : smallB s[i] = true
  · rw [if_pos h1, if_pos h1]
    obtain ⟨r, hr1, ⟨j, hj1, hj2, hj3⟩, hr3⟩ := path2 hu hc hs hul (show i ≤ s.length by omega)
    rw [hr1, hr3, Option.bind_some, Option.bind_some]
    have hst : scan wordB s i = scan wordB s (i + 1) := by rw [scan_step hget, if_pos (by simp [wordB, h1])]
    have hge := scan_ge wordB s (i + 1)
    exact ⟨_, rfl, ⟨j, hj1, by omega, hj3, fun _ => by omega⟩, fun _ => rfl⟩
  · rw [if_neg h1, if_neg h1, digit_eq, Option.bind_some, Option.bind_some]
    by_cases h2 : digitB s[i] = true
    · rw [if_pos h2, if_pos h2]
      obtain ⟨r, hr1, ⟨j, hj1, hj2, hj3⟩, hr3⟩ := number2 hu hc hs hul (show i ≤ s.length by omega)
      rw [hr1, hr3, Option.bind_some, Option.bind_some]
      have hst : scan digitB s i = scan digitB s (i + 1) := by rw [scan_step hget, if_pos h2]
      have hge := scan_ge digitB s (i + 1)
      exact ⟨_, rfl, ⟨j, hj1, by omega, hj3, fun _ => by omega⟩, fun _ => rfl⟩
    · rw [if_neg h2, if_neg h2]
      by_cases h3 : ((s[i].toNat : Int) == 39) = true
      · rw [if_pos h3, if_pos h3]
        obtain ⟨r, hr1, hr2, hr3⟩ := quote2 hu hc hs hul hi
        rw [hr1, Option.bind_some]
        exact ⟨_, rfl, hr2, fun h => by rw [hr3 h, Option.bind_some]⟩
      · rw [if_neg h3, if_neg h3]
        obtain ⟨r, hr1, hr2, hr3⟩ := sign2 hu hc hs hul (show i ≤ s.length by omega)
        rw [hr1, hr3, Option.bind_some, Option.bind_some]
        exact ⟨_, rfl, hr2, fun _ => rfl⟩
end
end Go.Proofs.YtilmjbljkkbakaaDoor
/-! The lexer over plain data: lines. -/
namespace Go.Proofs.YtilmjbljkkbakaaDoor
open Go.Wv
set_option linter.unusedSimpArgs false
set_option linter.unusedVariables false
set_option linter.unusedSectionVars false

abbrev LexS : Type := List TokToken × List UInt8 × Int
abbrev LexR : Type := List TokToken × Int × Int

/-- one token of a line, where there is one -/
theorem lex_step {s : List UInt8} (hs : s.length ≤ 1000000) {i : Nat} (hi : i ≤ s.length) {out : List TokToken} (ho : out.length ≤ 120) :
    (scan blankB s i = s.length ∧ tok_Lex_l0_step (out, s, (i : Int)) = some (.inr (out, 0, 0))) ∨
    (scan blankB s i < s.length ∧ ((∃ e p, e ≠ 0 ∧ tok_Lex_l0_step (out, s, (i : Int)) = some (.inr ([], e, p))) ∨
      (out.length < 120 ∧ ∃ r, tok_reader_token ⟨s, (scan blankB s i : Nat)⟩ = some r ∧ Tk s (scan blankB s i) r ∧ r.2.1 = 0 ∧
        tok_Lex_l0_step (out, s, (i : Int)) = some (.inl (out ++ [⟨r.1.Kind, r.1.Text, r.1.N, (scan blankB s i : Nat)⟩], r.2.2.s, r.2.2.at_))))) := by
  have hle := scan_le blankB s hi
  unfold tok_Lex_l0_step
  simp only
  rw [while18 hi (by omega), Option.bind_some]
  simp only
  by_cases hend : scan blankB s i = s.length
  · left
    refine ⟨hend, ?_⟩
    rw [if_pos (by simp [hend])]
  · right
    refine ⟨by omega, ?_⟩
    rw [if_neg (by simp; omega)]
    by_cases h120 : out.length = 120
    · left
      refine ⟨13, ((scan blankB s i : Nat) : Int), by omega, ?_⟩
      rw [if_pos (by simp [h120])]
    · rw [if_neg (by simp; omega)]
      obtain ⟨r, hr, htk, _⟩ := token2 (u := [32]) (c0 := 32) rfl rfl hs (by simp) (show scan blankB s i < s.length by omega)
      rw [hr, Option.bind_some]
      by_cases he : (r.2.1 != 0) = true
      · left
        refine ⟨r.2.1, ((scan blankB s i : Nat) : Int), by simpa using he, ?_⟩
        rw [if_pos he]
      · right
        refine ⟨by omega, r, rfl, htk, by simpa using he, ?_⟩
        rw [if_neg he, app_ok (by simp [lim]; omega) (by simp [lim]; omega), Option.bind_some]

/-- Every line has its answer. -/
theorem lex_total {s : List UInt8} (hs : s.length ≤ 1000000) {i : Nat} (hi : i ≤ s.length) {out : List TokToken} (ho : out.length ≤ 120) :
    Ret (tok_Lex_l0 (out, s, (i : Int))) fun r : LexR => r.1.length ≤ 120 ∧ (r.2.1 = 0 → out <+: r.1) := by
  unfold tok_Lex_l0
  refine Ret.run (fun st : LexS => ∃ k : Nat, st.2 = (s, (k : Int)) ∧ k ≤ s.length ∧ st.1.length ≤ 120 ∧ out <+: st.1) _ (fun st : LexS => s.length - st.2.2.toNat) ?_ ⟨i, rfl, hi, ho, List.prefix_refl _⟩
  rintro ⟨o, s', a⟩ ⟨k, he, hk, hlen, hpre⟩
  simp only [Prod.mk.injEq] at he
  obtain ⟨rfl, rfl⟩ := he
  have hlen : o.length ≤ 120 := hlen
  have hpre : out <+: o := hpre
  rcases lex_step hs hk hlen with ⟨h1, h2⟩ | ⟨h1, ⟨e, p, h2, h3⟩ | ⟨h2, r, h3, ⟨j, hj1, hj2, hj3, hj4⟩, h5, h6⟩⟩
  · exact ⟨_, h2, hlen, fun _ => hpre⟩
  · exact ⟨_, h3, by simp, fun h => absurd h h2⟩
  · refine ⟨_, h6, ?_⟩
    have hge := scan_ge blankB s' k
    have := hj4 h5
    rw [hj1]
    refine ⟨⟨j, rfl, hj3, by simp; omega, hpre.trans (List.prefix_append _ _)⟩, ?_⟩
    show s'.length - (j : Int).toNat < s'.length - (k : Int).toNat
    omega

/-- With something behind a line that is read, its tokens are read first. -/
theorem lex_ahead {s u : List UInt8} {c0 : UInt8} (hu : u.head? = some c0) (hc : c0.toNat = 32) (hs : s.length ≤ 1000000) (hul : u.length ≤ 1000000) :
    ∀ (n : Nat) (i : Nat) (out l : List TokToken) (z : Int), i ≤ s.length → out.length ≤ 120 → iter tok_Lex_l0_step n (out, s, (i : Int)) = some (l, 0, z) →
      ∃ j : Nat, j ≤ s.length ∧ scan blankB s j = s.length ∧ l.length ≤ 120 ∧ tok_Lex_l0 (out, s ++ u, (i : Int)) = tok_Lex_l0 (l, s ++ u, (j : Int))
  | 0, _, _, _, _, _, _, h => by simp [iter] at h
  | n + 1, i, out, l, z, hi, ho, h => by
    simp only [iter] at h
    have hle := scan_le blankB s hi
    rcases lex_step hs hi ho with ⟨h1, h2⟩ | ⟨h1, ⟨e, p, h2, h3⟩ | ⟨h2, r, h3, ⟨j, hj1, hj2, hj3, hj4⟩, h5, h6⟩⟩
    · rw [h2] at h
      simp only [Option.some.injEq, Prod.mk.injEq] at h
      obtain ⟨rfl, _, _⟩ := h
      exact ⟨i, hi, h1, ho, rfl⟩
    · rw [h3] at h
      simp only [Option.some.injEq, Prod.mk.injEq] at h
      exact absurd h.2.1 h2
    · rw [h6, hj1] at h
      simp only at h
      obtain ⟨j', q1, q2, q3, q4⟩ := lex_ahead hu hc hs hul n j _ l z hj3 (by simp; omega) h
      refine ⟨j', q1, q2, q3, ?_⟩
      rw [← q4]
      have hsc : scan blankB (s ++ u) i = scan blankB s i := by
        have key : ∀ m : List UInt8, (m.takeWhile blankB).length < m.length → ((m ++ u).takeWhile blankB) = m.takeWhile blankB := by
          intro m
          induction m with
          | nil => intro h; simp at h
          | cons a m ih =>
            intro h
            rw [List.cons_append, List.takeWhile_cons, List.takeWhile_cons]
            rw [List.takeWhile_cons] at h
            split
            · rename_i ha
              rw [if_pos ha] at h
              rw [ih (by simpa using h)]
            · rfl
        unfold scan at h1 ⊢
        rw [List.drop_append_of_le_length hi, key]
        simp; omega
      obtain ⟨r', hr', _, hr2⟩ := token2 hu hc hs hul h1
      rw [h3] at hr'
      obtain rfl := Option.some.inj hr'
      have hstep : tok_Lex_l0_step (out, s ++ u, (i : Int)) = some (.inl (out ++ [⟨r.1.Kind, r.1.Text, r.1.N, (scan blankB s i : Nat)⟩], s ++ u, (j : Int))) := by
        unfold tok_Lex_l0_step
        simp only
        rw [while18 (s := s ++ u) (by simp; omega) (by simp; omega), Option.bind_some]
        simp only
        have g1 : ¬ (((scan blankB s i : Nat) : Int) == ((s ++ u).length : Int)) = true := by simp; omega
        have g2 : ¬ ((out.length : Int) == 120) = true := by simp; omega
        have g3 : ¬ ((shift u r).2.1 != 0) = true := by show ¬ (r.2.1 != 0) = true; simp [h5]
        rw [hsc, if_neg g1, if_neg g2, hr2 h5, Option.bind_some, if_neg g3, app_ok (by simp [lim]; omega) (by simp [lim]; omega), Option.bind_some]
        show some (Sum.inl (out ++ [⟨r.1.Kind, r.1.Text, r.1.N, (scan blankB s i : Nat)⟩], r.2.2.s ++ u, r.2.2.at_)) = _
        rw [hj1]
      conv => lhs; unfold tok_Lex_l0
      rw [run_eq, hstep]
      rfl

def semiB : List UInt8 := [32, 59, 32]
theorem lex_semi {s more : List UInt8} (hs : s.length ≤ 400000) (hm : more.length ≤ 400000) {l m : List TokToken} {z z' : Int}
    (h1 : tok_Lex s = some (l, 0, z)) (h2 : tok_Lex (s ++ (semiB ++ more)) = some (m, 0, z')) : l.length ≤ 120 ∧ m.length ≤ 120 ∧ ∃ (t : TokToken) (rest : List TokToken), t.Kind = 5 ∧ t.Text = [59] ∧ m = l ++ t :: rest := by
  unfold tok_Lex at h1 h2
  obtain ⟨n, hn⟩ := run_some.1 (show run tok_Lex_l0_step ([], s, 0) = some (l, 0, z) from h1)
  have hu : (semiB ++ more).head? = some 32 := rfl
  have hul : (semiB ++ more).length ≤ 1000000 := by simp [semiB]; omega
  obtain ⟨j, q1, q2, q3, q4⟩ := lex_ahead hu rfl (by omega) hul n 0 [] l z (Nat.zero_le _) (by simp) hn
  have h2' : tok_Lex_l0 (l, s ++ (semiB ++ more), (j : Int)) = some (m, 0, z') := by rw [← q4]; exact h2
  have hlen : (s ++ (semiB ++ more)).length = s.length + 3 + more.length := by simp [semiB]; omega
  have ht := lex_total (s := s ++ (semiB ++ more)) (i := j) (out := l) (by omega) (by omega) q3
  have hm120 := (ht.get h2').1
  refine ⟨q3, hm120, ?_⟩
  have hsc : scan blankB (s ++ (semiB ++ more)) j = s.length + 1 := by
    have key : ∀ m : List UInt8, (m.takeWhile blankB).length = m.length → ((m ++ (semiB ++ more)).takeWhile blankB).length = m.length + 1 := by
      intro m
      induction m with
      | nil => intro _; simp [semiB, List.takeWhile_cons, blankB]
      | cons a m ih =>
        intro h
        rw [List.takeWhile_cons] at h
        rw [List.cons_append, List.takeWhile_cons]
        split
        · rename_i ha
          rw [if_pos ha] at h
          simp [ih (by simpa using h)]
        · rename_i ha
          rw [if_neg ha] at h
          simp at h
    unfold scan at q2 ⊢
    rw [List.drop_append_of_le_length q1, key]
    · simp; omega
    · simp; omega
  rcases lex_step (s := s ++ (semiB ++ more)) (by omega) (i := j) (by omega) q3 with ⟨g1, _⟩ | ⟨_, ⟨e, p, g2, g3⟩ | ⟨g2, r, g3, ⟨j', hj1, hj2, hj3, hj4⟩, g5, g6⟩⟩
  · rw [hsc, hlen] at g1; omega
  · have : tok_Lex_l0 (l, s ++ (semiB ++ more), (j : Int)) = some ([], e, p) := by
      unfold tok_Lex_l0; rw [run_eq, g3]
    rw [this] at h2'
    simp only [Option.some.injEq, Prod.mk.injEq] at h2'
    exact absurd h2'.2.1 g2
  · rw [hsc] at g3 g6
    -- the token is the semicolon
    have hget : (s ++ (semiB ++ more))[s.length + 1]? = some 59 := by
      rw [List.getElem?_append_right (by omega)]
      have : s.length + 1 - s.length = 1 := by omega
      rw [this]; rfl
    have hdrop : (s ++ (semiB ++ more)).drop (s.length + 1) = 59 :: 32 :: more := by
      rw [List.drop_append, List.drop_eq_nil_of_le (by omega)]
      have : s.length + 1 - s.length = 1 := by omega
      rw [this]; rfl
    have htok : r.1.Kind = 5 ∧ r.1.Text = [59] := by
      unfold tok_reader_token at g3
      simp only at g3
      rw [idx_nat, hget, Option.bind_some, small_eq, Option.bind_some, if_neg (by decide), digit_eq, Option.bind_some, if_neg (by decide), if_neg (by decide)] at g3
      obtain ⟨r', hr', g3⟩ := bind_some g3
      obtain rfl := Option.some.inj g3
      unfold tok_reader_sign tok_reader_sign_l0 at hr'
      have step : ∀ k : Nat, k < 15 → tok_reader_sign_l0_step ⟨s ++ (semiB ++ more), ((s.length + 1 : Nat) : Int)⟩ (k : Int) = (idx tab0 (k : Int)).bind fun x2 => if hpB (59 :: 32 :: more) x2 then some (.inr (⟨5, x2, 0, 0⟩, 0, ⟨s ++ (semiB ++ more), IntKind.i64.wrap (((s.length + 1 : Nat) : Int) + (x2.length : Int))⟩)) else some (.inl (IntKind.i64.wrap ((k : Int) + 1))) := by
        intro k hk
        unfold tok_reader_sign_l0_step
        rw [if_pos (by omega)]
        simp only
        rw [subF_ok (by omega), hdrop]
        congr 1
        funext x2
        rw [Option.bind_some, hasPrefix_eq, Option.bind_some]
      have t0 := step 0 (by omega)
      have t1 := step 1 (by omega)
      have t2 := step 2 (by omega)
      have t3 := step 3 (by omega)
      have t4 := step 4 (by omega)
      have t5 := step 5 (by omega)
      simp only [show idx tab0 ((0 : Nat) : Int) = some [60, 61] from rfl, show idx tab0 ((1 : Nat) : Int) = some [62, 61] from rfl, show idx tab0 ((2 : Nat) : Int) = some [33, 61] from rfl, show idx tab0 ((3 : Nat) : Int) = some [40] from rfl, show idx tab0 ((4 : Nat) : Int) = some [41] from rfl, show idx tab0 ((5 : Nat) : Int) = some [59] from rfl, Option.bind_some] at t0 t1 t2 t3 t4 t5
      rw [if_neg (by simp [hpB]), w64 (by omega) (by omega)] at t0 t1 t2 t3 t4
      rw [if_pos (by simp [hpB])] at t5
      have r0 := run_eq (tok_reader_sign_l0_step ⟨s ++ (semiB ++ more), ((s.length + 1 : Nat) : Int)⟩) 0
      have r1 := run_eq (tok_reader_sign_l0_step ⟨s ++ (semiB ++ more), ((s.length + 1 : Nat) : Int)⟩) 1
      have r2 := run_eq (tok_reader_sign_l0_step ⟨s ++ (semiB ++ more), ((s.length + 1 : Nat) : Int)⟩) 2
      have r3 := run_eq (tok_reader_sign_l0_step ⟨s ++ (semiB ++ more), ((s.length + 1 : Nat) : Int)⟩) 3
      have r4 := run_eq (tok_reader_sign_l0_step ⟨s ++ (semiB ++ more), ((s.length + 1 : Nat) : Int)⟩) 4
      have r5 := run_eq (tok_reader_sign_l0_step ⟨s ++ (semiB ++ more), ((s.length + 1 : Nat) : Int)⟩) 5
      rw [show tok_reader_sign_l0_step ⟨s ++ (semiB ++ more), ((s.length + 1 : Nat) : Int)⟩ 0 = _ from t0] at r0
      rw [show tok_reader_sign_l0_step ⟨s ++ (semiB ++ more), ((s.length + 1 : Nat) : Int)⟩ 1 = _ from t1] at r1
      rw [show tok_reader_sign_l0_step ⟨s ++ (semiB ++ more), ((s.length + 1 : Nat) : Int)⟩ 2 = _ from t2] at r2
      rw [show tok_reader_sign_l0_step ⟨s ++ (semiB ++ more), ((s.length + 1 : Nat) : Int)⟩ 3 = _ from t3] at r3
      rw [show tok_reader_sign_l0_step ⟨s ++ (semiB ++ more), ((s.length + 1 : Nat) : Int)⟩ 4 = _ from t4] at r4
      rw [show tok_reader_sign_l0_step ⟨s ++ (semiB ++ more), ((s.length + 1 : Nat) : Int)⟩ 5 = _ from t5] at r5
      have e := r0.trans (r1.trans (r2.trans (r3.trans (r4.trans r5))))
      rw [e] at hr'
      obtain rfl := Option.some.inj hr'
      exact ⟨rfl, rfl⟩
    have hrun : tok_Lex_l0 (l, s ++ (semiB ++ more), (j : Int)) = tok_Lex_l0 (l ++ [⟨r.1.Kind, r.1.Text, r.1.N, ((s.length + 1 : Nat) : Int)⟩], s ++ (semiB ++ more), (j' : Int)) := by
      conv => lhs; unfold tok_Lex_l0
      rw [run_eq, g6, hj1]
      rfl
    rw [hrun] at h2'
    have ht2 := lex_total (s := s ++ (semiB ++ more)) (i := j') (out := l ++ [⟨r.1.Kind, r.1.Text, r.1.N, ((s.length + 1 : Nat) : Int)⟩]) (by omega) hj3 (by simp; omega)
    obtain ⟨rest, hrest⟩ := (ht2.get h2').2 rfl
    have hrest : l ++ [⟨r.1.Kind, r.1.Text, r.1.N, ((s.length + 1 : Nat) : Int)⟩] ++ rest = m := hrest
    exact ⟨⟨r.1.Kind, r.1.Text, r.1.N, ((s.length + 1 : Nat) : Int)⟩, rest, htok.1, htok.2, by rw [← hrest]; simp⟩
end Go.Proofs.YtilmjbljkkbakaaDoor
/-! The parser of expressions over plain data: a semicolon behind the tokens makes no difference. -/
namespace Go.Proofs.YtilmjbljkkbakaaDoor
open Go.Wv
set_option linter.unusedSimpArgs false
set_option linter.unusedVariables false
set_option linter.unusedSectionVars false

def zeroTok : TokToken := ⟨0, [], 0, 0⟩
def nx (l : List TokToken) (a : Nat) : TokToken := (l[a]?).getD zeroTok
def isB (t : TokToken) (ws : List (List UInt8)) : Bool := (t.Kind == 1 || t.Kind == 5) && ws.any fun w => t.Text == w

theorem next_eq (l : List TokToken) (a : Nat) (e : List ExprNode) : expr_parser_next ⟨l, (a : Int), e⟩ = some (nx l a) := by
  unfold expr_parser_next nx
  simp only
  by_cases h : a < l.length
  · rw [if_pos (by omega), idx_nat, List.getElem?_eq_getElem h]; rfl
  · rw [if_neg (by omega), List.getElem?_eq_none (by omega)]; rfl

theorem is_loop (t : TokToken) (ws : List (List UInt8)) (hw : ws.length ≤ 1000) : run (tok_Token_Is_l0_step t ws) 0 = some (ws.any fun w => t.Text == w) := by
  have key : Ret (run (tok_Token_Is_l0_step t ws) 0) fun r => r = ws.any fun w => t.Text == w := by
    refine Ret.run (fun j => ∃ k : Nat, j = (k : Int) ∧ k ≤ ws.length ∧ (ws.take k).any (fun w => t.Text == w) = false) _ (fun j => ws.length - j.toNat) ?_ ⟨0, rfl, Nat.zero_le _, rfl⟩
    rintro j ⟨k, rfl, hk, hno⟩
    unfold tok_Token_Is_l0_step
    refine Ret.ite (fun h => ?_) (fun h => ?_)
    · have hlt : k < ws.length := by omega
      rw [idx_nat, List.getElem?_eq_getElem hlt, Option.bind_some]
      refine Ret.ite (fun he => ?_) (fun he => ?_)
      · exact Ret.some (List.any_eq_true.2 ⟨ws[k], List.getElem_mem hlt, he⟩).symm
      · refine Ret.some ⟨⟨k + 1, ?_, by omega, ?_⟩, ?_⟩
        · rw [w64 (by omega) (by omega)]; rfl
        · rw [List.take_add_one, List.getElem?_eq_getElem hlt, List.any_append, hno]
          simpa using he
        · rw [w64 (by omega) (by omega)]; omega
    · have : ws.take k = ws := List.take_of_length_le (by omega)
      rw [this] at hno
      exact Ret.some hno.symm
  obtain ⟨r, h, rfl⟩ := key
  exact h
theorem is_eq (t : TokToken) (ws : List (List UInt8)) (hw : ws.length ≤ 1000) : tok_Token_Is t ws = some (isB t ws) := by
  have h1 : tok_Token_Is_l0 t ws 0 = _ := is_loop t ws hw
  have h2 : tok_Token_Is_l1 t ws 0 = _ := is_loop t ws hw
  unfold tok_Token_Is isB
  by_cases h : (t.Kind != 1) = true
  · rw [if_pos h]
    by_cases h5 : (t.Kind != 5) = true
    · rw [if_pos h5]
      simp at h h5
      simp [h, h5]
    · rw [if_neg h5, h1]
      simp at h h5
      simp [h5]
  · rw [if_neg h, h2]
    simp at h
    simp [h]

/-- The tokens m are the tokens l, a semicolon, and others. -/
structure Semi (l m : List TokToken) : Prop where
  split : ∃ (t : TokToken) (rest : List TokToken), t.Kind = 5 ∧ t.Text = [59] ∧ m = l ++ t :: rest
  short : l.length ≤ 120

section
variable {l m : List TokToken} (hS : Semi l m)
include hS
theorem nx_lt {a : Nat} (h : a < l.length) : nx m a = nx l a := by
  obtain ⟨t, rest, _, _, rfl⟩ := hS.split
  unfold nx
  rw [List.getElem?_append_left h]
theorem nx_at : (nx m l.length).Kind = 5 ∧ (nx m l.length).Text = [59] := by
  obtain ⟨t, rest, h1, h2, rfl⟩ := hS.split
  unfold nx
  rw [List.getElem?_append_right (Nat.le_refl _), Nat.sub_self]
  exact ⟨h1, h2⟩
omit hS in
theorem nx_end {a : Nat} (h : l.length ≤ a) : nx l a = zeroTok := by
  unfold nx; rw [List.getElem?_eq_none h]; rfl
/-- a word that is no semicolon stands next in both or in none -/
theorem is_same {a : Nat} (ha : a ≤ l.length) {ws : List (List UInt8)} (hw : ∀ w ∈ ws, w ≠ [59]) : isB (nx m a) ws = isB (nx l a) ws ∧ (isB (nx l a) ws = true → a < l.length) := by
  by_cases h : a < l.length
  · rw [nx_lt hS h]; exact ⟨rfl, fun _ => h⟩
  · obtain rfl : a = l.length := by omega
    obtain ⟨h1, h2⟩ := nx_at hS
    rw [nx_end (Nat.le_refl _)]
    have hz : isB zeroTok ws = false := rfl
    rw [hz]
    refine ⟨?_, fun h => by cases h⟩
    unfold isB
    have : (ws.any fun w => (nx m l.length).Text == w) = false := by
      rw [h2, List.any_eq_false]
      intro w hwm
      have := hw w hwm
      simp; exact fun e => this e.symm
    rw [this, Bool.and_false]

theorem take2 {a : Nat} (ha : a ≤ l.length) (e : List ExprNode) {w : List UInt8} (hw : w ≠ [59]) :
    (expr_parser_take ⟨l, (a : Int), e⟩ w = some (true, ⟨l, ((a + 1 : Nat) : Int), e⟩) ∧ expr_parser_take ⟨m, (a : Int), e⟩ w = some (true, ⟨m, ((a + 1 : Nat) : Int), e⟩) ∧ a < l.length) ∨
    (expr_parser_take ⟨l, (a : Int), e⟩ w = some (false, ⟨l, (a : Int), e⟩) ∧ expr_parser_take ⟨m, (a : Int), e⟩ w = some (false, ⟨m, (a : Int), e⟩)) := by
  have hsh := hS.short
  obtain ⟨h1, h2⟩ := is_same hS ha (ws := [w]) (by simpa using hw)
  unfold expr_parser_take
  rw [next_eq, next_eq, Option.bind_some, Option.bind_some, is_eq _ _ (by simp), is_eq _ _ (by simp), Option.bind_some, Option.bind_some, h1]
  simp only
  have hw1 : IntKind.i64.wrap ((a : Int) + 1) = ((a + 1 : Nat) : Int) := w64 (by omega) (by omega)
  by_cases hb : isB (nx l a) [w] = true
  · left
    rw [if_pos hb, if_pos hb, hw1]
    exact ⟨rfl, rfl, h2 hb⟩
  · right
    rw [if_neg hb, if_neg hb]
    exact ⟨rfl, rfl⟩
end

/-- which nodes stand ahead -/
def WF (e : List ExprNode) : Prop := ∀ (i : Nat) (n : ExprNode), e[i]? = some n → (1 ≤ n.Op ∧ n.Op ≤ 15 → 0 ≤ n.L ∧ n.L < i) ∧ (3 ≤ n.Op ∧ n.Op ≤ 15 → 0 ≤ n.R ∧ n.R < i)
theorem WF.nil : WF [] := fun i n h => by simp at h
theorem WF.snoc {e : List ExprNode} (h : WF e) {n : ExprNode} (h1 : 1 ≤ n.Op ∧ n.Op ≤ 15 → 0 ≤ n.L ∧ n.L < e.length) (h2 : 3 ≤ n.Op ∧ n.Op ≤ 15 → 0 ≤ n.R ∧ n.R < e.length) : WF (e ++ [n]) := by
  intro i x hx
  rcases Nat.lt_trichotomy i e.length with hi | hi | hi
  · rw [List.getElem?_append_left hi] at hx; exact h i x hx
  · subst hi
    rw [List.getElem?_append_right (Nat.le_refl _), Nat.sub_self] at hx
    obtain rfl : n = x := by simpa using hx
    exact ⟨h1, h2⟩
  · rw [List.getElem?_eq_none (by simp; omega)] at hx; cases hx

theorem add_eq {l : List TokToken} {a : Int} {e : List ExprNode} (he : e.length ≤ 1000) (n : ExprNode) : expr_parser_add ⟨l, a, e⟩ n = some (true, ⟨l, a, e ++ [n]⟩) := by
  unfold expr_parser_add
  rw [app_ok (by simp [lim]; omega) (by simp [lim]; omega), Option.bind_some]

/-- What a method of the parser does on both: it goes on from a to a', with nodes e' for e. -/
structure Step (l : List TokToken) (a : Nat) (e : List ExprNode) (b : Bool) (a' : Nat) (e' : List ExprNode) : Prop where
  le : a ≤ a'
  ll : a' ≤ l.length
  wf : WF e'
  mon : e.length ≤ e'.length
  few : e'.length + a ≤ e.length + a'
  pro : b = true → e.length < e'.length ∧ a < a'
def Out (l m : List TokToken) (a : Nat) (e : List ExprNode) (x y : Option (Bool × ExprParser)) : Prop :=
  ∃ (b : Bool) (a' : Nat) (e' : List ExprNode), x = some (b, ⟨l, (a' : Int), e'⟩) ∧ y = some (b, ⟨m, (a' : Int), e'⟩) ∧ Step l a e b a' e'

theorem ite_some {α : Type} {c : Prop} [Decidable c] {x y : Option α} (hx : ∃ b, x = some b) (hy : ∃ b, y = some b) : ∃ b, (if c then x else y) = some b := by
  split
  · exact hx
  · exact hy
theorem means_some (w : List UInt8) : ∃ b, tok_Means w = some b := by
  unfold tok_Means
  repeat' (first | exact ⟨_, rfl⟩ | apply ite_some)

section
variable {l m : List TokToken} (hS : Semi l m)
include hS
theorem name2 {a : Nat} (ha : a ≤ l.length) {e : List ExprNode} (he : e.length ≤ a) (hwf : WF e) {op : Int} (hop : 15 < op) :
    Out l m a e (expr_parser_name ⟨l, (a : Int), e⟩ op) (expr_parser_name ⟨m, (a : Int), e⟩ op) := by
  have hsh := hS.short
  unfold expr_parser_name
  rw [next_eq, next_eq, Option.bind_some, Option.bind_some]
  have hw1 : IntKind.i64.wrap ((a : Int) + 1) = ((a + 1 : Nat) : Int) := w64 (by omega) (by omega)
  have hfail : Out l m a e (some (false, ⟨l, (a : Int), e⟩)) (some (false, ⟨m, (a : Int), e⟩)) := ⟨false, a, e, rfl, rfl, ⟨Nat.le_refl _, ha, hwf, Nat.le_refl _, Nat.le_refl _, fun h => by cases h⟩⟩
  by_cases h : a < l.length
  · rw [nx_lt hS h]
    by_cases hk : ((nx l a).Kind != 1) = true
    · rw [if_pos hk, if_pos hk]; exact hfail
    · rw [if_neg hk, if_neg hk]
      obtain ⟨b, hb⟩ := means_some (nx l a).Text
      rw [hb, Option.bind_some, Option.bind_some]
      by_cases hbt : b = true
      · rw [if_pos hbt, if_pos hbt]; exact hfail
      · rw [if_neg hbt, if_neg hbt]
        simp only [hw1]
        rw [add_eq (by omega), add_eq (by omega), Option.bind_some, Option.bind_some]
        exact ⟨true, a + 1, _, rfl, rfl, ⟨by omega, by omega, hwf.snoc (fun h => by simp only at h; omega) (fun h => by simp only at h; omega), by simp, by simp; omega, fun _ => ⟨by simp, by omega⟩⟩⟩
  · obtain rfl : a = l.length := by omega
    rw [if_pos (by rw [nx_end (Nat.le_refl _)]; rfl), if_pos (by rw [(nx_at hS).1]; rfl)]
    exact hfail

structure LevOk (v : ExprLevel) : Prop where
  len : v.signs.length = v.ops.length
  few : v.signs.length ≤ 10
  semi : ∀ w ∈ v.signs, w ≠ [59]
  op : ∀ o ∈ v.ops, o ≠ 0

theorem operation2 {a : Nat} (ha : a ≤ l.length) (e : List ExprNode) {v : ExprLevel} (hv : LevOk v) :
    ∃ (o : Int) (a' : Nat), expr_parser_operation ⟨l, (a : Int), e⟩ v = some (o, ⟨l, (a' : Int), e⟩) ∧ expr_parser_operation ⟨m, (a : Int), e⟩ v = some (o, ⟨m, (a' : Int), e⟩) ∧ ((o = 0 ∧ a' = a) ∨ (o ≠ 0 ∧ a' = a + 1 ∧ a < l.length)) := by
  have hl := hv.len
  have hf := hv.few
  unfold expr_parser_operation expr_parser_operation_l0
  obtain ⟨r, hr1, ⟨a', hr2, hr3⟩, hr4⟩ := run2 (f := expr_parser_operation_l0_step v) (g := expr_parser_operation_l0_step v) (fun s : Int × (List TokToken) × Int × (List ExprNode) => ∃ k : Nat, s = ((k : Int), l, (a : Int), e) ∧ k ≤ v.signs.length)
    (fun r : Int × ExprParser => ∃ a' : Nat, r.2 = ⟨l, (a' : Int), e⟩ ∧ ((r.1 = 0 ∧ a' = a) ∨ (r.1 ≠ 0 ∧ a' = a + 1 ∧ a < l.length))) (fun s => v.signs.length - s.1.toNat) (fun s => (s.1, m, s.2.2.1, s.2.2.2)) (fun r => (r.1, ⟨m, r.2.at_, r.2.e⟩)) (by
    rintro _ ⟨k, rfl, hk⟩
    unfold expr_parser_operation_l0_step
    simp only
    by_cases hlt : k < v.signs.length
    · rw [if_pos (by omega), if_pos (by omega), idx_nat, List.getElem?_eq_getElem hlt, Option.bind_some, Option.bind_some]
      have hws := hv.semi _ (List.getElem_mem hlt)
      rcases take2 hS ha e hws with ⟨t1, t2, t3⟩ | ⟨t1, t2⟩
      · rw [t1, t2, Option.bind_some, Option.bind_some]
        have hlt2 : k < v.ops.length := by omega
        simp only [if_true]
        rw [idx_nat, List.getElem?_eq_getElem hlt2, Option.bind_some, Option.bind_some]
        exact ⟨_, rfl, ⟨a + 1, rfl, .inr ⟨hv.op _ (List.getElem_mem hlt2), rfl, t3⟩⟩, rfl⟩
      · rw [t1, t2, Option.bind_some, Option.bind_some]
        simp only [Bool.false_eq_true, if_false]
        have hw1 : IntKind.i64.wrap ((k : Int) + 1) = ((k + 1 : Nat) : Int) := w64 (by omega) (by omega)
        rw [hw1]
        exact ⟨_, rfl, ⟨⟨k + 1, rfl, by omega⟩, by simp; omega⟩, rfl⟩
    · rw [if_neg (by omega), if_neg (by omega)]
      exact ⟨_, rfl, ⟨a, rfl, .inl ⟨rfl, rfl⟩⟩, rfl⟩) (s := (0, l, (a : Int), e)) ⟨0, rfl, Nat.zero_le _⟩
  obtain ⟨o, p⟩ := r
  have hr2 : p = ⟨l, (a' : Int), e⟩ := hr2
  subst hr2
  exact ⟨o, a', hr1, hr4, hr3⟩
end
def lvs : List ExprLevel := [(ExprLevel.mk ([[111, 114]]) [15] false), (ExprLevel.mk ([[97, 110, 100]]) [14] false), (ExprLevel.mk ([[60], [60, 61], [62], [62, 61], [61], [33, 61]]) [8, 9, 10, 11, 12, 13] true), (ExprLevel.mk ([[43], [45]]) [6, 7] false), (ExprLevel.mk ([[42], [47], [37]]) [3, 4, 5] false)]
theorem levels_eq : expr_levels = some lvs := rfl
theorem lvs_ok : ∀ v ∈ lvs, LevOk v := by
  intro v hv
  simp only [lvs, List.mem_cons, List.not_mem_nil, or_false] at hv
  rcases hv with rfl | rfl | rfl | rfl | rfl <;> exact ⟨rfl, by simp, by simp, by simp⟩
end Go.Proofs.YtilmjbljkkbakaaDoor
/-! The parser of expressions over plain data: the recursion. -/
namespace Go.Proofs.YtilmjbljkkbakaaDoor
open Go.Wv
set_option linter.unusedSimpArgs false
set_option linter.unusedVariables false
set_option linter.unusedSectionVars false

theorem Step.from {l : List TokToken} {a a2 a' : Nat} {e e' : List ExprNode} {b : Bool} (h : Step l a2 e b a' e') (ha : a ≤ a2) : Step l a e b a' e' :=
  ⟨by have := h.le; omega, h.ll, h.wf, h.mon, by have := h.few; omega, fun hb => ⟨(h.pro hb).1, by have := (h.pro hb).2; omega⟩⟩
theorem Step.stay {l : List TokToken} {a a' : Nat} {e : List ExprNode} (h1 : a ≤ a') (h2 : a' ≤ l.length) (hwf : WF e) : Step l a e false a' e :=
  ⟨h1, h2, hwf, Nat.le_refl _, by omega, fun h => by cases h⟩
theorem Step.fail {l : List TokToken} {a a' : Nat} {e e' : List ExprNode} {b : Bool} (h : Step l a e b a' e') : Step l a e false a' e' :=
  ⟨h.le, h.ll, h.wf, h.mon, h.few, fun h => by cases h⟩
theorem Step.next {l : List TokToken} {a a' : Nat} {e e' : List ExprNode} (h : Step l a e true a' e') (hl : a' < l.length) : Step l a e true (a' + 1) e' :=
  ⟨by have := h.le; omega, by omega, h.wf, h.mon, by have := h.few; omega, fun _ => ⟨(h.pro rfl).1, by have := (h.pro rfl).2; omega⟩⟩

section
variable {l m : List TokToken} (hS : Semi l m)
include hS
theorem kind_same {a : Nat} (ha : a ≤ l.length) {k : Int} (h0 : k ≠ 0) (h5 : k ≠ 5) : ((nx m a).Kind == k) = ((nx l a).Kind == k) ∧ (((nx l a).Kind == k) = true → a < l.length) := by
  by_cases h : a < l.length
  · rw [nx_lt hS h]; exact ⟨rfl, fun _ => h⟩
  · obtain rfl : a = l.length := by omega
    rw [nx_end (Nat.le_refl _), (nx_at hS).1]
    have e1 : ((5 : Int) == k) = false := by simpa using fun h => h5 h.symm
    have e2 : (zeroTok.Kind == k) = false := by show ((0 : Int) == k) = false; simpa using fun h => h0 h.symm
    rw [e1, e2]
    exact ⟨rfl, fun h => by cases h⟩
/-- one node that stands for itself -/
theorem leaf2 {a : Nat} (ha : a < l.length) {e : List ExprNode} (he : e.length ≤ a) (hwf : WF e) {v : ValValue} :
    Out l m a e ((expr_parser_add ⟨l, ((a + 1 : Nat) : Int), e⟩ (ExprNode.mk 0 v [] 0 0)).bind fun r3 => some (r3.1, r3.2)) ((expr_parser_add ⟨m, ((a + 1 : Nat) : Int), e⟩ (ExprNode.mk 0 v [] 0 0)).bind fun r3 => some (r3.1, r3.2)) := by
  have hsh := hS.short
  rw [add_eq (by omega), add_eq (by omega), Option.bind_some, Option.bind_some]
  exact ⟨true, a + 1, _, rfl, rfl, ⟨by omega, by omega, hwf.snoc (fun h => by simp only at h; omega) (fun h => by simp only at h; omega), by simp, by simp; omega, fun _ => ⟨by simp, by omega⟩⟩⟩
/-- what is closed by a bracket -/
theorem closed2 {a a2 : Nat} (ha : a ≤ a2) {e : List ExprNode} {x y : Option (Bool × ExprParser)} (h : Out l m a2 e x y) :
    Out l m a e (x.bind fun r => if r.1 then (expr_parser_take r.2 [41]).bind fun r2 => some (r2.1, r2.2) else some (false, r.2)) (y.bind fun r => if r.1 then (expr_parser_take r.2 [41]).bind fun r2 => some (r2.1, r2.2) else some (false, r.2)) := by
  obtain ⟨b, a', e', rfl, rfl, st⟩ := h
  rw [Option.bind_some, Option.bind_some]
  cases b
  · exact ⟨false, a', e', rfl, rfl, st.from ha⟩
  · simp only [if_true]
    rcases take2 hS st.ll e' (w := [41]) (by simp) with ⟨t1, t2, t3⟩ | ⟨t1, t2⟩
    · rw [t1, t2, Option.bind_some, Option.bind_some]
      exact ⟨true, a' + 1, e', rfl, rfl, (st.from ha).next t3⟩
    · rw [t1, t2, Option.bind_some, Option.bind_some]
      exact ⟨false, a', e', rfl, rfl, (st.from ha).fail⟩
/-- an operation with one part -/
theorem one2 {a a2 : Nat} (ha : a < a2) {e : List ExprNode} (he : e.length ≤ a) {op : Int} {x y : Option (Bool × ExprParser)} (hop : op < 3) (h : Out l m a2 e x y) :
    Out l m a e (x.bind fun r2 => if r2.1 then (expr_parser_add r2.2 ((ExprNode.mk op (ValValue.mk 0 0 []) [] ((IntKind.i64.wrap ((r2.2.e.length : Int) - 1))) 0))).bind fun r3 => some (r3.1, r3.2) else some (false, r2.2))
      (y.bind fun r2 => if r2.1 then (expr_parser_add r2.2 ((ExprNode.mk op (ValValue.mk 0 0 []) [] ((IntKind.i64.wrap ((r2.2.e.length : Int) - 1))) 0))).bind fun r3 => some (r3.1, r3.2) else some (false, r2.2)) := by
  have hsh := hS.short
  obtain ⟨b, a', e', rfl, rfl, st⟩ := h
  rw [Option.bind_some, Option.bind_some]
  cases b
  · exact ⟨false, a', e', rfl, rfl, st.from (by omega)⟩
  · simp only [if_true]
    have h1 := (st.pro rfl).1
    have h2 := st.few
    have h3 := st.ll
    have h4 := st.le
    have hw : IntKind.i64.wrap ((e'.length : Int) - 1) = (e'.length : Int) - 1 := w64 (by omega) (by omega)
    rw [add_eq (by omega), add_eq (by omega), Option.bind_some, Option.bind_some, hw]
    exact ⟨true, a', _, rfl, rfl, ⟨by omega, h3, st.wf.snoc (fun _ => by simp only; omega) (fun h => by simp only at h; omega), by simp; omega, by simp; omega, fun _ => ⟨by simp; omega, by omega⟩⟩⟩

theorem parse_rec : ∀ N : Nat,
    (∀ (k a : Nat) (e : List ExprNode), k ≤ 5 → a ≤ l.length → e.length ≤ a → WF e → (l.length - a) * 16 + (10 - k) ≤ N → Out l m a e (expr_parser_binary ⟨l, (a : Int), e⟩ (k : Int)) (expr_parser_binary ⟨m, (a : Int), e⟩ (k : Int))) ∧
    (∀ (a : Nat) (e : List ExprNode), a ≤ l.length → e.length ≤ a → WF e → (l.length - a) * 16 + 3 ≤ N → Out l m a e (expr_parser_unary ⟨l, (a : Int), e⟩) (expr_parser_unary ⟨m, (a : Int), e⟩)) ∧
    (∀ (a : Nat) (e : List ExprNode), a ≤ l.length → e.length ≤ a → WF e → (l.length - a) * 16 + 2 ≤ N → Out l m a e (expr_parser_atom ⟨l, (a : Int), e⟩) (expr_parser_atom ⟨m, (a : Int), e⟩))
  | 0 => ⟨fun k a e hk _ _ _ h => by omega, fun a e _ _ _ h => by omega, fun a e _ _ _ h => by omega⟩
  | N + 1 => by
    have hsh := hS.short
    obtain ⟨IB, IU, IA⟩ := parse_rec N
    refine ⟨?_, ?_, ?_⟩
    · -- binary
      intro k a e hk ha he hwf hN
      rw [expr_parser_binary_eq, expr_parser_binary_eq]
      unfold expr_parser_binary_F
      rw [levels_eq, Option.bind_some, Option.bind_some]
      by_cases hk5 : k = 5
      · subst hk5
        have hc : ((((5 : Nat) : Int)) == ((lvs.length : Nat) : Int)) = true := rfl
        rw [if_pos hc, if_pos hc]
        obtain ⟨b, a', e', h1, h2, st⟩ := IU a e ha he hwf (by omega)
        show Out l m a e ((expr_parser_unary ⟨l, (a : Int), e⟩).bind _) ((expr_parser_unary ⟨m, (a : Int), e⟩).bind _)
        rw [h1, h2, Option.bind_some, Option.bind_some]
        exact ⟨b, a', e', rfl, rfl, st⟩
      · have hc : ¬ (((k : Int)) == ((lvs.length : Nat) : Int)) = true := by
          have : lvs.length = 5 := rfl
          rw [this]; simp; omega
        rw [if_neg hc, if_neg hc]
        have hwk : IntKind.i64.wrap ((k : Int) + 1) = ((k + 1 : Nat) : Int) := w64 (by omega) (by omega)
        rw [hwk]
        obtain ⟨b, a1, e1, h1, h2, st⟩ := IB (k + 1) a e (by omega) ha he hwf (by omega)
        show Out l m a e ((expr_parser_binary ⟨l, (a : Int), e⟩ ((k + 1 : Nat) : Int)).bind _) ((expr_parser_binary ⟨m, (a : Int), e⟩ ((k + 1 : Nat) : Int)).bind _)
        rw [h1, h2, Option.bind_some, Option.bind_some]
        cases b
        · exact ⟨false, a1, e1, rfl, rfl, st⟩
        · simp only [Bool.not_true, Bool.false_eq_true, if_false]
          obtain ⟨hp1, hp2⟩ := st.pro rfl
          have s1 := st.ll
          have s2 := st.few
          have s3 := st.wf
          have hkl : k < lvs.length := by show k < 5; omega
          have hv := lvs_ok _ (List.getElem_mem hkl)
          unfold expr_parser_binary_l0
          obtain ⟨r, hr1, ⟨b', a', e', rfl, q1, q2, q3, q4, q5⟩, hr2⟩ := run2 (f := expr_parser_binary_l0_step expr_parser_binary_W (k : Int) lvs) (g := expr_parser_binary_l0_step expr_parser_binary_W (k : Int) lvs)
            (fun s : (List TokToken) × Int × (List ExprNode) => ∃ (a2 : Nat) (e2 : List ExprNode), s = (l, (a2 : Int), e2) ∧ a1 ≤ a2 ∧ a2 ≤ l.length ∧ WF e2 ∧ e1.length ≤ e2.length ∧ e2.length + a1 ≤ e1.length + a2)
            (fun r : Bool × ExprParser => ∃ (b' : Bool) (a' : Nat) (e' : List ExprNode), r = (b', ⟨l, (a' : Int), e'⟩) ∧ a1 ≤ a' ∧ a' ≤ l.length ∧ WF e' ∧ e1.length ≤ e'.length ∧ e'.length + a1 ≤ e1.length + a')
            (fun s => l.length - s.2.1.toNat) (fun s => (m, s.2.1, s.2.2)) (fun r => (r.1, ⟨m, r.2.at_, r.2.e⟩)) (by
            rintro _ ⟨a2, e2, rfl, g1, g2, g3, g4, g5⟩
            unfold expr_parser_binary_l0_step
            simp only
            rw [idx_nat, List.getElem?_eq_getElem hkl, Option.bind_some, Option.bind_some]
            obtain ⟨o, a3, o1, o2, o3⟩ := operation2 hS g2 e2 hv
            rw [o1, o2, Option.bind_some, Option.bind_some]
            rcases o3 with ⟨rfl, rfl⟩ | ⟨ho, rfl, hlt⟩
            · exact ⟨.inr (true, ⟨l, (a3 : Int), e2⟩), rfl, ⟨true, a3, e2, rfl, g1, g2, g3, g4, g5⟩, rfl⟩
            · have ho' : ¬ (o == 0) = true := by simpa using ho
              dsimp only
              rw [if_neg ho', if_neg ho', hwk]
              obtain ⟨b4, a4, e4, k1, k2, k3⟩ := IB (k + 1) (a2 + 1) e2 (by omega) (by omega) (by omega) g3 (by omega)
              have k1' : expr_parser_binary_W.expr_parser_binary ⟨l, ((a2 + 1 : Nat) : Int), e2⟩ ((k + 1 : Nat) : Int) = _ := k1
              have k2' : expr_parser_binary_W.expr_parser_binary ⟨m, ((a2 + 1 : Nat) : Int), e2⟩ ((k + 1 : Nat) : Int) = _ := k2
              rw [k1', k2', Option.bind_some, Option.bind_some]
              have t1 := k3.le
              have t2 := k3.ll
              have t3 := k3.few
              have t4 := k3.mon
              cases b4
              · exact ⟨_, rfl, ⟨false, a4, e4, rfl, by omega, t2, k3.wf, by omega, by omega⟩, rfl⟩
              · simp only [Bool.not_true, Bool.false_eq_true, if_false]
                have w1 : IntKind.i64.wrap ((e2.length : Int) - 1) = (e2.length : Int) - 1 := w64 (by omega) (by omega)
                have w2 : IntKind.i64.wrap ((e4.length : Int) - 1) = (e4.length : Int) - 1 := w64 (by omega) (by omega)
                rw [add_eq (by omega), add_eq (by omega), Option.bind_some, Option.bind_some, w1, w2]
                simp only [Bool.not_true, Bool.false_eq_true, if_false]
                have hwf4 : WF (e4 ++ [ExprNode.mk o (ValValue.mk 0 0 []) [] ((e2.length : Int) - 1) ((e4.length : Int) - 1)]) := k3.wf.snoc (fun _ => by simp only; omega) (fun _ => by simp only; omega)
                by_cases hon : lvs[k].once = true
                · rw [if_pos hon, if_pos hon]
                  exact ⟨_, rfl, ⟨true, a4, _, rfl, by omega, t2, hwf4, by simp; omega, by simp; omega⟩, rfl⟩
                · rw [if_neg hon, if_neg hon]
                  refine ⟨_, rfl, ⟨⟨a4, _, rfl, by omega, t2, hwf4, by simp; omega, by simp; omega⟩, ?_⟩, rfl⟩
                  show l.length - (a4 : Int).toNat < l.length - (a2 : Int).toNat
                  omega) (s := (l, (a1 : Int), e1)) ⟨a1, e1, rfl, Nat.le_refl _, s1, s3, Nat.le_refl _, Nat.le_refl _⟩
          exact ⟨b', a', e', hr1, hr2, ⟨by omega, q2, q3, by omega, by omega, fun _ => ⟨by omega, by omega⟩⟩⟩
    · -- unary
      intro a e ha he hwf hN
      rw [expr_parser_unary_eq, expr_parser_unary_eq]
      unfold expr_parser_unary_F
      rcases take2 hS ha e (w := [110, 111, 116]) (by simp) with ⟨t1, t2, t3⟩ | ⟨t1, t2⟩
      · rw [t1, t2, Option.bind_some, Option.bind_some]
        simp only [if_true]
        exact one2 hS (Nat.lt_succ_self a) he (by omega) (IU (a + 1) e (by omega) (by omega) hwf (by omega))
      · rw [t1, t2, Option.bind_some, Option.bind_some]
        simp only [Bool.false_eq_true, if_false]
        rcases take2 hS ha e (w := [45]) (by simp) with ⟨u1, u2, u3⟩ | ⟨u1, u2⟩
        · rw [u1, u2, Option.bind_some, Option.bind_some]
          simp only [if_true]
          exact one2 hS (Nat.lt_succ_self a) he (by omega) (IU (a + 1) e (by omega) (by omega) hwf (by omega))
        · rw [u1, u2, Option.bind_some, Option.bind_some]
          simp only [Bool.false_eq_true, if_false]
          obtain ⟨b, a', e', h1, h2, st⟩ := IA a e ha he hwf (by omega)
          show Out l m a e ((expr_parser_atom ⟨l, (a : Int), e⟩).bind _) ((expr_parser_atom ⟨m, (a : Int), e⟩).bind _)
          rw [h1, h2, Option.bind_some, Option.bind_some]
          exact ⟨b, a', e', rfl, rfl, st⟩
    · -- atom
      intro a e ha he hwf hN
      rw [expr_parser_atom_eq, expr_parser_atom_eq]
      unfold expr_parser_atom_F
      rw [next_eq, next_eq, Option.bind_some, Option.bind_some]
      have hw1 : IntKind.i64.wrap ((a : Int) + 1) = ((a + 1 : Nat) : Int) := w64 (by omega) (by omega)
      simp only [hw1]
      obtain ⟨c3, c3'⟩ := kind_same hS ha (k := 3) (by omega) (by omega)
      obtain ⟨c4, c4'⟩ := kind_same hS ha (k := 4) (by omega) (by omega)
      obtain ⟨c6, c6'⟩ := is_same hS ha (ws := [[116, 114, 117, 101], [102, 97, 108, 115, 101]]) (by simp)
      rw [c3, c4, is_eq _ _ (by simp), is_eq _ _ (by simp), Option.bind_some, Option.bind_some, c6]
      by_cases h3 : ((nx l a).Kind == 3) = true
      · rw [if_pos h3, if_pos h3, nx_lt hS (c3' h3)]
        exact leaf2 hS (c3' h3) he hwf
      · rw [if_neg h3, if_neg h3]
        by_cases h4 : ((nx l a).Kind == 4) = true
        · rw [if_pos h4, if_pos h4, nx_lt hS (c4' h4)]
          exact leaf2 hS (c4' h4) he hwf
        · rw [if_neg h4, if_neg h4]
          by_cases h6 : isB (nx l a) [[116, 114, 117, 101], [102, 97, 108, 115, 101]] = true
          · rw [if_pos h6, if_pos h6, nx_lt hS (c6' h6)]
            cases hb : (nx l a).Text == [116, 114, 117, 101]
            · exact leaf2 hS (c6' h6) he hwf
            · exact leaf2 hS (c6' h6) he hwf
          · rw [if_neg h6, if_neg h6]
            rcases take2 hS ha e (w := [105, 110]) (by simp) with ⟨t1, t2, t3⟩ | ⟨t1, t2⟩
            · rw [t1, t2, Option.bind_some, Option.bind_some]
              simp only [if_true]
              rcases take2 hS (show a + 1 ≤ l.length by omega) e (w := [40]) (by simp) with ⟨u1, u2, u3⟩ | ⟨u1, u2⟩
              · rw [u1, u2, Option.bind_some, Option.bind_some]
                simp only [if_true]
                exact closed2 hS (show a ≤ a + 1 + 1 by omega) (name2 hS (by omega) (by omega) hwf (by omega))
              · rw [u1, u2, Option.bind_some, Option.bind_some]
                exact ⟨false, a + 1, e, rfl, rfl, Step.stay (by omega) (by omega) hwf⟩
            · rw [t1, t2, Option.bind_some, Option.bind_some]
              simp only [Bool.false_eq_true, if_false]
              rcases take2 hS ha e (w := [40]) (by simp) with ⟨u1, u2, u3⟩ | ⟨u1, u2⟩
              · rw [u1, u2, Option.bind_some, Option.bind_some]
                simp only [if_true]
                exact closed2 hS (show a ≤ a + 1 by omega) (IB 0 (a + 1) e (by omega) (by omega) (by omega) hwf (by omega))
              · rw [u1, u2, Option.bind_some, Option.bind_some]
                simp only [Bool.false_eq_true, if_false]
                obtain ⟨b, a', e', h1, h2, st⟩ := name2 hS ha he hwf (op := 16) (by omega)
                rw [h1, h2, Option.bind_some, Option.bind_some]
                exact ⟨b, a', e', rfl, rfl, st⟩
end
end Go.Proofs.YtilmjbljkkbakaaDoor
/-! The law of layer 3 over plain data. -/
namespace Go.Proofs.YtilmjbljkkbakaaDoor
open Go.Wv
set_option linter.unusedSimpArgs false
set_option linter.unusedVariables false
set_option linter.unusedSectionVars false

theorem one_eq (o : Int) : expr_one o = some (o == 1 || o == 2) := by
  unfold expr_one
  by_cases h : (o == 1) = true
  · rw [if_pos h]; simp [h]
  · rw [if_neg h]; simp [h]
theorem two_eq (o : Int) : expr_two o = some (decide (3 ≤ o) && decide (o ≤ 15)) := by
  unfold expr_two
  by_cases h : 3 ≤ o
  · rw [if_pos h]; simp [h]
  · rw [if_neg h]; simp [h]
theorem inM_ok {n : Nat} {i : Int} (h0 : 0 ≤ i) (h1 : i < n) : inM n i = some i.toNat := inM_some.2 ⟨⟨h0, by omega⟩, rfl⟩
theorem setJ_ok {α : Type} {xs : List α} {j : Nat} (v : α) (h : j < xs.length) : setJ xs j v = some (xs.set j v) := setJ_some.2 ⟨h, rfl⟩
theorem Ret.setJ {α : Type} {xs : List α} {j : Nat} {v : α} {P : List α → Prop} (h : j < xs.length) (hp : ∀ ys : List α, ys.length = xs.length → P ys) : Ret (setJ xs j v) P := ⟨_, setJ_ok v h, hp _ (by simp)⟩
theorem Ret.getJ {α : Type} {xs : List α} {j : Nat} {P : α → Prop} (h : j < xs.length) (hp : ∀ x, P x) : Ret xs[j]? P := ⟨xs[j], List.getElem?_eq_getElem h, hp _⟩

def DP (e : List ExprNode) (k : Nat) : (Int × List Int) ⊕ List Int → Prop
  | .inl s' => (∃ k : Nat, s'.1 = (k : Int) ∧ k ≤ e.length ∧ s'.2.length = e.length) ∧ e.length - s'.1.toNat < e.length - k
  | .inr r => r.length ≤ 1000
theorem depths_ok {e : List ExprNode} (he : e.length ≤ 1000) (hwf : WF e) : Ret (expr_Expr_depths e) fun r => r.length ≤ 1000 := by
  unfold expr_Expr_depths
  have hmk : mkA 8 (e.length : Int) (0 : Int) = some (List.replicate e.length 0) := by
    rw [mkA_some]
    refine ⟨⟨by omega, by simp [lim]; omega, by simp [lim]; omega⟩, by simp⟩
  rw [hmk, Option.bind_some]
  unfold expr_Expr_depths_l0
  refine Ret.run (fun s : Int × List Int => ∃ k : Nat, s.1 = (k : Int) ∧ k ≤ e.length ∧ s.2.length = e.length) _ (fun s => e.length - s.1.toNat) ?_ ⟨0, rfl, Nat.zero_le _, by simp⟩
  rintro ⟨i, w⟩ ⟨k, h1, hk, hw⟩
  have h1 : i = (k : Int) := h1
  have hw : w.length = e.length := hw
  subst h1
  unfold expr_Expr_depths_l0_step
  dsimp only
  have hw1 : IntKind.i64.wrap ((k : Int) + 1) = ((k + 1 : Nat) : Int) := w64 (by omega) (by omega)
  have hkn : (k : Int).toNat = k := by omega
  refine Ret.mono (P := DP e k) ?_ (by
    rintro (x | x) hx
    · rw [hkn]; exact hx
    · exact hx)
  refine Ret.ite (fun hlt => ?_) (fun hlt => ?_)
  · have hlt' : k < e.length := by omega
    obtain ⟨wl, wr⟩ := hwf k _ (List.getElem?_eq_getElem hlt')
    have done : ∀ ys : List Int, ys.length = e.length → Ret (some (.inl ((IntKind.i64.wrap ((k : Int) + 1)), ys)) : Option ((Int × List Int) ⊕ List Int)) (DP e k) := by
      intro ys hys
      rw [hw1]
      refine Ret.some ⟨⟨k + 1, rfl, by omega, hys⟩, ?_⟩
      show e.length - (((k + 1 : Nat) : Int)).toNat < e.length - k
      omega
    rw [idx_nat, List.getElem?_eq_getElem hlt', Option.bind_some, inM_ok (by omega) (by omega), Option.bind_some]
    rw [hkn]
    refine Ret.bind (Ret.setJ (P := fun ys => ys.length = e.length) (by omega) fun ys h => by omega) fun w5 h5 => ?_
    have hR : ∀ (w9 : List Int), w9.length = e.length → (decide (3 ≤ e[k].Op) && decide (e[k].Op ≤ 15)) = true →
        Ret ((w9[k]?).bind fun x11 => (inM e.length e[k].R).bind fun j12 => (w9[j12]?).bind fun x13 => (setJ w9 k ((if x11 < (IntKind.i64.wrap (1 + x13)) then (IntKind.i64.wrap (1 + x13)) else x11))).bind fun w14 => (some (.inl ((IntKind.i64.wrap ((k : Int) + 1)), w14)) : Option ((Int × List Int) ⊕ List Int))) (DP e k) := by
      intro w9 h9 ht
      simp only [Bool.and_eq_true, decide_eq_true_eq] at ht
      obtain ⟨r1, r2⟩ := wr ht
      refine Ret.bind (Ret.getJ (P := fun _ => True) (by omega) fun _ => trivial) fun x11 _ => ?_
      rw [inM_ok r1 (by omega), Option.bind_some]
      refine Ret.bind (Ret.getJ (P := fun _ => True) (by omega) fun _ => trivial) fun x13 _ => ?_
      exact Ret.bind (Ret.setJ (P := fun ys => ys.length = e.length) (by omega) fun ys h => by omega) fun w14 h14 => done w14 h14
    have hL : (1 ≤ e[k].Op ∧ e[k].Op ≤ 15) → Ret ((inM e.length e[k].L).bind fun j7 => (w5[j7]?).bind fun x8 => (setJ w5 k ((IntKind.i64.wrap (1 + x8)))).bind fun w9 => (expr_two e[k].Op).bind fun r10 => if r10 then ((w9[k]?).bind fun x11 => (inM e.length e[k].R).bind fun j12 => (w9[j12]?).bind fun x13 => (setJ w9 k ((if x11 < (IntKind.i64.wrap (1 + x13)) then (IntKind.i64.wrap (1 + x13)) else x11))).bind fun w14 => (some (.inl ((IntKind.i64.wrap ((k : Int) + 1)), w14)) : Option ((Int × List Int) ⊕ List Int))) else some (.inl ((IntKind.i64.wrap ((k : Int) + 1)), w9))) (DP e k) := by
      intro ht
      obtain ⟨l1, l2⟩ := wl ht
      rw [inM_ok l1 (by omega), Option.bind_some]
      refine Ret.bind (Ret.getJ (P := fun _ => True) (by omega) fun _ => trivial) fun x8 _ => ?_
      refine Ret.bind (Ret.setJ (P := fun ys => ys.length = e.length) (by omega) fun ys h => by omega) fun w9 h9 => ?_
      rw [two_eq, Option.bind_some]
      exact Ret.ite (fun ht2 => hR w9 h9 ht2) (fun _ => done w9 h9)
    rw [one_eq, Option.bind_some]
    refine Ret.ite (fun ht => hL ?_) (fun hf => ?_)
    · simp at ht; omega
    · rw [two_eq, Option.bind_some]
      refine Ret.ite (fun ht2 => ?_) (fun hf2 => ?_)
      · have := hL (by simp at ht2; omega)
        rw [two_eq] at this
        exact this
      · rw [Option.bind_some, if_neg hf2]
        exact done w5 h5
  · have : frz e.length w = some w := by rw [frz_some]; exact ⟨by omega, by rw [List.take_of_length_le (by omega)]⟩
    rw [this, Option.bind_some]
    exact Ret.some (by show w.length ≤ 1000; omega)

theorem size_ok {e : List ExprNode} (he : e.length ≤ 1000) (hwf : WF e) : ∃ r, expr_Expr_Size e = some r := by
  have : Ret (expr_Expr_Size e) fun _ => True := by
    unfold expr_Expr_Size
    refine Ret.ite (fun _ => Ret.some trivial) (fun _ => Ret.bind (depths_ok he hwf) fun r hr => ?_)
    unfold expr_Expr_Size_l0
    refine Ret.run (fun s => ∃ k : Nat, s = (k : Int) ∧ k ≤ r.length) _ (fun s => r.length - s.toNat) ?_ ⟨0, rfl, Nat.zero_le _⟩
    rintro s ⟨k, rfl, hk⟩
    unfold expr_Expr_Size_l0_step
    refine Ret.ite (fun h => ?_) (fun _ => Ret.some trivial)
    have hlt : k < r.length := by omega
    rw [idx_nat, List.getElem?_eq_getElem hlt, Option.bind_some]
    refine Ret.ite (fun _ => Ret.some trivial) (fun _ => Ret.some ?_)
    rw [w64 (by omega) (by omega)]
    exact ⟨⟨k + 1, rfl, by omega⟩, by omega⟩
  obtain ⟨r, h, _⟩ := this
  exact ⟨r, h⟩

/-- A semicolon behind the tokens, and what follows it, makes no difference to what is parsed. -/
theorem parse_semi {l m : List TokToken} (hS : Semi l m) : ∃ r, expr_Parse l 0 = some r ∧ expr_Parse m 0 = some r ∧ r.1.length ≤ 1000 := by
  have hsh := hS.short
  obtain ⟨b, a', e', h1, h2, st⟩ := (parse_rec hS (l.length * 16 + 10)).1 0 0 [] (by omega) (Nat.zero_le _) (by simp) WF.nil (by omega)
  have hfew := st.few
  have hll := st.ll
  simp at hfew
  obtain ⟨z, hz⟩ := size_ok (e := e') (by omega) st.wf
  have key : ∀ x : List TokToken, expr_parser_binary ⟨x, ((0 : Nat) : Int), []⟩ ((0 : Nat) : Int) = some (b, ⟨x, (a' : Int), e'⟩) → expr_Parse x 0 = if b then (if (z != 0) then some ([], 0, z) else some (e', (a' : Int), 0)) else some ([], 0, 11) := by
    intro x hx
    have hx : expr_parser_binary ⟨x, 0, ([] : List ExprNode)⟩ 0 = some (b, ⟨x, (a' : Int), e'⟩) := hx
    unfold expr_Parse
    rw [if_neg (by omega), if_neg (by omega), hx, Option.bind_some]
    cases b
    · rfl
    · simp only [Bool.not_true, Bool.false_eq_true, if_false, if_true]
      rw [hz, Option.bind_some]
  rw [key l h1, key m h2]
  cases b
  · exact ⟨_, rfl, rfl, by simp⟩
  · simp only [if_true]
    by_cases h : (z != 0) = true
    · rw [if_pos h]; exact ⟨_, rfl, rfl, by simp⟩
    · rw [if_neg h]; exact ⟨_, rfl, rfl, by show e'.length ≤ 1000; omega⟩

def cv (n : ExprNode) : Wref03N := ⟨n.Op, ⟨n.V.Kind, n.V.N, n.V.S⟩, n.Name, n.L, n.R⟩
theorem refs_eq {e : List ExprNode} (he : e.length ≤ 1000) : wlaw03_refs e = some (e.map cv) := by
  have key : Ret (wlaw03_refs e) fun r => r = e.map cv := by
    unfold wlaw03_refs wlaw03_refs_l0
    refine Ret.run (fun s : List Wref03N × Int => ∃ k : Nat, s = ((e.take k).map cv, (k : Int)) ∧ k ≤ e.length) _ (fun s => e.length - s.2.toNat) ?_ ⟨0, rfl, Nat.zero_le _⟩
    rintro _ ⟨k, rfl, hk⟩
    unfold wlaw03_refs_l0_step
    dsimp only
    refine Ret.ite (fun h => ?_) (fun h => ?_)
    · have hlt : k < e.length := by omega
      rw [idx_nat, List.getElem?_eq_getElem hlt, Option.bind_some, app_ok (by simp [lim]; omega) (by simp [lim]; omega), Option.bind_some]
      have hw1 : IntKind.i64.wrap ((k : Int) + 1) = ((k + 1 : Nat) : Int) := w64 (by omega) (by omega)
      rw [hw1]
      refine Ret.some ⟨⟨k + 1, ?_, by omega⟩, ?_⟩
      · rw [List.take_add_one, List.getElem?_eq_getElem hlt, List.map_append]; rfl
      · show e.length - (((k + 1 : Nat) : Int)).toNat < e.length - (k : Int).toNat; omega
    · refine Ret.some ?_
      rw [List.take_of_length_le (by omega)]
  obtain ⟨r, h, rfl⟩ := key
  exact h
theorem same_eq {e : List ExprNode} (he : e.length ≤ 1000) : wlaw03_same e (e.map cv) = some true := by
  have key : Ret (wlaw03_same e (e.map cv)) fun r => r = true := by
    unfold wlaw03_same
    rw [if_neg (by simp), refs_eq he, Option.bind_some]
    unfold wlaw03_same_l0
    refine Ret.run (fun s => ∃ k : Nat, s = (k : Int) ∧ k ≤ e.length) _ (fun s => e.length - s.toNat) ?_ ⟨0, rfl, Nat.zero_le _⟩
    rintro _ ⟨k, rfl, hk⟩
    unfold wlaw03_same_l0_step
    refine Ret.ite (fun h => ?_) (fun h => Ret.some rfl)
    have hlt : k < (e.map cv).length := by simp at h ⊢; omega
    rw [idx_nat, List.getElem?_eq_getElem hlt, Option.bind_some, Option.bind_some, if_neg (by simp)]
    have hw1 : IntKind.i64.wrap ((k : Int) + 1) = ((k + 1 : Nat) : Int) := w64 (by omega) (by omega)
    rw [hw1]
    simp at hlt
    exact Ret.some ⟨⟨k + 1, rfl, by omega⟩, by omega⟩
  obtain ⟨r, h, rfl⟩ := key
  exact h

theorem exprAhead_pure (s more : List UInt8) : wlaw03_ExprAhead s more = some true := by
  unfold wlaw03_ExprAhead wlaw03_anchor
  rw [Option.bind_some, if_neg (by decide)]
  by_cases h1 : 400 < (s.length : Int)
  · rw [if_pos h1]
  · rw [if_neg h1]
    by_cases h2 : 200 < (more.length : Int)
    · rw [if_pos h2]
    · rw [if_neg h2]
      obtain ⟨r3, e3, _⟩ := lex_total (s := s) (i := 0) (out := []) (by omega) (Nat.zero_le _) (by simp)
      have e3 : tok_Lex s = some r3 := e3
      have c1 : cat s [32, 59, 32] = some (s ++ [32, 59, 32]) := cat_ok (by simp; omega)
      have c2 : cat (s ++ [32, 59, 32]) more = some (s ++ (semiB ++ more)) := by rw [cat_ok (by simp; omega), List.append_assoc]; rfl
      obtain ⟨r6, e6, _⟩ := lex_total (s := s ++ (semiB ++ more)) (i := 0) (out := []) (by simp [semiB]; omega) (Nat.zero_le _) (by simp)
      have e6 : tok_Lex (s ++ (semiB ++ more)) = some r6 := e6
      rw [e3, Option.bind_some, c1, Option.bind_some, c2, Option.bind_some, e6, Option.bind_some]
      by_cases k3 : (r3.2.1 != 0) = true
      · rw [if_pos k3]
      · rw [if_neg k3]
        by_cases k6 : (r6.2.1 != 0) = true
        · rw [if_pos k6]
        · rw [if_neg k6]
          obtain ⟨l, el, zl⟩ := r3
          obtain ⟨m, em, zm⟩ := r6
          have hl : el = 0 := by simpa using k3
          have hm : em = 0 := by simpa using k6
          subst hl hm
          obtain ⟨q1, q2, q3⟩ := lex_semi (by omega) (by omega) e3 e6
          obtain ⟨r, p1, p2, p3⟩ := parse_semi ⟨q3, q1⟩
          dsimp only
          rw [p1, p2, Option.bind_some, Option.bind_some, if_pos (by simp), if_pos (by simp), refs_eq p3, Option.bind_some, same_eq p3, Option.bind_some]
end Go.Proofs.YtilmjbljkkbakaaDoor
