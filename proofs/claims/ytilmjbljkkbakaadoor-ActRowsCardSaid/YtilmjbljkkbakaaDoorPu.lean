/-
  A part of the proof: lemmas.
-/
import Derived.Test.YtilmjbljkkbakaaDoorR
import Derived.Test.YtilmjbljkkbakaaDoorFunsc
import Derived.Test.YtilmjbljkkbakaaDoorAncc
set_option linter.unusedSimpArgs false
set_option linter.unusedVariables false
set_option linter.unusedSectionVars false
set_option linter.unnecessarySimpa false
set_option linter.deprecated false
/-! The lexer over plain data. -/
namespace Go.Proofs.YtilmjbljkkbakaaDoor
open Go.Wv
set_option linter.unusedSimpArgs false
set_option linter.unusedVariables false
set_option linter.unusedSectionVars false

def smallB (c : UInt8) : Bool := decide (97 ≤ c.toNat) && decide (c.toNat ≤ 122)
def digitB (c : UInt8) : Bool := decide (48 ≤ c.toNat) && decide (c.toNat ≤ 57)
def wordB (c : UInt8) : Bool := smallB c || digitB c || ((c.toNat : Int) == 95)
def blankB (c : UInt8) : Bool := (c.toNat : Int) == 32
def unquoteB (c : UInt8) : Bool := (c.toNat : Int) != 39

theorem small_eq (c : UInt8) : tok_small (c.toNat : Int) = some (smallB c) := by
  unfold tok_small smallB
  by_cases h : 97 ≤ c.toNat
  · have : (97 : Int) ≤ (c.toNat : Int) := by omega
    rw [if_pos this]
    have e : ((c.toNat : Int) ≤ 122) = (c.toNat ≤ 122) := propext (by omega)
    simp [h, e]
  · have : ¬ (97 : Int) ≤ (c.toNat : Int) := by omega
    rw [if_neg this]; simp [h]
theorem digit_eq (c : UInt8) : tok_digit (c.toNat : Int) = some (digitB c) := by
  unfold tok_digit digitB
  by_cases h : 48 ≤ c.toNat
  · have : (48 : Int) ≤ (c.toNat : Int) := by omega
    rw [if_pos this]
    have e : ((c.toNat : Int) ≤ 57) = (c.toNat ≤ 57) := propext (by omega)
    simp [h, e]
  · have : ¬ (48 : Int) ≤ (c.toNat : Int) := by omega
    rw [if_neg this]; simp [h]
theorem word1_eq (c : UInt8) : tok_reader_word_1 (c.toNat : Int) = some (wordB c) := by
  unfold tok_reader_word_1 wordB
  rw [small_eq, Option.bind_some]
  cases h : smallB c
  · simp only [Bool.false_eq_true, if_false, digit_eq, Option.bind_some, Bool.false_or]
    cases h' : digitB c <;> simp
  · simp
theorem blank_eq (c : UInt8) : tok_Lex_1 (c.toNat : Int) = some (blankB c) := rfl
theorem unquote_eq (c : UInt8) : tok_reader_quote_1 (c.toNat : Int) = some (unquoteB c) := rfl

/-- the loop that the readers share -/
noncomputable def whileStep (isf : Int → Option Bool) (p0 : TokReader) (s1 : Int) : Option ((Int) ⊕ ((List UInt8) × TokReader)) :=
  if s1 < (p0.s.length : Int) then
    (idx p0.s s1).bind fun c2 =>
    (isf (c2.toNat : Int)).bind fun r3 =>
    if r3 then
      some (.inl ((IntKind.i64.wrap (s1 + 1))))
    else
      (sub p0.s p0.at_ s1).bind fun m4 =>
      some (.inr ((m4, (TokReader.mk p0.s s1))))
  else
    (sub p0.s p0.at_ s1).bind fun m5 =>
    some (.inr ((m5, (TokReader.mk p0.s s1))))
/-- what is read -/
def piece (p : UInt8 → Bool) (s : List UInt8) (i : Nat) : List UInt8 := (s.drop i).take (scan p s i - i)

theorem while_gen {isf : Int → Option Bool} {p : UInt8 → Bool} (hp : ∀ c : UInt8, isf (c.toNat : Int) = some (p c)) {s : List UInt8} {i : Nat} (hi : i ≤ s.length) (hs : s.length < 4611686018427387904) :
    run (whileStep isf ⟨s, (i : Int)⟩) (i : Int) = some (piece p s i, ⟨s, (scan p s i : Nat)⟩) := by
  have key : Ret (run (whileStep isf ⟨s, (i : Int)⟩) (i : Int)) fun r => r = (piece p s i, ⟨s, (scan p s i : Nat)⟩) := by
    refine Ret.run (fun j => ∃ k : Nat, j = (k : Int) ∧ i ≤ k ∧ k ≤ s.length ∧ scan p s k = scan p s i) _ (fun j => s.length - j.toNat) ?_ ⟨i, rfl, Nat.le_refl i, hi, rfl⟩
    rintro j ⟨k, rfl, hik, hk, hsc⟩
    unfold whileStep
    refine Ret.ite (fun hlt => ?_) (fun hlt => ?_)
    · have hlt' : k < s.length := by simpa using hlt
      have hget : s[k]? = some s[k] := List.getElem?_eq_getElem hlt'
      show Ret ((idx s (k : Int)).bind _) _
      rw [idx_nat, hget, Option.bind_some, hp, Option.bind_some]
      have hst := scan_step (p := p) hget
      refine Ret.ite (fun hb => ?_) (fun hb => ?_)
      · refine Ret.some ⟨⟨k + 1, ?_, by omega, by omega, ?_⟩, ?_⟩
        · rw [w64 (by omega) (by omega)]; rfl
        · rw [hst, if_pos hb] at hsc; exact hsc
        · rw [w64 (by omega) (by omega)]; omega
      · rw [hst, if_neg hb] at hsc
        show Ret ((sub s (i : Int) (k : Int)).bind _) _
        rw [sub_ok hik hk, Option.bind_some]
        refine Ret.some ?_
        rw [piece, ← hsc]
    · have hlt' : s.length ≤ k := by simpa using hlt
      rw [scan_end hlt'] at hsc
      show Ret ((sub s (i : Int) (k : Int)).bind _) _
      rw [sub_ok hik hk, Option.bind_some]
      refine Ret.some ?_
      rw [piece, ← hsc]
  obtain ⟨r, h, rfl⟩ := key
  exact h

section
variable {s : List UInt8} {i : Nat} (hi : i ≤ s.length) (hs : s.length < 4611686018427387904)
include hi hs
theorem while18 : tok_reader_while_at18 ⟨s, (i : Int)⟩ = some (piece blankB s i, ⟨s, (scan blankB s i : Nat)⟩) := while_gen blank_eq hi hs
theorem while33 : tok_reader_while_at33 ⟨s, (i : Int)⟩ = some (piece digitB s i, ⟨s, (scan digitB s i : Nat)⟩) := while_gen digit_eq hi hs
theorem while60 : tok_reader_while_at60 ⟨s, (i : Int)⟩ = some (piece unquoteB s i, ⟨s, (scan unquoteB s i : Nat)⟩) := while_gen unquote_eq hi hs
theorem word_eq : tok_reader_word ⟨s, (i : Int)⟩ = some (piece wordB s i, ⟨s, (scan wordB s i : Nat)⟩) := by
  unfold tok_reader_word
  have : tok_reader_while_at72 ⟨s, (i : Int)⟩ = some (piece wordB s i, ⟨s, (scan wordB s i : Nat)⟩) := while_gen word1_eq hi hs
  rw [this]; rfl
end
theorem piece_app {p : UInt8 → Bool} {s u : List UInt8} {i : Nat} (hi : i ≤ s.length) (h : scan p (s ++ u) i = scan p s i) : piece p (s ++ u) i = piece p s i := by
  unfold piece
  rw [h, List.drop_append_of_le_length hi, List.take_append_of_le_length]
  have := scan_le p s hi
  simp; omega
theorem piece_len (p : UInt8 → Bool) (s : List UInt8) (i : Nat) : (piece p s i).length = scan p s i - i := by
  unfold piece scan
  have := takeWhile_length_le p (s.drop i)
  simp at this ⊢
  omega
theorem piece_le {p : UInt8 → Bool} {s : List UInt8} {i : Nat} (hi : i ≤ s.length) : (piece p s i).length ≤ s.length := by
  rw [piece_len]; have := scan_le p s hi; omega

/-- two runs at once: the second is the first with something behind the text -/
theorem run2 {S R S' R' : Type} {f : S → Option (S ⊕ R)} {g : S' → Option (S' ⊕ R')} (I : S → Prop) (P : R → Prop) (μ : S → Nat) (φ : S → S') (ψ : R → R')
    (h : ∀ s, I s → ∃ x, f s = some x ∧ (match x with
      | .inl s' => I s' ∧ μ s' < μ s
      | .inr r => P r) ∧ g (φ s) = some (Sum.map φ ψ x)) {s : S} (hs : I s) : ∃ r, run f s = some r ∧ P r ∧ run g (φ s) = some (ψ r) := by
  induction hm : μ s using Nat.strongRecOn generalizing s with
  | _ m ih =>
    obtain ⟨x, hx, hp, hg⟩ := h s hs
    rw [run_eq, hx, run_eq, hg]
    cases x with
    | inl s' => exact ih (μ s') (by rw [← hm]; exact hp.2) hp.1 rfl
    | inr r => exact ⟨r, rfl, hp, rfl⟩

/-- a token's answer, with something behind the text -/
def shift (u : List UInt8) (r : TokToken × Int × TokReader) : TokToken × Int × TokReader := (r.1, r.2.1, ⟨r.2.2.s ++ u, r.2.2.at_⟩)
/-- a token's answer is within the text -/
def Within (s : List UInt8) (i : Nat) (r : TokToken × Int × TokReader) : Prop := ∃ j : Nat, r.2.2 = ⟨s, (j : Int)⟩ ∧ i ≤ j ∧ j ≤ s.length

section
variable {s u : List UInt8} {c0 : UInt8} (hu : u.head? = some c0) (hc : c0.toNat = 32) (hs : s.length ≤ 1000000) (hul : u.length ≤ 1000000)
include hu hc hs hul

theorem get_app {k : Nat} (hk : k < s.length) : (s ++ u)[k]? = s[k]? := List.getElem?_append_left hk
theorem get_u0 : (s ++ u)[s.length]? = some c0 := by
  rw [List.getElem?_append_right (Nat.le_refl _), Nat.sub_self]
  cases u with
  | nil => cases hu
  | cons a u => exact hu
theorem u_pos : 0 < u.length := by
  cases u with
  | nil => cases hu
  | cons a u => simp
theorem scan_word {i : Nat} (hi : i ≤ s.length) : scan wordB (s ++ u) i = scan wordB s i := scan_app hu (by simp [wordB, smallB, digitB, hc]) hi
theorem scan_digit {i : Nat} (hi : i ≤ s.length) : scan digitB (s ++ u) i = scan digitB s i := scan_app hu (by simp [digitB, hc]) hi
theorem word_u {i : Nat} (hi : i ≤ s.length) : tok_reader_word ⟨s ++ u, (i : Int)⟩ = some (piece wordB s i, ⟨s ++ u, (scan wordB s i : Nat)⟩) := by
  rw [word_eq (by simp; omega) (by simp; omega), scan_word hu hc hs hul hi, piece_app hi (scan_word hu hc hs hul hi)]

theorem path2 {i : Nat} (hi : i ≤ s.length) : ∃ r, tok_reader_path ⟨s, (i : Int)⟩ = some r ∧ Within s (scan wordB s i) r ∧ tok_reader_path ⟨s ++ u, (i : Int)⟩ = some (shift u r) := by
  have hj := scan_le wordB s hi
  have hup := u_pos hu hc hs hul
  have hpl := piece_le (p := wordB) hi
  unfold tok_reader_path
  rw [word_eq hi (by omega), word_u hu hc hs hul hi, Option.bind_some, Option.bind_some]
  by_cases hlen : 16 < ((piece wordB s i).length : Int)
  · rw [if_pos hlen, if_pos hlen]
    exact ⟨_, rfl, ⟨scan wordB s i, rfl, Nat.le_refl _, hj⟩, rfl⟩
  · rw [if_neg hlen, if_neg hlen]
    unfold tok_reader_path_l0
    refine run2 (fun st : Int × List UInt8 × List UInt8 × Int => ∃ k : Nat, st.2.2 = (s, (k : Int)) ∧ scan wordB s i ≤ k ∧ k ≤ s.length ∧ st.2.1.length ≤ k) (Within s (scan wordB s i)) (fun st : Int × List UInt8 × List UInt8 × Int => s.length - st.2.2.2.toNat) (fun st : Int × List UInt8 × List UInt8 × Int => (st.1, st.2.1, st.2.2.1 ++ u, st.2.2.2)) (shift u) ?_ ⟨scan wordB s i, rfl, Nat.le_refl _, hj, by rw [piece_len]; omega⟩
    rintro ⟨kd, tx, s', a⟩ ⟨k, he, hik, hk, htx⟩
    simp only [Prod.mk.injEq] at he
    obtain ⟨rfl, rfl⟩ := he
    have htx : tx.length ≤ k := htx
    unfold tok_reader_path_l0_step
    simp only
    have hw : IntKind.i64.wrap ((k : Int) + 1) = ((k + 1 : Nat) : Int) := w64 (by omega) (by omega)
    rw [hw]
    have done : ∃ x, (if 32 < (tx.length : Int) then (some (.inr (TokToken.mk kd tx 0 (scan wordB s' i : Nat), 15, TokReader.mk s' (k : Int))) : Option ((Int × (List UInt8) × (List UInt8) × Int) ⊕ (TokToken × Int × TokReader))) else some (.inr (TokToken.mk kd tx 0 (scan wordB s' i : Nat), 0, TokReader.mk s' (k : Int)))) = some (.inr x) ∧ Within s' (scan wordB s' i) x ∧
        (if 32 < (tx.length : Int) then (some (.inr (TokToken.mk kd tx 0 (scan wordB s' i : Nat), 15, TokReader.mk (s' ++ u) (k : Int))) : Option ((Int × (List UInt8) × (List UInt8) × Int) ⊕ (TokToken × Int × TokReader))) else some (.inr (TokToken.mk kd tx 0 (scan wordB s' i : Nat), 0, TokReader.mk (s' ++ u) (k : Int)))) = some (.inr (shift u x)) := by
      by_cases h32 : 32 < (tx.length : Int)
      · rw [if_pos h32, if_pos h32]; exact ⟨_, rfl, ⟨k, rfl, hik, hk⟩, rfl⟩
      · rw [if_neg h32, if_neg h32]; exact ⟨_, rfl, ⟨k, rfl, hik, hk⟩, rfl⟩
    obtain ⟨x, hx1, hx2, hx3⟩ := done
    by_cases hk1 : k + 1 < s'.length
    · have h1 : ((k + 1 : Nat) : Int) < (s'.length : Int) := by omega
      have h2 : ((k + 1 : Nat) : Int) < ((s' ++ u).length : Int) := by simp; omega
      have e1 : idx s' (k : Int) = some s'[k] := by rw [idx_nat, List.getElem?_eq_getElem]
      have e2 : idx (s' ++ u) (k : Int) = some s'[k] := by rw [idx_nat, get_app hu hc hs hul (by omega), List.getElem?_eq_getElem]
      have e3 : idx s' ((k + 1 : Nat) : Int) = some s'[k + 1] := by rw [idx_nat, List.getElem?_eq_getElem]
      have e4 : idx (s' ++ u) ((k + 1 : Nat) : Int) = some s'[k + 1] := by rw [idx_nat, get_app hu hc hs hul hk1, List.getElem?_eq_getElem]
      rw [if_pos h1, if_pos h2, e1, e2, Option.bind_some, Option.bind_some]
      by_cases hdot : ((s'[k].toNat : Int) == 46) = true
      · rw [if_pos hdot, if_pos hdot, e3, e4, Option.bind_some, Option.bind_some, small_eq, Option.bind_some, Option.bind_some]
        by_cases hsm : smallB s'[k + 1] = true
        · rw [if_pos hsm, if_pos hsm, word_eq (by omega) (by omega), word_u hu hc hs hul (by omega), Option.bind_some, Option.bind_some]
          have hg := scan_ge wordB s' (k + 1)
          have hl := scan_le wordB s' (show k + 1 ≤ s'.length by omega)
          have hpl := piece_len wordB s' (k + 1)
          have hc1 : cat [46] (piece wordB s' (k + 1)) = some ([46] ++ piece wordB s' (k + 1)) := cat_ok (by simp; omega)
          have hc2 : cat tx ([46] ++ piece wordB s' (k + 1)) = some (tx ++ ([46] ++ piece wordB s' (k + 1))) := cat_ok (by simp; omega)
          simp only [hc1, hc2, Option.bind_some]
          by_cases h16 : 16 < ((piece wordB s' (k + 1)).length : Int)
          · rw [if_pos h16, if_pos h16]
            exact ⟨_, rfl, ⟨scan wordB s' (k + 1), rfl, by omega, hl⟩, rfl⟩
          · rw [if_neg h16, if_neg h16]
            refine ⟨_, rfl, ⟨⟨scan wordB s' (k + 1), rfl, by omega, hl, ?_⟩, ?_⟩, rfl⟩
            · simp; omega
            · simp; omega
        · rw [if_neg hsm, if_neg hsm]
          exact ⟨_, hx1, hx2, hx3⟩
      · rw [if_neg hdot, if_neg hdot]
        exact ⟨_, hx1, hx2, hx3⟩
    · have h1 : ¬ ((k + 1 : Nat) : Int) < (s'.length : Int) := by omega
      rw [if_neg h1]
      refine ⟨_, hx1, hx2, ?_⟩
      by_cases h2 : ((k + 1 : Nat) : Int) < ((s' ++ u).length : Int)
      · rw [if_pos h2, idx_nat]
        by_cases hke : k = s'.length
        · have := get_u0 hu hc hs hul
          rw [hke, this, Option.bind_some, if_neg (by simp [hc])]
          rw [hke] at hx3
          exact hx3
        · have hk2 : k + 1 = s'.length := by omega
          rw [get_app hu hc hs hul (by omega), List.getElem?_eq_getElem (show k < s'.length by omega), Option.bind_some]
          by_cases hdot : ((s'[k].toNat : Int) == 46) = true
          · rw [if_pos hdot, idx_nat, hk2, get_u0 hu hc hs hul, Option.bind_some, small_eq, Option.bind_some, if_neg (by simp [smallB, hc])]
            exact hx3
          · rw [if_neg hdot]; exact hx3
      · rw [if_neg h2]; exact hx3
end
end Go.Proofs.YtilmjbljkkbakaaDoor
/-! The lexer over plain data: tokens. -/
namespace Go.Proofs.YtilmjbljkkbakaaDoor
open Go.Wv
set_option linter.unusedSimpArgs false
set_option linter.unusedVariables false
set_option linter.unusedSectionVars false

theorem quo10 (k : IntKind) (a : Int) : quo k a 10 = some (k.wrap (a.tdiv 10)) := by
  unfold quo; rw [if_neg (by omega)]

theorem num_l0 (t : List UInt8) (st st' : TokReader) (b : List Int) (hb : b.length ≤ 1000000) : ∃ r, tok_reader_number_l0 (t, st) b (0, 0) = some r ∧ r.2.2 = st ∧ tok_reader_number_l0 (t, st') b (0, 0) = some (r.1, r.2.1, st') := by
  unfold tok_reader_number_l0
  refine run2 (fun s : Int × Int => ∃ k : Nat, s.2 = (k : Int) ∧ k ≤ b.length) (fun r : TokToken × Int × TokReader => r.2.2 = st) (fun s => b.length - s.2.toNat) (fun s => s) (fun r : TokToken × Int × TokReader => (r.1, r.2.1, st')) ?_ ⟨0, rfl, Nat.zero_le _⟩
  rintro ⟨n, a⟩ ⟨k, he, hk⟩
  have he : a = (k : Int) := he
  subst he
  unfold tok_reader_number_l0_step
  simp only
  by_cases hlt : k < b.length
  · have h1 : (k : Int) < (b.length : Int) := by omega
    rw [if_pos h1, if_pos h1, idx_nat, List.getElem?_eq_getElem hlt, Option.bind_some, Option.bind_some, quo10, Option.bind_some, Option.bind_some]
    split
    · exact ⟨_, rfl, rfl, rfl⟩
    · refine ⟨_, rfl, ⟨⟨k + 1, ?_, by omega⟩, ?_⟩, rfl⟩
      · show IntKind.i64.wrap _ = _; rw [w64 (by omega) (by omega)]; rfl
      · show b.length - (IntKind.i64.wrap _).toNat < _; rw [w64 (by omega) (by omega)]; simp; omega
  · have h1 : ¬ (k : Int) < (b.length : Int) := by omega
    rw [if_neg h1, if_neg h1]
    exact ⟨_, rfl, rfl, rfl⟩
theorem num_l1 (t : List UInt8) (st st' : TokReader) (b : List Int) (hb : b.length ≤ 1000000) : ∃ r, tok_reader_number_l1 (t, st) b (0, 0) = some r ∧ r.2.2 = st ∧ tok_reader_number_l1 (t, st') b (0, 0) = some (r.1, r.2.1, st') := num_l0 t st st' b hb

theorem plain_ok (t : List UInt8) (ht : t.length ≤ 1000000) : ∃ b, val_Plain t = some b := by
  unfold val_Plain
  rw [byts_ok (by unfold lim; omega), Option.bind_some]
  unfold val_Plain_l0
  have key : Ret (run (val_Plain_l0_step t (t.map fun b => (b.toNat : Int))) 0) fun _ => True := by
    refine Ret.run (fun s => ∃ k : Nat, s = (k : Int) ∧ k ≤ t.length) _ (fun s => t.length - s.toNat) ?_ ⟨0, rfl, Nat.zero_le _⟩
    rintro s ⟨k, rfl, hk⟩
    unfold val_Plain_l0_step
    refine Ret.ite (fun h => ?_) (fun h => Ret.some trivial)
    have hlt : k < t.length := by simpa using h
    rw [idx_nat, List.getElem?_map, List.getElem?_eq_getElem hlt, Option.map_some, Option.bind_some]
    refine Ret.ite (fun _ => Ret.some trivial) fun _ => Ret.ite (fun _ => Ret.some trivial) fun _ => Ret.ite (fun _ => Ret.some trivial) fun _ => Ret.some ?_
    rw [w64 (by omega) (by omega)]
    exact ⟨⟨k + 1, rfl, by omega⟩, by omega⟩
  obtain ⟨r, h, _⟩ := key
  exact ⟨r, h⟩

def hpB (l x : List UInt8) : Bool := decide (x.length ≤ l.length) && (l.take x.length == x)
theorem hasPrefix_eq (l x : List UInt8) : strings_HasPrefix l x = some (hpB l x) := by
  unfold strings_HasPrefix internal_stringslite_HasPrefix hpB
  by_cases h : x.length ≤ l.length
  · have h1 : (x.length : Int) ≤ (l.length : Int) := by omega
    rw [if_pos h1, subT_ok h, Option.bind_some]; simp [h]
  · have h1 : ¬ (x.length : Int) ≤ (l.length : Int) := by omega
    rw [if_neg h1]; simp [h]
theorem tab0_ok : ∀ x ∈ tab0, (∀ c ∈ x, c.toNat ≠ 32) ∧ 0 < x.length := by decide
theorem hpB_app {l u x : List UInt8} {c0 : UInt8} (hu : u.head? = some c0) (hc : c0.toNat = 32) (hx : ∀ c ∈ x, c.toNat ≠ 32) : hpB (l ++ u) x = hpB l x := by
  unfold hpB
  by_cases h : x.length ≤ l.length
  · rw [List.take_append_of_le_length h]
    have : x.length ≤ (l ++ u).length := by simp; omega
    simp only [h, this]
  · simp only [h, decide_false, Bool.false_and]
    by_cases h2 : x.length ≤ (l ++ u).length
    · simp only [h2, decide_true, Bool.true_and]
      rw [beq_eq_false_iff_ne]
      intro he
      have hl : l.length < x.length := by omega
      have h3 : x[l.length]? = some c0 := by
        rw [← he, List.getElem?_take_of_lt hl, List.getElem?_append_right (Nat.le_refl _), Nat.sub_self]
        cases u with
        | nil => cases hu
        | cons a u => exact hu
      exact hx c0 (List.mem_of_getElem? h3) hc
    · simp only [h2, decide_false, Bool.false_and]

/-- A token's answer is within the text, and takes something where it is no error. -/
def Tk (s : List UInt8) (i : Nat) (r : TokToken × Int × TokReader) : Prop := ∃ j : Nat, r.2.2 = ⟨s, (j : Int)⟩ ∧ i ≤ j ∧ j ≤ s.length ∧ (r.2.1 = 0 → i < j)

section
variable {s u : List UInt8} {c0 : UInt8} (hu : u.head? = some c0) (hc : c0.toNat = 32) (hs : s.length ≤ 1000000) (hul : u.length ≤ 1000000)
include hu hc hs hul

theorem number2 {i : Nat} (hi : i ≤ s.length) : ∃ r, tok_reader_number ⟨s, (i : Int)⟩ = some r ∧ Within s (scan digitB s i) r ∧ tok_reader_number ⟨s ++ u, (i : Int)⟩ = some (shift u r) := by
  have hj := scan_le digitB s hi
  have hsc := scan_digit hu hc hs hul hi
  have hpl := piece_le (p := digitB) hi
  unfold tok_reader_number
  rw [while33 hi (by omega), while33 (s := s ++ u) (by simp; omega) (by simp; omega), hsc, piece_app hi hsc, Option.bind_some, Option.bind_some]
  simp only
  have hb := byts_ok (s := piece digitB s i) (by unfold lim; omega)
  by_cases h1 : 1 < ((piece digitB s i).length : Int)
  · rw [if_pos h1, if_pos h1]
    have h0 : 0 < (piece digitB s i).length := by omega
    have e0 : idx (piece digitB s i) 0 = some (piece digitB s i)[0] := by
      show idx _ ((0 : Nat) : Int) = _
      rw [idx_nat, List.getElem?_eq_getElem h0]
    rw [e0, Option.bind_some, Option.bind_some]
    split
    · exact ⟨_, rfl, ⟨scan digitB s i, rfl, Nat.le_refl _, hj⟩, rfl⟩
    · rw [hb, Option.bind_some, Option.bind_some]
      obtain ⟨r, hr1, hr2, hr3⟩ := num_l0 (piece digitB s i) ⟨s, (scan digitB s i : Nat)⟩ ⟨s ++ u, (scan digitB s i : Nat)⟩ ((piece digitB s i).map fun b => (b.toNat : Int)) (by simp; omega)
      refine ⟨r, hr1, ⟨scan digitB s i, hr2, Nat.le_refl _, hj⟩, ?_⟩
      rw [hr3, shift, hr2]
  · rw [if_neg h1, if_neg h1, hb, Option.bind_some, Option.bind_some]
    obtain ⟨r, hr1, hr2, hr3⟩ := num_l1 (piece digitB s i) ⟨s, (scan digitB s i : Nat)⟩ ⟨s ++ u, (scan digitB s i : Nat)⟩ ((piece digitB s i).map fun b => (b.toNat : Int)) (by simp; omega)
    refine ⟨r, hr1, ⟨scan digitB s i, hr2, Nat.le_refl _, hj⟩, ?_⟩
    rw [hr3, shift, hr2]

theorem scan_unquote {i : Nat} (hi : i ≤ s.length) (h : scan unquoteB s i ≠ s.length) : scan unquoteB (s ++ u) i = scan unquoteB s i := by
  have hlt : scan unquoteB s i < s.length := by have := scan_le unquoteB s hi; omega
  have key : ∀ l : List UInt8, (l.takeWhile unquoteB).length < l.length → ((l ++ u).takeWhile unquoteB) = l.takeWhile unquoteB := by
    intro l
    induction l with
    | nil => intro h; simp at h
    | cons a l ih =>
      intro h
      rw [List.cons_append, List.takeWhile_cons, List.takeWhile_cons]
      rw [List.takeWhile_cons] at h
      split
      · rename_i ha
        rw [if_pos ha] at h
        rw [ih (by simpa using h)]
      · rfl
  unfold scan at hlt ⊢
  rw [List.drop_append_of_le_length hi, key]
  simp; omega

theorem quote2 {i : Nat} (hi : i < s.length) : ∃ r, tok_reader_quote ⟨s, (i : Int)⟩ = some r ∧ Tk s i r ∧ (r.2.1 = 0 → tok_reader_quote ⟨s ++ u, (i : Int)⟩ = some (shift u r)) := by
  have hj := scan_le unquoteB s (show i + 1 ≤ s.length by omega)
  have hg := scan_ge unquoteB s (i + 1)
  have hpl := piece_le (p := unquoteB) (show i + 1 ≤ s.length by omega)
  have hw : IntKind.i64.wrap ((i : Int) + 1) = ((i + 1 : Nat) : Int) := w64 (by omega) (by omega)
  unfold tok_reader_quote
  simp only [hw]
  rw [while60 (by omega) (by omega), while60 (s := s ++ u) (by simp; omega) (by simp; omega), Option.bind_some, Option.bind_some]
  simp only
  by_cases he : ((scan unquoteB s (i + 1) : Nat) : Int) == (s.length : Int)
  · rw [if_pos he]
    exact ⟨_, rfl, ⟨scan unquoteB s (i + 1), rfl, by omega, hj, fun h => by simp at h⟩, fun h => by simp at h⟩
  · rw [if_neg he]
    have hne : scan unquoteB s (i + 1) ≠ s.length := by
      intro h; apply he; rw [h]; simp
    have hsc := scan_unquote hu hc hs hul (show i + 1 ≤ s.length by omega) hne
    have hw2 : IntKind.i64.wrap (((scan unquoteB s (i + 1) : Nat) : Int) + 1) = ((scan unquoteB s (i + 1) + 1 : Nat) : Int) := w64 (by omega) (by omega)
    have he2 : ¬ (((scan unquoteB (s ++ u) (i + 1) : Nat) : Int) == ((s ++ u).length : Int)) = true := by
      rw [hsc]; simp; omega
    rw [if_neg he2, hsc, piece_app (by omega) hsc, hw2]
    by_cases h48 : 48 < ((piece unquoteB s (i + 1)).length : Int)
    · rw [if_pos h48]
      exact ⟨_, rfl, ⟨scan unquoteB s (i + 1) + 1, rfl, by omega, by omega, fun h => by simp at h⟩, fun h => by simp at h⟩
    · rw [if_neg h48, if_neg h48]
      obtain ⟨b, hb⟩ := plain_ok (piece unquoteB s (i + 1)) (by omega)
      rw [hb, Option.bind_some, Option.bind_some]
      cases b
      · exact ⟨_, rfl, ⟨scan unquoteB s (i + 1) + 1, rfl, by omega, by omega, fun h => by simp at h⟩, fun h => by simp at h⟩
      · exact ⟨_, rfl, ⟨scan unquoteB s (i + 1) + 1, rfl, by omega, by omega, fun _ => by omega⟩, fun _ => rfl⟩

theorem sign2 {i : Nat} (hi : i ≤ s.length) : ∃ r, tok_reader_sign ⟨s, (i : Int)⟩ = some r ∧ Tk s i r ∧ tok_reader_sign ⟨s ++ u, (i : Int)⟩ = some (shift u r) := by
  unfold tok_reader_sign tok_reader_sign_l0
  refine run2 (fun a => ∃ k : Nat, a = (k : Int) ∧ k ≤ 15) (Tk s i) (fun a => 15 - a.toNat) (fun a => a) (shift u) ?_ ⟨0, rfl, by omega⟩
  rintro a ⟨k, rfl, hk⟩
  unfold tok_reader_sign_l0_step
  simp only
  by_cases hlt : k < 15
  · have h1 : (k : Int) < 15 := by omega
    have hl : k < tab0.length := by show k < 15; exact hlt
    have e1 : idx tab0 (k : Int) = some tab0[k] := by rw [idx_nat, List.getElem?_eq_getElem hl]
    obtain ⟨hx, hpos⟩ := tab0_ok _ (List.getElem_mem hl)
    rw [if_pos h1, if_pos h1, e1, Option.bind_some, Option.bind_some, subF_ok hi, subF_ok (l := s ++ u) (by simp; omega), Option.bind_some, Option.bind_some, hasPrefix_eq, hasPrefix_eq, List.drop_append_of_le_length hi, hpB_app hu hc hx, Option.bind_some, Option.bind_some]
    by_cases hp : hpB (s.drop i) tab0[k] = true
    · rw [if_pos hp, if_pos hp]
      have hle : tab0[k].length ≤ (s.drop i).length := by
        unfold hpB at hp
        simp only [Bool.and_eq_true, decide_eq_true_eq] at hp
        exact hp.1
      simp at hle
      have hw : IntKind.i64.wrap ((i : Int) + (tab0[k].length : Int)) = ((i + tab0[k].length : Nat) : Int) := w64 (by omega) (by omega)
      rw [hw]
      exact ⟨_, rfl, ⟨i + tab0[k].length, rfl, by omega, by omega, fun _ => by omega⟩, rfl⟩
    · rw [if_neg hp, if_neg hp]
      refine ⟨_, rfl, ⟨⟨k + 1, ?_, by omega⟩, ?_⟩, rfl⟩
      · rw [w64 (by omega) (by omega)]; rfl
      · rw [w64 (by omega) (by omega)]; omega
  · have h1 : ¬ (k : Int) < 15 := by omega
    rw [if_neg h1, if_neg h1]
    exact ⟨_, rfl, ⟨i, rfl, Nat.le_refl _, hi, fun h => by simp at h⟩, rfl⟩

theorem token2 {i : Nat} (hi : i < s.length) : ∃ r, tok_reader_token ⟨s, (i : Int)⟩ = some r ∧ Tk s i r ∧ (r.2.1 = 0 → tok_reader_token ⟨s ++ u, (i : Int)⟩ = some (shift u r)) := by
  have e1 : idx s (i : Int) = some s[i] := by rw [idx_nat, List.getElem?_eq_getElem hi]
  have e2 : idx (s ++ u) (i : Int) = some s[i] := by rw [idx_nat, get_app hu hc hs hul hi, List.getElem?_eq_getElem hi]
  have hget : s[i]? = some s[i] := List.getElem?_eq_getElem hi
  unfold tok_reader_token
  simp only
  rw [e1, e2, Option.bind_some, Option.bind_some, small_eq, Option.bind_some, Option.bind_some]
  by_cases h1 : smallB s[i] = true
  · rw [if_pos h1, if_pos h1]
    obtain ⟨r, hr1, ⟨j, hj1, hj2, hj3⟩, hr3⟩ := path2 hu hc hs hul (show i ≤ s.length by omega)
    rw [hr1, hr3, Option.bind_some, Option.bind_some]
    have hst : scan wordB s i = scan wordB s (i + 1) := by rw [scan_step hget, if_pos (by simp [wordB, h1])]
    have hge := scan_ge wordB s (i + 1)
    exact ⟨_, rfl, ⟨j, hj1, by omega, hj3, fun _ => by omega⟩, fun _ => rfl⟩
  · rw [if_neg h1, if_neg h1, digit_eq, Option.bind_some, Option.bind_some]
    by_cases h2 : digitB s[i] = true
    · rw [if_pos h2, if_pos h2]
      obtain ⟨r, hr1, ⟨j, hj1, hj2, hj3⟩, hr3⟩ := number2 hu hc hs hul (show i ≤ s.length by omega)
      rw [hr1, hr3, Option.bind_some, Option.bind_some]
      have hst : scan digitB s i = scan digitB s (i + 1) := by rw [scan_step hget, if_pos h2]
      have hge := scan_ge digitB s (i + 1)
      exact ⟨_, rfl, ⟨j, hj1, by omega, hj3, fun _ => by omega⟩, fun _ => rfl⟩
    · rw [if_neg h2, if_neg h2]
      by_cases h3 : ((s[i].toNat : Int) == 39) = true
      · rw [if_pos h3, if_pos h3]
        obtain ⟨r, hr1, hr2, hr3⟩ := quote2 hu hc hs hul hi
        rw [hr1, Option.bind_some]
        exact ⟨_, rfl, hr2, fun h => by rw [hr3 h, Option.bind_some]⟩
      · rw [if_neg h3, if_neg h3]
        obtain ⟨r, hr1, hr2, hr3⟩ := sign2 hu hc hs hul (show i ≤ s.length by omega)
        rw [hr1, hr3, Option.bind_some, Option.bind_some]
        exact ⟨_, rfl, hr2, fun _ => rfl⟩
end
end Go.Proofs.YtilmjbljkkbakaaDoor
/-! The lexer over plain data: lines. -/
namespace Go.Proofs.YtilmjbljkkbakaaDoor
open Go.Wv
set_option linter.unusedSimpArgs false
set_option linter.unusedVariables false
set_option linter.unusedSectionVars false

abbrev LexS : Type := List TokToken × List UInt8 × Int
abbrev LexR : Type := List TokToken × Int × Int

/-- one token of a line, where there is one -/
theorem lex_step {s : List UInt8} (hs : s.length ≤ 1000000) {i : Nat} (hi : i ≤ s.length) {out : List TokToken} (ho : out.length ≤ 120) :
    (scan blankB s i = s.length ∧ tok_Lex_l0_step (out, s, (i : Int)) = some (.inr (out, 0, 0))) ∨
    (scan blankB s i < s.length ∧ ((∃ e p, e ≠ 0 ∧ tok_Lex_l0_step (out, s, (i : Int)) = some (.inr ([], e, p))) ∨
      (out.length < 120 ∧ ∃ r, tok_reader_token ⟨s, (scan blankB s i : Nat)⟩ = some r ∧ Tk s (scan blankB s i) r ∧ r.2.1 = 0 ∧
        tok_Lex_l0_step (out, s, (i : Int)) = some (.inl (out ++ [⟨r.1.Kind, r.1.Text, r.1.N, (scan blankB s i : Nat)⟩], r.2.2.s, r.2.2.at_))))) := by
  have hle := scan_le blankB s hi
  unfold tok_Lex_l0_step
  simp only
  rw [while18 hi (by omega), Option.bind_some]
  simp only
  by_cases hend : scan blankB s i = s.length
  · left
    refine ⟨hend, ?_⟩
    rw [if_pos (by simp [hend])]
  · right
    refine ⟨by omega, ?_⟩
    rw [if_neg (by simp; omega)]
    by_cases h120 : out.length = 120
    · left
      refine ⟨13, ((scan blankB s i : Nat) : Int), by omega, ?_⟩
      rw [if_pos (by simp [h120])]
    · rw [if_neg (by simp; omega)]
      obtain ⟨r, hr, htk, _⟩ := token2 (u := [32]) (c0 := 32) rfl rfl hs (by simp) (show scan blankB s i < s.length by omega)
      rw [hr, Option.bind_some]
      by_cases he : (r.2.1 != 0) = true
      · left
        refine ⟨r.2.1, ((scan blankB s i : Nat) : Int), by simpa using he, ?_⟩
        rw [if_pos he]
      · right
        refine ⟨by omega, r, rfl, htk, by simpa using he, ?_⟩
        rw [if_neg he, app_ok (by simp [lim]; omega) (by simp [lim]; omega), Option.bind_some]

/-- Every line has its answer. -/
theorem lex_total {s : List UInt8} (hs : s.length ≤ 1000000) {i : Nat} (hi : i ≤ s.length) {out : List TokToken} (ho : out.length ≤ 120) :
    Ret (tok_Lex_l0 (out, s, (i : Int))) fun r : LexR => r.1.length ≤ 120 ∧ (r.2.1 = 0 → out <+: r.1) := by
  unfold tok_Lex_l0
  refine Ret.run (fun st : LexS => ∃ k : Nat, st.2 = (s, (k : Int)) ∧ k ≤ s.length ∧ st.1.length ≤ 120 ∧ out <+: st.1) _ (fun st : LexS => s.length - st.2.2.toNat) ?_ ⟨i, rfl, hi, ho, List.prefix_refl _⟩
  rintro ⟨o, s', a⟩ ⟨k, he, hk, hlen, hpre⟩
  simp only [Prod.mk.injEq] at he
  obtain ⟨rfl, rfl⟩ := he
  have hlen : o.length ≤ 120 := hlen
  have hpre : out <+: o := hpre
  rcases lex_step hs hk hlen with ⟨h1, h2⟩ | ⟨h1, ⟨e, p, h2, h3⟩ | ⟨h2, r, h3, ⟨j, hj1, hj2, hj3, hj4⟩, h5, h6⟩⟩
  · exact ⟨_, h2, hlen, fun _ => hpre⟩
  · exact ⟨_, h3, by simp, fun h => absurd h h2⟩
  · refine ⟨_, h6, ?_⟩
    have hge := scan_ge blankB s' k
    have := hj4 h5
    rw [hj1]
    refine ⟨⟨j, rfl, hj3, by simp; omega, hpre.trans (List.prefix_append _ _)⟩, ?_⟩
    show s'.length - (j : Int).toNat < s'.length - (k : Int).toNat
    omega

/-- With something behind a line that is read, its tokens are read first. -/
theorem lex_ahead {s u : List UInt8} {c0 : UInt8} (hu : u.head? = some c0) (hc : c0.toNat = 32) (hs : s.length ≤ 1000000) (hul : u.length ≤ 1000000) :
    ∀ (n : Nat) (i : Nat) (out l : List TokToken) (z : Int), i ≤ s.length → out.length ≤ 120 → iter tok_Lex_l0_step n (out, s, (i : Int)) = some (l, 0, z) →
      ∃ j : Nat, j ≤ s.length ∧ scan blankB s j = s.length ∧ l.length ≤ 120 ∧ tok_Lex_l0 (out, s ++ u, (i : Int)) = tok_Lex_l0 (l, s ++ u, (j : Int))
  | 0, _, _, _, _, _, _, h => by simp [iter] at h
  | n + 1, i, out, l, z, hi, ho, h => by
    simp only [iter] at h
    have hle := scan_le blankB s hi
    rcases lex_step hs hi ho with ⟨h1, h2⟩ | ⟨h1, ⟨e, p, h2, h3⟩ | ⟨h2, r, h3, ⟨j, hj1, hj2, hj3, hj4⟩, h5, h6⟩⟩
    · rw [h2] at h
      simp only [Option.some.injEq, Prod.mk.injEq] at h
      obtain ⟨rfl, _, _⟩ := h
      exact ⟨i, hi, h1, ho, rfl⟩
    · rw [h3] at h
      simp only [Option.some.injEq, Prod.mk.injEq] at h
      exact absurd h.2.1 h2
    · rw [h6, hj1] at h
      simp only at h
      obtain ⟨j', q1, q2, q3, q4⟩ := lex_ahead hu hc hs hul n j _ l z hj3 (by simp; omega) h
      refine ⟨j', q1, q2, q3, ?_⟩
      rw [← q4]
      have hsc : scan blankB (s ++ u) i = scan blankB s i := by
        have key : ∀ m : List UInt8, (m.takeWhile blankB).length < m.length → ((m ++ u).takeWhile blankB) = m.takeWhile blankB := by
          intro m
          induction m with
          | nil => intro h; simp at h
          | cons a m ih =>
            intro h
            rw [List.cons_append, List.takeWhile_cons, List.takeWhile_cons]
            rw [List.takeWhile_cons] at h
            split
            · rename_i ha
              rw [if_pos ha] at h
              rw [ih (by simpa using h)]
            · rfl
        unfold scan at h1 ⊢
        rw [List.drop_append_of_le_length hi, key]
        simp; omega
      obtain ⟨r', hr', _, hr2⟩ := token2 hu hc hs hul h1
      rw [h3] at hr'
      obtain rfl := Option.some.inj hr'
      have hstep : tok_Lex_l0_step (out, s ++ u, (i : Int)) = some (.inl (out ++ [⟨r.1.Kind, r.1.Text, r.1.N, (scan blankB s i : Nat)⟩], s ++ u, (j : Int))) := by
        unfold tok_Lex_l0_step
        simp only
        rw [while18 (s := s ++ u) (by simp; omega) (by simp; omega), Option.bind_some]
        simp only
        have g1 : ¬ (((scan blankB s i : Nat) : Int) == ((s ++ u).length : Int)) = true := by simp; omega
        have g2 : ¬ ((out.length : Int) == 120) = true := by simp; omega
        have g3 : ¬ ((shift u r).2.1 != 0) = true := by show ¬ (r.2.1 != 0) = true; simp [h5]
        rw [hsc, if_neg g1, if_neg g2, hr2 h5, Option.bind_some, if_neg g3, app_ok (by simp [lim]; omega) (by simp [lim]; omega), Option.bind_some]
        show some (Sum.inl (out ++ [⟨r.1.Kind, r.1.Text, r.1.N, (scan blankB s i : Nat)⟩], r.2.2.s ++ u, r.2.2.at_)) = _
        rw [hj1]
      conv => lhs; unfold tok_Lex_l0
      rw [run_eq, hstep]
      rfl

def semiB : List UInt8 := [32, 59, 32]
theorem lex_semi {s more : List UInt8} (hs : s.length ≤ 400000) (hm : more.length ≤ 400000) {l m : List TokToken} {z z' : Int}
    (h1 : tok_Lex s = some (l, 0, z)) (h2 : tok_Lex (s ++ (semiB ++ more)) = some (m, 0, z')) : l.length ≤ 120 ∧ m.length ≤ 120 ∧ ∃ (t : TokToken) (rest : List TokToken), t.Kind = 5 ∧ t.Text = [59] ∧ m = l ++ t :: rest := by
  unfold tok_Lex at h1 h2
  obtain ⟨n, hn⟩ := run_some.1 (show run tok_Lex_l0_step ([], s, 0) = some (l, 0, z) from h1)
  have hu : (semiB ++ more).head? = some 32 := rfl
  have hul : (semiB ++ more).length ≤ 1000000 := by simp [semiB]; omega
  obtain ⟨j, q1, q2, q3, q4⟩ := lex_ahead hu rfl (by omega) hul n 0 [] l z (Nat.zero_le _) (by simp) hn
  have h2' : tok_Lex_l0 (l, s ++ (semiB ++ more), (j : Int)) = some (m, 0, z') := by rw [← q4]; exact h2
  have hlen : (s ++ (semiB ++ more)).length = s.length + 3 + more.length := by simp [semiB]; omega
  have ht := lex_total (s := s ++ (semiB ++ more)) (i := j) (out := l) (by omega) (by omega) q3
  have hm120 := (ht.get h2').1
  refine ⟨q3, hm120, ?_⟩
  have hsc : scan blankB (s ++ (semiB ++ more)) j = s.length + 1 := by
    have key : ∀ m : List UInt8, (m.takeWhile blankB).length = m.length → ((m ++ (semiB ++ more)).takeWhile blankB).length = m.length + 1 := by
      intro m
      induction m with
      | nil => intro _; simp [semiB, List.takeWhile_cons, blankB]
      | cons a m ih =>
        intro h
        rw [List.takeWhile_cons] at h
        rw [List.cons_append, List.takeWhile_cons]
        split
        · rename_i ha
          rw [if_pos ha] at h
          simp [ih (by simpa using h)]
        · rename_i ha
          rw [if_neg ha] at h
          simp at h
    unfold scan at q2 ⊢
    rw [List.drop_append_of_le_length q1, key]
    · simp; omega
    · simp; omega
  rcases lex_step (s := s ++ (semiB ++ more)) (by omega) (i := j) (by omega) q3 with ⟨g1, _⟩ | ⟨_, ⟨e, p, g2, g3⟩ | ⟨g2, r, g3, ⟨j', hj1, hj2, hj3, hj4⟩, g5, g6⟩⟩
  · rw [hsc, hlen] at g1; omega
  · have : tok_Lex_l0 (l, s ++ (semiB ++ more), (j : Int)) = some ([], e, p) := by
      unfold tok_Lex_l0; rw [run_eq, g3]
    rw [this] at h2'
    simp only [Option.some.injEq, Prod.mk.injEq] at h2'
    exact absurd h2'.2.1 g2
  · rw [hsc] at g3 g6
    -- the token is the semicolon
    have hget : (s ++ (semiB ++ more))[s.length + 1]? = some 59 := by
      rw [List.getElem?_append_right (by omega)]
      have : s.length + 1 - s.length = 1 := by omega
      rw [this]; rfl
    have hdrop : (s ++ (semiB ++ more)).drop (s.length + 1) = 59 :: 32 :: more := by
      rw [List.drop_append, List.drop_eq_nil_of_le (by omega)]
      have : s.length + 1 - s.length = 1 := by omega
      rw [this]; rfl
    have htok : r.1.Kind = 5 ∧ r.1.Text = [59] := by
      unfold tok_reader_token at g3
      simp only at g3
      rw [idx_nat, hget, Option.bind_some, small_eq, Option.bind_some, if_neg (by decide), digit_eq, Option.bind_some, if_neg (by decide), if_neg (by decide)] at g3
      obtain ⟨r', hr', g3⟩ := bind_some g3
      obtain rfl := Option.some.inj g3
      unfold tok_reader_sign tok_reader_sign_l0 at hr'
      have step : ∀ k : Nat, k < 15 → tok_reader_sign_l0_step ⟨s ++ (semiB ++ more), ((s.length + 1 : Nat) : Int)⟩ (k : Int) = (idx tab0 (k : Int)).bind fun x2 => if hpB (59 :: 32 :: more) x2 then some (.inr (⟨5, x2, 0, 0⟩, 0, ⟨s ++ (semiB ++ more), IntKind.i64.wrap (((s.length + 1 : Nat) : Int) + (x2.length : Int))⟩)) else some (.inl (IntKind.i64.wrap ((k : Int) + 1))) := by
        intro k hk
        unfold tok_reader_sign_l0_step
        rw [if_pos (by omega)]
        simp only
        rw [subF_ok (by omega), hdrop]
        congr 1
        funext x2
        rw [Option.bind_some, hasPrefix_eq, Option.bind_some]
      have t0 := step 0 (by omega)
      have t1 := step 1 (by omega)
      have t2 := step 2 (by omega)
      have t3 := step 3 (by omega)
      have t4 := step 4 (by omega)
      have t5 := step 5 (by omega)
      simp only [show idx tab0 ((0 : Nat) : Int) = some [60, 61] from rfl, show idx tab0 ((1 : Nat) : Int) = some [62, 61] from rfl, show idx tab0 ((2 : Nat) : Int) = some [33, 61] from rfl, show idx tab0 ((3 : Nat) : Int) = some [40] from rfl, show idx tab0 ((4 : Nat) : Int) = some [41] from rfl, show idx tab0 ((5 : Nat) : Int) = some [59] from rfl, Option.bind_some] at t0 t1 t2 t3 t4 t5
      rw [if_neg (by simp [hpB]), w64 (by omega) (by omega)] at t0 t1 t2 t3 t4
      rw [if_pos (by simp [hpB])] at t5
      have r0 := run_eq (tok_reader_sign_l0_step ⟨s ++ (semiB ++ more), ((s.length + 1 : Nat) : Int)⟩) 0
      have r1 := run_eq (tok_reader_sign_l0_step ⟨s ++ (semiB ++ more), ((s.length + 1 : Nat) : Int)⟩) 1
      have r2 := run_eq (tok_reader_sign_l0_step ⟨s ++ (semiB ++ more), ((s.length + 1 : Nat) : Int)⟩) 2
      have r3 := run_eq (tok_reader_sign_l0_step ⟨s ++ (semiB ++ more), ((s.length + 1 : Nat) : Int)⟩) 3
      have r4 := run_eq (tok_reader_sign_l0_step ⟨s ++ (semiB ++ more), ((s.length + 1 : Nat) : Int)⟩) 4
      have r5 := run_eq (tok_reader_sign_l0_step ⟨s ++ (semiB ++ more), ((s.length + 1 : Nat) : Int)⟩) 5
      rw [show tok_reader_sign_l0_step ⟨s ++ (semiB ++ more), ((s.length + 1 : Nat) : Int)⟩ 0 = _ from t0] at r0
      rw [show tok_reader_sign_l0_step ⟨s ++ (semiB ++ more), ((s.length + 1 : Nat) : Int)⟩ 1 = _ from t1] at r1
      rw [show tok_reader_sign_l0_step ⟨s ++ (semiB ++ more), ((s.length + 1 : Nat) : Int)⟩ 2 = _ from t2] at r2
      rw [show tok_reader_sign_l0_step ⟨s ++ (semiB ++ more), ((s.length + 1 : Nat) : Int)⟩ 3 = _ from t3] at r3
      rw [show tok_reader_sign_l0_step ⟨s ++ (semiB ++ more), ((s.length + 1 : Nat) : Int)⟩ 4 = _ from t4] at r4
      rw [show tok_reader_sign_l0_step ⟨s ++ (semiB ++ more), ((s.length + 1 : Nat) : Int)⟩ 5 = _ from t5] at r5
      have e := r0.trans (r1.trans (r2.trans (r3.trans (r4.trans r5))))
      rw [e] at hr'
      obtain rfl := Option.some.inj hr'
      exact ⟨rfl, rfl⟩
    have hrun : tok_Lex_l0 (l, s ++ (semiB ++ more), (j : Int)) = tok_Lex_l0 (l ++ [⟨r.1.Kind, r.1.Text, r.1.N, ((s.length + 1 : Nat) : Int)⟩], s ++ (semiB ++ more), (j' : Int)) := by
      conv => lhs; unfold tok_Lex_l0
      rw [run_eq, g6, hj1]
      rfl
    rw [hrun] at h2'
    have ht2 := lex_total (s := s ++ (semiB ++ more)) (i := j') (out := l ++ [⟨r.1.Kind, r.1.Text, r.1.N, ((s.length + 1 : Nat) : Int)⟩]) (by omega) hj3 (by simp; omega)
    obtain ⟨rest, hrest⟩ := (ht2.get h2').2 rfl
    have hrest : l ++ [⟨r.1.Kind, r.1.Text, r.1.N, ((s.length + 1 : Nat) : Int)⟩] ++ rest = m := hrest
    exact ⟨⟨r.1.Kind, r.1.Text, r.1.N, ((s.length + 1 : Nat) : Int)⟩, rest, htok.1, htok.2, by rw [← hrest]; simp⟩
end Go.Proofs.YtilmjbljkkbakaaDoor
/-! The parser of expressions over plain data: a semicolon behind the tokens makes no difference. -/
namespace Go.Proofs.YtilmjbljkkbakaaDoor
open Go.Wv
set_option linter.unusedSimpArgs false
set_option linter.unusedVariables false
set_option linter.unusedSectionVars false

def zeroTok : TokToken := ⟨0, [], 0, 0⟩
def nx (l : List TokToken) (a : Nat) : TokToken := (l[a]?).getD zeroTok
def isB (t : TokToken) (ws : List (List UInt8)) : Bool := (t.Kind == 1 || t.Kind == 5) && ws.any fun w => t.Text == w

theorem next_eq (l : List TokToken) (a : Nat) (e : List ExprNode) : expr_parser_next ⟨l, (a : Int), e⟩ = some (nx l a) := by
  unfold expr_parser_next nx
  simp only
  by_cases h : a < l.length
  · rw [if_pos (by omega), idx_nat, List.getElem?_eq_getElem h]; rfl
  · rw [if_neg (by omega), List.getElem?_eq_none (by omega)]; rfl

theorem is_loop (t : TokToken) (ws : List (List UInt8)) (hw : ws.length ≤ 1000) : run (tok_Token_Is_l0_step t ws) 0 = some (ws.any fun w => t.Text == w) := by
  have key : Ret (run (tok_Token_Is_l0_step t ws) 0) fun r => r = ws.any fun w => t.Text == w := by
    refine Ret.run (fun j => ∃ k : Nat, j = (k : Int) ∧ k ≤ ws.length ∧ (ws.take k).any (fun w => t.Text == w) = false) _ (fun j => ws.length - j.toNat) ?_ ⟨0, rfl, Nat.zero_le _, rfl⟩
    rintro j ⟨k, rfl, hk, hno⟩
    unfold tok_Token_Is_l0_step
    refine Ret.ite (fun h => ?_) (fun h => ?_)
    · have hlt : k < ws.length := by omega
      rw [idx_nat, List.getElem?_eq_getElem hlt, Option.bind_some]
      refine Ret.ite (fun he => ?_) (fun he => ?_)
      · exact Ret.some (List.any_eq_true.2 ⟨ws[k], List.getElem_mem hlt, he⟩).symm
      · refine Ret.some ⟨⟨k + 1, ?_, by omega, ?_⟩, ?_⟩
        · rw [w64 (by omega) (by omega)]; rfl
        · rw [List.take_add_one, List.getElem?_eq_getElem hlt, List.any_append, hno]
          simpa using he
        · rw [w64 (by omega) (by omega)]; omega
    · have : ws.take k = ws := List.take_of_length_le (by omega)
      rw [this] at hno
      exact Ret.some hno.symm
  obtain ⟨r, h, rfl⟩ := key
  exact h
theorem is_eq (t : TokToken) (ws : List (List UInt8)) (hw : ws.length ≤ 1000) : tok_Token_Is t ws = some (isB t ws) := by
  have h1 : tok_Token_Is_l0 t ws 0 = _ := is_loop t ws hw
  have h2 : tok_Token_Is_l1 t ws 0 = _ := is_loop t ws hw
  unfold tok_Token_Is isB
  by_cases h : (t.Kind != 1) = true
  · rw [if_pos h]
    by_cases h5 : (t.Kind != 5) = true
    · rw [if_pos h5]
      simp at h h5
      simp [h, h5]
    · rw [if_neg h5, h1]
      simp at h h5
      simp [h5]
  · rw [if_neg h, h2]
    simp at h
    simp [h]

/-- The tokens m are the tokens l, a semicolon, and others. -/
structure Semi (l m : List TokToken) : Prop where
  split : ∃ (t : TokToken) (rest : List TokToken), t.Kind = 5 ∧ t.Text = [59] ∧ m = l ++ t :: rest
  short : l.length ≤ 120

section
variable {l m : List TokToken} (hS : Semi l m)
include hS
theorem nx_lt {a : Nat} (h : a < l.length) : nx m a = nx l a := by
  obtain ⟨t, rest, _, _, rfl⟩ := hS.split
  unfold nx
  rw [List.getElem?_append_left h]
theorem nx_at : (nx m l.length).Kind = 5 ∧ (nx m l.length).Text = [59] := by
  obtain ⟨t, rest, h1, h2, rfl⟩ := hS.split
  unfold nx
  rw [List.getElem?_append_right (Nat.le_refl _), Nat.sub_self]
  exact ⟨h1, h2⟩
omit hS in
theorem nx_end {a : Nat} (h : l.length ≤ a) : nx l a = zeroTok := by
  unfold nx; rw [List.getElem?_eq_none h]; rfl
/-- a word that is no semicolon stands next in both or in none -/
theorem is_same {a : Nat} (ha : a ≤ l.length) {ws : List (List UInt8)} (hw : ∀ w ∈ ws, w ≠ [59]) : isB (nx m a) ws = isB (nx l a) ws ∧ (isB (nx l a) ws = true → a < l.length) := by
  by_cases h : a < l.length
  · rw [nx_lt hS h]; exact ⟨rfl, fun _ => h⟩
  · obtain rfl : a = l.length := by omega
    obtain ⟨h1, h2⟩ := nx_at hS
    rw [nx_end (Nat.le_refl _)]
    have hz : isB zeroTok ws = false := rfl
    rw [hz]
    refine ⟨?_, fun h => by cases h⟩
    unfold isB
    have : (ws.any fun w => (nx m l.length).Text == w) = false := by
      rw [h2, List.any_eq_false]
      intro w hwm
      have := hw w hwm
      simp; exact fun e => this e.symm
    rw [this, Bool.and_false]

theorem take2 {a : Nat} (ha : a ≤ l.length) (e : List ExprNode) {w : List UInt8} (hw : w ≠ [59]) :
    (expr_parser_take ⟨l, (a : Int), e⟩ w = some (true, ⟨l, ((a + 1 : Nat) : Int), e⟩) ∧ expr_parser_take ⟨m, (a : Int), e⟩ w = some (true, ⟨m, ((a + 1 : Nat) : Int), e⟩) ∧ a < l.length) ∨
    (expr_parser_take ⟨l, (a : Int), e⟩ w = some (false, ⟨l, (a : Int), e⟩) ∧ expr_parser_take ⟨m, (a : Int), e⟩ w = some (false, ⟨m, (a : Int), e⟩)) := by
  have hsh := hS.short
  obtain ⟨h1, h2⟩ := is_same hS ha (ws := [w]) (by simpa using hw)
  unfold expr_parser_take
  rw [next_eq, next_eq, Option.bind_some, Option.bind_some, is_eq _ _ (by simp), is_eq _ _ (by simp), Option.bind_some, Option.bind_some, h1]
  simp only
  have hw1 : IntKind.i64.wrap ((a : Int) + 1) = ((a + 1 : Nat) : Int) := w64 (by omega) (by omega)
  by_cases hb : isB (nx l a) [w] = true
  · left
    rw [if_pos hb, if_pos hb, hw1]
    exact ⟨rfl, rfl, h2 hb⟩
  · right
    rw [if_neg hb, if_neg hb]
    exact ⟨rfl, rfl⟩
end

/-- which nodes stand ahead -/
def WF (e : List ExprNode) : Prop := ∀ (i : Nat) (n : ExprNode), e[i]? = some n → (1 ≤ n.Op ∧ n.Op ≤ 15 → 0 ≤ n.L ∧ n.L < i) ∧ (3 ≤ n.Op ∧ n.Op ≤ 15 → 0 ≤ n.R ∧ n.R < i)
theorem WF.nil : WF [] := fun i n h => by simp at h
theorem WF.snoc {e : List ExprNode} (h : WF e) {n : ExprNode} (h1 : 1 ≤ n.Op ∧ n.Op ≤ 15 → 0 ≤ n.L ∧ n.L < e.length) (h2 : 3 ≤ n.Op ∧ n.Op ≤ 15 → 0 ≤ n.R ∧ n.R < e.length) : WF (e ++ [n]) := by
  intro i x hx
  rcases Nat.lt_trichotomy i e.length with hi | hi | hi
  · rw [List.getElem?_append_left hi] at hx; exact h i x hx
  · subst hi
    rw [List.getElem?_append_right (Nat.le_refl _), Nat.sub_self] at hx
    obtain rfl : n = x := by simpa using hx
    exact ⟨h1, h2⟩
  · rw [List.getElem?_eq_none (by simp; omega)] at hx; cases hx

theorem add_eq {l : List TokToken} {a : Int} {e : List ExprNode} (he : e.length ≤ 1000) (n : ExprNode) : expr_parser_add ⟨l, a, e⟩ n = some (true, ⟨l, a, e ++ [n]⟩) := by
  unfold expr_parser_add
  rw [app_ok (by simp [lim]; omega) (by simp [lim]; omega), Option.bind_some]

/-- What a method of the parser does on both: it goes on from a to a', with nodes e' for e. -/
structure Step (l : List TokToken) (a : Nat) (e : List ExprNode) (b : Bool) (a' : Nat) (e' : List ExprNode) : Prop where
  le : a ≤ a'
  ll : a' ≤ l.length
  wf : WF e'
  mon : e.length ≤ e'.length
  few : e'.length + a ≤ e.length + a'
  pro : b = true → e.length < e'.length ∧ a < a'
def Out (l m : List TokToken) (a : Nat) (e : List ExprNode) (x y : Option (Bool × ExprParser)) : Prop :=
  ∃ (b : Bool) (a' : Nat) (e' : List ExprNode), x = some (b, ⟨l, (a' : Int), e'⟩) ∧ y = some (b, ⟨m, (a' : Int), e'⟩) ∧ Step l a e b a' e'

theorem ite_some {α : Type} {c : Prop} [Decidable c] {x y : Option α} (hx : ∃ b, x = some b) (hy : ∃ b, y = some b) : ∃ b, (if c then x else y) = some b := by
  split
  · exact hx
  · exact hy
theorem means_some (w : List UInt8) : ∃ b, tok_Means w = some b := by
  unfold tok_Means
  repeat' (first | exact ⟨_, rfl⟩ | apply ite_some)

section
variable {l m : List TokToken} (hS : Semi l m)
include hS
theorem name2 {a : Nat} (ha : a ≤ l.length) {e : List ExprNode} (he : e.length ≤ a) (hwf : WF e) {op : Int} (hop : 15 < op) :
    Out l m a e (expr_parser_name ⟨l, (a : Int), e⟩ op) (expr_parser_name ⟨m, (a : Int), e⟩ op) := by
  have hsh := hS.short
  unfold expr_parser_name
  rw [next_eq, next_eq, Option.bind_some, Option.bind_some]
  have hw1 : IntKind.i64.wrap ((a : Int) + 1) = ((a + 1 : Nat) : Int) := w64 (by omega) (by omega)
  have hfail : Out l m a e (some (false, ⟨l, (a : Int), e⟩)) (some (false, ⟨m, (a : Int), e⟩)) := ⟨false, a, e, rfl, rfl, ⟨Nat.le_refl _, ha, hwf, Nat.le_refl _, Nat.le_refl _, fun h => by cases h⟩⟩
  by_cases h : a < l.length
  · rw [nx_lt hS h]
    by_cases hk : ((nx l a).Kind != 1) = true
    · rw [if_pos hk, if_pos hk]; exact hfail
    · rw [if_neg hk, if_neg hk]
      obtain ⟨b, hb⟩ := means_some (nx l a).Text
      rw [hb, Option.bind_some, Option.bind_some]
      by_cases hbt : b = true
      · rw [if_pos hbt, if_pos hbt]; exact hfail
      · rw [if_neg hbt, if_neg hbt]
        simp only [hw1]
        rw [add_eq (by omega), add_eq (by omega), Option.bind_some, Option.bind_some]
        exact ⟨true, a + 1, _, rfl, rfl, ⟨by omega, by omega, hwf.snoc (fun h => by simp only at h; omega) (fun h => by simp only at h; omega), by simp, by simp; omega, fun _ => ⟨by simp, by omega⟩⟩⟩
  · obtain rfl : a = l.length := by omega
    rw [if_pos (by rw [nx_end (Nat.le_refl _)]; rfl), if_pos (by rw [(nx_at hS).1]; rfl)]
    exact hfail

structure LevOk (v : ExprLevel) : Prop where
  len : v.signs.length = v.ops.length
  few : v.signs.length ≤ 10
  semi : ∀ w ∈ v.signs, w ≠ [59]
  op : ∀ o ∈ v.ops, o ≠ 0

theorem operation2 {a : Nat} (ha : a ≤ l.length) (e : List ExprNode) {v : ExprLevel} (hv : LevOk v) :
    ∃ (o : Int) (a' : Nat), expr_parser_operation ⟨l, (a : Int), e⟩ v = some (o, ⟨l, (a' : Int), e⟩) ∧ expr_parser_operation ⟨m, (a : Int), e⟩ v = some (o, ⟨m, (a' : Int), e⟩) ∧ ((o = 0 ∧ a' = a) ∨ (o ≠ 0 ∧ a' = a + 1 ∧ a < l.length)) := by
  have hl := hv.len
  have hf := hv.few
  unfold expr_parser_operation expr_parser_operation_l0
  obtain ⟨r, hr1, ⟨a', hr2, hr3⟩, hr4⟩ := run2 (f := expr_parser_operation_l0_step v) (g := expr_parser_operation_l0_step v) (fun s : Int × (List TokToken) × Int × (List ExprNode) => ∃ k : Nat, s = ((k : Int), l, (a : Int), e) ∧ k ≤ v.signs.length)
    (fun r : Int × ExprParser => ∃ a' : Nat, r.2 = ⟨l, (a' : Int), e⟩ ∧ ((r.1 = 0 ∧ a' = a) ∨ (r.1 ≠ 0 ∧ a' = a + 1 ∧ a < l.length))) (fun s => v.signs.length - s.1.toNat) (fun s => (s.1, m, s.2.2.1, s.2.2.2)) (fun r => (r.1, ⟨m, r.2.at_, r.2.e⟩)) (by
    rintro _ ⟨k, rfl, hk⟩
    unfold expr_parser_operation_l0_step
    simp only
    by_cases hlt : k < v.signs.length
    · rw [if_pos (by omega), if_pos (by omega), idx_nat, List.getElem?_eq_getElem hlt, Option.bind_some, Option.bind_some]
      have hws := hv.semi _ (List.getElem_mem hlt)
      rcases take2 hS ha e hws with ⟨t1, t2, t3⟩ | ⟨t1, t2⟩
      · rw [t1, t2, Option.bind_some, Option.bind_some]
        have hlt2 : k < v.ops.length := by omega
        simp only [if_true]
        rw [idx_nat, List.getElem?_eq_getElem hlt2, Option.bind_some, Option.bind_some]
        exact ⟨_, rfl, ⟨a + 1, rfl, .inr ⟨hv.op _ (List.getElem_mem hlt2), rfl, t3⟩⟩, rfl⟩
      · rw [t1, t2, Option.bind_some, Option.bind_some]
        simp only [Bool.false_eq_true, if_false]
        have hw1 : IntKind.i64.wrap ((k : Int) + 1) = ((k + 1 : Nat) : Int) := w64 (by omega) (by omega)
        rw [hw1]
        exact ⟨_, rfl, ⟨⟨k + 1, rfl, by omega⟩, by simp; omega⟩, rfl⟩
    · rw [if_neg (by omega), if_neg (by omega)]
      exact ⟨_, rfl, ⟨a, rfl, .inl ⟨rfl, rfl⟩⟩, rfl⟩) (s := (0, l, (a : Int), e)) ⟨0, rfl, Nat.zero_le _⟩
  obtain ⟨o, p⟩ := r
  have hr2 : p = ⟨l, (a' : Int), e⟩ := hr2
  subst hr2
  exact ⟨o, a', hr1, hr4, hr3⟩
end
def lvs : List ExprLevel := [(ExprLevel.mk ([[111, 114]]) [15] false), (ExprLevel.mk ([[97, 110, 100]]) [14] false), (ExprLevel.mk ([[60], [60, 61], [62], [62, 61], [61], [33, 61]]) [8, 9, 10, 11, 12, 13] true), (ExprLevel.mk ([[43], [45]]) [6, 7] false), (ExprLevel.mk ([[42], [47], [37]]) [3, 4, 5] false)]
theorem levels_eq : expr_levels = some lvs := rfl
theorem lvs_ok : ∀ v ∈ lvs, LevOk v := by
  intro v hv
  simp only [lvs, List.mem_cons, List.not_mem_nil, or_false] at hv
  rcases hv with rfl | rfl | rfl | rfl | rfl <;> exact ⟨rfl, by simp, by simp, by simp⟩
end Go.Proofs.YtilmjbljkkbakaaDoor
/-! The parser of expressions over plain data: the recursion. -/
namespace Go.Proofs.YtilmjbljkkbakaaDoor
open Go.Wv
set_option linter.unusedSimpArgs false
set_option linter.unusedVariables false
set_option linter.unusedSectionVars false

theorem Step.from {l : List TokToken} {a a2 a' : Nat} {e e' : List ExprNode} {b : Bool} (h : Step l a2 e b a' e') (ha : a ≤ a2) : Step l a e b a' e' :=
  ⟨by have := h.le; omega, h.ll, h.wf, h.mon, by have := h.few; omega, fun hb => ⟨(h.pro hb).1, by have := (h.pro hb).2; omega⟩⟩
theorem Step.stay {l : List TokToken} {a a' : Nat} {e : List ExprNode} (h1 : a ≤ a') (h2 : a' ≤ l.length) (hwf : WF e) : Step l a e false a' e :=
  ⟨h1, h2, hwf, Nat.le_refl _, by omega, fun h => by cases h⟩
theorem Step.fail {l : List TokToken} {a a' : Nat} {e e' : List ExprNode} {b : Bool} (h : Step l a e b a' e') : Step l a e false a' e' :=
  ⟨h.le, h.ll, h.wf, h.mon, h.few, fun h => by cases h⟩
theorem Step.next {l : List TokToken} {a a' : Nat} {e e' : List ExprNode} (h : Step l a e true a' e') (hl : a' < l.length) : Step l a e true (a' + 1) e' :=
  ⟨by have := h.le; omega, by omega, h.wf, h.mon, by have := h.few; omega, fun _ => ⟨(h.pro rfl).1, by have := (h.pro rfl).2; omega⟩⟩

section
variable {l m : List TokToken} (hS : Semi l m)
include hS
theorem kind_same {a : Nat} (ha : a ≤ l.length) {k : Int} (h0 : k ≠ 0) (h5 : k ≠ 5) : ((nx m a).Kind == k) = ((nx l a).Kind == k) ∧ (((nx l a).Kind == k) = true → a < l.length) := by
  by_cases h : a < l.length
  · rw [nx_lt hS h]; exact ⟨rfl, fun _ => h⟩
  · obtain rfl : a = l.length := by omega
    rw [nx_end (Nat.le_refl _), (nx_at hS).1]
    have e1 : ((5 : Int) == k) = false := by simpa using fun h => h5 h.symm
    have e2 : (zeroTok.Kind == k) = false := by show ((0 : Int) == k) = false; simpa using fun h => h0 h.symm
    rw [e1, e2]
    exact ⟨rfl, fun h => by cases h⟩
/-- one node that stands for itself -/
theorem leaf2 {a : Nat} (ha : a < l.length) {e : List ExprNode} (he : e.length ≤ a) (hwf : WF e) {v : ValValue} :
    Out l m a e ((expr_parser_add ⟨l, ((a + 1 : Nat) : Int), e⟩ (ExprNode.mk 0 v [] 0 0)).bind fun r3 => some (r3.1, r3.2)) ((expr_parser_add ⟨m, ((a + 1 : Nat) : Int), e⟩ (ExprNode.mk 0 v [] 0 0)).bind fun r3 => some (r3.1, r3.2)) := by
  have hsh := hS.short
  rw [add_eq (by omega), add_eq (by omega), Option.bind_some, Option.bind_some]
  exact ⟨true, a + 1, _, rfl, rfl, ⟨by omega, by omega, hwf.snoc (fun h => by simp only at h; omega) (fun h => by simp only at h; omega), by simp, by simp; omega, fun _ => ⟨by simp, by omega⟩⟩⟩
/-- what is closed by a bracket -/
theorem closed2 {a a2 : Nat} (ha : a ≤ a2) {e : List ExprNode} {x y : Option (Bool × ExprParser)} (h : Out l m a2 e x y) :
    Out l m a e (x.bind fun r => if r.1 then (expr_parser_take r.2 [41]).bind fun r2 => some (r2.1, r2.2) else some (false, r.2)) (y.bind fun r => if r.1 then (expr_parser_take r.2 [41]).bind fun r2 => some (r2.1, r2.2) else some (false, r.2)) := by
  obtain ⟨b, a', e', rfl, rfl, st⟩ := h
  rw [Option.bind_some, Option.bind_some]
  cases b
  · exact ⟨false, a', e', rfl, rfl, st.from ha⟩
  · simp only [if_true]
    rcases take2 hS st.ll e' (w := [41]) (by simp) with ⟨t1, t2, t3⟩ | ⟨t1, t2⟩
    · rw [t1, t2, Option.bind_some, Option.bind_some]
      exact ⟨true, a' + 1, e', rfl, rfl, (st.from ha).next t3⟩
    · rw [t1, t2, Option.bind_some, Option.bind_some]
      exact ⟨false, a', e', rfl, rfl, (st.from ha).fail⟩
/-- an operation with one part -/
theorem one2 {a a2 : Nat} (ha : a < a2) {e : List ExprNode} (he : e.length ≤ a) {op : Int} {x y : Option (Bool × ExprParser)} (hop : op < 3) (h : Out l m a2 e x y) :
    Out l m a e (x.bind fun r2 => if r2.1 then (expr_parser_add r2.2 ((ExprNode.mk op (ValValue.mk 0 0 []) [] ((IntKind.i64.wrap ((r2.2.e.length : Int) - 1))) 0))).bind fun r3 => some (r3.1, r3.2) else some (false, r2.2))
      (y.bind fun r2 => if r2.1 then (expr_parser_add r2.2 ((ExprNode.mk op (ValValue.mk 0 0 []) [] ((IntKind.i64.wrap ((r2.2.e.length : Int) - 1))) 0))).bind fun r3 => some (r3.1, r3.2) else some (false, r2.2)) := by
  have hsh := hS.short
  obtain ⟨b, a', e', rfl, rfl, st⟩ := h
  rw [Option.bind_some, Option.bind_some]
  cases b
  · exact ⟨false, a', e', rfl, rfl, st.from (by omega)⟩
  · simp only [if_true]
    have h1 := (st.pro rfl).1
    have h2 := st.few
    have h3 := st.ll
    have h4 := st.le
    have hw : IntKind.i64.wrap ((e'.length : Int) - 1) = (e'.length : Int) - 1 := w64 (by omega) (by omega)
    rw [add_eq (by omega), add_eq (by omega), Option.bind_some, Option.bind_some, hw]
    exact ⟨true, a', _, rfl, rfl, ⟨by omega, h3, st.wf.snoc (fun _ => by simp only; omega) (fun h => by simp only at h; omega), by simp; omega, by simp; omega, fun _ => ⟨by simp; omega, by omega⟩⟩⟩

theorem parse_rec : ∀ N : Nat,
    (∀ (k a : Nat) (e : List ExprNode), k ≤ 5 → a ≤ l.length → e.length ≤ a → WF e → (l.length - a) * 16 + (10 - k) ≤ N → Out l m a e (expr_parser_binary ⟨l, (a : Int), e⟩ (k : Int)) (expr_parser_binary ⟨m, (a : Int), e⟩ (k : Int))) ∧
    (∀ (a : Nat) (e : List ExprNode), a ≤ l.length → e.length ≤ a → WF e → (l.length - a) * 16 + 3 ≤ N → Out l m a e (expr_parser_unary ⟨l, (a : Int), e⟩) (expr_parser_unary ⟨m, (a : Int), e⟩)) ∧
    (∀ (a : Nat) (e : List ExprNode), a ≤ l.length → e.length ≤ a → WF e → (l.length - a) * 16 + 2 ≤ N → Out l m a e (expr_parser_atom ⟨l, (a : Int), e⟩) (expr_parser_atom ⟨m, (a : Int), e⟩))
  | 0 => ⟨fun k a e hk _ _ _ h => by omega, fun a e _ _ _ h => by omega, fun a e _ _ _ h => by omega⟩
  | N + 1 => by
    have hsh := hS.short
    obtain ⟨IB, IU, IA⟩ := parse_rec N
    refine ⟨?_, ?_, ?_⟩
    · -- binary
      intro k a e hk ha he hwf hN
      rw [expr_parser_binary_eq, expr_parser_binary_eq]
      unfold expr_parser_binary_F
      rw [levels_eq, Option.bind_some, Option.bind_some]
      by_cases hk5 : k = 5
      · subst hk5
        have hc : ((((5 : Nat) : Int)) == ((lvs.length : Nat) : Int)) = true := rfl
        rw [if_pos hc, if_pos hc]
        obtain ⟨b, a', e', h1, h2, st⟩ := IU a e ha he hwf (by omega)
        show Out l m a e ((expr_parser_unary ⟨l, (a : Int), e⟩).bind _) ((expr_parser_unary ⟨m, (a : Int), e⟩).bind _)
        rw [h1, h2, Option.bind_some, Option.bind_some]
        exact ⟨b, a', e', rfl, rfl, st⟩
      · have hc : ¬ (((k : Int)) == ((lvs.length : Nat) : Int)) = true := by
          have : lvs.length = 5 := rfl
          rw [this]; simp; omega
        rw [if_neg hc, if_neg hc]
        have hwk : IntKind.i64.wrap ((k : Int) + 1) = ((k + 1 : Nat) : Int) := w64 (by omega) (by omega)
        rw [hwk]
        obtain ⟨b, a1, e1, h1, h2, st⟩ := IB (k + 1) a e (by omega) ha he hwf (by omega)
        show Out l m a e ((expr_parser_binary ⟨l, (a : Int), e⟩ ((k + 1 : Nat) : Int)).bind _) ((expr_parser_binary ⟨m, (a : Int), e⟩ ((k + 1 : Nat) : Int)).bind _)
        rw [h1, h2, Option.bind_some, Option.bind_some]
        cases b
        · exact ⟨false, a1, e1, rfl, rfl, st⟩
        · simp only [Bool.not_true, Bool.false_eq_true, if_false]
          obtain ⟨hp1, hp2⟩ := st.pro rfl
          have s1 := st.ll
          have s2 := st.few
          have s3 := st.wf
          have hkl : k < lvs.length := by show k < 5; omega
          have hv := lvs_ok _ (List.getElem_mem hkl)
          unfold expr_parser_binary_l0
          obtain ⟨r, hr1, ⟨b', a', e', rfl, q1, q2, q3, q4, q5⟩, hr2⟩ := run2 (f := expr_parser_binary_l0_step expr_parser_binary_W (k : Int) lvs) (g := expr_parser_binary_l0_step expr_parser_binary_W (k : Int) lvs)
            (fun s : (List TokToken) × Int × (List ExprNode) => ∃ (a2 : Nat) (e2 : List ExprNode), s = (l, (a2 : Int), e2) ∧ a1 ≤ a2 ∧ a2 ≤ l.length ∧ WF e2 ∧ e1.length ≤ e2.length ∧ e2.length + a1 ≤ e1.length + a2)
            (fun r : Bool × ExprParser => ∃ (b' : Bool) (a' : Nat) (e' : List ExprNode), r = (b', ⟨l, (a' : Int), e'⟩) ∧ a1 ≤ a' ∧ a' ≤ l.length ∧ WF e' ∧ e1.length ≤ e'.length ∧ e'.length + a1 ≤ e1.length + a')
            (fun s => l.length - s.2.1.toNat) (fun s => (m, s.2.1, s.2.2)) (fun r => (r.1, ⟨m, r.2.at_, r.2.e⟩)) (by
            rintro _ ⟨a2, e2, rfl, g1, g2, g3, g4, g5⟩
            unfold expr_parser_binary_l0_step
            simp only
            rw [idx_nat, List.getElem?_eq_getElem hkl, Option.bind_some, Option.bind_some]
            obtain ⟨o, a3, o1, o2, o3⟩ := operation2 hS g2 e2 hv
            rw [o1, o2, Option.bind_some, Option.bind_some]
            rcases o3 with ⟨rfl, rfl⟩ | ⟨ho, rfl, hlt⟩
            · exact ⟨.inr (true, ⟨l, (a3 : Int), e2⟩), rfl, ⟨true, a3, e2, rfl, g1, g2, g3, g4, g5⟩, rfl⟩
            · have ho' : ¬ (o == 0) = true := by simpa using ho
              dsimp only
              rw [if_neg ho', if_neg ho', hwk]
              obtain ⟨b4, a4, e4, k1, k2, k3⟩ := IB (k + 1) (a2 + 1) e2 (by omega) (by omega) (by omega) g3 (by omega)
              have k1' : expr_parser_binary_W.expr_parser_binary ⟨l, ((a2 + 1 : Nat) : Int), e2⟩ ((k + 1 : Nat) : Int) = _ := k1
              have k2' : expr_parser_binary_W.expr_parser_binary ⟨m, ((a2 + 1 : Nat) : Int), e2⟩ ((k + 1 : Nat) : Int) = _ := k2
              rw [k1', k2', Option.bind_some, Option.bind_some]
              have t1 := k3.le
              have t2 := k3.ll
              have t3 := k3.few
              have t4 := k3.mon
              cases b4
              · exact ⟨_, rfl, ⟨false, a4, e4, rfl, by omega, t2, k3.wf, by omega, by omega⟩, rfl⟩
              · simp only [Bool.not_true, Bool.false_eq_true, if_false]
                have w1 : IntKind.i64.wrap ((e2.length : Int) - 1) = (e2.length : Int) - 1 := w64 (by omega) (by omega)
                have w2 : IntKind.i64.wrap ((e4.length : Int) - 1) = (e4.length : Int) - 1 := w64 (by omega) (by omega)
                rw [add_eq (by omega), add_eq (by omega), Option.bind_some, Option.bind_some, w1, w2]
                simp only [Bool.not_true, Bool.false_eq_true, if_false]
                have hwf4 : WF (e4 ++ [ExprNode.mk o (ValValue.mk 0 0 []) [] ((e2.length : Int) - 1) ((e4.length : Int) - 1)]) := k3.wf.snoc (fun _ => by simp only; omega) (fun _ => by simp only; omega)
                by_cases hon : lvs[k].once = true
                · rw [if_pos hon, if_pos hon]
                  exact ⟨_, rfl, ⟨true, a4, _, rfl, by omega, t2, hwf4, by simp; omega, by simp; omega⟩, rfl⟩
                · rw [if_neg hon, if_neg hon]
                  refine ⟨_, rfl, ⟨⟨a4, _, rfl, by omega, t2, hwf4, by simp; omega, by simp; omega⟩, ?_⟩, rfl⟩
                  show l.length - (a4 : Int).toNat < l.length - (a2 : Int).toNat
                  omega) (s := (l, (a1 : Int), e1)) ⟨a1, e1, rfl, Nat.le_refl _, s1, s3, Nat.le_refl _, Nat.le_refl _⟩
          exact ⟨b', a', e', hr1, hr2, ⟨by omega, q2, q3, by omega, by omega, fun _ => ⟨by omega, by omega⟩⟩⟩
    · -- unary
      intro a e ha he hwf hN
      rw [expr_parser_unary_eq, expr_parser_unary_eq]
      unfold expr_parser_unary_F
      rcases take2 hS ha e (w := [110, 111, 116]) (by simp) with ⟨t1, t2, t3⟩ | ⟨t1, t2⟩
      · rw [t1, t2, Option.bind_some, Option.bind_some]
        simp only [if_true]
        exact one2 hS (Nat.lt_succ_self a) he (by omega) (IU (a + 1) e (by omega) (by omega) hwf (by omega))
      · rw [t1, t2, Option.bind_some, Option.bind_some]
        simp only [Bool.false_eq_true, if_false]
        rcases take2 hS ha e (w := [45]) (by simp) with ⟨u1, u2, u3⟩ | ⟨u1, u2⟩
        · rw [u1, u2, Option.bind_some, Option.bind_some]
          simp only [if_true]
          exact one2 hS (Nat.lt_succ_self a) he (by omega) (IU (a + 1) e (by omega) (by omega) hwf (by omega))
        · rw [u1, u2, Option.bind_some, Option.bind_some]
          simp only [Bool.false_eq_true, if_false]
          obtain ⟨b, a', e', h1, h2, st⟩ := IA a e ha he hwf (by omega)
          show Out l m a e ((expr_parser_atom ⟨l, (a : Int), e⟩).bind _) ((expr_parser_atom ⟨m, (a : Int), e⟩).bind _)
          rw [h1, h2, Option.bind_some, Option.bind_some]
          exact ⟨b, a', e', rfl, rfl, st⟩
    · -- atom
      intro a e ha he hwf hN
      rw [expr_parser_atom_eq, expr_parser_atom_eq]
      unfold expr_parser_atom_F
      rw [next_eq, next_eq, Option.bind_some, Option.bind_some]
      have hw1 : IntKind.i64.wrap ((a : Int) + 1) = ((a + 1 : Nat) : Int) := w64 (by omega) (by omega)
      simp only [hw1]
      obtain ⟨c3, c3'⟩ := kind_same hS ha (k := 3) (by omega) (by omega)
      obtain ⟨c4, c4'⟩ := kind_same hS ha (k := 4) (by omega) (by omega)
      obtain ⟨c6, c6'⟩ := is_same hS ha (ws := [[116, 114, 117, 101], [102, 97, 108, 115, 101]]) (by simp)
      rw [c3, c4, is_eq _ _ (by simp), is_eq _ _ (by simp), Option.bind_some, Option.bind_some, c6]
      by_cases h3 : ((nx l a).Kind == 3) = true
      · rw [if_pos h3, if_pos h3, nx_lt hS (c3' h3)]
        exact leaf2 hS (c3' h3) he hwf
      · rw [if_neg h3, if_neg h3]
        by_cases h4 : ((nx l a).Kind == 4) = true
        · rw [if_pos h4, if_pos h4, nx_lt hS (c4' h4)]
          exact leaf2 hS (c4' h4) he hwf
        · rw [if_neg h4, if_neg h4]
          by_cases h6 : isB (nx l a) [[116, 114, 117, 101], [102, 97, 108, 115, 101]] = true
          · rw [if_pos h6, if_pos h6, nx_lt hS (c6' h6)]
            cases hb : (nx l a).Text == [116, 114, 117, 101]
            · exact leaf2 hS (c6' h6) he hwf
            · exact leaf2 hS (c6' h6) he hwf
          · rw [if_neg h6, if_neg h6]
            rcases take2 hS ha e (w := [105, 110]) (by simp) with ⟨t1, t2, t3⟩ | ⟨t1, t2⟩
            · rw [t1, t2, Option.bind_some, Option.bind_some]
              simp only [if_true]
              rcases take2 hS (show a + 1 ≤ l.length by omega) e (w := [40]) (by simp) with ⟨u1, u2, u3⟩ | ⟨u1, u2⟩
              · rw [u1, u2, Option.bind_some, Option.bind_some]
                simp only [if_true]
                exact closed2 hS (show a ≤ a + 1 + 1 by omega) (name2 hS (by omega) (by omega) hwf (by omega))
              · rw [u1, u2, Option.bind_some, Option.bind_some]
                exact ⟨false, a + 1, e, rfl, rfl, Step.stay (by omega) (by omega) hwf⟩
            · rw [t1, t2, Option.bind_some, Option.bind_some]
              simp only [Bool.false_eq_true, if_false]
              rcases take2 hS ha e (w := [40]) (by simp) with ⟨u1, u2, u3⟩ | ⟨u1, u2⟩
              · rw [u1, u2, Option.bind_some, Option.bind_some]
                simp only [if_true]
                exact closed2 hS (show a ≤ a + 1 by omega) (IB 0 (a + 1) e (by omega) (by omega) (by omega) hwf (by omega))
              · rw [u1, u2, Option.bind_some, Option.bind_some]
                simp only [Bool.false_eq_true, if_false]
                obtain ⟨b, a', e', h1, h2, st⟩ := name2 hS ha he hwf (op := 16) (by omega)
                rw [h1, h2, Option.bind_some, Option.bind_some]
                exact ⟨b, a', e', rfl, rfl, st⟩
end
end Go.Proofs.YtilmjbljkkbakaaDoor
/-! Expressions over plain data: what is parsed. -/
namespace Go.Proofs.YtilmjbljkkbakaaDoor
open Go.Wv
set_option linter.unusedSimpArgs false
set_option linter.unusedVariables false
set_option linter.unusedSectionVars false

theorem one_eq (o : Int) : expr_one o = some (o == 1 || o == 2) := by
  unfold expr_one
  by_cases h : (o == 1) = true
  · rw [if_pos h]; simp [h]
  · rw [if_neg h]; simp [h]
theorem two_eq (o : Int) : expr_two o = some (decide (3 ≤ o) && decide (o ≤ 15)) := by
  unfold expr_two
  by_cases h : 3 ≤ o
  · rw [if_pos h]; simp [h]
  · rw [if_neg h]; simp [h]
theorem inM_ok {n : Nat} {i : Int} (h0 : 0 ≤ i) (h1 : i < n) : inM n i = some i.toNat := inM_some.2 ⟨⟨h0, by omega⟩, rfl⟩
theorem setJ_ok {α : Type} {xs : List α} {j : Nat} (v : α) (h : j < xs.length) : setJ xs j v = some (xs.set j v) := setJ_some.2 ⟨h, rfl⟩
theorem Ret.setJ {α : Type} {xs : List α} {j : Nat} {v : α} {P : List α → Prop} (h : j < xs.length) (hp : ∀ ys : List α, ys.length = xs.length → P ys) : Ret (setJ xs j v) P := ⟨_, setJ_ok v h, hp _ (by simp)⟩
theorem Ret.getJ {α : Type} {xs : List α} {j : Nat} {P : α → Prop} (h : j < xs.length) (hp : ∀ x, P x) : Ret xs[j]? P := ⟨xs[j], List.getElem?_eq_getElem h, hp _⟩

def DP (e : List ExprNode) (k : Nat) : (Int × List Int) ⊕ List Int → Prop
  | .inl s' => (∃ k : Nat, s'.1 = (k : Int) ∧ k ≤ e.length ∧ s'.2.length = e.length) ∧ e.length - s'.1.toNat < e.length - k
  | .inr r => r.length ≤ 1000
theorem depths_ok {e : List ExprNode} (he : e.length ≤ 1000) (hwf : WF e) : Ret (expr_Expr_depths e) fun r => r.length ≤ 1000 := by
  unfold expr_Expr_depths
  have hmk : mkA 8 (e.length : Int) (0 : Int) = some (List.replicate e.length 0) := by
    rw [mkA_some]
    refine ⟨⟨by omega, by simp [lim]; omega, by simp [lim]; omega⟩, by simp⟩
  rw [hmk, Option.bind_some]
  unfold expr_Expr_depths_l0
  refine Ret.run (fun s : Int × List Int => ∃ k : Nat, s.1 = (k : Int) ∧ k ≤ e.length ∧ s.2.length = e.length) _ (fun s => e.length - s.1.toNat) ?_ ⟨0, rfl, Nat.zero_le _, by simp⟩
  rintro ⟨i, w⟩ ⟨k, h1, hk, hw⟩
  have h1 : i = (k : Int) := h1
  have hw : w.length = e.length := hw
  subst h1
  unfold expr_Expr_depths_l0_step
  dsimp only
  have hw1 : IntKind.i64.wrap ((k : Int) + 1) = ((k + 1 : Nat) : Int) := w64 (by omega) (by omega)
  have hkn : (k : Int).toNat = k := by omega
  refine Ret.mono (P := DP e k) ?_ (by
    rintro (x | x) hx
    · rw [hkn]; exact hx
    · exact hx)
  refine Ret.ite (fun hlt => ?_) (fun hlt => ?_)
  · have hlt' : k < e.length := by omega
    obtain ⟨wl, wr⟩ := hwf k _ (List.getElem?_eq_getElem hlt')
    have done : ∀ ys : List Int, ys.length = e.length → Ret (some (.inl ((IntKind.i64.wrap ((k : Int) + 1)), ys)) : Option ((Int × List Int) ⊕ List Int)) (DP e k) := by
      intro ys hys
      rw [hw1]
      refine Ret.some ⟨⟨k + 1, rfl, by omega, hys⟩, ?_⟩
      show e.length - (((k + 1 : Nat) : Int)).toNat < e.length - k
      omega
    rw [idx_nat, List.getElem?_eq_getElem hlt', Option.bind_some, inM_ok (by omega) (by omega), Option.bind_some]
    rw [hkn]
    refine Ret.bind (Ret.setJ (P := fun ys => ys.length = e.length) (by omega) fun ys h => by omega) fun w5 h5 => ?_
    have hR : ∀ (w9 : List Int), w9.length = e.length → (decide (3 ≤ e[k].Op) && decide (e[k].Op ≤ 15)) = true →
        Ret ((w9[k]?).bind fun x11 => (inM e.length e[k].R).bind fun j12 => (w9[j12]?).bind fun x13 => (setJ w9 k ((if x11 < (IntKind.i64.wrap (1 + x13)) then (IntKind.i64.wrap (1 + x13)) else x11))).bind fun w14 => (some (.inl ((IntKind.i64.wrap ((k : Int) + 1)), w14)) : Option ((Int × List Int) ⊕ List Int))) (DP e k) := by
      intro w9 h9 ht
      simp only [Bool.and_eq_true, decide_eq_true_eq] at ht
      obtain ⟨r1, r2⟩ := wr ht
      refine Ret.bind (Ret.getJ (P := fun _ => True) (by omega) fun _ => trivial) fun x11 _ => ?_
      rw [inM_ok r1 (by omega), Option.bind_some]
      refine Ret.bind (Ret.getJ (P := fun _ => True) (by omega) fun _ => trivial) fun x13 _ => ?_
      exact Ret.bind (Ret.setJ (P := fun ys => ys.length = e.length) (by omega) fun ys h => by omega) fun w14 h14 => done w14 h14
    have hL : (1 ≤ e[k].Op ∧ e[k].Op ≤ 15) → Ret ((inM e.length e[k].L).bind fun j7 => (w5[j7]?).bind fun x8 => (setJ w5 k ((IntKind.i64.wrap (1 + x8)))).bind fun w9 => (expr_two e[k].Op).bind fun r10 => if r10 then ((w9[k]?).bind fun x11 => (inM e.length e[k].R).bind fun j12 => (w9[j12]?).bind fun x13 => (setJ w9 k ((if x11 < (IntKind.i64.wrap (1 + x13)) then (IntKind.i64.wrap (1 + x13)) else x11))).bind fun w14 => (some (.inl ((IntKind.i64.wrap ((k : Int) + 1)), w14)) : Option ((Int × List Int) ⊕ List Int))) else some (.inl ((IntKind.i64.wrap ((k : Int) + 1)), w9))) (DP e k) := by
      intro ht
      obtain ⟨l1, l2⟩ := wl ht
      rw [inM_ok l1 (by omega), Option.bind_some]
      refine Ret.bind (Ret.getJ (P := fun _ => True) (by omega) fun _ => trivial) fun x8 _ => ?_
      refine Ret.bind (Ret.setJ (P := fun ys => ys.length = e.length) (by omega) fun ys h => by omega) fun w9 h9 => ?_
      rw [two_eq, Option.bind_some]
      exact Ret.ite (fun ht2 => hR w9 h9 ht2) (fun _ => done w9 h9)
    rw [one_eq, Option.bind_some]
    refine Ret.ite (fun ht => hL ?_) (fun hf => ?_)
    · simp at ht; omega
    · rw [two_eq, Option.bind_some]
      refine Ret.ite (fun ht2 => ?_) (fun hf2 => ?_)
      · have := hL (by simp at ht2; omega)
        rw [two_eq] at this
        exact this
      · rw [Option.bind_some, if_neg hf2]
        exact done w5 h5
  · have : frz e.length w = some w := by rw [frz_some]; exact ⟨by omega, by rw [List.take_of_length_le (by omega)]⟩
    rw [this, Option.bind_some]
    exact Ret.some (by show w.length ≤ 1000; omega)

theorem size_ok {e : List ExprNode} (he : e.length ≤ 1000) (hwf : WF e) : ∃ r, expr_Expr_Size e = some r := by
  have : Ret (expr_Expr_Size e) fun _ => True := by
    unfold expr_Expr_Size
    refine Ret.ite (fun _ => Ret.some trivial) (fun _ => Ret.bind (depths_ok he hwf) fun r hr => ?_)
    unfold expr_Expr_Size_l0
    refine Ret.run (fun s => ∃ k : Nat, s = (k : Int) ∧ k ≤ r.length) _ (fun s => r.length - s.toNat) ?_ ⟨0, rfl, Nat.zero_le _⟩
    rintro s ⟨k, rfl, hk⟩
    unfold expr_Expr_Size_l0_step
    refine Ret.ite (fun h => ?_) (fun _ => Ret.some trivial)
    have hlt : k < r.length := by omega
    rw [idx_nat, List.getElem?_eq_getElem hlt, Option.bind_some]
    refine Ret.ite (fun _ => Ret.some trivial) (fun _ => Ret.some ?_)
    rw [w64 (by omega) (by omega)]
    exact ⟨⟨k + 1, rfl, by omega⟩, by omega⟩
  obtain ⟨r, h, _⟩ := this
  exact ⟨r, h⟩

/-- A semicolon behind the tokens, and what follows it, makes no difference to what is parsed. -/
theorem parse_semi {l m : List TokToken} (hS : Semi l m) : ∃ r, expr_Parse l 0 = some r ∧ expr_Parse m 0 = some r ∧ r.1.length ≤ 1000 := by
  have hsh := hS.short
  obtain ⟨b, a', e', h1, h2, st⟩ := (parse_rec hS (l.length * 16 + 10)).1 0 0 [] (by omega) (Nat.zero_le _) (by simp) WF.nil (by omega)
  have hfew := st.few
  have hll := st.ll
  simp at hfew
  obtain ⟨z, hz⟩ := size_ok (e := e') (by omega) st.wf
  have key : ∀ x : List TokToken, expr_parser_binary ⟨x, ((0 : Nat) : Int), []⟩ ((0 : Nat) : Int) = some (b, ⟨x, (a' : Int), e'⟩) → expr_Parse x 0 = if b then (if (z != 0) then some ([], 0, z) else some (e', (a' : Int), 0)) else some ([], 0, 11) := by
    intro x hx
    have hx : expr_parser_binary ⟨x, 0, ([] : List ExprNode)⟩ 0 = some (b, ⟨x, (a' : Int), e'⟩) := hx
    unfold expr_Parse
    rw [if_neg (by omega), if_neg (by omega), hx, Option.bind_some]
    cases b
    · rfl
    · simp only [Bool.not_true, Bool.false_eq_true, if_false, if_true]
      rw [hz, Option.bind_some]
  rw [key l h1, key m h2]
  cases b
  · exact ⟨_, rfl, rfl, by simp⟩
  · simp only [if_true]
    by_cases h : (z != 0) = true
    · rw [if_pos h]; exact ⟨_, rfl, rfl, by simp⟩
    · rw [if_neg h]; exact ⟨_, rfl, rfl, by show e'.length ≤ 1000; omega⟩

end Go.Proofs.YtilmjbljkkbakaaDoor
/-! The parser of expressions over plain data, on tokens that stand further behind, or ahead of a semicolon. -/
namespace Go.Proofs.YtilmjbljkkbakaaDoor
open Go.Wv
set_option linter.unusedSimpArgs false
set_option linter.unusedVariables false
set_option linter.unusedSectionVars false

/-- The tokens l stand in m, d places further behind; behind them is nothing, or a semicolon. -/
structure Sim (l m : List TokToken) (d : Nat) : Prop where
  tok : ∀ a, a < l.length → (nx m (a + d)).Kind = (nx l a).Kind ∧ (nx m (a + d)).Text = (nx l a).Text ∧ (nx m (a + d)).N = (nx l a).N
  fin : (m.length = l.length + d) ∨ (l.length + d < m.length ∧ (nx m (l.length + d)).Kind = 5 ∧ (nx m (l.length + d)).Text = [59])
  short : m.length ≤ 120
def OutS (l m : List TokToken) (d a : Nat) (e : List ExprNode) (x y : Option (Bool × ExprParser)) : Prop :=
  ∃ (b : Bool) (a' : Nat) (e' : List ExprNode), x = some (b, ⟨l, (a' : Int), e'⟩) ∧ y = some (b, ⟨m, ((a' + d : Nat) : Int), e'⟩) ∧ Step l a e b a' e'
section
variable {l m : List TokToken} {d : Nat} (hS : Sim l m d)
include hS
theorem Sim.lens : l.length + d ≤ m.length ∧ m.length ≤ 120 := by
  refine ⟨?_, hS.short⟩
  rcases hS.fin with h | ⟨h, _⟩ <;> omega
theorem isB_congr {t t' : TokToken} {ws : List (List UInt8)} (h1 : t.Kind = t'.Kind) (h2 : t.Text = t'.Text) : isB t ws = isB t' ws := by
  unfold isB; rw [h1, h2]
theorem is_sameS {a : Nat} (ha : a ≤ l.length) {ws : List (List UInt8)} (hw : ∀ w ∈ ws, w ≠ [59]) : isB (nx m (a + d)) ws = isB (nx l a) ws ∧ (isB (nx l a) ws = true → a < l.length) := by
  by_cases h : a < l.length
  · obtain ⟨h1, h2, _⟩ := hS.tok a h
    exact ⟨isB_congr hS h1 h2, fun _ => h⟩
  · obtain rfl : a = l.length := by omega
    rw [nx_end (Nat.le_refl _)]
    have hz : isB zeroTok ws = false := rfl
    rw [hz]
    refine ⟨?_, fun h => by cases h⟩
    rcases hS.fin with h1 | ⟨_, h1, h2⟩
    · rw [nx_end (by omega)]; rfl
    · unfold isB
      have : (ws.any fun w => (nx m (l.length + d)).Text == w) = false := by
        rw [h2, List.any_eq_false]
        intro w hwm
        have := hw w hwm
        simp; exact fun e => this e.symm
      rw [this, Bool.and_false]
theorem kind_sameS {a : Nat} (ha : a ≤ l.length) {k : Int} (h0 : k ≠ 0) (h5 : k ≠ 5) : ((nx m (a + d)).Kind == k) = ((nx l a).Kind == k) ∧ (((nx l a).Kind == k) = true → a < l.length) := by
  by_cases h : a < l.length
  · rw [(hS.tok a h).1]; exact ⟨rfl, fun _ => h⟩
  · obtain rfl : a = l.length := by omega
    have e1 : ((5 : Int) == k) = false := by simpa using fun h => h5 h.symm
    have e2 : (zeroTok.Kind == k) = false := by show ((0 : Int) == k) = false; simpa using fun h => h0 h.symm
    rw [nx_end (l := l) (Nat.le_refl _), e2]
    refine ⟨?_, fun h => by cases h⟩
    rcases hS.fin with h1 | ⟨_, h1, _⟩
    · rw [nx_end (by omega), e2]
    · rw [h1, e1]
theorem take2S {a : Nat} (ha : a ≤ l.length) (e : List ExprNode) {w : List UInt8} (hw : w ≠ [59]) :
    (expr_parser_take ⟨l, (a : Int), e⟩ w = some (true, ⟨l, ((a + 1 : Nat) : Int), e⟩) ∧ expr_parser_take ⟨m, ((a + d : Nat) : Int), e⟩ w = some (true, ⟨m, ((a + 1 + d : Nat) : Int), e⟩) ∧ a < l.length) ∨
    (expr_parser_take ⟨l, (a : Int), e⟩ w = some (false, ⟨l, (a : Int), e⟩) ∧ expr_parser_take ⟨m, ((a + d : Nat) : Int), e⟩ w = some (false, ⟨m, ((a + d : Nat) : Int), e⟩)) := by
  obtain ⟨hln, hsh⟩ := Sim.lens hS
  obtain ⟨h1, h2⟩ := is_sameS hS ha (ws := [w]) (by simpa using hw)
  unfold expr_parser_take
  rw [next_eq, next_eq, Option.bind_some, Option.bind_some, is_eq _ _ (by simp), is_eq _ _ (by simp), Option.bind_some, Option.bind_some, h1]
  simp only
  have hw1 : IntKind.i64.wrap ((a : Int) + 1) = ((a + 1 : Nat) : Int) := w64 (by omega) (by omega)
  have hw2 : IntKind.i64.wrap (((a + d : Nat) : Int) + 1) = ((a + 1 + d : Nat) : Int) := by rw [w64 (by omega) (by omega)]; omega
  by_cases hb : isB (nx l a) [w] = true
  · left
    rw [if_pos hb, if_pos hb, hw1, hw2]
    exact ⟨rfl, rfl, h2 hb⟩
  · right
    rw [if_neg hb, if_neg hb]
    exact ⟨rfl, rfl⟩
theorem name2S {a : Nat} (ha : a ≤ l.length) {e : List ExprNode} (he : e.length ≤ a) (hwf : WF e) {op : Int} (hop : 15 < op) :
    OutS l m d a e (expr_parser_name ⟨l, (a : Int), e⟩ op) (expr_parser_name ⟨m, ((a + d : Nat) : Int), e⟩ op) := by
  obtain ⟨hln, hsh⟩ := Sim.lens hS
  unfold expr_parser_name
  rw [next_eq, next_eq, Option.bind_some, Option.bind_some]
  have hw1 : IntKind.i64.wrap ((a : Int) + 1) = ((a + 1 : Nat) : Int) := w64 (by omega) (by omega)
  have hw2 : IntKind.i64.wrap (((a + d : Nat) : Int) + 1) = ((a + 1 + d : Nat) : Int) := by rw [w64 (by omega) (by omega)]; omega
  have hfail : OutS l m d a e (some (false, ⟨l, (a : Int), e⟩)) (some (false, ⟨m, ((a + d : Nat) : Int), e⟩)) := ⟨false, a, e, rfl, rfl, ⟨Nat.le_refl _, ha, hwf, Nat.le_refl _, Nat.le_refl _, fun h => by cases h⟩⟩
  by_cases h : a < l.length
  · obtain ⟨t1, t2, _⟩ := hS.tok a h
    rw [t1, t2]
    by_cases hk : ((nx l a).Kind != 1) = true
    · rw [if_pos hk, if_pos hk]; exact hfail
    · rw [if_neg hk, if_neg hk]
      obtain ⟨b, hb⟩ := means_some (nx l a).Text
      rw [hb, Option.bind_some, Option.bind_some]
      by_cases hbt : b = true
      · rw [if_pos hbt, if_pos hbt]; exact hfail
      · rw [if_neg hbt, if_neg hbt]
        simp only [hw1, hw2]
        rw [add_eq (by omega), add_eq (by omega), Option.bind_some, Option.bind_some]
        exact ⟨true, a + 1, _, rfl, rfl, ⟨by omega, by omega, hwf.snoc (fun h => by simp only at h; omega) (fun h => by simp only at h; omega), by simp, by simp; omega, fun _ => ⟨by simp, by omega⟩⟩⟩
  · obtain rfl : a = l.length := by omega
    have hk : ((nx m (l.length + d)).Kind != 1) = true := by
      rcases hS.fin with h1 | ⟨_, h1, _⟩
      · rw [nx_end (by omega)]; rfl
      · rw [h1]; rfl
    rw [if_pos (by rw [nx_end (Nat.le_refl _)]; rfl), if_pos hk]
    exact hfail

theorem operation2S {a : Nat} (ha : a ≤ l.length) (e : List ExprNode) {v : ExprLevel} (hv : LevOk v) :
    ∃ (o : Int) (a' : Nat), expr_parser_operation ⟨l, (a : Int), e⟩ v = some (o, ⟨l, (a' : Int), e⟩) ∧ expr_parser_operation ⟨m, ((a + d : Nat) : Int), e⟩ v = some (o, ⟨m, ((a' + d : Nat) : Int), e⟩) ∧ ((o = 0 ∧ a' = a) ∨ (o ≠ 0 ∧ a' = a + 1 ∧ a < l.length)) := by
  have hl := hv.len
  have hf := hv.few
  unfold expr_parser_operation expr_parser_operation_l0
  obtain ⟨r, hr1, ⟨a', hr2, hr3⟩, hr4⟩ := run2 (f := expr_parser_operation_l0_step v) (g := expr_parser_operation_l0_step v) (fun s : Int × (List TokToken) × Int × (List ExprNode) => ∃ k : Nat, s = ((k : Int), l, (a : Int), e) ∧ k ≤ v.signs.length)
    (fun r : Int × ExprParser => ∃ a' : Nat, r.2 = ⟨l, (a' : Int), e⟩ ∧ ((r.1 = 0 ∧ a' = a) ∨ (r.1 ≠ 0 ∧ a' = a + 1 ∧ a < l.length))) (fun s => v.signs.length - s.1.toNat) (fun s => (s.1, m, s.2.2.1 + d, s.2.2.2)) (fun r => (r.1, ⟨m, r.2.at_ + d, r.2.e⟩)) (by
    rintro _ ⟨k, rfl, hk⟩
    unfold expr_parser_operation_l0_step
    simp only
    have had : ((a : Int) + (d : Int)) = ((a + d : Nat) : Int) := by omega
    have had1 : (((a + 1 : Nat) : Int) + (d : Int)) = ((a + 1 + d : Nat) : Int) := by omega
    rw [had]
    by_cases hlt : k < v.signs.length
    · rw [if_pos (by omega), if_pos (by omega), idx_nat, List.getElem?_eq_getElem hlt, Option.bind_some, Option.bind_some]
      have hws := hv.semi _ (List.getElem_mem hlt)
      rcases take2S hS ha e hws with ⟨t1, t2, t3⟩ | ⟨t1, t2⟩
      · rw [t1, t2, Option.bind_some, Option.bind_some]
        have hlt2 : k < v.ops.length := by omega
        simp only [if_true]
        rw [idx_nat, List.getElem?_eq_getElem hlt2, Option.bind_some, Option.bind_some]
        exact ⟨_, rfl, ⟨a + 1, rfl, .inr ⟨hv.op _ (List.getElem_mem hlt2), rfl, t3⟩⟩, rfl⟩
      · rw [t1, t2, Option.bind_some, Option.bind_some]
        simp only [Bool.false_eq_true, if_false]
        have hw1 : IntKind.i64.wrap ((k : Int) + 1) = ((k + 1 : Nat) : Int) := w64 (by omega) (by omega)
        rw [hw1]
        exact ⟨_, rfl, ⟨⟨k + 1, rfl, by omega⟩, by simp; omega⟩, rfl⟩
    · rw [if_neg (by omega), if_neg (by omega)]
      exact ⟨_, rfl, ⟨a, rfl, .inl ⟨rfl, rfl⟩⟩, rfl⟩) (s := (0, l, (a : Int), e)) ⟨0, rfl, Nat.zero_le _⟩
  obtain ⟨o, p⟩ := r
  have hr2 : p = ⟨l, (a' : Int), e⟩ := hr2
  subst hr2
  have hd0 : ((a : Int) + (d : Int)) = ((a + d : Nat) : Int) := by omega
  have hd1 : ((a' : Int) + (d : Int)) = ((a' + d : Nat) : Int) := by omega
  simp only [hd0, hd1] at hr4
  exact ⟨o, a', hr1, hr4, hr3⟩
/-- one node that stands for itself -/
theorem leaf2S {a : Nat} (ha : a < l.length) {e : List ExprNode} (he : e.length ≤ a) (hwf : WF e) {v : ValValue} :
    OutS l m d a e ((expr_parser_add ⟨l, ((a + 1 : Nat) : Int), e⟩ (ExprNode.mk 0 v [] 0 0)).bind fun r3 => some (r3.1, r3.2)) ((expr_parser_add ⟨m, ((a + 1 + d : Nat) : Int), e⟩ (ExprNode.mk 0 v [] 0 0)).bind fun r3 => some (r3.1, r3.2)) := by
  obtain ⟨hln, hsh⟩ := Sim.lens hS
  rw [add_eq (by omega), add_eq (by omega), Option.bind_some, Option.bind_some]
  exact ⟨true, a + 1, _, rfl, rfl, ⟨by omega, by omega, hwf.snoc (fun h => by simp only at h; omega) (fun h => by simp only at h; omega), by simp, by simp; omega, fun _ => ⟨by simp, by omega⟩⟩⟩
/-- what is closed by a bracket -/
theorem closed2S {a a2 : Nat} (ha : a ≤ a2) {e : List ExprNode} {x y : Option (Bool × ExprParser)} (h : OutS l m d a2 e x y) :
    OutS l m d a e (x.bind fun r => if r.1 then (expr_parser_take r.2 [41]).bind fun r2 => some (r2.1, r2.2) else some (false, r.2)) (y.bind fun r => if r.1 then (expr_parser_take r.2 [41]).bind fun r2 => some (r2.1, r2.2) else some (false, r.2)) := by
  obtain ⟨b, a', e', rfl, rfl, st⟩ := h
  rw [Option.bind_some, Option.bind_some]
  cases b
  · exact ⟨false, a', e', rfl, rfl, st.from ha⟩
  · simp only [if_true]
    rcases take2S hS st.ll e' (w := [41]) (by simp) with ⟨t1, t2, t3⟩ | ⟨t1, t2⟩
    · rw [t1, t2, Option.bind_some, Option.bind_some]
      exact ⟨true, a' + 1, e', rfl, rfl, (st.from ha).next t3⟩
    · rw [t1, t2, Option.bind_some, Option.bind_some]
      exact ⟨false, a', e', rfl, rfl, (st.from ha).fail⟩
/-- an operation with one part -/
theorem one2S {a a2 : Nat} (ha : a < a2) {e : List ExprNode} (he : e.length ≤ a) {op : Int} {x y : Option (Bool × ExprParser)} (hop : op < 3) (h : OutS l m d a2 e x y) :
    OutS l m d a e (x.bind fun r2 => if r2.1 then (expr_parser_add r2.2 ((ExprNode.mk op (ValValue.mk 0 0 []) [] ((IntKind.i64.wrap ((r2.2.e.length : Int) - 1))) 0))).bind fun r3 => some (r3.1, r3.2) else some (false, r2.2))
      (y.bind fun r2 => if r2.1 then (expr_parser_add r2.2 ((ExprNode.mk op (ValValue.mk 0 0 []) [] ((IntKind.i64.wrap ((r2.2.e.length : Int) - 1))) 0))).bind fun r3 => some (r3.1, r3.2) else some (false, r2.2)) := by
  obtain ⟨hln, hsh⟩ := Sim.lens hS
  obtain ⟨b, a', e', rfl, rfl, st⟩ := h
  rw [Option.bind_some, Option.bind_some]
  cases b
  · exact ⟨false, a', e', rfl, rfl, st.from (by omega)⟩
  · simp only [if_true]
    have h1 := (st.pro rfl).1
    have h2 := st.few
    have h3 := st.ll
    have h4 := st.le
    have hw : IntKind.i64.wrap ((e'.length : Int) - 1) = (e'.length : Int) - 1 := w64 (by omega) (by omega)
    rw [add_eq (by omega), add_eq (by omega), Option.bind_some, Option.bind_some, hw]
    exact ⟨true, a', _, rfl, rfl, ⟨by omega, h3, st.wf.snoc (fun _ => by simp only; omega) (fun h => by simp only at h; omega), by simp; omega, by simp; omega, fun _ => ⟨by simp; omega, by omega⟩⟩⟩

theorem parse_recS : ∀ N : Nat,
    (∀ (k a : Nat) (e : List ExprNode), k ≤ 5 → a ≤ l.length → e.length ≤ a → WF e → (l.length - a) * 16 + (10 - k) ≤ N → OutS l m d a e (expr_parser_binary ⟨l, (a : Int), e⟩ (k : Int)) (expr_parser_binary ⟨m, ((a + d : Nat) : Int), e⟩ (k : Int))) ∧
    (∀ (a : Nat) (e : List ExprNode), a ≤ l.length → e.length ≤ a → WF e → (l.length - a) * 16 + 3 ≤ N → OutS l m d a e (expr_parser_unary ⟨l, (a : Int), e⟩) (expr_parser_unary ⟨m, ((a + d : Nat) : Int), e⟩)) ∧
    (∀ (a : Nat) (e : List ExprNode), a ≤ l.length → e.length ≤ a → WF e → (l.length - a) * 16 + 2 ≤ N → OutS l m d a e (expr_parser_atom ⟨l, (a : Int), e⟩) (expr_parser_atom ⟨m, ((a + d : Nat) : Int), e⟩))
  | 0 => ⟨fun k a e hk _ _ _ h => by omega, fun a e _ _ _ h => by omega, fun a e _ _ _ h => by omega⟩
  | N + 1 => by
    obtain ⟨hln, hsh⟩ := Sim.lens hS
    obtain ⟨IB, IU, IA⟩ := parse_recS N
    refine ⟨?_, ?_, ?_⟩
    · -- binary
      intro k a e hk ha he hwf hN
      rw [expr_parser_binary_eq, expr_parser_binary_eq]
      unfold expr_parser_binary_F
      rw [levels_eq, Option.bind_some, Option.bind_some]
      by_cases hk5 : k = 5
      · subst hk5
        have hc : ((((5 : Nat) : Int)) == ((lvs.length : Nat) : Int)) = true := rfl
        rw [if_pos hc, if_pos hc]
        obtain ⟨b, a', e', h1, h2, st⟩ := IU a e ha he hwf (by omega)
        show OutS l m d a e ((expr_parser_unary ⟨l, (a : Int), e⟩).bind _) ((expr_parser_unary ⟨m, ((a + d : Nat) : Int), e⟩).bind _)
        rw [h1, h2, Option.bind_some, Option.bind_some]
        exact ⟨b, a', e', rfl, rfl, st⟩
      · have hc : ¬ (((k : Int)) == ((lvs.length : Nat) : Int)) = true := by
          have : lvs.length = 5 := rfl
          rw [this]; simp; omega
        rw [if_neg hc, if_neg hc]
        have hwk : IntKind.i64.wrap ((k : Int) + 1) = ((k + 1 : Nat) : Int) := w64 (by omega) (by omega)
        rw [hwk]
        obtain ⟨b, a1, e1, h1, h2, st⟩ := IB (k + 1) a e (by omega) ha he hwf (by omega)
        show OutS l m d a e ((expr_parser_binary ⟨l, (a : Int), e⟩ ((k + 1 : Nat) : Int)).bind _) ((expr_parser_binary ⟨m, ((a + d : Nat) : Int), e⟩ ((k + 1 : Nat) : Int)).bind _)
        rw [h1, h2, Option.bind_some, Option.bind_some]
        cases b
        · exact ⟨false, a1, e1, rfl, rfl, st⟩
        · simp only [Bool.not_true, Bool.false_eq_true, if_false]
          obtain ⟨hp1, hp2⟩ := st.pro rfl
          have s1 := st.ll
          have s2 := st.few
          have s3 := st.wf
          have hkl : k < lvs.length := by show k < 5; omega
          have hv := lvs_ok _ (List.getElem_mem hkl)
          unfold expr_parser_binary_l0
          obtain ⟨r, hr1, ⟨b', a', e', rfl, q1, q2, q3, q4, q5⟩, hr2⟩ := run2 (f := expr_parser_binary_l0_step expr_parser_binary_W (k : Int) lvs) (g := expr_parser_binary_l0_step expr_parser_binary_W (k : Int) lvs)
            (fun s : (List TokToken) × Int × (List ExprNode) => ∃ (a2 : Nat) (e2 : List ExprNode), s = (l, (a2 : Int), e2) ∧ a1 ≤ a2 ∧ a2 ≤ l.length ∧ WF e2 ∧ e1.length ≤ e2.length ∧ e2.length + a1 ≤ e1.length + a2)
            (fun r : Bool × ExprParser => ∃ (b' : Bool) (a' : Nat) (e' : List ExprNode), r = (b', ⟨l, (a' : Int), e'⟩) ∧ a1 ≤ a' ∧ a' ≤ l.length ∧ WF e' ∧ e1.length ≤ e'.length ∧ e'.length + a1 ≤ e1.length + a')
            (fun s => l.length - s.2.1.toNat) (fun s => (m, s.2.1 + d, s.2.2)) (fun r => (r.1, ⟨m, r.2.at_ + d, r.2.e⟩)) (by
            rintro _ ⟨a2, e2, rfl, g1, g2, g3, g4, g5⟩
            unfold expr_parser_binary_l0_step
            simp only
            have had : ((a2 : Int) + (d : Int)) = ((a2 + d : Nat) : Int) := by omega
            rw [had]
            rw [idx_nat, List.getElem?_eq_getElem hkl, Option.bind_some, Option.bind_some]
            obtain ⟨o, a3, o1, o2, o3⟩ := operation2S hS g2 e2 hv
            rw [o1, o2, Option.bind_some, Option.bind_some]
            rcases o3 with ⟨rfl, rfl⟩ | ⟨ho, rfl, hlt⟩
            · exact ⟨.inr (true, ⟨l, (a3 : Int), e2⟩), rfl, ⟨true, a3, e2, rfl, g1, g2, g3, g4, g5⟩, rfl⟩
            · have ho' : ¬ (o == 0) = true := by simpa using ho
              dsimp only
              rw [if_neg ho', if_neg ho', hwk]
              obtain ⟨b4, a4, e4, k1, k2, k3⟩ := IB (k + 1) (a2 + 1) e2 (by omega) (by omega) (by omega) g3 (by omega)
              have k1' : expr_parser_binary_W.expr_parser_binary ⟨l, ((a2 + 1 : Nat) : Int), e2⟩ ((k + 1 : Nat) : Int) = _ := k1
              have k2' : expr_parser_binary_W.expr_parser_binary ⟨m, ((a2 + 1 + d : Nat) : Int), e2⟩ ((k + 1 : Nat) : Int) = _ := k2
              rw [k1', k2', Option.bind_some, Option.bind_some]
              have t1 := k3.le
              have t2 := k3.ll
              have t3 := k3.few
              have t4 := k3.mon
              cases b4
              · exact ⟨_, rfl, ⟨false, a4, e4, rfl, by omega, t2, k3.wf, by omega, by omega⟩, rfl⟩
              · simp only [Bool.not_true, Bool.false_eq_true, if_false]
                have w1 : IntKind.i64.wrap ((e2.length : Int) - 1) = (e2.length : Int) - 1 := w64 (by omega) (by omega)
                have w2 : IntKind.i64.wrap ((e4.length : Int) - 1) = (e4.length : Int) - 1 := w64 (by omega) (by omega)
                rw [add_eq (by omega), add_eq (by omega), Option.bind_some, Option.bind_some, w1, w2]
                simp only [Bool.not_true, Bool.false_eq_true, if_false]
                have hwf4 : WF (e4 ++ [ExprNode.mk o (ValValue.mk 0 0 []) [] ((e2.length : Int) - 1) ((e4.length : Int) - 1)]) := k3.wf.snoc (fun _ => by simp only; omega) (fun _ => by simp only; omega)
                by_cases hon : lvs[k].once = true
                · rw [if_pos hon, if_pos hon]
                  exact ⟨_, rfl, ⟨true, a4, _, rfl, by omega, t2, hwf4, by simp; omega, by simp; omega⟩, rfl⟩
                · rw [if_neg hon, if_neg hon]
                  refine ⟨_, rfl, ⟨⟨a4, _, rfl, by omega, t2, hwf4, by simp; omega, by simp; omega⟩, ?_⟩, rfl⟩
                  show l.length - (a4 : Int).toNat < l.length - (a2 : Int).toNat
                  omega) (s := (l, (a1 : Int), e1)) ⟨a1, e1, rfl, Nat.le_refl _, s1, s3, Nat.le_refl _, Nat.le_refl _⟩
          exact ⟨b', a', e', hr1, hr2, ⟨by omega, q2, q3, by omega, by omega, fun _ => ⟨by omega, by omega⟩⟩⟩
    · -- unary
      intro a e ha he hwf hN
      rw [expr_parser_unary_eq, expr_parser_unary_eq]
      unfold expr_parser_unary_F
      rcases take2S hS ha e (w := [110, 111, 116]) (by simp) with ⟨t1, t2, t3⟩ | ⟨t1, t2⟩
      · rw [t1, t2, Option.bind_some, Option.bind_some]
        simp only [if_true]
        exact one2S hS (Nat.lt_succ_self a) he (by omega) (IU (a + 1) e (by omega) (by omega) hwf (by omega))
      · rw [t1, t2, Option.bind_some, Option.bind_some]
        simp only [Bool.false_eq_true, if_false]
        rcases take2S hS ha e (w := [45]) (by simp) with ⟨u1, u2, u3⟩ | ⟨u1, u2⟩
        · rw [u1, u2, Option.bind_some, Option.bind_some]
          simp only [if_true]
          exact one2S hS (Nat.lt_succ_self a) he (by omega) (IU (a + 1) e (by omega) (by omega) hwf (by omega))
        · rw [u1, u2, Option.bind_some, Option.bind_some]
          simp only [Bool.false_eq_true, if_false]
          obtain ⟨b, a', e', h1, h2, st⟩ := IA a e ha he hwf (by omega)
          show OutS l m d a e ((expr_parser_atom ⟨l, (a : Int), e⟩).bind _) ((expr_parser_atom ⟨m, ((a + d : Nat) : Int), e⟩).bind _)
          rw [h1, h2, Option.bind_some, Option.bind_some]
          exact ⟨b, a', e', rfl, rfl, st⟩
    · -- atom
      intro a e ha he hwf hN
      rw [expr_parser_atom_eq, expr_parser_atom_eq]
      unfold expr_parser_atom_F
      rw [next_eq, next_eq, Option.bind_some, Option.bind_some]
      have hw1 : IntKind.i64.wrap ((a : Int) + 1) = ((a + 1 : Nat) : Int) := w64 (by omega) (by omega)
      have hw2 : IntKind.i64.wrap (((a + d : Nat) : Int) + 1) = ((a + 1 + d : Nat) : Int) := by rw [w64 (by omega) (by omega)]; omega
      simp only [hw1, hw2]
      obtain ⟨c3, c3'⟩ := kind_sameS hS ha (k := 3) (by omega) (by omega)
      obtain ⟨c4, c4'⟩ := kind_sameS hS ha (k := 4) (by omega) (by omega)
      obtain ⟨c6, c6'⟩ := is_sameS hS ha (ws := [[116, 114, 117, 101], [102, 97, 108, 115, 101]]) (by simp)
      rw [c3, c4, is_eq _ _ (by simp), is_eq _ _ (by simp), Option.bind_some, Option.bind_some, c6]
      by_cases h3 : ((nx l a).Kind == 3) = true
      · rw [if_pos h3, if_pos h3, (hS.tok a (c3' h3)).2.2]
        exact leaf2S hS (c3' h3) he hwf
      · rw [if_neg h3, if_neg h3]
        by_cases h4 : ((nx l a).Kind == 4) = true
        · rw [if_pos h4, if_pos h4, (hS.tok a (c4' h4)).2.1]
          exact leaf2S hS (c4' h4) he hwf
        · rw [if_neg h4, if_neg h4]
          by_cases h6 : isB (nx l a) [[116, 114, 117, 101], [102, 97, 108, 115, 101]] = true
          · rw [if_pos h6, if_pos h6, (hS.tok a (c6' h6)).2.1]
            cases hb : (nx l a).Text == [116, 114, 117, 101]
            · exact leaf2S hS (c6' h6) he hwf
            · exact leaf2S hS (c6' h6) he hwf
          · rw [if_neg h6, if_neg h6]
            rcases take2S hS ha e (w := [105, 110]) (by simp) with ⟨t1, t2, t3⟩ | ⟨t1, t2⟩
            · rw [t1, t2, Option.bind_some, Option.bind_some]
              simp only [if_true]
              rcases take2S hS (show a + 1 ≤ l.length by omega) e (w := [40]) (by simp) with ⟨u1, u2, u3⟩ | ⟨u1, u2⟩
              · rw [u1, u2, Option.bind_some, Option.bind_some]
                simp only [if_true]
                exact closed2S hS (show a ≤ a + 1 + 1 by omega) (name2S hS (by omega) (by omega) hwf (by omega))
              · rw [u1, u2, Option.bind_some, Option.bind_some]
                exact ⟨false, a + 1, e, rfl, rfl, Step.stay (by omega) (by omega) hwf⟩
            · rw [t1, t2, Option.bind_some, Option.bind_some]
              simp only [Bool.false_eq_true, if_false]
              rcases take2S hS ha e (w := [40]) (by simp) with ⟨u1, u2, u3⟩ | ⟨u1, u2⟩
              · rw [u1, u2, Option.bind_some, Option.bind_some]
                simp only [if_true]
                exact closed2S hS (show a ≤ a + 1 by omega) (IB 0 (a + 1) e (by omega) (by omega) (by omega) hwf (by omega))
              · rw [u1, u2, Option.bind_some, Option.bind_some]
                simp only [Bool.false_eq_true, if_false]
                obtain ⟨b, a', e', h1, h2, st⟩ := name2S hS ha he hwf (op := 16) (by omega)
                rw [h1, h2, Option.bind_some, Option.bind_some]
                exact ⟨b, a', e', rfl, rfl, st⟩
end
end Go.Proofs.YtilmjbljkkbakaaDoor
/-! Acts over plain data: on tokens that stand further behind, or ahead of a semicolon. -/
namespace Go.Proofs.YtilmjbljkkbakaaDoor
open Go.Wv
set_option linter.unusedSimpArgs false
set_option linter.unusedVariables false
set_option linter.unusedSectionVars false

/-- the first error is kept -/
def er (e f : Int) : Int := if e = 0 then f else e
section
variable {l m : List TokToken} {d : Nat} (hS : Sim l m d)
include hS

theorem parseS {a : Nat} (ha : a ≤ l.length) : ∃ (x : List ExprNode) (a' : Nat) (e : Int), expr_Parse l (a : Int) = some (x, (a' : Int), e) ∧ x.length ≤ 1000 ∧ (e ≠ 0 → expr_Parse m ((a + d : Nat) : Int) = some (x, (a' : Int), e)) ∧ (e = 0 → expr_Parse m ((a + d : Nat) : Int) = some (x, ((a' + d : Nat) : Int), 0) ∧ a ≤ a' ∧ a' ≤ l.length) := by
  obtain ⟨hln, hsh⟩ := Sim.lens hS
  obtain ⟨b, a', e', h1, h2, st⟩ := (parse_recS hS ((l.length - a) * 16 + 10)).1 0 a [] (by omega) ha (by simp) WF.nil (by omega)
  have hfew := st.few
  have hll := st.ll
  have hle := st.le
  simp at hfew
  obtain ⟨z, hz⟩ := size_ok (e := e') (by omega) st.wf
  have h1 : expr_parser_binary ⟨l, (a : Int), ([] : List ExprNode)⟩ 0 = _ := h1
  have h2 : expr_parser_binary ⟨m, ((a + d : Nat) : Int), ([] : List ExprNode)⟩ 0 = _ := h2
  have key : ∀ (x : List TokToken) (i q : Nat), i ≤ x.length → expr_parser_binary ⟨x, (i : Int), ([] : List ExprNode)⟩ 0 = some (b, ⟨x, (q : Int), e'⟩) → expr_Parse x (i : Int) = if b then (if (z != 0) then some ([], 0, z) else some (e', (q : Int), 0)) else some ([], 0, 11) := by
    intro x i q hi hx
    unfold expr_Parse
    rw [if_neg (by omega), if_neg (by omega), hx, Option.bind_some]
    cases b
    · rfl
    · simp only [Bool.not_true, Bool.false_eq_true, if_false, if_true]
      rw [hz, Option.bind_some]
  rw [key l a a' ha h1, key m (a + d) (a' + d) (by omega) h2]
  cases b
  · exact ⟨_, 0, _, rfl, by simp, fun _ => rfl, fun h => by omega⟩
  · simp only [if_true]
    by_cases h : (z != 0) = true
    · rw [if_pos h, if_pos h]; exact ⟨_, 0, _, rfl, by simp, fun _ => rfl, fun h0 => by subst h0; simp at h⟩
    · rw [if_neg h, if_neg h]; exact ⟨_, _, _, rfl, by omega, fun h0 => absurd rfl h0, fun _ => ⟨rfl, hle, hll⟩⟩

/-- What a method of the reader does on both: the same, further behind. -/
def ROut {α : Type} (l m : List TokToken) (d a : Nat) (x y : Option (α × ActReader)) (P : α → Prop) : Prop :=
  ∃ (v : α) (a' : Nat) (e' : Int), x = some (v, ⟨l, (a' : Int), e'⟩) ∧ y = some (v, ⟨m, ((a' + d : Nat) : Int), e'⟩) ∧ a ≤ a' ∧ a' ≤ l.length ∧ P v

omit hS in
theorem nx_get {x : List TokToken} {a : Nat} (h : a < x.length) : idx x (a : Int) = some (nx x a) := by
  rw [idx_nat, nx, List.getElem?_eq_getElem h]; rfl

theorem rtake {a : Nat} (ha : a ≤ l.length) (e : Int) {w : List UInt8} (hw : w ≠ [59]) : ROut l m d a (act_reader_take ⟨l, (a : Int), e⟩ w) (act_reader_take ⟨m, ((a + d : Nat) : Int), e⟩ w) fun _ => True := by
  obtain ⟨hln, hsh⟩ := Sim.lens hS
  obtain ⟨h1, h2⟩ := is_sameS hS ha (ws := [w]) (by simpa using hw)
  have hw1 : IntKind.i64.wrap ((a : Int) + 1) = ((a + 1 : Nat) : Int) := w64 (by omega) (by omega)
  have hw2 : IntKind.i64.wrap (((a + d : Nat) : Int) + 1) = ((a + 1 + d : Nat) : Int) := by rw [w64 (by omega) (by omega)]; omega
  have no : ROut l m d a (some (false, (⟨l, (a : Int), e⟩ : ActReader))) (some (false, ⟨m, ((a + d : Nat) : Int), e⟩)) fun _ => True := ⟨false, a, e, rfl, rfl, Nat.le_refl _, ha, trivial⟩
  unfold act_reader_take
  simp only
  by_cases h : a < l.length
  · rw [if_pos (by omega), if_pos (by omega), nx_get h, nx_get (show a + d < m.length by omega), Option.bind_some, Option.bind_some, is_eq _ _ (by simp), is_eq _ _ (by simp), Option.bind_some, Option.bind_some, h1]
    by_cases hb : isB (nx l a) [w] = true
    · rw [if_pos hb, if_pos hb, hw1, hw2]
      exact ⟨true, a + 1, e, rfl, rfl, by omega, by omega, trivial⟩
    · rw [if_neg hb, if_neg hb]; exact no
  · rw [if_neg (by omega)]
    by_cases h' : a + d < m.length
    · rw [if_pos (by omega), nx_get h', Option.bind_some, is_eq _ _ (by simp), Option.bind_some, h1]
      rw [if_neg (fun hb => h (h2 hb))]
      exact no
    · rw [if_neg (by omega)]; exact no
omit hS in
theorem rfail1 (x : List TokToken) (a e f : Int) : act_reader_fail ⟨x, a, e⟩ f = some ⟨x, a, er e f⟩ := by
  unfold act_reader_fail er
  by_cases h : e = 0
  · subst h; rfl
  · rw [if_neg (by simpa using h), if_neg h]
theorem rfail {a : Nat} (e f : Int) : act_reader_fail ⟨l, (a : Int), e⟩ f = some ⟨l, (a : Int), er e f⟩ ∧ act_reader_fail ⟨m, ((a + d : Nat) : Int), e⟩ f = some ⟨m, ((a + d : Nat) : Int), er e f⟩ := ⟨rfail1 _ _ _ _, rfail1 _ _ _ _⟩
theorem rexpr {a : Nat} (ha : a ≤ l.length) (e : Int) : ROut l m d a (act_reader_expr ⟨l, (a : Int), e⟩) (act_reader_expr ⟨m, ((a + d : Nat) : Int), e⟩) fun x => x.length ≤ 1000 := by
  unfold act_reader_expr
  obtain ⟨x, a', z, h1, hx, h2, h3⟩ := parseS hS ha
  simp only
  rw [h1, Option.bind_some]
  by_cases hz : z = 0
  · subst hz
    obtain ⟨h4, h5, h6⟩ := h3 rfl
    rw [h4, Option.bind_some, if_neg (by simp), if_neg (by simp)]
    exact ⟨x, a', e, rfl, rfl, h5, h6, hx⟩
  · rw [h2 hz, Option.bind_some]
    obtain ⟨f1, f2⟩ := rfail hS (a := a) e z
    simp only [bne_iff_ne, ne_eq, hz, not_false_eq_true, if_true]
    rw [f1, f2, Option.bind_some, Option.bind_some]
    exact ⟨[], a, _, rfl, rfl, Nat.le_refl _, ha, by simp⟩
theorem rname {a : Nat} (ha : a ≤ l.length) (e : Int) (ev : Bool) : ROut l m d a (act_reader_name ⟨l, (a : Int), e⟩ ev) (act_reader_name ⟨m, ((a + d : Nat) : Int), e⟩ ev) fun _ => True := by
  obtain ⟨hln, hsh⟩ := Sim.lens hS
  have hw1 : IntKind.i64.wrap ((a : Int) + 1) = ((a + 1 : Nat) : Int) := w64 (by omega) (by omega)
  have hw2 : IntKind.i64.wrap (((a + d : Nat) : Int) + 1) = ((a + 1 + d : Nat) : Int) := by rw [w64 (by omega) (by omega)]; omega
  obtain ⟨f1, f2⟩ := rfail hS (a := a) e 11
  have no : ROut l m d a (some (([] : List UInt8), (⟨l, (a : Int), er e 11⟩ : ActReader))) (some ([], ⟨m, ((a + d : Nat) : Int), er e 11⟩)) fun _ => True := ⟨[], a, _, rfl, rfl, Nat.le_refl _, ha, trivial⟩
  unfold act_reader_name
  simp only [f1, f2, Option.bind_some, hw1, hw2]
  by_cases h : a < l.length
  · obtain ⟨t1, t2, _⟩ := hS.tok a h
    rw [if_neg (by omega), if_neg (by omega), nx_get h, nx_get (show a + d < m.length by omega), Option.bind_some, Option.bind_some, t1, t2]
    obtain ⟨b, hb⟩ := means_some (nx l a).Text
    have yes : ROut l m d a (some ((nx l a).Text, (⟨l, ((a + 1 : Nat) : Int), e⟩ : ActReader))) (some ((nx l a).Text, ⟨m, ((a + 1 + d : Nat) : Int), e⟩)) fun _ => True := ⟨_, a + 1, _, rfl, rfl, by omega, by omega, trivial⟩
    rw [hb]
    simp only [Option.bind_some]
    split
    · split
      · exact no
      · split
        · split
          · exact no
          · exact yes
        · exact no
    · split
      · exact no
      · exact yes
  · rw [if_pos (by omega)]
    by_cases h' : a + d < m.length
    · obtain rfl : a = l.length := by omega
      rcases hS.fin with h1 | ⟨_, h1, _⟩
      · omega
      · rw [if_neg (by omega), nx_get h', Option.bind_some, h1]
        rw [if_pos (by decide), if_pos (by decide)]
        exact no
    · rw [if_pos (by omega)]; exact no
theorem rnumber {a : Nat} (ha : a ≤ l.length) (e : Int) : ROut l m d a (act_reader_number ⟨l, (a : Int), e⟩) (act_reader_number ⟨m, ((a + d : Nat) : Int), e⟩) fun _ => True := by
  obtain ⟨hln, hsh⟩ := Sim.lens hS
  have hw1 : IntKind.i64.wrap ((a : Int) + 1) = ((a + 1 : Nat) : Int) := w64 (by omega) (by omega)
  have hw2 : IntKind.i64.wrap (((a + d : Nat) : Int) + 1) = ((a + 1 + d : Nat) : Int) := by rw [w64 (by omega) (by omega)]; omega
  obtain ⟨f1, f2⟩ := rfail hS (a := a) e 11
  obtain ⟨f3, f4⟩ := rfail hS (a := a) e 10
  have no : ROut l m d a (some ((0 : Int), (⟨l, (a : Int), er e 11⟩ : ActReader))) (some (0, ⟨m, ((a + d : Nat) : Int), er e 11⟩)) fun _ => True := ⟨0, a, _, rfl, rfl, Nat.le_refl _, ha, trivial⟩
  unfold act_reader_number
  simp only [f1, f2, f3, f4, Option.bind_some, hw1, hw2]
  by_cases h : a < l.length
  · obtain ⟨t1, _, t3⟩ := hS.tok a h
    rw [if_neg (by omega), if_neg (by omega), nx_get h, nx_get (show a + d < m.length by omega), Option.bind_some, Option.bind_some, t1, t3]
    split
    · exact no
    · split
      · exact ⟨_, a + 1, _, rfl, rfl, by omega, by omega, trivial⟩
      · exact ⟨_, a + 1, _, rfl, rfl, by omega, by omega, trivial⟩
  · rw [if_pos (by omega)]
    by_cases h' : a + d < m.length
    · obtain rfl : a = l.length := by omega
      rcases hS.fin with h1 | ⟨_, h1, _⟩
      · omega
      · rw [if_neg (by omega), nx_get h', Option.bind_some, h1]
        rw [if_pos (by decide)]
        exact no
    · rw [if_pos (by omega)]; exact no
omit hS in
theorem word_of (k : Nat) (h : k ≤ 5) : ∃ w, act_word (k : Int) = some w ∧ w ≠ [59] := by
  rcases k with _ | _ | _ | _ | _ | _ | k
  · exact ⟨_, rfl, by decide⟩
  · exact ⟨_, rfl, by decide⟩
  · exact ⟨_, rfl, by decide⟩
  · exact ⟨_, rfl, by decide⟩
  · exact ⟨_, rfl, by decide⟩
  · exact ⟨_, rfl, by decide⟩
  · omega

/-- a part of act() on both -/
def JOut {α : Type} (l m : List TokToken) (d a : Nat) (x y : Option ((α × List TokToken × Int × Int) ⊕ (ActAct × ActReader))) (P : α → Prop) : Prop :=
  ∃ (v : α) (a' : Nat) (e' : Int), x = some (.inl (v, l, (a' : Int), e')) ∧ y = some (.inl (v, m, ((a' + d : Nat) : Int), e')) ∧ a ≤ a' ∧ a' ≤ l.length ∧ P v
omit hS in
theorem ROut.bind {α β : Type} {a a0 : Nat} {x y : Option (α × ActReader)} {P : α → Prop} {Q : β → Prop} {f g : α × ActReader → Option ((β × List TokToken × Int × Int) ⊕ (ActAct × ActReader))} (h : ROut l m d a x y P) (ha : a0 ≤ a)
    (hf : ∀ (v : α) (a' : Nat) (e' : Int), a ≤ a' → a' ≤ l.length → P v → JOut l m d a0 (f (v, ⟨l, (a' : Int), e'⟩)) (g (v, ⟨m, ((a' + d : Nat) : Int), e'⟩)) Q) : JOut l m d a0 (x.bind f) (y.bind g) Q := by
  obtain ⟨v, a', e', rfl, rfl, h1, h2, h3⟩ := h
  exact hf v a' e' h1 h2 h3
theorem j0_both {a : Nat} (ha : a ≤ l.length) : JOut l m d a (act_reader_act_j0 ⟨l, (a : Int), 0⟩) (act_reader_act_j0 ⟨m, ((a + d : Nat) : Int), 0⟩) fun x => x.length ≤ 1000 := by
  unfold act_reader_act_j0
  refine ROut.bind (rtake hS ha 0 (w := [105, 102]) (by decide)) (Nat.le_refl _) fun b a1 e1 h1 h2 _ => ?_
  cases b
  · exact ⟨[], a1, e1, rfl, rfl, h1, h2, by simp⟩
  · simp only [if_true]
    refine ROut.bind (rexpr hS h2 e1) h1 fun x a2 e2 h3 h4 hx => ?_
    simp only
    by_cases he : (e2 == 0) = true
    · rw [if_pos he, if_pos he]
      refine ROut.bind (rtake hS h4 e2 (w := [58]) (by decide)) (by omega) fun b a3 e3 h5 h6 _ => ?_
      cases b
      · simp only [Bool.false_eq_true, if_false]
        obtain ⟨f1, f2⟩ := rfail hS (a := a3) e3 11
        rw [f1, f2, Option.bind_some, Option.bind_some]
        exact ⟨x, a3, _, rfl, rfl, by omega, h6, hx⟩
      · exact ⟨x, a3, e3, rfl, rfl, by omega, h6, hx⟩
    · rw [if_neg he, if_neg he]
      exact ⟨x, a2, e2, rfl, rfl, by omega, h4, hx⟩
theorem j1_both {a : Nat} (ha : a ≤ l.length) (e : Int) (s : List ExprNode) : JOut l m d a (act_reader_act_j1 (s, l, (a : Int), e)) (act_reader_act_j1 (s, m, ((a + d : Nat) : Int), e)) fun _ => True := by
  obtain ⟨hln, hsh⟩ := Sim.lens hS
  unfold act_reader_act_j1 act_reader_act_l2
  obtain ⟨r, h1, ⟨kd, a', e', rfl, h3, h4⟩, h2⟩ := run2 (f := act_reader_act_l2_step) (g := act_reader_act_l2_step)
    (fun st : Int × Int × (List TokToken) × Int × Int => ∃ (k a1 : Nat) (kd e1 : Int), st = ((k : Int), kd, l, (a1 : Int), e1) ∧ k ≤ 6 ∧ a ≤ a1 ∧ a1 ≤ l.length)
    (fun r : (Int × (List TokToken) × Int × Int) ⊕ (ActAct × ActReader) => ∃ (kd : Int) (a' : Nat) (e' : Int), r = .inl (kd, l, (a' : Int), e') ∧ a ≤ a' ∧ a' ≤ l.length)
    (fun st => 6 - st.1.toNat) (fun st => (st.1, st.2.1, m, st.2.2.2.1 + d, st.2.2.2.2)) (fun r => match r with
      | .inl s => .inl (s.1, m, s.2.2.1 + d, s.2.2.2)
      | .inr r => .inr r) (by
      rintro _ ⟨k, a1, kd, e1, rfl, hk, h1, h2⟩
      unfold act_reader_act_l2_step
      simp only
      have had : ((a1 : Int) + (d : Int)) = ((a1 + d : Nat) : Int) := by omega
      rw [had]
      by_cases hk5 : k ≤ 5
      · have hw1 : IntKind.i64.wrap ((k : Int) + 1) = ((k + 1 : Nat) : Int) := w64 (by omega) (by omega)
        have hk5' : (k : Int) ≤ 5 := by omega
        rw [if_pos hk5', if_pos hk5', hw1]
        by_cases hkd : (kd == 0) = true
        · rw [if_pos hkd, if_pos hkd]
          by_cases he : (e1 == 0) = true
          · rw [if_pos he, if_pos he]
            obtain ⟨w, hwd, hne⟩ := word_of k hk5
            rw [hwd, Option.bind_some, Option.bind_some]
            obtain ⟨b, a2, e2, q1, q2, q3, q4, _⟩ := rtake hS h2 e1 hne
            rw [q1, q2, Option.bind_some, Option.bind_some]
            cases b
            · exact ⟨_, rfl, ⟨⟨k + 1, a2, kd, e2, rfl, by omega, by omega, q4⟩, by simp; omega⟩, rfl⟩
            · exact ⟨_, rfl, ⟨⟨k + 1, a2, (k : Int), e2, rfl, by omega, by omega, q4⟩, by simp; omega⟩, rfl⟩
          · rw [if_neg he, if_neg he]
            exact ⟨_, rfl, ⟨⟨k + 1, a1, kd, e1, rfl, by omega, h1, h2⟩, by simp; omega⟩, rfl⟩
        · rw [if_neg hkd, if_neg hkd]
          exact ⟨_, rfl, ⟨kd, a1, e1, rfl, h1, h2⟩, rfl⟩
      · have hk5' : ¬ (k : Int) ≤ 5 := by omega
        rw [if_neg hk5', if_neg hk5']
        exact ⟨_, rfl, ⟨kd, a1, e1, rfl, h1, h2⟩, rfl⟩) (s := (1, 0, l, (a : Int), e)) ⟨1, a, 0, e, rfl, by omega, Nat.le_refl _, ha⟩
  exact ⟨kd, a', e', h1, h2, h3, h4, trivial⟩
theorem j3_both {a : Nat} (ha : a ≤ l.length) (e kd : Int) : JOut l m d a (act_reader_act_j3 (kd, l, (a : Int), e)) (act_reader_act_j3 (kd, m, ((a + d : Nat) : Int), e)) fun _ => True := by
  have nm : ∀ ev, JOut l m d a ((act_reader_name ⟨l, (a : Int), e⟩ ev).bind fun r => some (.inl (r.1, r.2.l, r.2.at_, r.2.e))) ((act_reader_name ⟨m, ((a + d : Nat) : Int), e⟩ ev).bind fun r => some (.inl (r.1, r.2.l, r.2.at_, r.2.e))) fun _ => True := fun ev =>
    ROut.bind (rname hS ha e ev) (Nat.le_refl _) fun v a' e' h1 h2 _ => ⟨v, a', e', rfl, rfl, h1, h2, trivial⟩
  have no : JOut l m d a (some (.inl (([] : List UInt8), l, (a : Int), e))) (some (.inl ([], m, ((a + d : Nat) : Int), e))) fun _ => True := ⟨[], a, e, rfl, rfl, Nat.le_refl _, ha, trivial⟩
  obtain ⟨f1, f2⟩ := rfail hS (a := a) e 11
  unfold act_reader_act_j3
  simp only [f1, f2, Option.bind_some]
  repeat' (split; · first | exact no | exact nm _ | exact ⟨[], a, _, rfl, rfl, Nat.le_refl _, ha, trivial⟩)
  exact no
theorem j4_both {a : Nat} (ha : a ≤ l.length) (e kd : Int) (x1 x2 : List TokToken) (i1 i2 e1 e2 : Int) (nm : List UInt8) : JOut l m d a (act_reader_act_j4 (kd, x1, i1, e1) (nm, l, (a : Int), e)) (act_reader_act_j4 (kd, x2, i2, e2) (nm, m, ((a + d : Nat) : Int), e)) fun x => x.length ≤ 1000 := by
  have ex : JOut l m d a ((act_reader_expr ⟨l, (a : Int), e⟩).bind fun r => some (.inl (r.1, r.2.l, r.2.at_, r.2.e))) ((act_reader_expr ⟨m, ((a + d : Nat) : Int), e⟩).bind fun r => some (.inl (r.1, r.2.l, r.2.at_, r.2.e))) fun x => x.length ≤ 1000 :=
    ROut.bind (rexpr hS ha e) (Nat.le_refl _) fun v a' e' h1 h2 hx => ⟨v, a', e', rfl, rfl, h1, h2, hx⟩
  have no : JOut l m d a (some (.inl (([] : List ExprNode), l, (a : Int), e))) (some (.inl ([], m, ((a + d : Nat) : Int), e))) fun x => x.length ≤ 1000 := ⟨[], a, e, rfl, rfl, Nat.le_refl _, ha, by simp⟩
  unfold act_reader_act_j4
  simp only
  split
  · split
    · exact ex
    · split
      · exact ex
      · exact no
  · exact no
theorem act_both {a : Nat} (ha : a ≤ l.length) : ROut l m d a (act_reader_act ⟨l, (a : Int), 0⟩) (act_reader_act ⟨m, ((a + d : Nat) : Int), 0⟩) fun x => x.If.length ≤ 1000 ∧ x.X.length ≤ 1000 := by
  unfold act_reader_act
  obtain ⟨v1, a1, e1, p1, q1, r1, s1, b1⟩ := j0_both hS ha
  rw [p1, q1, jn_inl, jn_inl]
  obtain ⟨v2, a2, e2, p2, q2, r2, s2, _⟩ := j1_both hS s1 e1 v1
  rw [p2, q2, jn_inl, jn_inl]
  obtain ⟨v3, a3, e3, p3, q3, r3, s3, _⟩ := j3_both hS s2 e2 v2
  rw [p3, q3, jn_inl, jn_inl]
  obtain ⟨v4, a4, e4, p4, q4, r4, s4, b4⟩ := j4_both hS s3 e3 v2 l m (a2 : Int) ((a2 + d : Nat) : Int) e2 e2 v3
  rw [p4, q4, jn_inl, jn_inl]
  simp only
  have plain : ROut l m d a (some ((⟨v2, v1, v3, v4, 0⟩ : ActAct), (⟨l, (a4 : Int), e4⟩ : ActReader))) (some (⟨v2, v1, v3, v4, 0⟩, ⟨m, ((a4 + d : Nat) : Int), e4⟩)) fun x => x.If.length ≤ 1000 ∧ x.X.length ≤ 1000 := ⟨_, a4, e4, rfl, rfl, by omega, s4, b1, b4⟩
  split
  · split
    · obtain ⟨v5, a5, e5, p5, q5, r5, s5, _⟩ := rnumber hS s4 e4
      rw [p5, q5, Option.bind_some, Option.bind_some]
      exact ⟨_, a5, e5, rfl, rfl, by omega, s5, b1, b4⟩
    · exact plain
  · exact plain
end
end Go.Proofs.YtilmjbljkkbakaaDoor
/-! The lexer over plain data: with something ahead of a text, its tokens are the same, further behind. -/
namespace Go.Proofs.YtilmjbljkkbakaaDoor
open Go.Wv
set_option linter.unusedSimpArgs false
set_option linter.unusedVariables false
set_option linter.unusedSectionVars false

section
variable {pre t : List UInt8}
theorem drop_pre (i : Nat) : (pre ++ t).drop (pre.length + i) = t.drop i := List.drop_length_add_append i
theorem get_pre (i : Nat) : (pre ++ t)[pre.length + i]? = t[i]? := by
  rw [List.getElem?_append_right (by omega)]; congr 1; omega
theorem scan_pre (p : UInt8 → Bool) (i : Nat) : scan p (pre ++ t) (pre.length + i) = pre.length + scan p t i := by
  unfold scan; rw [drop_pre]; omega
theorem piece_pre (p : UInt8 → Bool) (i : Nat) : piece p (pre ++ t) (pre.length + i) = piece p t i := by
  unfold piece; rw [drop_pre, scan_pre]; congr 1; omega
end

/-- a token's answer, further behind -/
def back (pre t : List UInt8) (r : TokToken × Int × TokReader) : TokToken × Int × TokReader := (⟨r.1.Kind, r.1.Text, r.1.N, if r.1.Kind = 1 ∨ r.1.Kind = 2 then r.1.At + pre.length else r.1.At⟩, r.2.1, ⟨pre ++ t, r.2.2.at_ + pre.length⟩)
theorem back_other {pre t : List UInt8} {kd n e : Int} {tx : List UInt8} {st : TokReader} (h1 : kd ≠ 1) (h2 : kd ≠ 2) : back pre t (⟨kd, tx, n, 0⟩, e, st) = (⟨kd, tx, n, 0⟩, e, ⟨pre ++ t, st.at_ + pre.length⟩) := by
  simp [back, h1, h2]

section
variable {pre t : List UInt8} (hs : (pre ++ t).length ≤ 1000000)
include hs
theorem len_pre : pre.length + t.length ≤ 1000000 := by simpa using hs

theorem path_pre {i : Nat} (hi : i ≤ t.length) : ∃ r, tok_reader_path ⟨t, (i : Int)⟩ = some r ∧ tok_reader_path ⟨pre ++ t, ((pre.length + i : Nat) : Int)⟩ = some (back pre t r) := by
  have hl := len_pre hs
  have hj := scan_le wordB t hi
  have hpl := piece_le (p := wordB) hi
  unfold tok_reader_path
  rw [word_eq hi (by omega), word_eq (s := pre ++ t) (i := pre.length + i) (by simp; omega) (by omega), scan_pre, piece_pre, Option.bind_some, Option.bind_some]
  have hAt : ((pre.length + scan wordB t i : Nat) : Int) = ((scan wordB t i : Nat) : Int) + pre.length := by omega
  by_cases hlen : 16 < ((piece wordB t i).length : Int)
  · rw [if_pos hlen, if_pos hlen]
    exact ⟨_, rfl, by simp [back, hAt]⟩
  · rw [if_neg hlen, if_neg hlen]
    unfold tok_reader_path_l0
    obtain ⟨r, h1, _, h2⟩ := run2 (f := tok_reader_path_l0_step (piece wordB t i, ⟨t, ((scan wordB t i : Nat) : Int)⟩)) (g := tok_reader_path_l0_step (piece wordB t i, ⟨pre ++ t, ((pre.length + scan wordB t i : Nat) : Int)⟩))
      (fun st : Int × List UInt8 × List UInt8 × Int => (st.1 = 1 ∨ st.1 = 2) ∧ ∃ k : Nat, st.2.2 = (t, (k : Int)) ∧ k ≤ t.length ∧ st.2.1.length ≤ k) (fun _ => True) (fun st : Int × List UInt8 × List UInt8 × Int => t.length - st.2.2.2.toNat)
      (fun st : Int × List UInt8 × List UInt8 × Int => (st.1, st.2.1, pre ++ t, st.2.2.2 + pre.length)) (back pre t) (by
      rintro ⟨kd, tx, s', a⟩ ⟨hkd, k, he, hk, htx⟩
      simp only [Prod.mk.injEq] at he
      obtain ⟨rfl, rfl⟩ := he
      have htx : tx.length ≤ k := htx
      have hkd : kd = 1 ∨ kd = 2 := hkd
      unfold tok_reader_path_l0_step
      simp only
      have hw : IntKind.i64.wrap ((k : Int) + 1) = ((k + 1 : Nat) : Int) := w64 (by omega) (by omega)
      have hw' : IntKind.i64.wrap ((k : Int) + (pre.length : Int) + 1) = ((pre.length + (k + 1) : Nat) : Int) := by rw [w64 (by omega) (by omega)]; omega
      have hk' : (k : Int) + (pre.length : Int) = ((pre.length + k : Nat) : Int) := by omega
      rw [hw, hw', hk']
      have done : ∃ x, (if 32 < (tx.length : Int) then (some (.inr (TokToken.mk kd tx 0 ((scan wordB s' i : Nat) : Int), 15, TokReader.mk s' (k : Int))) : Option ((Int × (List UInt8) × (List UInt8) × Int) ⊕ (TokToken × Int × TokReader))) else some (.inr (TokToken.mk kd tx 0 ((scan wordB s' i : Nat) : Int), 0, TokReader.mk s' (k : Int)))) = some (.inr x) ∧
          (if 32 < (tx.length : Int) then (some (.inr (TokToken.mk kd tx 0 ((pre.length + scan wordB s' i : Nat) : Int), 15, TokReader.mk (pre ++ s') ((pre.length + k : Nat) : Int))) : Option ((Int × (List UInt8) × (List UInt8) × Int) ⊕ (TokToken × Int × TokReader))) else some (.inr (TokToken.mk kd tx 0 ((pre.length + scan wordB s' i : Nat) : Int), 0, TokReader.mk (pre ++ s') ((pre.length + k : Nat) : Int)))) = some (.inr (back pre s' x)) := by
        by_cases h32 : 32 < (tx.length : Int)
        · rw [if_pos h32, if_pos h32]; exact ⟨_, rfl, by simp [back, hAt, hkd, hk']⟩
        · rw [if_neg h32, if_neg h32]; exact ⟨_, rfl, by simp [back, hAt, hkd, hk']⟩
      obtain ⟨x, hx1, hx2⟩ := done
      have hlen2 : ((pre ++ s').length : Int) = (pre.length : Int) + s'.length := by simp
      by_cases hk1 : k + 1 < s'.length
      · have h1 : ((k + 1 : Nat) : Int) < (s'.length : Int) := by omega
        have h2 : ((pre.length + (k + 1) : Nat) : Int) < ((pre ++ s').length : Int) := by omega
        have e1 : idx s' (k : Int) = some s'[k] := by rw [idx_nat, List.getElem?_eq_getElem]
        have e2 : idx (pre ++ s') ((pre.length + k : Nat) : Int) = some s'[k] := by rw [idx_nat, get_pre, List.getElem?_eq_getElem]
        have e3 : idx s' ((k + 1 : Nat) : Int) = some s'[k + 1] := by rw [idx_nat, List.getElem?_eq_getElem]
        have e4 : idx (pre ++ s') ((pre.length + (k + 1) : Nat) : Int) = some s'[k + 1] := by rw [idx_nat, get_pre, List.getElem?_eq_getElem]
        rw [if_pos h1, if_pos h2, e1, e2, Option.bind_some, Option.bind_some]
        by_cases hdot : ((s'[k].toNat : Int) == 46) = true
        · rw [if_pos hdot, if_pos hdot, e3, e4, Option.bind_some, Option.bind_some, small_eq, Option.bind_some, Option.bind_some]
          by_cases hsm : smallB s'[k + 1] = true
          · rw [if_pos hsm, if_pos hsm, word_eq (by omega) (by omega), word_eq (s := pre ++ s') (i := pre.length + (k + 1)) (by simp; omega) (by omega), scan_pre, piece_pre, Option.bind_some, Option.bind_some]
            have hg := scan_ge wordB s' (k + 1)
            have hl := scan_le wordB s' (show k + 1 ≤ s'.length by omega)
            have hpl := piece_len wordB s' (k + 1)
            have hc1 : cat [46] (piece wordB s' (k + 1)) = some ([46] ++ piece wordB s' (k + 1)) := cat_ok (by simp; omega)
            have hc2 : cat tx ([46] ++ piece wordB s' (k + 1)) = some (tx ++ ([46] ++ piece wordB s' (k + 1))) := cat_ok (by simp; omega)
            have hsc : ((pre.length + scan wordB s' (k + 1) : Nat) : Int) = ((scan wordB s' (k + 1) : Nat) : Int) + pre.length := by omega
            simp only [hc1, hc2, Option.bind_some]
            by_cases h16 : 16 < ((piece wordB s' (k + 1)).length : Int)
            · rw [if_pos h16, if_pos h16]
              exact ⟨_, rfl, trivial, by simp [back, hAt, hsc]⟩
            · rw [if_neg h16, if_neg h16]
              refine ⟨_, rfl, ⟨⟨.inr rfl, scan wordB s' (k + 1), rfl, hl, ?_⟩, ?_⟩, by simp [hsc]⟩
              · simp; omega
              · simp; omega
          · rw [if_neg hsm, if_neg hsm]
            exact ⟨_, hx1, trivial, hx2⟩
        · rw [if_neg hdot, if_neg hdot]
          exact ⟨_, hx1, trivial, hx2⟩
      · have h1 : ¬ ((k + 1 : Nat) : Int) < (s'.length : Int) := by omega
        have h2 : ¬ ((pre.length + (k + 1) : Nat) : Int) < ((pre ++ s').length : Int) := by omega
        rw [if_neg h1, if_neg h2]
        exact ⟨_, hx1, trivial, hx2⟩) (s := (1, piece wordB t i, t, ((scan wordB t i : Nat) : Int))) ⟨.inl rfl, scan wordB t i, rfl, hj, by show (piece wordB t i).length ≤ _; rw [piece_len]; omega⟩
    refine ⟨r, h1, ?_⟩
    rw [← h2, hAt]

theorem number_pre {i : Nat} (hi : i ≤ t.length) : ∃ r, tok_reader_number ⟨t, (i : Int)⟩ = some r ∧ tok_reader_number ⟨pre ++ t, ((pre.length + i : Nat) : Int)⟩ = some (back pre t r) := by
  have hl := len_pre hs
  have hj := scan_le digitB t hi
  have hpl := piece_le (p := digitB) hi
  have hAt : ((pre.length + scan digitB t i : Nat) : Int) = ((scan digitB t i : Nat) : Int) + pre.length := by omega
  unfold tok_reader_number
  rw [while33 hi (by omega), while33 (s := pre ++ t) (i := pre.length + i) (by simp; omega) (by omega), scan_pre, piece_pre, Option.bind_some, Option.bind_some]
  simp only
  have hb := byts_ok (s := piece digitB t i) (by unfold lim; omega)
  have fin : ∀ r : TokToken × Int × TokReader, r.2.2 = ⟨t, ((scan digitB t i : Nat) : Int)⟩ → r.1.At = 0 → (r.1.Kind = 0 ∨ r.1.Kind = 3) → (r.1, r.2.1, (⟨pre ++ t, ((pre.length + scan digitB t i : Nat) : Int)⟩ : TokReader)) = back pre t r := by
    rintro ⟨⟨kd, tx, n, a⟩, e, st⟩ h1 h2 h3
    simp only at h1 h2 h3
    subst h1 h2
    rw [back_other (by omega) (by omega), hAt]
  have numAt : ∀ (f : List UInt8 × TokReader → List Int → Int × Int → Option (TokToken × Int × TokReader)) (st : TokReader) (b : List Int), (f = tok_reader_number_l0 ∨ f = tok_reader_number_l1) → ∀ r, f (piece digitB t i, st) b (0, 0) = some r → r.1.At = 0 ∧ (r.1.Kind = 0 ∨ r.1.Kind = 3) := by
    intro f st b hf r hr
    have key : ∀ (s : Int × Int) r, run (tok_reader_number_l0_step (piece digitB t i, st) b) s = some r → r.1.At = 0 ∧ (r.1.Kind = 0 ∨ r.1.Kind = 3) := by
      intro s r h
      refine run_ind (fun _ => True) (fun r : TokToken × Int × TokReader => r.1.At = 0 ∧ (r.1.Kind = 0 ∨ r.1.Kind = 3)) (fun _ _ _ _ => trivial) ?_ trivial h
      intro s r _ h
      unfold tok_reader_number_l0_step at h
      split at h
      · obtain ⟨x, _, h⟩ := bind_some h
        obtain ⟨q, _, h⟩ := bind_some h
        split at h
        · cases h; exact ⟨rfl, .inl rfl⟩
        · cases h
      · cases h; exact ⟨rfl, .inr rfl⟩
    rcases hf with rfl | rfl
    · exact key _ r hr
    · exact key _ r hr
  by_cases h1 : 1 < ((piece digitB t i).length : Int)
  · rw [if_pos h1, if_pos h1]
    have h0 : 0 < (piece digitB t i).length := by omega
    have e0 : idx (piece digitB t i) 0 = some (piece digitB t i)[0] := by
      show idx _ ((0 : Nat) : Int) = _
      rw [idx_nat, List.getElem?_eq_getElem h0]
    rw [e0, Option.bind_some, Option.bind_some]
    split
    · exact ⟨_, rfl, by rw [back_other (by omega) (by omega), hAt]⟩
    · rw [hb, Option.bind_some, Option.bind_some]
      obtain ⟨r, hr1, hr2, hr3⟩ := num_l0 (piece digitB t i) ⟨t, (scan digitB t i : Nat)⟩ ⟨pre ++ t, ((pre.length + scan digitB t i : Nat) : Int)⟩ ((piece digitB t i).map fun b => (b.toNat : Int)) (by simp; omega)
      obtain ⟨q1, q2⟩ := numAt _ _ _ (.inl rfl) r hr1
      exact ⟨r, hr1, by rw [hr3, fin r hr2 q1 q2]⟩
  · rw [if_neg h1, if_neg h1, hb, Option.bind_some, Option.bind_some]
    obtain ⟨r, hr1, hr2, hr3⟩ := num_l1 (piece digitB t i) ⟨t, (scan digitB t i : Nat)⟩ ⟨pre ++ t, ((pre.length + scan digitB t i : Nat) : Int)⟩ ((piece digitB t i).map fun b => (b.toNat : Int)) (by simp; omega)
    obtain ⟨q1, q2⟩ := numAt _ _ _ (.inr rfl) r hr1
    exact ⟨r, hr1, by rw [hr3, fin r hr2 q1 q2]⟩

theorem quote_pre {i : Nat} (hi : i < t.length) : ∃ r, tok_reader_quote ⟨t, (i : Int)⟩ = some r ∧ tok_reader_quote ⟨pre ++ t, ((pre.length + i : Nat) : Int)⟩ = some (back pre t r) := by
  have hl := len_pre hs
  have hj := scan_le unquoteB t (show i + 1 ≤ t.length by omega)
  have hpl := piece_le (p := unquoteB) (show i + 1 ≤ t.length by omega)
  have hw : IntKind.i64.wrap ((i : Int) + 1) = ((i + 1 : Nat) : Int) := w64 (by omega) (by omega)
  have hw' : IntKind.i64.wrap (((pre.length + i : Nat) : Int) + 1) = ((pre.length + (i + 1) : Nat) : Int) := w64 (by omega) (by omega)
  have hlen2 : ((pre ++ t).length : Int) = (pre.length : Int) + t.length := by simp
  unfold tok_reader_quote
  simp only [hw, hw']
  rw [while60 (by omega) (by omega), while60 (s := pre ++ t) (i := pre.length + (i + 1)) (by simp; omega) (by omega), scan_pre, piece_pre, Option.bind_some, Option.bind_some]
  simp only
  have hAt : ((pre.length + scan unquoteB t (i + 1) : Nat) : Int) = ((scan unquoteB t (i + 1) : Nat) : Int) + pre.length := by omega
  have hb : ((((pre.length + scan unquoteB t (i + 1) : Nat) : Int)) == ((pre ++ t).length : Int)) = ((((scan unquoteB t (i + 1) : Nat) : Int)) == (t.length : Int)) := by
    rw [Bool.eq_iff_iff]; simp
  rw [hb]
  have hw2 : IntKind.i64.wrap (((scan unquoteB t (i + 1) : Nat) : Int) + 1) = ((scan unquoteB t (i + 1) : Nat) : Int) + 1 := w64 (by omega) (by omega)
  have hw3 : IntKind.i64.wrap (((pre.length + scan unquoteB t (i + 1) : Nat) : Int) + 1) = ((scan unquoteB t (i + 1) : Nat) : Int) + 1 + pre.length := by rw [w64 (by omega) (by omega)]; omega
  rw [hw2, hw3]
  split
  · exact ⟨_, rfl, by rw [back_other (by omega) (by omega), hAt]⟩
  · split
    · exact ⟨_, rfl, by rw [back_other (by omega) (by omega)]⟩
    · obtain ⟨b, hb⟩ := plain_ok (piece unquoteB t (i + 1)) (by omega)
      rw [hb, Option.bind_some, Option.bind_some]
      cases b
      · exact ⟨_, rfl, by rw [back_other (by omega) (by omega)]; rfl⟩
      · exact ⟨_, rfl, by rw [back_other (by omega) (by omega)]; rfl⟩

theorem sign_pre {i : Nat} (hi : i ≤ t.length) : ∃ r, tok_reader_sign ⟨t, (i : Int)⟩ = some r ∧ tok_reader_sign ⟨pre ++ t, ((pre.length + i : Nat) : Int)⟩ = some (back pre t r) := by
  have hl := len_pre hs
  unfold tok_reader_sign tok_reader_sign_l0
  obtain ⟨r, h1, _, h2⟩ := run2 (f := tok_reader_sign_l0_step ⟨t, (i : Int)⟩) (g := tok_reader_sign_l0_step ⟨pre ++ t, ((pre.length + i : Nat) : Int)⟩) (fun a => ∃ k : Nat, a = (k : Int) ∧ k ≤ 15) (fun _ => True) (fun a => 15 - a.toNat) (fun a => a) (back pre t) (by
    rintro a ⟨k, rfl, hk⟩
    unfold tok_reader_sign_l0_step
    simp only
    by_cases hlt : k < 15
    · have h1 : (k : Int) < 15 := by omega
      have hl : k < tab0.length := by show k < 15; exact hlt
      have e1 : idx tab0 (k : Int) = some tab0[k] := by rw [idx_nat, List.getElem?_eq_getElem hl]
      obtain ⟨hx, hpos⟩ := tab0_ok _ (List.getElem_mem hl)
      rw [if_pos h1, if_pos h1, e1, Option.bind_some, Option.bind_some, subF_ok hi, subF_ok (l := pre ++ t) (i := pre.length + i) (by simp; omega), Option.bind_some, Option.bind_some, hasPrefix_eq, hasPrefix_eq, drop_pre, Option.bind_some, Option.bind_some]
      by_cases hp : hpB (t.drop i) tab0[k] = true
      · rw [if_pos hp, if_pos hp]
        have hle : tab0[k].length ≤ (t.drop i).length := by
          unfold hpB at hp
          simp only [Bool.and_eq_true, decide_eq_true_eq] at hp
          exact hp.1
        simp at hle
        have hw : IntKind.i64.wrap ((i : Int) + (tab0[k].length : Int)) = (i : Int) + (tab0[k].length : Int) := w64 (by omega) (by omega)
        have hw' : IntKind.i64.wrap (((pre.length + i : Nat) : Int) + (tab0[k].length : Int)) = (i : Int) + (tab0[k].length : Int) + pre.length := by rw [w64 (by omega) (by omega)]; omega
        rw [hw, hw']
        exact ⟨_, rfl, trivial, by show _ = some (Sum.inr (back pre t _)); rw [back_other (by omega) (by omega)]⟩
      · rw [if_neg hp, if_neg hp]
        refine ⟨_, rfl, ⟨⟨k + 1, ?_, by omega⟩, ?_⟩, rfl⟩
        · rw [w64 (by omega) (by omega)]; rfl
        · rw [w64 (by omega) (by omega)]; omega
    · have h1 : ¬ (k : Int) < 15 := by omega
      rw [if_neg h1, if_neg h1]
      refine ⟨_, rfl, trivial, ?_⟩
      show _ = some (Sum.inr (back pre t _))
      rw [back_other (by omega) (by omega)]
      have : ((pre.length + i : Nat) : Int) = (i : Int) + pre.length := by omega
      rw [this]) (s := 0) ⟨0, rfl, by omega⟩
  exact ⟨r, h1, h2⟩

theorem token_pre {i : Nat} (hi : i < t.length) : ∃ r, tok_reader_token ⟨t, (i : Int)⟩ = some r ∧ tok_reader_token ⟨pre ++ t, ((pre.length + i : Nat) : Int)⟩ = some (back pre t r) := by
  have e1 : idx t (i : Int) = some t[i] := by rw [idx_nat, List.getElem?_eq_getElem hi]
  have e2 : idx (pre ++ t) ((pre.length + i : Nat) : Int) = some t[i] := by rw [idx_nat, get_pre, List.getElem?_eq_getElem hi]
  unfold tok_reader_token
  simp only
  rw [e1, e2, Option.bind_some, Option.bind_some, small_eq, Option.bind_some, Option.bind_some]
  by_cases h1 : smallB t[i] = true
  · rw [if_pos h1, if_pos h1]
    obtain ⟨r, hr1, hr3⟩ := path_pre hs (show i ≤ t.length by omega)
    rw [hr1, hr3, Option.bind_some, Option.bind_some]
    exact ⟨_, rfl, rfl⟩
  · rw [if_neg h1, if_neg h1, digit_eq, Option.bind_some, Option.bind_some]
    by_cases h2 : digitB t[i] = true
    · rw [if_pos h2, if_pos h2]
      obtain ⟨r, hr1, hr3⟩ := number_pre hs (show i ≤ t.length by omega)
      rw [hr1, hr3, Option.bind_some, Option.bind_some]
      exact ⟨_, rfl, rfl⟩
    · rw [if_neg h2, if_neg h2]
      by_cases h3 : ((t[i].toNat : Int) == 39) = true
      · rw [if_pos h3, if_pos h3]
        obtain ⟨r, hr1, hr3⟩ := quote_pre hs hi
        rw [hr1, hr3, Option.bind_some, Option.bind_some]
        exact ⟨_, rfl, rfl⟩
      · rw [if_neg h3, if_neg h3]
        obtain ⟨r, hr1, hr3⟩ := sign_pre hs (show i ≤ t.length by omega)
        rw [hr1, hr3, Option.bind_some, Option.bind_some]
        exact ⟨_, rfl, rfl⟩

/-- a token, further behind -/
def sh (k : Nat) (x : TokToken) : TokToken := ⟨x.Kind, x.Text, x.N, x.At + k⟩
/-- The tokens of a text are read with others ahead of it, if there aren't too many. -/
theorem lex_pre (out0 : List TokToken) : ∀ (n i : Nat) (out m : List TokToken) (z : Int), i ≤ t.length → out.length ≤ 120 → out0.length + out.length ≤ 120 → iter tok_Lex_l0_step n (out, t, (i : Int)) = some (m, 0, z) →
    tok_Lex_l0 (out0 ++ out.map (sh pre.length), pre ++ t, ((pre.length + i : Nat) : Int)) = some (out0 ++ m.map (sh pre.length), 0, 0) ∨ ∃ p, tok_Lex_l0 (out0 ++ out.map (sh pre.length), pre ++ t, ((pre.length + i : Nat) : Int)) = some ([], 13, p)
  | 0, _, _, _, _, _, _, _, h => by simp [iter] at h
  | n + 1, i, out, m, z, hi, ho, ho2, h => by
    have hl := len_pre hs
    simp only [iter] at h
    have hle := scan_le blankB t hi
    have hlen2 : ((pre ++ t).length : Int) = (pre.length : Int) + t.length := by simp
    have ho3 : (out0 ++ out.map (sh pre.length)).length ≤ 120 := by simp; omega
    have hstep : tok_Lex_l0 (out0 ++ out.map (sh pre.length), pre ++ t, ((pre.length + i : Nat) : Int)) = match tok_Lex_l0_step (out0 ++ out.map (sh pre.length), pre ++ t, ((pre.length + i : Nat) : Int)) with
        | none => none
        | some (.inl s') => tok_Lex_l0 s'
        | some (.inr r) => some r := by
      unfold tok_Lex_l0; rw [run_eq]
      cases tok_Lex_l0_step (out0 ++ out.map (sh pre.length), pre ++ t, ((pre.length + i : Nat) : Int)) with
      | none => rfl
      | some x => cases x <;> rfl
    rcases lex_step (by omega) hi ho with ⟨h1, h2⟩ | ⟨h1, ⟨e, p, h2, h3⟩ | ⟨h2, r, h3, ⟨j, hj1, hj2, hj3, hj4⟩, h5, h6⟩⟩
    · rw [h2] at h
      simp only [Option.some.injEq, Prod.mk.injEq] at h
      obtain ⟨rfl, _, _⟩ := h
      left
      rw [hstep]
      rcases lex_step (s := pre ++ t) (by omega) (i := pre.length + i) (by simp; omega) ho3 with ⟨g1, g2⟩ | ⟨g1, _⟩
      · rw [g2]
      · rw [scan_pre, h1] at g1; simp at g1
    · rw [h3] at h
      simp only [Option.some.injEq, Prod.mk.injEq] at h
      exact absurd h.2.1 h2
    · rw [h6, hj1] at h
      simp only at h
      have hsc : scan blankB (pre ++ t) (pre.length + i) = pre.length + scan blankB t i := scan_pre _ _
      obtain ⟨r', hr', hr2⟩ := token_pre hs h1
      rw [h3] at hr'
      obtain rfl := Option.some.inj hr'
      by_cases hfull : out0.length + out.length = 120
      · right
        refine ⟨((pre.length + scan blankB t i : Nat) : Int), ?_⟩
        rw [hstep]
        unfold tok_Lex_l0_step
        simp only
        rw [while18 (s := pre ++ t) (i := pre.length + i) (by simp; omega) (by omega), Option.bind_some]
        simp only
        rw [hsc, if_neg (by simp; omega), if_pos (by simp; omega)]
      · have hs2 : tok_Lex_l0_step (out0 ++ out.map (sh pre.length), pre ++ t, ((pre.length + i : Nat) : Int)) = some (.inl (out0 ++ (out ++ [(⟨r.1.Kind, r.1.Text, r.1.N, ((scan blankB t i : Nat) : Int)⟩ : TokToken)]).map (sh pre.length), pre ++ t, ((pre.length + j : Nat) : Int))) := by
          unfold tok_Lex_l0_step
          simp only
          rw [while18 (s := pre ++ t) (i := pre.length + i) (by simp; omega) (by omega), Option.bind_some]
          simp only
          have g3 : ¬ ((back pre t r).2.1 != 0) = true := by show ¬ (r.2.1 != 0) = true; simp [h5]
          rw [hsc, if_neg (by simp; omega), if_neg (by simp; omega), hr2, Option.bind_some, if_neg g3, app_ok (by simp [lim]; omega) (by simp [lim]; omega), Option.bind_some]
          have e1 : (back pre t r).2.2 = ⟨pre ++ t, ((pre.length + j : Nat) : Int)⟩ := by
            show (⟨pre ++ t, r.2.2.at_ + pre.length⟩ : TokReader) = _
            rw [hj1]
            simp only [TokReader.mk.injEq, true_and]
            omega
          have e2 : ((pre.length + scan blankB t i : Nat) : Int) = ((scan blankB t i : Nat) : Int) + pre.length := by omega
          rw [e1, e2, List.map_append, List.append_assoc]
          rfl
        rw [hstep, hs2]
        exact lex_pre out0 n j _ m z hj3 (by simp; omega) (by simp; omega) h
end
end Go.Proofs.YtilmjbljkkbakaaDoor
/-! The lexer over plain data: two rows with a semicolon between. -/
namespace Go.Proofs.YtilmjbljkkbakaaDoor
open Go.Wv
set_option linter.unusedSimpArgs false
set_option linter.unusedVariables false
set_option linter.unusedSectionVars false

theorem lex_run (st : LexS) : tok_Lex_l0 st = match tok_Lex_l0_step st with
    | none => none
    | some (.inl s') => tok_Lex_l0 s'
    | some (.inr r) => some r := by
  unfold tok_Lex_l0; rw [run_eq]
  cases tok_Lex_l0_step st with
  | none => rfl
  | some x => cases x <;> rfl
/-- from where the same blanks are left, the same is read -/
theorem lex_same {u : List UInt8} (hu : u.length ≤ 1000000) {i j : Nat} (hi : i ≤ u.length) (hj : j ≤ u.length) (h : scan blankB u i = scan blankB u j) (out : List TokToken) :
    tok_Lex_l0 (out, u, (i : Int)) = tok_Lex_l0 (out, u, (j : Int)) := by
  have : tok_Lex_l0_step (out, u, (i : Int)) = tok_Lex_l0_step (out, u, (j : Int)) := by
    unfold tok_Lex_l0_step
    simp only
    rw [while18 hi (by omega), while18 hj (by omega), Option.bind_some, Option.bind_some, h]
  rw [lex_run, lex_run (out, u, (j : Int)), this]

theorem semi_token (more : List UInt8) : tok_reader_token ⟨59 :: 32 :: more, ((0 : Nat) : Int)⟩ = some (⟨5, [59], 0, 0⟩, 0, ⟨59 :: 32 :: more, 1⟩) := by
  have step : ∀ k : Nat, k < 15 → tok_reader_sign_l0_step ⟨59 :: 32 :: more, ((0 : Nat) : Int)⟩ (k : Int) = (idx tab0 (k : Int)).bind fun x2 => if hpB (59 :: 32 :: more) x2 then some (.inr (⟨5, x2, 0, 0⟩, 0, ⟨59 :: 32 :: more, IntKind.i64.wrap (((0 : Nat) : Int) + (x2.length : Int))⟩)) else some (.inl (IntKind.i64.wrap ((k : Int) + 1))) := by
    intro k hk
    unfold tok_reader_sign_l0_step
    rw [if_pos (by omega)]
    simp only
    rw [subF_ok (by simp), List.drop_zero]
    congr 1
    funext x2
    rw [Option.bind_some, hasPrefix_eq, Option.bind_some]
  have t0 := step 0 (by omega)
  have t1 := step 1 (by omega)
  have t2 := step 2 (by omega)
  have t3 := step 3 (by omega)
  have t4 := step 4 (by omega)
  have t5 := step 5 (by omega)
  simp only [show idx tab0 ((0 : Nat) : Int) = some [60, 61] from rfl, show idx tab0 ((1 : Nat) : Int) = some [62, 61] from rfl, show idx tab0 ((2 : Nat) : Int) = some [33, 61] from rfl, show idx tab0 ((3 : Nat) : Int) = some [40] from rfl, show idx tab0 ((4 : Nat) : Int) = some [41] from rfl, show idx tab0 ((5 : Nat) : Int) = some [59] from rfl, Option.bind_some] at t0 t1 t2 t3 t4 t5
  rw [if_neg (by simp [hpB]), w64 (by omega) (by omega)] at t0 t1 t2 t3 t4
  rw [if_pos (by simp [hpB])] at t5
  have r0 := run_eq (tok_reader_sign_l0_step ⟨59 :: 32 :: more, ((0 : Nat) : Int)⟩) 0
  have r1 := run_eq (tok_reader_sign_l0_step ⟨59 :: 32 :: more, ((0 : Nat) : Int)⟩) 1
  have r2 := run_eq (tok_reader_sign_l0_step ⟨59 :: 32 :: more, ((0 : Nat) : Int)⟩) 2
  have r3 := run_eq (tok_reader_sign_l0_step ⟨59 :: 32 :: more, ((0 : Nat) : Int)⟩) 3
  have r4 := run_eq (tok_reader_sign_l0_step ⟨59 :: 32 :: more, ((0 : Nat) : Int)⟩) 4
  have r5 := run_eq (tok_reader_sign_l0_step ⟨59 :: 32 :: more, ((0 : Nat) : Int)⟩) 5
  rw [show tok_reader_sign_l0_step ⟨59 :: 32 :: more, ((0 : Nat) : Int)⟩ 0 = _ from t0] at r0
  rw [show tok_reader_sign_l0_step ⟨59 :: 32 :: more, ((0 : Nat) : Int)⟩ 1 = _ from t1] at r1
  rw [show tok_reader_sign_l0_step ⟨59 :: 32 :: more, ((0 : Nat) : Int)⟩ 2 = _ from t2] at r2
  rw [show tok_reader_sign_l0_step ⟨59 :: 32 :: more, ((0 : Nat) : Int)⟩ 3 = _ from t3] at r3
  rw [show tok_reader_sign_l0_step ⟨59 :: 32 :: more, ((0 : Nat) : Int)⟩ 4 = _ from t4] at r4
  rw [show tok_reader_sign_l0_step ⟨59 :: 32 :: more, ((0 : Nat) : Int)⟩ 5 = _ from t5] at r5
  have e := r0.trans (r1.trans (r2.trans (r3.trans (r4.trans r5))))
  unfold tok_reader_token
  simp only
  rw [show idx (59 :: 32 :: more) ((0 : Nat) : Int) = some 59 from rfl, Option.bind_some, small_eq, Option.bind_some, if_neg (by decide), digit_eq, Option.bind_some, if_neg (by decide), if_neg (by decide)]
  unfold tok_reader_sign tok_reader_sign_l0
  rw [e]; rfl

theorem lex_rows {s more : List UInt8} (hs : s.length ≤ 400000) (hm : more.length ≤ 400000) {l m both : List TokToken} {z z1 z2 : Int}
    (h1 : tok_Lex s = some (l, 0, z)) (h2 : tok_Lex more = some (m, 0, z1)) (h3 : tok_Lex (s ++ (semiB ++ more)) = some (both, 0, z2)) :
    ∃ t : TokToken, t.Kind = 5 ∧ t.Text = [59] ∧ both = l ++ t :: m.map (sh (s.length + 3)) ∧ both.length ≤ 120 := by
  obtain ⟨n, hn⟩ := run_some.1 (show run tok_Lex_l0_step ([], s, 0) = some (l, 0, z) from h1)
  obtain ⟨n2, hn2⟩ := run_some.1 (show run tok_Lex_l0_step ([], more, 0) = some (m, 0, z1) from h2)
  have hu : (semiB ++ more).head? = some 32 := rfl
  have hul : (semiB ++ more).length ≤ 1000000 := by simp [semiB]; omega
  obtain ⟨j, q1, q2, q3, q4⟩ := lex_ahead hu rfl (by omega) hul n 0 [] l z (Nat.zero_le _) (by simp) hn
  have h3' : tok_Lex_l0 (l, s ++ (semiB ++ more), (j : Int)) = some (both, 0, z2) := by rw [← q4]; exact h3
  have hlen : (s ++ (semiB ++ more)).length = s.length + 3 + more.length := by simp [semiB]; omega
  have hb120 := ((lex_total (s := s ++ (semiB ++ more)) (i := j) (out := l) (by omega) (by omega) q3).get h3').1
  have hsc : scan blankB (s ++ (semiB ++ more)) j = s.length + 1 := by
    have key : ∀ m : List UInt8, (m.takeWhile blankB).length = m.length → ((m ++ (semiB ++ more)).takeWhile blankB).length = m.length + 1 := by
      intro m
      induction m with
      | nil => intro _; simp [semiB, List.takeWhile_cons, blankB]
      | cons a m ih =>
        intro h
        rw [List.takeWhile_cons] at h
        rw [List.cons_append, List.takeWhile_cons]
        split
        · rename_i ha
          rw [if_pos ha] at h
          simp [ih (by simpa using h)]
        · rename_i ha
          rw [if_neg ha] at h
          simp at h
    unfold scan at q2 ⊢
    rw [List.drop_append_of_le_length q1, key]
    · simp; omega
    · simp; omega
  have hsplit : s ++ (semiB ++ more) = (s ++ [32]) ++ (59 :: 32 :: more) := by simp [semiB]
  have hsplit2 : s ++ (semiB ++ more) = (s ++ semiB) ++ more := by simp
  have hpl : (s ++ [32]).length = s.length + 1 := by simp
  have hpl2 : (s ++ semiB).length = s.length + 3 := by simp [semiB]
  -- the semicolon's token
  have htok : tok_reader_token ⟨s ++ (semiB ++ more), ((s.length + 1 : Nat) : Int)⟩ = some (⟨5, [59], 0, 0⟩, 0, ⟨s ++ (semiB ++ more), ((s.length + 2 : Nat) : Int)⟩) := by
    obtain ⟨r, g1, g2⟩ := token_pre (pre := s ++ [32]) (t := 59 :: 32 :: more) (by rw [← hsplit]; omega) (i := 0) (by simp)
    rw [semi_token] at g1
    obtain rfl := Option.some.inj g1
    rw [back_other (by omega) (by omega), ← hsplit, hpl, Nat.add_zero] at g2
    rw [g2]
    have : (1 : Int) + ((s.length + 1 : Nat) : Int) = ((s.length + 2 : Nat) : Int) := by omega
    rw [this]
  rcases lex_step (s := s ++ (semiB ++ more)) (by omega) (i := j) (by omega) q3 with ⟨g1, _⟩ | ⟨_, ⟨e, p, g2, g3⟩ | ⟨g2, r, g3, _, g5, g6⟩⟩
  · rw [hsc, hlen] at g1; omega
  · rw [lex_run, g3] at h3'
    simp only [Option.some.injEq, Prod.mk.injEq] at h3'
    exact absurd h3'.2.1 g2
  · rw [hsc] at g3 g6
    rw [htok] at g3
    obtain rfl := Option.some.inj g3
    rw [lex_run, g6] at h3'
    simp only at h3'
    -- the blank behind it
    have hbl : scan blankB (s ++ (semiB ++ more)) (s.length + 2) = scan blankB (s ++ (semiB ++ more)) (s.length + 3) := by
      refine (scan_step (c := 32) ?_).trans (if_pos rfl)
      rw [List.getElem?_append_right (by omega)]
      have : s.length + 2 - s.length = 2 := by omega
      rw [this]; rfl
    rw [lex_same (by omega) (by omega) (by omega) hbl] at h3'
    have h120 : l.length + 1 ≤ 120 := by
      have := (lex_total (s := s ++ (semiB ++ more)) (i := s.length + 3) (out := l ++ [(⟨5, [59], 0, ((s.length + 1 : Nat) : Int)⟩ : TokToken)]) (by omega) (by omega) (by simp; omega)).get h3'
      have hp := (this.2 rfl).length_le
      simp at hp
      have h1 : both.length ≤ 120 := this.1
      omega
    have hpre := lex_pre (pre := s ++ semiB) (t := more) (by rw [← hsplit2]; omega) (l ++ [(⟨5, [59], 0, ((s.length + 1 : Nat) : Int)⟩ : TokToken)]) n2 0 [] m z1 (Nat.zero_le _) (by simp) (by simp; omega) hn2
    rw [← hsplit2, hpl2, Nat.add_zero, List.map_nil, List.append_nil] at hpre
    rcases hpre with hp | ⟨p, hp⟩
    · have hp2 := hp.symm.trans h3'
      simp only [Option.some.injEq, Prod.mk.injEq] at hp2
      exact ⟨⟨5, [59], 0, ((s.length + 1 : Nat) : Int)⟩, rfl, rfl, by rw [← hp2.1]; simp, hb120⟩
    · have hp2 := hp.symm.trans h3'
      simp only [Option.some.injEq, Prod.mk.injEq] at hp2
      exact absurd hp2.2.1 (by omega)
end Go.Proofs.YtilmjbljkkbakaaDoor
/-! The law ActRows over plain data. -/
namespace Go.Proofs.YtilmjbljkkbakaaDoor
open Go.Wv
set_option linter.unusedSimpArgs false
set_option linter.unusedVariables false
set_option linter.unusedSectionVars false

def Small (x : ActAct) : Prop := x.If.length ≤ 1000 ∧ x.X.length ≤ 1000
abbrev TakeS : Type := List ActAct × Bool × List TokToken × Int × Int
theorem take_run (st : TakeS) : act_Take_l0 st = match act_Take_l0_step st with
    | none => none
    | some (.inl s') => act_Take_l0 s'
    | some (.inr r) => some r := by
  unfold act_Take_l0; rw [run_eq]
  cases act_Take_l0_step st with
  | none => rfl
  | some x => cases x <;> rfl
theorem semi_take {x : List TokToken} (hx : x.length ≤ 120) {a : Nat} (ha : a ≤ x.length) (e : Int) :
    act_reader_take ⟨x, (a : Int), e⟩ [59] = if a < x.length ∧ isB (nx x a) [[59]] = true then some (true, ⟨x, ((a + 1 : Nat) : Int), e⟩) else some (false, ⟨x, (a : Int), e⟩) := by
  have hw1 : IntKind.i64.wrap ((a : Int) + 1) = ((a + 1 : Nat) : Int) := w64 (by omega) (by omega)
  unfold act_reader_take
  simp only
  by_cases h : a < x.length
  · rw [if_pos (by omega), nx_get h, Option.bind_some, is_eq _ _ (by simp), Option.bind_some, hw1]
    by_cases hb : isB (nx x a) [[59]] = true
    · rw [if_pos hb, if_pos ⟨h, hb⟩]
    · rw [if_neg hb, if_neg (fun h => hb h.2)]
  · rw [if_neg (by omega), if_neg (fun h' => h h'.1)]

/-- one round, where an act is taken -/
theorem take_step {x : List TokToken} {out : List ActAct} (ho : out.length < 8) {a a' : Nat} {v : ActAct} (h : act_reader_act ⟨x, (a : Int), 0⟩ = some (v, ⟨x, (a' : Int), 0⟩)) (hx : x.length ≤ 120) (ha : a' ≤ x.length) :
    act_Take_l0_step (out, true, x, (a : Int), 0) = some (.inl (out ++ [v], decide (a' < x.length ∧ isB (nx x a') [[59]] = true), x, ((a' + (if a' < x.length ∧ isB (nx x a') [[59]] = true then 1 else 0) : Nat) : Int), 0)) := by
  unfold act_Take_l0_step
  simp only [if_true]
  rw [if_neg (by simp; omega), h, Option.bind_some]
  simp only
  rw [if_neg (by simp), app_ok (by simp [lim]; omega) (by simp [lim]; omega), Option.bind_some, semi_take hx ha]
  by_cases hc : a' < x.length ∧ isB (nx x a') [[59]] = true
  · rw [if_pos hc, if_pos hc, Option.bind_some]
    simp [hc]
  · rw [if_neg hc, if_neg hc, Option.bind_some]
    simp [hc]
theorem take_full {x : List TokToken} {out : List ActAct} (ho : out.length = 8) (a e : Int) : act_Take_l0_step (out, true, x, a, e) = some (.inr ([], 0, 13)) := by
  unfold act_Take_l0_step
  simp only [if_true]
  rw [if_pos (by simp [ho])]
theorem take_err {x : List TokToken} {out : List ActAct} (ho : out.length < 8) {a : Nat} {v : ActAct} {a' e' : Int} (h : act_reader_act ⟨x, (a : Int), 0⟩ = some (v, ⟨x, a', e'⟩)) (he : e' ≠ 0) :
    act_Take_l0_step (out, true, x, (a : Int), 0) = some (.inr ([], 0, e')) := by
  unfold act_Take_l0_step
  simp only [if_true]
  rw [if_neg (by simp; omega), h, Option.bind_some]
  simp only
  rw [if_pos (by simpa using he)]
theorem take_end {x : List TokToken} (out : List ActAct) (a e : Int) : act_Take_l0_step (out, false, x, a, e) = some (.inr (out, a, 0)) := by
  unfold act_Take_l0_step
  simp

/-- The first row's acts are taken, and the semicolon behind it. -/
theorem take_first {l m : List TokToken} (hS : Sim l m 0) (hsemi : l.length < m.length ∧ isB (nx m l.length) [[59]] = true) : ∀ (n a : Nat) (out acts : List ActAct), a ≤ l.length → out.length ≤ 8 → (∀ x ∈ out, Small x) →
    iter act_Take_l0_step n (out, true, l, (a : Int), 0) = some (acts, (l.length : Int), 0) →
    acts.length ≤ 8 ∧ (∀ x ∈ acts, Small x) ∧ act_Take_l0 (out, true, m, (a : Int), 0) = act_Take_l0 (acts, true, m, ((l.length + 1 : Nat) : Int), 0)
  | 0, _, _, _, _, _, _, h => by simp [iter] at h
  | n + 1, a, out, acts, ha, ho, hb, h => by
    obtain ⟨hln, hsh⟩ := Sim.lens hS
    simp only [iter] at h
    by_cases h8 : out.length = 8
    · rw [take_full h8] at h
      simp only [Option.some.injEq, Prod.mk.injEq] at h
      exact absurd h.2.2 (by omega)
    · obtain ⟨v, a', e', h1, h2, h3, h4, hv⟩ := act_both hS ha
      by_cases he : e' = 0
      · subst he
        rw [take_step (by omega) h1 (by omega) h4] at h
        simp only at h
        rw [Nat.add_zero] at h2
        have hstep := take_step (out := out) (by omega) h2 (by omega) (show a' + 0 ≤ m.length by omega)
        rw [take_run, hstep]
        simp only [Nat.add_zero]
        have hb' : ∀ x ∈ out ++ [v], Small x := by
          intro x hx
          rcases List.mem_append.1 hx with hx | hx
          · exact hb x hx
          · rw [List.mem_singleton] at hx; subst hx; exact hv
        by_cases hlt : a' < l.length
        · have hk : isB (nx m a') [[59]] = isB (nx l a') [[59]] := by
            obtain ⟨t1, t2, _⟩ := hS.tok a' hlt
            rw [Nat.add_zero] at t1 t2
            exact isB_congr hS t1 t2
          by_cases hc : isB (nx l a') [[59]] = true
          · have c1 : a' < l.length ∧ isB (nx l a') [[59]] = true := ⟨hlt, hc⟩
            have c2 : a' < m.length ∧ isB (nx m a') [[59]] = true := ⟨by omega, by rw [hk]; exact hc⟩
            simp only [c1, and_self, decide_true, if_true] at h
            simp only [c2, and_self, decide_true, if_true]
            exact take_first hS hsemi n (a' + 1) _ acts (by omega) (by simp; omega) hb' h
          · have c1 : ¬ (a' < l.length ∧ isB (nx l a') [[59]] = true) := fun h => hc h.2
            simp only [c1, decide_false, if_false, Nat.add_zero] at h
            cases n with
            | zero => simp [iter] at h
            | succ n =>
              simp only [iter, take_end] at h
              simp only [Option.some.injEq, Prod.mk.injEq] at h
              omega
        · obtain rfl : a' = l.length := by omega
          have c1 : ¬ (l.length < l.length ∧ isB (nx l l.length) [[59]] = true) := fun h => absurd h.1 (Nat.lt_irrefl _)
          simp only [c1, decide_false, if_false, Nat.add_zero] at h
          cases n with
          | zero => simp [iter] at h
          | succ n =>
            simp only [iter, take_end] at h
            simp only [Option.some.injEq, Prod.mk.injEq] at h
            obtain ⟨rfl, _, _⟩ := h
            simp only [hsemi, and_self, decide_true, if_true]
            exact ⟨by simp; omega, hb', by first | trivial | rfl⟩
      · rw [take_err (by omega) h1 he] at h
        simp only [Option.some.injEq, Prod.mk.injEq] at h
        exact absurd h.2.2 he

/-- The second row's acts are taken behind the first one's. -/
theorem take_second {m b : List TokToken} {d : Nat} (hS : Sim m b d) (hend : b.length = m.length + d) : ∀ (n a : Nat) (more : Bool) (out acts : List ActAct) (q : Int), a ≤ m.length → out.length ≤ 8 → (∀ x ∈ out, Small x) →
    iter act_Take_l0_step n (out, more, m, (a : Int), 0) = some (acts, q, 0) →
    out.length + more.toNat ≤ acts.length ∧ acts.length ≤ 8 ∧ (∀ x ∈ acts, Small x) ∧ 0 ≤ q ∧ q ≤ m.length ∧ ∀ first : List ActAct, first.length + out.length ≤ 8 →
      act_Take_l0 (first ++ out, more, b, ((a + d : Nat) : Int), 0) = if 8 < first.length + acts.length then some ([], 0, 13) else some (first ++ acts, q + d, 0)
  | 0, _, _, _, _, _, _, _, _, h => by simp [iter] at h
  | n + 1, a, more, out, acts, q, ha, ho, hb, h => by
    obtain ⟨hln, hsh⟩ := Sim.lens hS
    simp only [iter] at h
    cases more with
    | false =>
      rw [take_end] at h
      simp only [Option.some.injEq, Prod.mk.injEq] at h
      obtain ⟨rfl, rfl, _⟩ := h
      refine ⟨by simp, ho, hb, by omega, by omega, fun first hf => ?_⟩
      rw [take_run, take_end, if_neg (by omega)]
      simp
    | true =>
      by_cases h8 : out.length = 8
      · rw [take_full h8] at h
        simp only [Option.some.injEq, Prod.mk.injEq] at h
        exact absurd h.2.2 (by omega)
      · obtain ⟨v, a', e', h1, h2, h3, h4, hv⟩ := act_both hS ha
        by_cases he : e' = 0
        · subst he
          rw [take_step (by omega) h1 (by omega) h4] at h
          simp only at h
          have hb' : ∀ x ∈ out ++ [v], Small x := by
            intro x hx
            rcases List.mem_append.1 hx with hx | hx
            · exact hb x hx
            · rw [List.mem_singleton] at hx; subst hx; exact hv
          have hc : (a' + d < b.length ∧ isB (nx b (a' + d)) [[59]] = true) ↔ (a' < m.length ∧ isB (nx m a') [[59]] = true) := by
            by_cases hlt : a' < m.length
            · obtain ⟨t1, t2, _⟩ := hS.tok a' hlt
              rw [isB_congr hS t1 t2]
              exact ⟨fun h => ⟨hlt, h.2⟩, fun h => ⟨by omega, h.2⟩⟩
            · exact ⟨fun h => by omega, fun h => absurd h.1 hlt⟩
          obtain ⟨g1, g2, g3, g4, g5, g6⟩ := take_second hS hend n (a' + (if a' < m.length ∧ isB (nx m a') [[59]] = true then 1 else 0)) _ (out ++ [v]) acts q (by split <;> omega) (by simp; omega) hb' h
          simp only [List.length_append, List.length_cons, List.length_nil] at g1
          refine ⟨by simp; omega, g2, g3, g4, g5, fun first hf => ?_⟩
          by_cases hfull : first.length + out.length = 8
          · rw [take_run, take_full (by simp; omega), if_pos (by omega)]
          · rw [take_run, take_step (by simp; omega) h2 (by omega) (by omega)]
            simp only [hc, List.append_assoc]
            have e : a' + d + (if a' < m.length ∧ isB (nx m a') [[59]] = true then 1 else 0) = a' + (if a' < m.length ∧ isB (nx m a') [[59]] = true then 1 else 0) + d := by omega
            rw [e, ← g6 first (by simp; omega)]
        · rw [take_err (by omega) h1 he] at h
          simp only [Option.some.injEq, Prod.mk.injEq] at h
          exact absurd h.2.2 he

def cv6 (n : ExprNode) : Wref03N := ⟨n.Op, ⟨n.V.Kind, n.V.N, n.V.S⟩, n.Name, n.L, n.R⟩
def cvA (x : ActAct) : Wref06A := ⟨x.Kind, x.If.map cv6, x.Name, x.X.map cv6, x.N⟩
theorem nodes6_eq {e : List ExprNode} (he : e.length ≤ 1000) : wlaw06_nodes e = some (e.map cv6) := by
  have key : Ret (wlaw06_nodes e) fun r => r = e.map cv6 := by
    unfold wlaw06_nodes wlaw06_nodes_l0
    refine Ret.run (fun s : List Wref03N × Int => ∃ k : Nat, s = ((e.take k).map cv6, (k : Int)) ∧ k ≤ e.length) _ (fun s => e.length - s.2.toNat) ?_ ⟨0, rfl, Nat.zero_le _⟩
    rintro _ ⟨k, rfl, hk⟩
    unfold wlaw06_nodes_l0_step
    dsimp only
    refine Ret.ite (fun h => ?_) (fun h => ?_)
    · have hlt : k < e.length := by omega
      rw [idx_nat, List.getElem?_eq_getElem hlt, Option.bind_some, app_ok (by simp [lim]; omega) (by simp [lim]; omega), Option.bind_some]
      have hw1 : IntKind.i64.wrap ((k : Int) + 1) = ((k + 1 : Nat) : Int) := w64 (by omega) (by omega)
      rw [hw1]
      refine Ret.some ⟨⟨k + 1, ?_, by omega⟩, ?_⟩
      · rw [List.take_add_one, List.getElem?_eq_getElem hlt, List.map_append]; rfl
      · show e.length - (((k + 1 : Nat) : Int)).toNat < e.length - (k : Int).toNat; omega
    · refine Ret.some ?_
      rw [List.take_of_length_le (by omega)]
  obtain ⟨r, h, rfl⟩ := key
  exact h
theorem refs6_eq {e : List ActAct} (he : e.length ≤ 1000) (hb : ∀ x ∈ e, Small x) : wlaw06_refs e = some (e.map cvA) := by
  have key : Ret (wlaw06_refs e) fun r => r = e.map cvA := by
    unfold wlaw06_refs wlaw06_refs_l0
    refine Ret.run (fun s : List Wref06A × Int => ∃ k : Nat, s = ((e.take k).map cvA, (k : Int)) ∧ k ≤ e.length) _ (fun s => e.length - s.2.toNat) ?_ ⟨0, rfl, Nat.zero_le _⟩
    rintro _ ⟨k, rfl, hk⟩
    unfold wlaw06_refs_l0_step
    dsimp only
    refine Ret.ite (fun h => ?_) (fun h => ?_)
    · have hlt : k < e.length := by omega
      obtain ⟨b1, b2⟩ := hb _ (List.getElem_mem hlt)
      rw [idx_nat, List.getElem?_eq_getElem hlt, Option.bind_some, nodes6_eq b1, Option.bind_some, nodes6_eq b2, Option.bind_some, app_ok (by simp [lim]; omega) (by simp [lim]; omega), Option.bind_some]
      have hw1 : IntKind.i64.wrap ((k : Int) + 1) = ((k + 1 : Nat) : Int) := w64 (by omega) (by omega)
      rw [hw1]
      refine Ret.some ⟨⟨k + 1, ?_, by omega⟩, ?_⟩
      · rw [List.take_add_one, List.getElem?_eq_getElem hlt, List.map_append]; rfl
      · show e.length - (((k + 1 : Nat) : Int)).toNat < e.length - (k : Int).toNat; omega
    · refine Ret.some ?_
      rw [List.take_of_length_le (by omega)]
  obtain ⟨r, h, rfl⟩ := key
  exact h
theorem alike6_eq {e : List Wref03N} (he : e.length ≤ 1000) : wlaw06_alike e e = some true := by
  have key : Ret (wlaw06_alike e e) fun r => r = true := by
    unfold wlaw06_alike
    rw [if_neg (by simp)]
    unfold wlaw06_alike_l0
    refine Ret.run (fun s => ∃ k : Nat, s = (k : Int) ∧ k ≤ e.length) _ (fun s => e.length - s.toNat) ?_ ⟨0, rfl, Nat.zero_le _⟩
    rintro _ ⟨k, rfl, hk⟩
    unfold wlaw06_alike_l0_step
    refine Ret.ite (fun h => ?_) (fun h => Ret.some rfl)
    have hlt : k < e.length := by omega
    rw [idx_nat, List.getElem?_eq_getElem hlt, Option.bind_some, Option.bind_some, if_neg (by simp)]
    have hw1 : IntKind.i64.wrap ((k : Int) + 1) = ((k + 1 : Nat) : Int) := w64 (by omega) (by omega)
    rw [hw1]
    exact Ret.some ⟨⟨k + 1, rfl, by omega⟩, by omega⟩
  obtain ⟨r, h, rfl⟩ := key
  exact h
theorem same6_eq {e : List ActAct} (he : e.length ≤ 1000) (hb : ∀ x ∈ e, Small x) : wlaw06_same e (e.map cvA) = some true := by
  have key : Ret (wlaw06_same e (e.map cvA)) fun r => r = true := by
    unfold wlaw06_same
    rw [if_neg (by simp), refs6_eq he hb, Option.bind_some]
    unfold wlaw06_same_l0
    refine Ret.run (fun s => ∃ k : Nat, s = (k : Int) ∧ k ≤ e.length) _ (fun s => e.length - s.toNat) ?_ ⟨0, rfl, Nat.zero_le _⟩
    rintro _ ⟨k, rfl, hk⟩
    unfold wlaw06_same_l0_step
    refine Ret.ite (fun h => ?_) (fun h => Ret.some rfl)
    have hlt' : k < e.length := by simp at h; omega
    have hlt : k < (e.map cvA).length := by simpa using hlt'
    obtain ⟨b1, b2⟩ := hb _ (List.getElem_mem hlt')
    have hw1 : IntKind.i64.wrap ((k : Int) + 1) = ((k + 1 : Nat) : Int) := w64 (by omega) (by omega)
    have hx : (e.map cvA)[k] = cvA e[k] := by simp
    have i1 : (cvA e[k]).If.length ≤ 1000 := by show (e[k].If.map cv6).length ≤ 1000; simpa using b1
    have i2 : (cvA e[k]).X.length ≤ 1000 := by show (e[k].X.map cv6).length ≤ 1000; simpa using b2
    rw [idx_nat, List.getElem?_eq_getElem hlt, Option.bind_some, Option.bind_some, hx, if_neg (by simp), if_pos (by simp), if_neg (by simp), alike6_eq i1, Option.bind_some, if_pos rfl, alike6_eq i2, Option.bind_some, if_pos rfl, hw1]
    exact Ret.some ⟨⟨k + 1, rfl, by omega⟩, by omega⟩
  obtain ⟨r, h, rfl⟩ := key
  exact h

theorem take_of {l : List TokToken} : act_Take l 0 = act_Take_l0 ([], true, l, 0, 0) := by
  unfold act_Take
  rw [if_neg (by omega), if_neg (by omega)]
theorem nx_left {l r : List TokToken} {a : Nat} (h : a < l.length) : nx (l ++ r) a = nx l a := by
  unfold nx; rw [List.getElem?_append_left h]
theorem nx_right {l r : List TokToken} (a : Nat) : nx (l ++ r) (l.length + a) = nx r a := by
  unfold nx; rw [List.getElem?_append_right (by omega)]; congr 2; omega

theorem actRows_pure (s t : List UInt8) : wlaw06_ActRows s t = some true := by
  unfold wlaw06_ActRows
  rw [anchor06, Option.bind_some, if_pos rfl]
  by_cases h1 : 400 < (s.length : Int)
  · rw [if_pos h1]
  · rw [if_neg h1]
    by_cases h2 : 400 < (t.length : Int)
    · rw [if_pos h2]
    · rw [if_neg h2]
      obtain ⟨r3, e3, _⟩ := lex_total (s := s) (i := 0) (out := []) (by omega) (Nat.zero_le _) (by simp)
      have e3 : tok_Lex s = some r3 := e3
      obtain ⟨r4, e4, q4⟩ := lex_total (s := t) (i := 0) (out := []) (by omega) (Nat.zero_le _) (by simp)
      have e4 : tok_Lex t = some r4 := e4
      have c1 : cat s [32, 59, 32] = some (s ++ [32, 59, 32]) := cat_ok (by simp; omega)
      have c2 : cat (s ++ [32, 59, 32]) t = some (s ++ (semiB ++ t)) := by rw [cat_ok (by simp; omega), List.append_assoc]; rfl
      obtain ⟨r7, e7, _⟩ := lex_total (s := s ++ (semiB ++ t)) (i := 0) (out := []) (by simp [semiB]; omega) (Nat.zero_le _) (by simp)
      have e7 : tok_Lex (s ++ (semiB ++ t)) = some r7 := e7
      rw [e3, Option.bind_some, e4, Option.bind_some, c1, Option.bind_some, c2, Option.bind_some, e7, Option.bind_some]
      obtain ⟨l, z1, w1⟩ := r3
      obtain ⟨m, z2, w2⟩ := r4
      obtain ⟨b, z3, w3⟩ := r7
      dsimp only
      by_cases k1 : (z1 != 0) = true
      · rw [if_pos k1]
      · rw [if_neg k1]
        by_cases k2 : (z2 != 0) = true
        · rw [if_pos k2]
        · rw [if_neg k2]
          by_cases k3 : (z3 != 0) = true
          · rw [if_pos k3]
          · rw [if_neg k3]
            obtain rfl : z1 = 0 := by simpa using k1
            obtain rfl : z2 = 0 := by simpa using k2
            obtain rfl : z3 = 0 := by simpa using k3
            obtain ⟨sm, s1, s2, rfl, hb⟩ := lex_rows (by omega) (by omega) e3 e4 e7
            simp only [List.length_append, List.length_cons, List.length_map] at hb
            -- the tokens of both rows
            have hsm : isB sm [[59]] = true := by unfold isB; rw [s1, s2]; rfl
            have hat : nx (l ++ sm :: m.map (sh (s.length + 3))) l.length = sm := by
              show nx (l ++ sm :: m.map (sh (s.length + 3))) (l.length + 0) = sm
              rw [nx_right]; rfl
            have S1 : Sim l (l ++ sm :: m.map (sh (s.length + 3))) 0 := by
              refine ⟨fun a ha => ?_, .inr ⟨by simp, ?_, ?_⟩, by simp; omega⟩
              · have e : nx (l ++ sm :: m.map (sh (s.length + 3))) (a + 0) = nx l a := nx_left ha
                rw [e]; exact ⟨rfl, rfl, rfl⟩
              · show (nx (l ++ sm :: m.map (sh (s.length + 3))) l.length).Kind = 5
                rw [hat]; exact s1
              · show (nx (l ++ sm :: m.map (sh (s.length + 3))) l.length).Text = [59]
                rw [hat]; exact s2
            have S2 : Sim m (l ++ sm :: m.map (sh (s.length + 3))) (l.length + 1) := by
              refine ⟨fun a ha => ?_, .inl (by simp; omega), by simp; omega⟩
              have : nx (l ++ sm :: m.map (sh (s.length + 3))) (a + (l.length + 1)) = sh (s.length + 3) (nx m a) := by
                have e : a + (l.length + 1) = l.length + (a + 1) := by omega
                rw [e, nx_right]
                unfold nx
                rw [List.getElem?_cons_succ, List.getElem?_map, List.getElem?_eq_getElem ha]; rfl
              rw [this]; exact ⟨rfl, rfl, rfl⟩
            have S0 : Sim l l 0 := ⟨fun a _ => ⟨rfl, rfl, rfl⟩, .inl (by simp), by omega⟩
            have S0m : Sim m m 0 := ⟨fun a _ => ⟨rfl, rfl, rfl⟩, .inl (by simp), by omega⟩
            -- what is taken
            have tot : ∀ x : List TokToken, Sim x x 0 → ∃ r, act_Take x 0 = some r := by
              intro x hx
              obtain ⟨_, hxs⟩ := Sim.lens hx
              have : Ret (act_Take_l0 ([], true, x, ((0 : Nat) : Int), 0)) fun _ => True := by
                unfold act_Take_l0
                refine Ret.run (fun st : TakeS => ∃ (out : List ActAct) (more : Bool) (a : Nat), st = (out, more, x, (a : Int), 0) ∧ a ≤ x.length ∧ out.length ≤ 8) _ (fun st => (9 - st.1.length) * 2 + st.2.1.toNat) ?_ ⟨[], true, 0, rfl, Nat.zero_le _, by simp⟩
                rintro _ ⟨out, more, a, rfl, ha, ho⟩
                cases more with
                | false => rw [take_end]; exact Ret.some trivial
                | true =>
                  by_cases h8 : out.length = 8
                  · rw [take_full h8]; exact Ret.some trivial
                  · obtain ⟨v, a', e', g1, _, g3, g4, _⟩ := act_both hx ha
                    by_cases he : e' = 0
                    · subst he
                      rw [take_step (by omega) g1 (by omega) g4]
                      refine Ret.some ⟨⟨_, _, _, rfl, by split <;> omega, by simp; omega⟩, ?_⟩
                      have : ∀ c : Bool, c.toNat ≤ 1 := fun c => by cases c <;> decide
                      have := this (decide (a' < x.length ∧ isB (nx x a') [[59]] = true))
                      simp only [List.length_append, List.length_cons, List.length_nil, Bool.toNat_true]
                      omega
                    · rw [take_err (by omega) g1 he]; exact Ret.some trivial
              obtain ⟨r, hr, _⟩ := this
              exact ⟨r, by rw [take_of]; exact hr⟩
            obtain ⟨⟨A, p, h⟩, ta⟩ := tot l S0
            obtain ⟨⟨Bb, q, i⟩, tb⟩ := tot m S0m
            have tot3 : ∃ r, act_Take (l ++ sm :: m.map (sh (s.length + 3))) 0 = some r := tot _ ⟨fun a _ => ⟨rfl, rfl, rfl⟩, .inl (by simp), by simp; omega⟩
            obtain ⟨⟨c, r, j⟩, tc⟩ := tot3
            rw [ta, Option.bind_some, tb, Option.bind_some, tc, Option.bind_some]
            dsimp only
            by_cases k4 : (h != 0) = true
            · rw [if_pos k4]
            · rw [if_neg k4]
              by_cases k5 : (i != 0) = true
              · rw [if_pos k5]
              · rw [if_neg k5]
                by_cases k6 : (p != (l.length : Int)) = true
                · rw [if_pos k6]
                · rw [if_neg k6]
                  obtain rfl : h = 0 := by simpa using k4
                  obtain rfl : i = 0 := by simpa using k5
                  obtain rfl : p = (l.length : Int) := by simpa using k6
                  obtain ⟨n1, hn1⟩ := run_some.1 (show run act_Take_l0_step ([], true, l, ((0 : Nat) : Int), 0) = some (A, (l.length : Int), 0) by rw [take_of] at ta; exact ta)
                  obtain ⟨n2, hn2⟩ := run_some.1 (show run act_Take_l0_step ([], true, m, ((0 : Nat) : Int), 0) = some (Bb, q, 0) by rw [take_of] at tb; exact tb)
                  obtain ⟨f1, f2, f3⟩ := take_first S1 ⟨by simp, by rw [hat]; exact hsm⟩ n1 0 [] A (Nat.zero_le _) (by simp) (by simp) hn1
                  obtain ⟨g1, g2, g3, g4, g5, g6⟩ := take_second S2 (by simp; omega) n2 0 true [] Bb q (Nat.zero_le _) (by simp) (by simp) hn2
                  have g7 := g6 A (by simp; omega)
                  rw [List.append_nil, Nat.zero_add] at g7
                  rw [take_of] at tc
                  have tc' : some (c, r, j) = if 8 < A.length + Bb.length then some ([], 0, 13) else some (A ++ Bb, q + ((l.length + 1 : Nat) : Int), 0) := tc.symm.trans (f3.trans g7)
                  have w0 : IntKind.i64.wrap ((A.length : Int) + (Bb.length : Int)) = (A.length : Int) + (Bb.length : Int) := w64 (by omega) (by omega)
                  have w1 : IntKind.i64.wrap ((l.length : Int) + 1) = (l.length : Int) + 1 := w64 (by omega) (by omega)
                  have w2 : IntKind.i64.wrap ((l.length : Int) + 1 + q) = (l.length : Int) + 1 + q := w64 (by omega) (by omega)
                  rw [w0, w1, w2]
                  by_cases h8 : 8 < A.length + Bb.length
                  · rw [if_pos h8] at tc'
                    simp only [Option.some.injEq, Prod.mk.injEq] at tc'
                    obtain ⟨rfl, rfl, rfl⟩ := tc'
                    rw [if_pos (by omega), if_pos (by decide)]; rfl
                  · rw [if_neg h8] at tc'
                    simp only [Option.some.injEq, Prod.mk.injEq] at tc'
                    obtain ⟨rfl, rfl, rfl⟩ := tc'
                    have hsm : ∀ x ∈ A ++ Bb, Small x := fun x hx => (List.mem_append.1 hx).elim (f2 x) (g3 x)
                    rw [if_neg (by omega), if_pos (by decide), if_pos (by simp; omega), refs6_eq (by omega) f2, Option.bind_some, refs6_eq (by omega) g3, Option.bind_some, app_ok (by simp [lim]; omega) (by simp [lim]; omega), Option.bind_some, ← List.map_append, same6_eq (by simp; omega) hsm, Option.bind_some]
end Go.Proofs.YtilmjbljkkbakaaDoor
