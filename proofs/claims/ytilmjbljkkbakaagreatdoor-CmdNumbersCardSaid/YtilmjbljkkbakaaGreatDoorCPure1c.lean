/-
  A part of the proof: lemmas.
-/
import Derived.Test.YtilmjbljkkbakaaGreatDoorR
import Derived.Test.YtilmjbljkkbakaaGreatDoorCFunsc
import Derived.Test.YtilmjbljkkbakaaGreatDoorCFuelc
import Derived.Test.YtilmjbljkkbakaaGreatDoorCAncc
import Derived.KernelRfl
set_option linter.unusedSimpArgs false
set_option linter.unusedVariables false
set_option linter.unusedSectionVars false
set_option linter.unnecessarySimpa false
set_option linter.deprecated false
/-! Words that mean something; a line's first word. -/
namespace Go.Proofs.YtilmjbljkkbakaaGreatDoor
open Go.Wv
set_option linter.unusedSimpArgs false
set_option linter.unusedVariables false
set_option linter.unusedSectionVars false

theorem tw_at {α : Type} (p : α → Bool) : ∀ (s : List α) (i : Nat) (c : α), (s.take i).all p = true → s[i]? = some c → p c = false → s.takeWhile p = s.take i
  | [], i, c, _, h, _ => by simp at h
  | a :: s, 0, c, _, h, hc => by
    simp only [List.getElem?_cons_zero, Option.some.injEq] at h
    subst h
    simp [List.takeWhile_cons, hc]
  | a :: s, i + 1, c, ha, h, hc => by
    simp only [List.take_succ_cons, List.all_cons, Bool.and_eq_true] at ha
    rw [List.takeWhile_cons, if_pos ha.1, List.take_succ_cons, tw_at p s i c ha.2 (by simpa using h) hc]
theorem tw_all {α : Type} (p : α → Bool) : ∀ (s : List α), s.all p = true → s.takeWhile p = s
  | [], _ => rfl
  | a :: s, h => by
    simp only [List.all_cons, Bool.and_eq_true] at h
    rw [List.takeWhile_cons, if_pos h.1, tw_all p s h.2]
theorem all_take_succ {α : Type} (p : α → Bool) {s : List α} {i : Nat} {c : α} (h : (s.take i).all p = true) (hc : s[i]? = some c) (hp : p c = true) : (s.take (i + 1)).all p = true := by
  rw [List.take_add_one, hc, List.all_append, h]
  simpa using hp

def nb (c : UInt8) : Bool := c != 32
theorem nb_int (c : UInt8) : ((c.toNat : Int) == 32) = !nb c := by
  rw [Bool.eq_iff_iff]
  simp only [nb, beq_iff_eq, Bool.not_eq_true', bne_eq_false_iff_eq]
  constructor
  · intro h
    exact UInt8.toNat_inj.1 (by have : (32 : UInt8).toNat = 32 := rfl; omega)
  · rintro rfl; rfl
def firstW (s : List UInt8) : List UInt8 := s.takeWhile nb

theorem split_first {s : List UInt8} (hs : s.length ≤ 1000000) : ∃ out, wref31_Split s = some out ∧ out[0]? = some (firstW s) := by
  have key : Ret (wref31_Split s) fun out => out[0]? = some (firstW s) := by
    unfold wref31_Split wref31_Split_l0
    refine Ret.run (fun st : List (List UInt8) × Int × Int => ∃ (out : List (List UInt8)) (fr i : Nat), st = (out, (fr : Int), (i : Int)) ∧ fr ≤ i ∧ i ≤ s.length ∧ out.length ≤ i ∧ ((out = [] ∧ fr = 0 ∧ (s.take i).all nb = true) ∨ out[0]? = some (firstW s))) _ (fun st => s.length - st.2.2.toNat) ?_ ⟨[], 0, 0, rfl, by omega, by omega, by simp, .inl ⟨rfl, rfl, rfl⟩⟩
    rintro _ ⟨out, fr, i, rfl, h1, h2, h3, h4⟩
    unfold wref31_Split_l0_step
    dsimp only
    have hw : IntKind.i64.wrap ((i : Int) + 1) = ((i + 1 : Nat) : Int) := w64 (by omega) (by omega)
    by_cases hi : i < s.length
    · have hg : s[i]? = some s[i] := List.getElem?_eq_getElem hi
      rw [if_pos (by omega), idx_nat, hg, Option.bind_some, nb_int, hw]
      cases hc : nb s[i]
      · simp only [Bool.not_false, if_true]
        rw [sub_ok h1 (by omega), Option.bind_some, app_ok (by simp [lim]; omega) (by simp [lim]; omega), Option.bind_some]
        refine Ret.some ⟨⟨_, i + 1, i + 1, rfl, Nat.le_refl _, by omega, by simp; omega, .inr ?_⟩, by simp; omega⟩
        rcases h4 with ⟨rfl, rfl, h5⟩ | h4
        · simp only [List.nil_append, List.drop_zero, Nat.sub_zero, List.getElem?_cons_zero]
          rw [firstW, tw_at nb s i _ h5 hg hc]
        · cases out with
          | nil => simp at h4
          | cons x out => simpa using h4
      · simp only [Bool.not_true, Bool.false_eq_true, if_false]
        refine Ret.some ⟨⟨out, fr, i + 1, rfl, by omega, by omega, by omega, ?_⟩, by simp; omega⟩
        rcases h4 with ⟨rfl, rfl, h5⟩ | h4
        · exact .inl ⟨rfl, rfl, all_take_succ nb h5 hg hc⟩
        · exact .inr h4
    · rw [if_neg (by omega), subF_ok (by omega), Option.bind_some, app_ok (by simp [lim]; omega) (by simp [lim]; omega), Option.bind_some]
      refine Ret.some ?_
      rcases h4 with ⟨rfl, rfl, h5⟩ | h4
      · rw [List.take_of_length_le (by omega)] at h5
        simp [firstW, tw_all nb s h5]
      · cases out with
        | nil => simp at h4
        | cons x out => simpa using h4
  exact key

theorem index_spec (c : UInt8) : ∀ s : List UInt8, (∃ n : Nat, Lib.indexByte s c = (n : Int) ∧ s[n]? = some c ∧ s.takeWhile (fun x => x != c) = s.take n) ∨ (Lib.indexByte s c = -1 ∧ s.takeWhile (fun x => x != c) = s)
  | [] => .inr ⟨rfl, rfl⟩
  | b :: l => by
    unfold Lib.indexByte
    by_cases hb : (b == c) = true
    · left
      have : b = c := by simpa using hb
      subst this
      exact ⟨0, by simp, by simp, by simp [List.takeWhile_cons]⟩
    · rw [if_neg hb]
      have hb' : (b != c) = true := by simpa using hb
      rcases index_spec c l with ⟨n, h1, h2, h3⟩ | ⟨h1, h2⟩
      · left
        have hne : ¬ ((n : Int) == -1) = true := by simp only [beq_iff_eq]; omega
        rw [h1, if_neg hne]
        exact ⟨n + 1, by omega, by simpa using h2, by rw [List.takeWhile_cons, if_pos hb', h3, List.take_succ_cons]⟩
      · right
        rw [h1, if_pos (by simp)]
        exact ⟨rfl, by rw [List.takeWhile_cons, if_pos hb', h2]⟩
theorem cut_first {s : List UInt8} (hs : s.length ≤ 1000000) : (∃ n : Nat, n < s.length ∧ firstW s = s.take n ∧ strings_Cut s [32] = some (s.take n, s.drop (n + 1), true)) ∨ (firstW s = s ∧ strings_Cut s [32] = some (s, [], false)) := by
  unfold strings_Cut internal_stringslite_Cut
  rw [show stringslite_Index s [32] = some (Lib.indexByte s 32) from rfl, Option.bind_some]
  rcases index_spec 32 s with ⟨n, h1, h2, h3⟩ | ⟨h1, h2⟩
  · left
    have hn : n < s.length := by
      rcases Nat.lt_or_ge n s.length with h | h
      · exact h
      · rw [List.getElem?_eq_none h] at h2; cases h2
    have hw : IntKind.i64.wrap ((n : Int) + (([32] : List UInt8).length : Int)) = ((n + 1 : Nat) : Int) := by
      rw [w64 (by simp; omega) (by simp; omega)]; rfl
    refine ⟨n, hn, h3, ?_⟩
    rw [h1, if_pos (by omega), subT_ok (by omega), Option.bind_some, hw, subF_ok (by omega), Option.bind_some]
    rfl
  · right
    refine ⟨h2, ?_⟩
    rw [h1, if_neg (by omega)]
    rfl

/-! words that mean something -/
def meansL : List (List UInt8) := [[99, 104, 97, 114, 116], [118, 97, 114], [115, 116, 97, 116, 101], [112, 97, 114, 97, 108, 108, 101, 108], [102, 105, 110, 97, 108], [100, 101, 101, 112], [115, 104, 97, 108, 108, 111, 119], [101, 110, 116, 101, 114], [101, 120, 105, 116], [111, 110], [97, 117, 116, 111], [101, 110, 100], [105, 102], [103, 111], [105, 110, 110, 101, 114], [100, 111], [115, 101, 116], [114, 97, 105, 115, 101], [115, 101, 110, 100], [99, 97, 110, 99, 101, 108], [108, 111, 103], [116, 114, 117, 101], [102, 97, 108, 115, 101], [110, 111, 116], [97, 110, 100], [111, 114], [105, 110]]
def meansB (w : List UInt8) : Bool := meansL.any fun x => w == x
theorem ite_chain {b c : Bool} {x : Option Bool} (h : x = some c) : (if b = true then some true else x) = some (b || c) := by
  cases b
  · simpa using h
  · simp
set_option maxRecDepth 10000 in
theorem means_eq (w : List UInt8) : tok_Means w = some (meansB w) := by
  unfold tok_Means meansB meansL
  simp only [List.any_cons, List.any_nil]
  iterate 27 refine ite_chain ?_
  rfl
set_option maxRecDepth 10000 in
def allB : List UInt8 := [32, 99, 104, 97, 114, 116, 32, 118, 97, 114, 32, 115, 116, 97, 116, 101, 32, 112, 97, 114, 97, 108, 108, 101, 108, 32, 102, 105, 110, 97, 108, 32, 100, 101, 101, 112, 32, 115, 104, 97, 108, 108, 111, 119, 32, 101, 110, 116, 101, 114, 32, 101, 120, 105, 116, 32, 111, 110, 32, 97, 117, 116, 111, 32, 101, 110, 100, 32, 105, 102, 32, 103, 111, 32, 105, 110, 110, 101, 114, 32, 100, 111, 32, 115, 101, 116, 32, 114, 97, 105, 115, 101, 32, 115, 101, 110, 100, 32, 99, 97, 110, 99, 101, 108, 32, 108, 111, 103, 32, 116, 114, 117, 101, 32, 102, 97, 108, 115, 101, 32, 110, 111, 116, 32, 97, 110, 100, 32, 111, 114, 32, 105, 110, 32]
theorem allB_len : allB.length = 134 := by kernel_rfl
def innerB (c : UInt8) : Bool := (decide (97 ≤ c.toNat) && decide (c.toNat ≤ 122)) || (decide (48 ≤ c.toNat) && decide (c.toNat ≤ 57)) || ((c.toNat : Int) == 95)
theorem inner_eq (c : UInt8) : wref02_inner (c.toNat : Int) = some (innerB c) := by
  unfold wref02_inner wref02_letter innerB
  by_cases h1 : 97 ≤ c.toNat
  · rw [if_pos (by omega)]
    have e : decide ((c.toNat : Int) ≤ 122) = decide (c.toNat ≤ 122) := by rw [decide_eq_decide]; omega
    simp only [Option.bind_some, e, h1, decide_true, Bool.true_and]
    by_cases h2 : c.toNat ≤ 122
    · simp [h2]
    · have h3 : (48 : Int) ≤ (c.toNat : Int) := by omega
      have h4 : ¬ (c.toNat : Int) ≤ 57 := by omega
      have h5 : ¬ c.toNat ≤ 57 := by omega
      simp only [h2, decide_false, Bool.false_eq_true, if_false, h3, if_true, h4, h5, Bool.and_false, Bool.false_or]
  · rw [if_neg (by omega)]
    simp only [Option.bind_some, Bool.false_eq_true, if_false, h1, decide_false, Bool.false_and, Bool.false_or]
    by_cases h3 : 48 ≤ c.toNat
    · rw [if_pos (by omega)]
      by_cases h4 : c.toNat ≤ 57
      · rw [if_pos (by omega)]; simp [h3, h4]
      · rw [if_neg (by omega)]; simp [h3, h4]
    · rw [if_neg (by omega)]; simp [h3]
theorem word0 {s : List UInt8} (hs : s.length ≤ 1000000) : wref02_word s 0 = some ((scan innerB s 0 : Nat) : Int) := by
  have key : Ret (wref02_word s 0) fun r => r = ((scan innerB s 0 : Nat) : Int) := by
    unfold wref02_word wref02_word_l0
    refine Ret.run (fun j => ∃ k : Nat, j = (k : Int) ∧ k ≤ s.length ∧ scan innerB s k = scan innerB s 0) _ (fun j => s.length - j.toNat) ?_ ⟨0, rfl, Nat.zero_le _, rfl⟩
    rintro j ⟨k, rfl, hk, hsc⟩
    unfold wref02_word_l0_step
    have hw0 : IntKind.i64.wrap (0 + (k : Int)) = (k : Int) := by rw [w64 (by omega) (by omega)]; omega
    have hw1 : IntKind.i64.wrap ((k : Int) + 1) = ((k + 1 : Nat) : Int) := w64 (by omega) (by omega)
    rw [hw0, hw1]
    by_cases hlt : k < s.length
    · have hg : s[k]? = some s[k] := List.getElem?_eq_getElem hlt
      have hst := scan_step (p := innerB) hg
      rw [if_pos (by omega), idx_nat, hg, Option.bind_some, inner_eq, Option.bind_some]
      refine Ret.ite (fun hb => ?_) (fun hb => ?_)
      · rw [if_pos hb, hsc] at hst
        exact Ret.some ⟨⟨k + 1, rfl, by omega, hst.symm⟩, by simp; omega⟩
      · rw [if_neg hb, hsc] at hst
        exact Ret.some (by rw [hst])
    · rw [if_neg (by omega)]
      rw [scan_end (by omega)] at hsc
      exact Ret.some (by rw [← hsc])
  obtain ⟨r, h, rfl⟩ := key
  exact h

/-- wherever the text has a word between two blanks, it is one of the list -/
theorem found_word : ((List.range 134).all fun i => (List.range 134).all fun n => !(decide (i + n + 2 ≤ 134) && (allB.drop i).take (n + 2) == 32 :: (allB.drop (i + 1)).take n ++ [32] && decide (0 < n) && ((allB.drop (i + 1)).take n).all innerB) || meansL.any fun x => (allB.drop (i + 1)).take n == x) = true := by kernel_rfl
theorem means_yes : meansL.all (fun w => wref02_Means_x 200 w == some true) = true := by kernel_rfl
theorem meansR_eq {w : List UInt8} (hw : w.length ≤ 1000000) : wref02_Means w = some (meansB w) := by
  by_cases hm : meansB w = true
  · rw [hm]
    obtain ⟨x, hx, he⟩ := List.any_eq_true.1 hm
    obtain rfl : w = x := by simpa using he
    have := List.all_eq_true.1 means_yes w hx
    exact wref02_Means_x_le 200 w _ (by simpa using this)
  · have hm' : meansB w = false := by simpa using hm
    rw [hm']
    have key : Ret (wref02_Means w) fun r => r = false := by
      unfold wref02_Means wref02_Means_l0
      refine Ret.run (fun j => ∃ k : Nat, j = (k : Int) ∧ k ≤ 134) _ (fun j => 134 - j.toNat) ?_ ⟨0, rfl, by omega⟩
      rintro j ⟨k, rfl, hk⟩
      unfold wref02_Means_l0_step
      have hw1 : IntKind.i64.wrap ((k : Int) + (w.length : Int)) = ((k + w.length : Nat) : Int) := by rw [w64 (by omega) (by omega)]; omega
      have hw2 : IntKind.i64.wrap (((k + w.length : Nat) : Int) + 2) = ((k + w.length + 2 : Nat) : Int) := by rw [w64 (by omega) (by omega)]; omega
      have hw3 : IntKind.i64.wrap ((k : Int) + 1) = ((k + 1 : Nat) : Int) := w64 (by omega) (by omega)
      rw [hw1, hw2, hw3]
      by_cases hlt : k + w.length + 2 ≤ 134
      · rw [if_pos (by omega)]
        have hsub := sub_ok (l := allB) (i := k) (j := k + w.length + 2) (by omega) (by rw [allB_len]; omega)
        show Ret ((sub allB (k : Int) ((k + w.length + 2 : Nat) : Int)).bind _) _
        rw [hsub, Option.bind_some, cat_ok (by simp; omega), Option.bind_some, cat_ok (by simp; omega), Option.bind_some]
        have e1 : k + w.length + 2 - k = w.length + 2 := by omega
        rw [e1]
        refine Ret.ite (fun he => ?_) (fun _ => ?_)
        · refine Ret.ite (fun _ => Ret.some rfl) (fun hne => ?_)
          rw [word0 hw, Option.bind_some]
          refine Ret.some ?_
          -- it would be one of the list
          have he' : (allB.drop k).take (w.length + 2) = 32 :: w ++ [32] := by simpa using he
          have hwd : (allB.drop (k + 1)).take w.length = w := by
            have h1 : ((allB.drop k).take (w.length + 2)).drop 1 = w ++ [32] := by rw [he']; rfl
            have h2 : (((allB.drop k).take (w.length + 2)).drop 1).take w.length = w := by rw [h1]; simp
            rw [List.drop_take, List.drop_drop, List.take_take] at h2
            have e : min w.length (w.length + 2 - 1) = w.length := by omega
            rw [e] at h2
            exact h2
          have hpos : 0 < w.length := by
            rcases Nat.eq_zero_or_pos w.length with h | h
            · exact absurd (by simpa using List.length_eq_zero_iff.1 h) hne
            · exact h
          show (((scan innerB w 0 : Nat) : Int) == (w.length : Int)) = false
          rw [beq_eq_false_iff_ne]
          intro hsc
          have hall : w.all innerB = true := by
            have : scan innerB w 0 = w.length := by omega
            unfold scan at this
            rw [List.drop_zero, Nat.zero_add] at this
            have hpre := List.takeWhile_prefix innerB (l := w)
            have heq := hpre.eq_of_length this
            rw [← heq]
            exact List.all_takeWhile
          have hf := List.all_eq_true.1 (List.all_eq_true.1 found_word k (List.mem_range.2 (by omega))) w.length (List.mem_range.2 (by omega))
          rw [hwd] at hf
          have c1 : decide (k + w.length + 2 ≤ 134) = true := by simpa using hlt
          have c2 : ((allB.drop k).take (w.length + 2) == 32 :: w ++ [32]) = true := by simpa using he'
          have c3 : decide (0 < w.length) = true := by simpa using hpos
          rw [c1, c2, c3, hall] at hf
          simp only [Bool.and_self, Bool.not_true, Bool.false_or] at hf
          have : meansB w = true := hf
          rw [hm'] at this
          cases this
        · exact Ret.some ⟨⟨k + 1, rfl, by omega⟩, by simp; omega⟩
      · rw [if_neg (by omega)]
        exact Ret.some rfl
    obtain ⟨r, h, rfl⟩ := key
    exact h

/-! which kinds a word is of -/
def hitB (w : List UInt8) (k : Int) : Bool := decide (1 ≤ k) && decide (k ≤ 25) && (tab1[k.toNat]? == some w)
theorem hit_word {k : Int} (h1 : 1 ≤ k) (h2 : k ≤ 25) : ∃ x, inM 26 k = some k.toNat ∧ tab1[k.toNat]? = some x ∧ ∀ w, hitB w k = (x == w) := by
  have hlen : tab1.length = 26 := rfl
  have hgt : tab1[k.toNat]? = some (tab1[k.toNat]'(by rw [hlen]; omega)) := List.getElem?_eq_getElem _
  refine ⟨_, inM_some.2 ⟨⟨by omega, by omega⟩, rfl⟩, hgt, fun w => ?_⟩
  unfold hitB
  rw [hgt]
  simp only [h1, h2, decide_true, Bool.true_and]
  rfl
theorem is_loop {ks : List Int} (hk : ks.length ≤ 1000) (r : List UInt8 × List UInt8 × Bool) : cmd_Is_j0 ks r = some (if ks.any (hitB r.1) = true then .inr true else .inl ()) := by
  unfold cmd_Is_j0 cmd_Is_l1
  obtain ⟨x, h, rfl⟩ := run_loop (f := cmd_Is_l1_step ks r) (fun j => ∃ k : Nat, j = (k : Int) ∧ k ≤ ks.length ∧ (ks.take k).any (hitB r.1) = false) (fun x => x = if ks.any (hitB r.1) = true then .inr true else .inl ()) (fun j => ks.length - j.toNat) (by
    rintro j ⟨k, rfl, hkl, hno⟩
    unfold cmd_Is_l1_step
    have hw1 : IntKind.i64.wrap ((k : Int) + 1) = ((k + 1 : Nat) : Int) := w64 (by omega) (by omega)
    rw [hw1]
    by_cases hlt : k < ks.length
    · have hg : ks[k]? = some ks[k] := List.getElem?_eq_getElem hlt
      rw [if_pos (by omega), idx_nat, hg, Option.bind_some]
      have next : hitB r.1 ks[k] = false → (∃ k' : Nat, ((k + 1 : Nat) : Int) = (k' : Int) ∧ k' ≤ ks.length ∧ (ks.take k').any (hitB r.1) = false) ∧ ks.length - (((k + 1 : Nat) : Int)).toNat < ks.length - (k : Int).toNat := fun h =>
        ⟨⟨k + 1, rfl, by omega, by rw [List.take_add_one, hg, List.any_append, hno]; simp [h]⟩, by omega⟩
      by_cases h1 : 1 ≤ ks[k]
      · rw [if_pos h1]
        by_cases h2 : ks[k] ≤ 25
        · obtain ⟨x, q1, q2, q3⟩ := hit_word h1 h2
          rw [if_pos h2, q1, Option.bind_some, q2, Option.bind_some]
          by_cases h3 : (x == r.1) = true
          · rw [if_pos h3]
            have : ks.any (hitB r.1) = true := List.any_eq_true.2 ⟨ks[k], List.getElem_mem hlt, by rw [q3]; exact h3⟩
            exact .inr ⟨_, rfl, by rw [if_pos this]⟩
          · rw [if_neg h3]
            exact .inl ⟨_, rfl, next (by rw [q3]; simpa using h3)⟩
        · rw [if_neg h2]
          exact .inl ⟨_, rfl, next (by simp [hitB, h2])⟩
      · rw [if_neg h1]
        exact .inl ⟨_, rfl, next (by simp [hitB, h1])⟩
    · rw [if_neg (by omega)]
      rw [List.take_of_length_le (by omega)] at hno
      exact .inr ⟨_, rfl, by rw [hno]; rfl⟩) (s := 0) ⟨0, rfl, Nat.zero_le _, rfl⟩
  exact h
theorem law_loop {ks : List Int} (hk : ks.length ≤ 1000) (w : List UInt8) : wlaw31_CmdIs_j0 ks w = some (.inl (ks.any (hitB w))) := by
  unfold wlaw31_CmdIs_j0 wlaw31_CmdIs_l1
  obtain ⟨x, h, rfl⟩ := run_loop (f := wlaw31_CmdIs_l1_step ks w) (fun st : Bool × Int => ∃ k : Nat, st = ((ks.take k).any (hitB w), (k : Int)) ∧ k ≤ ks.length) (fun x => x = .inl (ks.any (hitB w))) (fun st => ks.length - st.2.toNat) (by
    rintro _ ⟨k, rfl, hkl⟩
    unfold wlaw31_CmdIs_l1_step
    dsimp only
    have hw1 : IntKind.i64.wrap ((k : Int) + 1) = ((k + 1 : Nat) : Int) := w64 (by omega) (by omega)
    rw [hw1]
    by_cases hlt : k < ks.length
    · have hg : ks[k]? = some ks[k] := List.getElem?_eq_getElem hlt
      rw [if_pos (by omega), idx_nat, hg, Option.bind_some]
      have hs : (ks.take (k + 1)).any (hitB w) = ((ks.take k).any (hitB w) || hitB w ks[k]) := by rw [List.take_add_one, hg, List.any_append]; simp
      have next : ∀ b, b = (ks.take (k + 1)).any (hitB w) → (∃ k' : Nat, (b, ((k + 1 : Nat) : Int)) = ((ks.take k').any (hitB w), (k' : Int)) ∧ k' ≤ ks.length) ∧ ks.length - (((k + 1 : Nat) : Int)).toNat < ks.length - (k : Int).toNat := by
        rintro b rfl
        exact ⟨⟨k + 1, rfl, by omega⟩, by omega⟩
      by_cases h0 : (ks.take k).any (hitB w) = true
      · rw [if_pos h0]
        exact .inl ⟨_, rfl, next _ (by rw [hs, h0]; rfl)⟩
      · rw [if_neg h0]
        have h0' : (ks.take k).any (hitB w) = false := by simpa using h0
        rw [h0', Bool.false_or] at hs
        by_cases h1 : 1 ≤ ks[k]
        · rw [if_pos h1]
          by_cases h2 : ks[k] < 26
          · obtain ⟨x, q1, q2, q3⟩ := hit_word h1 (show ks[k] ≤ 25 by omega)
            rw [if_pos h2, q1, Option.bind_some]
            refine .inl ⟨(x == w, ((k + 1 : Nat) : Int)), ?_, next _ (by rw [hs, q3])⟩
            show ((tab1[ks[k].toNat]?).bind _) = _
            rw [q2]; rfl
          · rw [if_neg h2]
            exact .inl ⟨_, rfl, next _ (by rw [hs]; have : ¬ ks[k] ≤ 25 := by omega
                                           simp [hitB, this])⟩
        · rw [if_neg h1]
          exact .inl ⟨_, rfl, next _ (by rw [hs]; simp [hitB, h1])⟩
    · rw [if_neg (by omega)]
      rw [List.take_of_length_le (by omega)]
      exact .inr ⟨_, rfl, rfl⟩) (s := (false, 0)) ⟨0, rfl, Nat.zero_le _⟩
  exact h

theorem cmdIs_pure (s : List UInt8) (ks : List Int) : wlaw31_CmdIs s ks = some true := by
  unfold wlaw31_CmdIs
  rw [anchor31, Option.bind_some, if_pos rfl]
  by_cases h1 : 800 < (s.length : Int)
  · rw [if_pos h1]
  · rw [if_neg h1]
    by_cases h2 : 50 < (ks.length : Int)
    · rw [if_pos h2]
    · rw [if_neg h2]
      obtain ⟨out, e1, e2⟩ := split_first (s := s) (by omega)
      have e3 : idx out 0 = some (firstW s) := e2
      have hfl : (firstW s).length ≤ s.length := by unfold firstW; exact takeWhile_length_le _ _
      obtain ⟨rest, b, e4⟩ : ∃ rest b, strings_Cut s [32] = some (firstW s, rest, b) := by
        rcases cut_first (s := s) (by omega) with ⟨n, _, q1, q2⟩ | ⟨q1, q2⟩
        · exact ⟨_, _, by rw [q2, q1]⟩
        · exact ⟨_, _, by rw [q2, q1]⟩
      have hIs : cmd_Is s ks = some (if ks.any (hitB (firstW s)) = true then true else if meansB (firstW s) = true then ((ks.length : Int) == 0) else false) := by
        unfold cmd_Is
        rw [e4, Option.bind_some, is_loop (by omega)]
        dsimp only
        by_cases hh : ks.any (hitB (firstW s)) = true
        · rw [if_pos hh, if_pos hh, jn_inr]
        · rw [if_neg hh, if_neg hh, jn_inl, means_eq, Option.bind_some]
          split <;> rfl
      rw [e1, Option.bind_some, e3, Option.bind_some, show wref31_Words = some () from rfl, Option.bind_some, law_loop (by omega), jn_inl, hIs]
      by_cases hz : ((ks.length : Int) == 0) = true
      · have hnil : ks = [] := by
          have : ks.length = 0 := by simpa using hz
          exact List.length_eq_zero_iff.1 this
        subst hnil
        rw [if_pos hz, meansR_eq (by omega), Option.bind_some, Option.bind_some]
        simp only [List.any_nil, Bool.false_eq_true, if_false]
        cases meansB (firstW s) <;> rfl
      · rw [if_neg hz, Option.bind_some]
        have hz' : ((ks.length : Int) == 0) = false := by simpa using hz
        rw [hz']
        cases ks.any (hitB (firstW s)) <;> cases meansB (firstW s) <;> rfl
end Go.Proofs.YtilmjbljkkbakaaGreatDoor
