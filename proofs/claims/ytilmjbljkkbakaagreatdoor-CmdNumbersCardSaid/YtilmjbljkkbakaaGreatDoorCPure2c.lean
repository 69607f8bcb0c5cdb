/-
  A part of the proof: lemmas.
-/
import Derived.Test.YtilmjbljkkbakaaGreatDoorCPure1c
set_option linter.unusedSimpArgs false
set_option linter.unusedVariables false
set_option linter.unusedSectionVars false
set_option linter.unnecessarySimpa false
set_option linter.deprecated false
/-! A line of a word and a number. -/
namespace Go.Proofs.YtilmjbljkkbakaaGreatDoor
open Go.Wv

/-! the digits of a number -/
def dig (n : Nat) : List UInt8 := if n < 10 then [UInt8.ofNat (48 + n)] else dig (n / 10) ++ [UInt8.ofNat (48 + n % 10)]
decreasing_by omega
theorem dig_lo {n : Nat} (h : n < 10) : dig n = [UInt8.ofNat (48 + n)] := by rw [dig, if_pos h]
theorem dig_hi {n : Nat} (h : ¬ n < 10) : dig n = dig (n / 10) ++ [UInt8.ofNat (48 + n % 10)] := by rw [dig, if_neg h]
theorem d8 {n : Nat} (h : n < 10) : (UInt8.ofNat (48 + n)).toNat = 48 + n := by
  rw [UInt8.toNat_ofNat']; omega
theorem dig_ne (n : Nat) : dig n ≠ [] := by
  by_cases h : n < 10
  · rw [dig_lo h]; simp
  · rw [dig_hi h]; simp
theorem dig_len : ∀ m n : Nat, n < 10 ^ (m + 1) → (dig n).length ≤ m + 1
  | 0, n, h => by rw [dig_lo (by simpa using h)]; simp
  | m + 1, n, h => by
    by_cases h10 : n < 10
    · rw [dig_lo h10]; simp
    · rw [dig_hi h10, List.length_append]
      have := dig_len m (n / 10) (by rw [Nat.div_lt_iff_lt_mul (by omega)]; rw [Nat.pow_succ] at h; omega)
      simp only [List.length_singleton]; omega
theorem dig_all (n : Nat) : ∀ c ∈ dig n, 48 ≤ c.toNat ∧ c.toNat ≤ 57 := by
  induction n using Nat.strongRecOn with
  | _ n ih =>
    intro c hc
    by_cases h : n < 10
    · rw [dig_lo h] at hc
      rw [List.mem_singleton.1 hc, d8 h]; omega
    · rw [dig_hi h] at hc
      rcases List.mem_append.1 hc with hc | hc
      · exact ih (n / 10) (by omega) c hc
      · rw [List.mem_singleton.1 hc, d8 (by omega)]; omega
theorem dig_head (n : Nat) (h : 1 ≤ n) : ∃ c, (dig n)[0]? = some c ∧ 48 < c.toNat := by
  induction n using Nat.strongRecOn with
  | _ n ih =>
    by_cases h10 : n < 10
    · rw [dig_lo h10]
      exact ⟨_, rfl, by rw [d8 h10]; omega⟩
    · obtain ⟨c, h1, h2⟩ := ih (n / 10) (by omega) (by omega)
      refine ⟨c, ?_, h2⟩
      rw [dig_hi h10, List.getElem?_append_left (lt_of_get h1)]; exact h1
def dval (l : List UInt8) : Nat := l.foldl (fun a c => a * 10 + (c.toNat - 48)) 0
theorem dval_snoc (l : List UInt8) (c : UInt8) : dval (l ++ [c]) = dval l * 10 + (c.toNat - 48) := by simp [dval]
theorem dval_dig (n : Nat) : dval (dig n) = n := by
  induction n using Nat.strongRecOn with
  | _ n ih =>
    by_cases h10 : n < 10
    · rw [dig_lo h10, ← List.nil_append [UInt8.ofNat (48 + n)], dval_snoc, d8 h10]
      show 0 * 10 + _ = n
      omega
    · rw [dig_hi h10, dval_snoc, ih (n / 10) (by omega), d8 (by omega)]; omega
theorem dfold_lt : ∀ (l : List UInt8) (a m : Nat), (∀ c ∈ l, 48 ≤ c.toNat ∧ c.toNat ≤ 57) → a < 10 ^ m → l.foldl (fun a c => a * 10 + (c.toNat - 48)) a < 10 ^ (m + l.length)
  | [], a, m, _, h => by simpa using h
  | c :: l, a, m, hc, h => by
    have h1 := hc c (by simp)
    have := dfold_lt l (a * 10 + (c.toNat - 48)) (m + 1) (fun c h => hc c (by simp [h])) (by rw [Nat.pow_succ]; omega)
    rw [List.foldl_cons, List.length_cons, show m + (l.length + 1) = m + 1 + l.length by omega]
    exact this
theorem dval_lt (l : List UInt8) (h : ∀ c ∈ l, 48 ≤ c.toNat ∧ c.toNat ≤ 57) : dval l < 10 ^ l.length := by
  have := dfold_lt l 0 0 h (by decide)
  rw [Nat.zero_add] at this
  exact this

theorem digits_eq (n : Nat) (hn : n ≤ 9223372036854775807) : wref01_Digits (n : Int) = some (dig n) := by
  induction n using Nat.strongRecOn with
  | _ n ih =>
    rw [wref01_Digits_eq, wref01_Digits_F]
    rw [if_neg (by omega), if_neg (by omega)]
    by_cases h10 : n < 10
    · rw [if_pos (by omega), w64 (by omega) (by omega), dig_lo h10]
      have h8 : IntKind.u8.wrap (48 + (n : Int)) = 48 + n := by rw [IntKind.wrap_u8]; omega
      rw [h8]
      unfold str8
      rw [if_pos ⟨by simp [lim], by simp; omega⟩]
      simp only [List.map_cons, List.map_nil, Option.bind_some]
      rw [show (48 + (n : Int)).toNat = 48 + n by omega]
    · rw [if_neg (by omega)]
      have hq : quo .i64 (n : Int) 10 = some ((n / 10 : Nat) : Int) := by
        unfold quo
        rw [if_neg (by omega), Int.tdiv_eq_ediv_of_nonneg (by omega), w64 (by omega) (by omega)]
        rfl
      have hr : rem (n : Int) 10 = some ((n % 10 : Nat) : Int) := by
        unfold rem
        rw [if_neg (by omega), Int.tmod_eq_emod_of_nonneg (by omega)]
        rfl
      rw [hq, Option.bind_some]
      show (wref01_Digits _).bind _ = _
      rw [ih (n / 10) (by omega) (by omega), Option.bind_some, hr, Option.bind_some]
      show (wref01_Digits _).bind _ = _
      rw [ih (n % 10) (by omega) (by omega), Option.bind_some]
      have hl : (dig (n / 10)).length ≤ 20 := dig_len 19 _ (by have : (10 : Nat) ^ (19 + 1) = 100000000000000000000 := by decide
                                                               omega)
      rw [dig_lo (show n % 10 < 10 by omega), cat_ok (by simp; omega), Option.bind_some, dig_hi h10]

/-! a number is read -/
theorem number_loop {b : List UInt8} (hb : b.length ≤ 9) (hd : ∀ c ∈ b, 48 ≤ c.toNat ∧ c.toNat ≤ 57) : ∀ l pre : List UInt8, b = pre ++ l →
    run (cmd_number_l0_step (b.map fun c => (c.toNat : Int))) ((dval pre : Int), (pre.length : Int)) = some ((dval b : Int), true)
  | [], pre, h => by
    rw [run_eq]
    simp only [cmd_number_l0_step]
    rw [List.append_nil] at h
    subst h
    rw [if_neg (by simp)]
  | c :: l, pre, h => by
    have hc := hd c (by rw [h]; simp)
    have hlen : pre.length + 1 ≤ 9 := by rw [h] at hb; simp at hb; omega
    have hv := dval_lt pre fun c hc => hd c (by rw [h]; simp [hc])
    have hp : (10 : Nat) ^ pre.length ≤ 10 ^ 8 := Nat.pow_le_pow_right (by omega) (by omega)
    have hp8 : (10 : Nat) ^ 8 = 100000000 := by decide
    rw [run_eq]
    simp only [cmd_number_l0_step]
    rw [if_pos (by rw [h]; simp; omega), idx_nat]
    have hg : (b.map fun c => (c.toNat : Int))[pre.length]? = some (c.toNat : Int) := by
      rw [h, List.getElem?_map, List.getElem?_append_right (Nat.le_refl _)]; simp
    rw [hg, Option.bind_some, if_neg (by omega), if_neg (by omega)]
    have e1 : IntKind.u8.wrap ((c.toNat : Int) - 48) = (c.toNat : Int) - 48 := by rw [IntKind.wrap_u8]; omega
    rw [e1, w64 (x := (dval pre : Int) * 10) (by omega) (by omega), w64 (x := (c.toNat : Int) - 48) (by omega) (by omega), w64 (x := (dval pre : Int) * 10 + ((c.toNat : Int) - 48)) (by omega) (by omega), w64 (x := (pre.length : Int) + 1) (by omega) (by omega)]
    have e2 : (dval pre : Int) * 10 + ((c.toNat : Int) - 48) = (dval (pre ++ [c]) : Int) := by rw [dval_snoc]; omega
    have e3 : (pre.length : Int) + 1 = ((pre ++ [c]).length : Int) := by simp
    rw [e2, e3]
    exact number_loop hb hd l (pre ++ [c]) (by rw [h]; simp)
theorem number_eq {n : Nat} (hn : n ≤ 999999999) : cmd_number (dig n) = some ((n : Int), true) := by
  have hl : (dig n).length ≤ 9 := dig_len 8 n (by have : (10 : Nat) ^ (8 + 1) = 1000000000 := by decide
                                                  omega)
  have hloop := number_loop hl (dig_all n) (dig n) [] rfl
  rw [dval_dig] at hloop
  have hby : byts (dig n) = some ((dig n).map fun c => (c.toNat : Int)) := byts_ok (by simp only [lim]; omega)
  unfold cmd_number
  rw [if_neg (by simpa using dig_ne n), if_neg (by omega)]
  by_cases h1 : 1 < ((dig n).length : Int)
  · rw [if_pos h1]
    have h10 : ¬ n < 10 := by
      intro h; rw [dig_lo h] at h1; simp at h1
    obtain ⟨c, hc, h48⟩ := dig_head n (by omega)
    have hi : idx (dig n) 0 = some c := by
      have := idx_nat (l := dig n) (i := 0)
      rw [hc] at this
      exact this
    rw [hi, Option.bind_some, if_neg (by simp only [beq_iff_eq]; omega), hby, Option.bind_some]
    exact hloop
  · rw [if_neg h1, hby, Option.bind_some]
    exact hloop

/-! a text without a blank is one word -/
theorem split_one {d : List UInt8} (hd : (32 : UInt8) ∉ d) (hl : d.length ≤ 1000) : strings_Split d [32] = some [d] := by
  have hc : strings_Count d [32] = some 0 := by
    show countP d [32] = some 0
    show some ((Lib.countByte d 32 : Nat) : Int) = some 0
    unfold Lib.countByte
    rw [List.count_eq_zero.2 hd]; rfl
  have hj : strings_genSplit_j0 d [32] (-1) = some (.inl 1) := by
    unfold strings_genSplit_j0
    rw [if_pos (by omega), hc]
    rfl
  have hm : (if IntKind.i64.wrap ((d.length : Int) + 1) < 1 then IntKind.i64.wrap ((d.length : Int) + 1) else 1) = 1 := by
    rw [w64 (by omega) (by omega), if_neg (by omega)]
  unfold strings_Split strings_genSplit
  rw [if_neg (by decide), if_neg (by decide), hj, jn_inl]
  simp only [hm]
  have hmk : mkA 16 1 ([] : List UInt8) = some [[]] := by decide
  rw [hmk, Option.bind_some]
  have hrun : strings_genSplit_l1 d [32] 0 1 (d, 0, [[]]) = some [d] := by
    unfold strings_genSplit_l1
    rw [run_eq]
    unfold strings_genSplit_l1_step
    simp only [hm]
    rw [if_neg (by decide)]
    rfl
  rw [hrun]; rfl

/-! the kinds that have a number -/
def wordK (k : Int) : List UInt8 := (idx tabF25 k).getD []
noncomputable def formK (k : Int) : CmdForm := (cmd_formOf k).getD ⟨0, 0, 0, 0⟩
theorem kinds {k : Int} (h1 : 10 ≤ k) (h2 : k ≤ 20) : idx tabF25 k = some (wordK k) ∧ (wordK k).all nb = true ∧ (wordK k).length ≤ 100 ∧ cmd_kindOf (wordK k) = some k ∧ cmd_formOf k = some (formK k) ∧ (formK k).count = 1 ∧
    wlaw31_CmdNumbers_j0 k = some (.inl ((formK k).least, (formK k).most)) := by
  have h : k = 10 ∨ k = 11 ∨ k = 12 ∨ k = 13 ∨ k = 14 ∨ k = 15 ∨ k = 16 ∨ k = 17 ∨ k = 18 ∨ k = 19 ∨ k = 20 := by omega
  rcases h with rfl | rfl | rfl | rfl | rfl | rfl | rfl | rfl | rfl | rfl | rfl <;>
    exact ⟨by kernel_rfl, by kernel_rfl, by decide +kernel, cmd_kindOf_x_le 100 _ _ (by kernel_rfl), by kernel_rfl, by kernel_rfl, by kernel_rfl⟩

theorem numbers_eq {k : Int} (h1 : 10 ≤ k) (h2 : k ≤ 20) {n : Nat} (hn : n ≤ 999999999) :
    cmd_numbers k [dig n] = some (if (n : Int) < (formK k).least ∨ (formK k).most < (n : Int) then ([], 10) else ([(n : Int)], 0)) := by
  obtain ⟨_, _, _, _, hf, hc, _⟩ := kinds h1 h2
  have hj : cmd_numbers_j6 [dig n] = some (.inl [(n : Int)]) := by
    unfold cmd_numbers_j6 cmd_numbers_l7
    rw [run_eq]
    unfold cmd_numbers_l7_step
    simp only
    rw [if_pos (by simp)]
    have hi : idx [dig n] 0 = some (dig n) := rfl
    rw [hi, Option.bind_some, number_eq hn, Option.bind_some, if_pos rfl, app_ok (by simp [lim]) (by simp [lim]), Option.bind_some]
    simp only
    rw [run_eq]
    simp only
    rw [w64 (by omega) (by omega), if_neg (by simp)]
    rfl
  unfold cmd_numbers
  rw [hf, Option.bind_some, if_neg (by simp), if_neg (by rw [hc]; simp), hj, jn_inl]
  unfold cmd_numbers_l8
  rw [run_eq]
  unfold cmd_numbers_l8_step
  have hi : idx [(n : Int)] 0 = some (n : Int) := rfl
  rw [if_pos (by simp), hi, Option.bind_some]
  by_cases hlo : (n : Int) < (formK k).least
  · rw [if_pos hlo, if_pos (.inl hlo)]
  · rw [if_neg hlo]
    by_cases hhi : (formK k).most < (n : Int)
    · rw [if_pos hhi, if_pos (.inr hhi)]
    · rw [if_neg hhi, if_neg (by rintro (h | h); exact hlo h; exact hhi h)]
      rw [w64 (x := 0 + 1) (by omega) (by omega)]
      show run (cmd_numbers_l8_step (formK k) [(n : Int)]) (0 + 1) = _
      rw [run_eq]
      unfold cmd_numbers_l8_step
      rw [if_neg (by simp)]

theorem cut_word {w d : List UInt8} (hw : w.all nb = true) (hl : (w ++ 32 :: d).length ≤ 1000000) : strings_Cut (w ++ 32 :: d) [32] = some (w, d, true) := by
  have hf : firstW (w ++ 32 :: d) = w := by
    unfold firstW
    rw [tw_at nb (w ++ 32 :: d) w.length 32 (by rw [List.take_left]; exact hw) (by rw [List.getElem?_append_right (Nat.le_refl _)]; simp) rfl, List.take_left]
  rcases cut_first hl with ⟨n, h1, h2, h3⟩ | ⟨h1, _⟩
  · rw [hf] at h2
    have hn : n = w.length := by
      have := congrArg List.length h2
      rw [List.length_take] at this; omega
    subst hn
    rw [h3, List.take_left, List.drop_append]
    simp
  · rw [hf] at h1
    have := congrArg List.length h1
    simp at this

theorem cmdNumbers_pure (k n : Int) : wlaw31_CmdNumbers k n = some true := by
  unfold wlaw31_CmdNumbers
  rw [anchor31, Option.bind_some, if_pos rfl]
  by_cases h1 : k < 10
  · rw [if_pos h1]
  rw [if_neg h1]
  by_cases h2 : 20 < k
  · rw [if_pos h2]
  rw [if_neg h2]
  by_cases h3 : n < 0
  · rw [if_pos h3]
  rw [if_neg h3]
  by_cases h4 : 999999999 < n
  · rw [if_pos h4]
  rw [if_neg h4]
  obtain ⟨n, rfl⟩ : ∃ m : Nat, n = m := ⟨n.toNat, by omega⟩
  have hn : n ≤ 999999999 := by omega
  obtain ⟨hi, hnb, hwl, hk, hf, hc, hj⟩ := kinds (k := k) (by omega) (by omega)
  have hl : (dig n).length ≤ 9 := dig_len 8 n (by have : (10 : Nat) ^ (8 + 1) = 1000000000 := by decide
                                                  omega)
  have hw : wref31_Words = some () := rfl
  rw [hj, jn_inl, hw, Option.bind_some, hi, Option.bind_some, cat_ok (by simp; omega), Option.bind_some, digits_eq n (by omega), Option.bind_some, cat_ok (by simp; omega), Option.bind_some]
  have hs : wordK k ++ [32] ++ dig n = wordK k ++ 32 :: dig n := by simp
  have h32 : (32 : UInt8) ∉ dig n := by
    intro h
    have := dig_all n 32 h
    have e : (32 : UInt8).toNat = 32 := rfl
    omega
  have hp : cmd_Parse (wordK k ++ [32] ++ dig n) = some (if (n : Int) < (formK k).least ∨ (formK k).most < (n : Int) then ((CmdCommand.mk 0 [] [] (BrkBreak.mk 0 [] 0 [] false) []), 10) else ((CmdCommand.mk k [(n : Int)] [] (BrkBreak.mk 0 [] 0 [] false) []), 0)) := by
    rw [hs]
    unfold cmd_Parse
    rw [cut_word hnb (by simp; omega), Option.bind_some]
    simp only
    rw [hk, Option.bind_some, if_neg (by simp; omega), if_neg (by omega)]
    unfold cmd_Parse_j0
    simp only
    rw [if_pos trivial, split_one h32 (by omega), Option.bind_some, jn_inl, numbers_eq (by omega) (by omega) hn, Option.bind_some]
    by_cases ho : (n : Int) < (formK k).least ∨ (formK k).most < (n : Int)
    · rw [if_pos ho, if_pos ho]; rfl
    · rw [if_neg ho, if_neg ho]; rfl
  rw [hp, Option.bind_some]
  simp only
  by_cases hlo : (n : Int) < (formK k).least
  · rw [if_pos hlo, if_pos (Or.inl hlo : (n : Int) < (formK k).least ∨ (formK k).most < (n : Int))]; rfl
  · rw [if_neg hlo]
    by_cases hhi : (formK k).most < (n : Int)
    · rw [if_pos hhi, if_pos (Or.inr hhi : (n : Int) < (formK k).least ∨ (formK k).most < (n : Int))]; rfl
    · rw [if_neg hhi, if_neg (show ¬ ((n : Int) < (formK k).least ∨ (formK k).most < (n : Int)) by rintro (h | h); exact hlo h; exact hhi h)]
      simp only
      rw [if_pos (beq_self_eq_true _), if_pos (beq_self_eq_true _), if_pos (by simp)]
      have hi : idx [(n : Int)] 0 = some (n : Int) := rfl
      rw [hi, Option.bind_some]
      simp
end Go.Proofs.YtilmjbljkkbakaaGreatDoor
