/-
  A part of the proof: lemmas.
-/
import Derived.Test.YtilmjbljkkbakaaGreatDoorCFunsc
set_option linter.unusedSimpArgs false
set_option linter.unusedVariables false
set_option linter.unusedSectionVars false
set_option linter.unnecessarySimpa false
set_option linter.deprecated false
/-! The functions with fuel: what can be reckoned. -/
namespace Go.Proofs.YtilmjbljkkbakaaGreatDoor
open Go.Wv
set_option linter.unusedSimpArgs false
set_option linter.unusedVariables false
set_option maxRecDepth 10000
def internal_stringslite_Cut_x (k : Nat) (a0 : List UInt8) (a1 : List UInt8) : Option ((List UInt8) × (List UInt8) × Bool) :=
  (stringslite_Index a0 a1).bind fun r2 =>
  if 0 ≤ r2 then
    (subT a0 r2).bind fun m3 =>
    (subF a0 ((IntKind.i64.wrap (r2 + (a1.length : Int))))).bind fun m4 =>
    some (m3, m4, true)
  else
    some (a0, [], false)
theorem internal_stringslite_Cut_x_le (k : Nat) (a0 : List UInt8) (a1 : List UInt8) : Le (internal_stringslite_Cut_x k a0 a1) (internal_stringslite_Cut a0 a1) := by
  simp only [internal_stringslite_Cut, internal_stringslite_Cut_x]
  repeat' first | exact Le.refl _ | apply Le.jn | apply Le.bind | apply Le.map | apply Le.ite | apply Le.run | intro _
def strings_Cut_x (k : Nat) (a0 : List UInt8) (a1 : List UInt8) : Option ((List UInt8) × (List UInt8) × Bool) :=
  (internal_stringslite_Cut_x k a0 a1).bind fun r2 =>
  some (r2.1, r2.2.1, r2.2.2)
theorem strings_Cut_x_le (k : Nat) (a0 : List UInt8) (a1 : List UInt8) : Le (strings_Cut_x k a0 a1) (strings_Cut a0 a1) := by
  simp only [strings_Cut, strings_Cut_x]
  repeat' first | exact Le.refl _ | exact internal_stringslite_Cut_x_le k _ _ | apply Le.jn | apply Le.bind | apply Le.map | apply Le.ite | apply Le.run | intro _
def cmd_kindOf_l0_step_x (k : Nat) (a0 : List UInt8) (s1 : Int) : Option ((Int) ⊕ (Int)) :=
  if s1 ≤ 25 then
    (inM 26 s1).bind fun j2 =>
    (tab1[j2]?).bind fun x3 =>
    if (x3 == a0) then
      some (.inr s1)
    else
      some (.inl ((IntKind.i64.wrap (s1 + 1))))
  else
    some (.inr 0)
def cmd_kindOf_l0_x (k : Nat) (a0 : List UInt8) (s1 : Int) : Option (Int) := iter (cmd_kindOf_l0_step_x k a0) k s1
def cmd_kindOf_x (k : Nat) (a0 : List UInt8) : Option (Int) :=
  cmd_kindOf_l0_x k a0 1
theorem cmd_kindOf_x_le (k : Nat) (a0 : List UInt8) : Le (cmd_kindOf_x k a0) (cmd_kindOf a0) := by
  simp only [cmd_kindOf, cmd_kindOf_x, cmd_kindOf_l0, cmd_kindOf_l0_x, cmd_kindOf_l0_step, cmd_kindOf_l0_step_x]
  repeat' first | exact Le.refl _ | apply Le.jn | apply Le.bind | apply Le.map | apply Le.ite | apply Le.run | intro _
def tok_Lex_1_x (k : Nat) (a0 : Int) : Option (Bool) :=
  some (a0 == 32)
theorem tok_Lex_1_x_le (k : Nat) (a0 : Int) : Le (tok_Lex_1_x k a0) (tok_Lex_1 a0) := by
  simp only [tok_Lex_1, tok_Lex_1_x]
  repeat' first | exact Le.refl _ | apply Le.jn | apply Le.bind | apply Le.map | apply Le.ite | apply Le.run | intro _
def tok_reader_while_at55_l0_step_x (k : Nat) (p0 : TokReader) (s1 : Int) : Option ((Int) ⊕ ((List UInt8) × TokReader)) :=
  if s1 < (p0.s.length : Int) then
    (idx p0.s s1).bind fun c2 =>
    (tok_Lex_1_x k (c2.toNat : Int)).bind fun r3 =>
    if r3 then
      some (.inl ((IntKind.i64.wrap (s1 + 1))))
    else
      (sub p0.s p0.at_ s1).bind fun m4 =>
      some (.inr ((m4, (TokReader.mk p0.s s1))))
  else
    (sub p0.s p0.at_ s1).bind fun m5 =>
    some (.inr ((m5, (TokReader.mk p0.s s1))))
def tok_reader_while_at55_l0_x (k : Nat) (p0 : TokReader) (s1 : Int) : Option ((List UInt8) × TokReader) := iter (tok_reader_while_at55_l0_step_x k p0) k s1
def tok_reader_while_at55_x (k : Nat) (p0 : TokReader) : Option ((List UInt8) × TokReader) :=
  tok_reader_while_at55_l0_x k p0 p0.at_
theorem tok_reader_while_at55_x_le (k : Nat) (p0 : TokReader) : Le (tok_reader_while_at55_x k p0) (tok_reader_while_at55 p0) := by
  simp only [tok_reader_while_at55, tok_reader_while_at55_x, tok_reader_while_at55_l0, tok_reader_while_at55_l0_x, tok_reader_while_at55_l0_step, tok_reader_while_at55_l0_step_x]
  repeat' first | exact Le.refl _ | exact tok_Lex_1_x_le k _ | apply Le.jn | apply Le.bind | apply Le.map | apply Le.ite | apply Le.run | intro _
def tok_small_x (k : Nat) (a0 : Int) : Option (Bool) :=
  if 97 ≤ a0 then
    some ((decide (a0 ≤ 122)))
  else
    some false
theorem tok_small_x_le (k : Nat) (a0 : Int) : Le (tok_small_x k a0) (tok_small a0) := by
  simp only [tok_small, tok_small_x]
  repeat' first | exact Le.refl _ | apply Le.jn | apply Le.bind | apply Le.map | apply Le.ite | apply Le.run | intro _
def tok_digit_x (k : Nat) (a0 : Int) : Option (Bool) :=
  if 48 ≤ a0 then
    some ((decide (a0 ≤ 57)))
  else
    some false
theorem tok_digit_x_le (k : Nat) (a0 : Int) : Le (tok_digit_x k a0) (tok_digit a0) := by
  simp only [tok_digit, tok_digit_x]
  repeat' first | exact Le.refl _ | apply Le.jn | apply Le.bind | apply Le.map | apply Le.ite | apply Le.run | intro _
def tok_reader_word_1_x (k : Nat) (a0 : Int) : Option (Bool) :=
  (tok_small_x k a0).bind fun r1 =>
  if r1 then
    some true
  else
    (tok_digit_x k a0).bind fun r2 =>
    if r2 then
      some true
    else
      some (a0 == 95)
theorem tok_reader_word_1_x_le (k : Nat) (a0 : Int) : Le (tok_reader_word_1_x k a0) (tok_reader_word_1 a0) := by
  simp only [tok_reader_word_1, tok_reader_word_1_x]
  repeat' first | exact Le.refl _ | exact tok_digit_x_le k _ | exact tok_small_x_le k _ | apply Le.jn | apply Le.bind | apply Le.map | apply Le.ite | apply Le.run | intro _
def tok_reader_while_at153_l0_step_x (k : Nat) (p0 : TokReader) (s1 : Int) : Option ((Int) ⊕ ((List UInt8) × TokReader)) :=
  if s1 < (p0.s.length : Int) then
    (idx p0.s s1).bind fun c2 =>
    (tok_reader_word_1_x k (c2.toNat : Int)).bind fun r3 =>
    if r3 then
      some (.inl ((IntKind.i64.wrap (s1 + 1))))
    else
      (sub p0.s p0.at_ s1).bind fun m4 =>
      some (.inr ((m4, (TokReader.mk p0.s s1))))
  else
    (sub p0.s p0.at_ s1).bind fun m5 =>
    some (.inr ((m5, (TokReader.mk p0.s s1))))
def tok_reader_while_at153_l0_x (k : Nat) (p0 : TokReader) (s1 : Int) : Option ((List UInt8) × TokReader) := iter (tok_reader_while_at153_l0_step_x k p0) k s1
def tok_reader_while_at153_x (k : Nat) (p0 : TokReader) : Option ((List UInt8) × TokReader) :=
  tok_reader_while_at153_l0_x k p0 p0.at_
theorem tok_reader_while_at153_x_le (k : Nat) (p0 : TokReader) : Le (tok_reader_while_at153_x k p0) (tok_reader_while_at153 p0) := by
  simp only [tok_reader_while_at153, tok_reader_while_at153_x, tok_reader_while_at153_l0, tok_reader_while_at153_l0_x, tok_reader_while_at153_l0_step, tok_reader_while_at153_l0_step_x]
  repeat' first | exact Le.refl _ | exact tok_reader_word_1_x_le k _ | apply Le.jn | apply Le.bind | apply Le.map | apply Le.ite | apply Le.run | intro _
def tok_reader_word_x (k : Nat) (p0 : TokReader) : Option ((List UInt8) × TokReader) :=
  (tok_reader_while_at153_x k p0).bind fun r1 =>
  some (r1.1, r1.2)
theorem tok_reader_word_x_le (k : Nat) (p0 : TokReader) : Le (tok_reader_word_x k p0) (tok_reader_word p0) := by
  simp only [tok_reader_word, tok_reader_word_x]
  repeat' first | exact Le.refl _ | exact tok_reader_while_at153_x_le k _ | apply Le.jn | apply Le.bind | apply Le.map | apply Le.ite | apply Le.run | intro _
def tok_reader_path_l0_step_x (k : Nat) (r1 : (List UInt8) × TokReader) (s2 : Int × (List UInt8) × (List UInt8) × Int) : Option ((Int × (List UInt8) × (List UInt8) × Int) ⊕ (TokToken × Int × TokReader)) :=
  if (IntKind.i64.wrap (s2.2.2.2 + 1)) < (s2.2.2.1.length : Int) then
    (idx s2.2.2.1 s2.2.2.2).bind fun c3 =>
    if ((c3.toNat : Int) == 46) then
      (idx s2.2.2.1 ((IntKind.i64.wrap (s2.2.2.2 + 1)))).bind fun c4 =>
      (tok_small_x k (c4.toNat : Int)).bind fun r5 =>
      if r5 then
        (tok_reader_word_x k ((TokReader.mk s2.2.2.1 ((IntKind.i64.wrap (s2.2.2.2 + 1)))))).bind fun r6 =>
        (cat [46] r6.1).bind fun s7 =>
        (cat s2.2.1 s7).bind fun s8 =>
        if 16 < (r6.1.length : Int) then
          some (.inr (((TokToken.mk 2 s8 0 r1.2.at_), 15, r6.2)))
        else
          some (.inl (2, s8, r6.2.s, r6.2.at_))
      else
        if 32 < (s2.2.1.length : Int) then
          some (.inr (((TokToken.mk s2.1 s2.2.1 0 r1.2.at_), 15, (TokReader.mk s2.2.2.1 s2.2.2.2))))
        else
          some (.inr (((TokToken.mk s2.1 s2.2.1 0 r1.2.at_), 0, (TokReader.mk s2.2.2.1 s2.2.2.2))))
    else
      if 32 < (s2.2.1.length : Int) then
        some (.inr (((TokToken.mk s2.1 s2.2.1 0 r1.2.at_), 15, (TokReader.mk s2.2.2.1 s2.2.2.2))))
      else
        some (.inr (((TokToken.mk s2.1 s2.2.1 0 r1.2.at_), 0, (TokReader.mk s2.2.2.1 s2.2.2.2))))
  else
    if 32 < (s2.2.1.length : Int) then
      some (.inr (((TokToken.mk s2.1 s2.2.1 0 r1.2.at_), 15, (TokReader.mk s2.2.2.1 s2.2.2.2))))
    else
      some (.inr (((TokToken.mk s2.1 s2.2.1 0 r1.2.at_), 0, (TokReader.mk s2.2.2.1 s2.2.2.2))))
def tok_reader_path_l0_x (k : Nat) (r1 : (List UInt8) × TokReader) (s2 : Int × (List UInt8) × (List UInt8) × Int) : Option (TokToken × Int × TokReader) := iter (tok_reader_path_l0_step_x k r1) k s2
def tok_reader_path_x (k : Nat) (p0 : TokReader) : Option (TokToken × Int × TokReader) :=
  (tok_reader_word_x k p0).bind fun r1 =>
  if 16 < (r1.1.length : Int) then
    some (((TokToken.mk 1 r1.1 0 r1.2.at_), 15, r1.2))
  else
    tok_reader_path_l0_x k r1 (1, r1.1, r1.2.s, r1.2.at_)
theorem tok_reader_path_x_le (k : Nat) (p0 : TokReader) : Le (tok_reader_path_x k p0) (tok_reader_path p0) := by
  simp only [tok_reader_path, tok_reader_path_x, tok_reader_path_l0, tok_reader_path_l0_x, tok_reader_path_l0_step, tok_reader_path_l0_step_x]
  repeat' first | exact Le.refl _ | exact tok_reader_word_x_le k _ | exact tok_small_x_le k _ | apply Le.jn | apply Le.bind | apply Le.map | apply Le.ite | apply Le.run | intro _
def tok_reader_while_at94_l0_step_x (k : Nat) (p0 : TokReader) (s1 : Int) : Option ((Int) ⊕ ((List UInt8) × TokReader)) :=
  if s1 < (p0.s.length : Int) then
    (idx p0.s s1).bind fun c2 =>
    (tok_digit_x k (c2.toNat : Int)).bind fun r3 =>
    if r3 then
      some (.inl ((IntKind.i64.wrap (s1 + 1))))
    else
      (sub p0.s p0.at_ s1).bind fun m4 =>
      some (.inr ((m4, (TokReader.mk p0.s s1))))
  else
    (sub p0.s p0.at_ s1).bind fun m5 =>
    some (.inr ((m5, (TokReader.mk p0.s s1))))
def tok_reader_while_at94_l0_x (k : Nat) (p0 : TokReader) (s1 : Int) : Option ((List UInt8) × TokReader) := iter (tok_reader_while_at94_l0_step_x k p0) k s1
def tok_reader_while_at94_x (k : Nat) (p0 : TokReader) : Option ((List UInt8) × TokReader) :=
  tok_reader_while_at94_l0_x k p0 p0.at_
theorem tok_reader_while_at94_x_le (k : Nat) (p0 : TokReader) : Le (tok_reader_while_at94_x k p0) (tok_reader_while_at94 p0) := by
  simp only [tok_reader_while_at94, tok_reader_while_at94_x, tok_reader_while_at94_l0, tok_reader_while_at94_l0_x, tok_reader_while_at94_l0_step, tok_reader_while_at94_l0_step_x]
  repeat' first | exact Le.refl _ | exact tok_digit_x_le k _ | apply Le.jn | apply Le.bind | apply Le.map | apply Le.ite | apply Le.run | intro _
def tok_reader_number_l0_step_x (k : Nat) (r1 : (List UInt8) × TokReader) (b3 : List Int) (s4 : Int × Int) : Option ((Int × Int) ⊕ (TokToken × Int × TokReader)) :=
  if s4.2 < (b3.length : Int) then
    (idx b3 s4.2).bind fun x5 =>
    (quo .i64 ((IntKind.i64.wrap (9223372036854775807 - (IntKind.i64.wrap ((IntKind.u8.wrap (x5 - 48))))))) 10).bind fun q6 =>
    if q6 < s4.1 then
      some (.inr (((TokToken.mk 0 [] 0 0), 21, r1.2)))
    else
      some (.inl (((IntKind.i64.wrap ((IntKind.i64.wrap (s4.1 * 10)) + (IntKind.i64.wrap ((IntKind.u8.wrap (x5 - 48)))))), (IntKind.i64.wrap (s4.2 + 1)))))
  else
    some (.inr (((TokToken.mk 3 r1.1 s4.1 0), 0, r1.2)))
def tok_reader_number_l0_x (k : Nat) (r1 : (List UInt8) × TokReader) (b3 : List Int) (s4 : Int × Int) : Option (TokToken × Int × TokReader) := iter (tok_reader_number_l0_step_x k r1 b3) k s4
def tok_reader_number_l1_step_x (k : Nat) (r1 : (List UInt8) × TokReader) (b7 : List Int) (s8 : Int × Int) : Option ((Int × Int) ⊕ (TokToken × Int × TokReader)) :=
  if s8.2 < (b7.length : Int) then
    (idx b7 s8.2).bind fun x9 =>
    (quo .i64 ((IntKind.i64.wrap (9223372036854775807 - (IntKind.i64.wrap ((IntKind.u8.wrap (x9 - 48))))))) 10).bind fun q10 =>
    if q10 < s8.1 then
      some (.inr (((TokToken.mk 0 [] 0 0), 21, r1.2)))
    else
      some (.inl (((IntKind.i64.wrap ((IntKind.i64.wrap (s8.1 * 10)) + (IntKind.i64.wrap ((IntKind.u8.wrap (x9 - 48)))))), (IntKind.i64.wrap (s8.2 + 1)))))
  else
    some (.inr (((TokToken.mk 3 r1.1 s8.1 0), 0, r1.2)))
def tok_reader_number_l1_x (k : Nat) (r1 : (List UInt8) × TokReader) (b7 : List Int) (s8 : Int × Int) : Option (TokToken × Int × TokReader) := iter (tok_reader_number_l1_step_x k r1 b7) k s8
def tok_reader_number_x (k : Nat) (p0 : TokReader) : Option (TokToken × Int × TokReader) :=
  (tok_reader_while_at94_x k p0).bind fun r1 =>
  if 1 < (r1.1.length : Int) then
    (idx r1.1 0).bind fun c2 =>
    if ((c2.toNat : Int) == 48) then
      some (((TokToken.mk 0 [] 0 0), 11, r1.2))
    else
      (byts r1.1).bind fun b3 =>
      tok_reader_number_l0_x k r1 b3 (0, 0)
  else
    (byts r1.1).bind fun b7 =>
    tok_reader_number_l1_x k r1 b7 (0, 0)
theorem tok_reader_number_x_le (k : Nat) (p0 : TokReader) : Le (tok_reader_number_x k p0) (tok_reader_number p0) := by
  simp only [tok_reader_number, tok_reader_number_x, tok_reader_number_l0, tok_reader_number_l0_x, tok_reader_number_l0_step, tok_reader_number_l0_step_x, tok_reader_number_l1, tok_reader_number_l1_x, tok_reader_number_l1_step, tok_reader_number_l1_step_x]
  repeat' first | exact Le.refl _ | exact tok_reader_while_at94_x_le k _ | apply Le.jn | apply Le.bind | apply Le.map | apply Le.ite | apply Le.run | intro _
def tok_reader_quote_1_x (k : Nat) (a0 : Int) : Option (Bool) :=
  some (a0 != 39)
theorem tok_reader_quote_1_x_le (k : Nat) (a0 : Int) : Le (tok_reader_quote_1_x k a0) (tok_reader_quote_1 a0) := by
  simp only [tok_reader_quote_1, tok_reader_quote_1_x]
  repeat' first | exact Le.refl _ | apply Le.jn | apply Le.bind | apply Le.map | apply Le.ite | apply Le.run | intro _
def tok_reader_while_at128_l0_step_x (k : Nat) (p0 : TokReader) (s1 : Int) : Option ((Int) ⊕ ((List UInt8) × TokReader)) :=
  if s1 < (p0.s.length : Int) then
    (idx p0.s s1).bind fun c2 =>
    (tok_reader_quote_1_x k (c2.toNat : Int)).bind fun r3 =>
    if r3 then
      some (.inl ((IntKind.i64.wrap (s1 + 1))))
    else
      (sub p0.s p0.at_ s1).bind fun m4 =>
      some (.inr ((m4, (TokReader.mk p0.s s1))))
  else
    (sub p0.s p0.at_ s1).bind fun m5 =>
    some (.inr ((m5, (TokReader.mk p0.s s1))))
def tok_reader_while_at128_l0_x (k : Nat) (p0 : TokReader) (s1 : Int) : Option ((List UInt8) × TokReader) := iter (tok_reader_while_at128_l0_step_x k p0) k s1
def tok_reader_while_at128_x (k : Nat) (p0 : TokReader) : Option ((List UInt8) × TokReader) :=
  tok_reader_while_at128_l0_x k p0 p0.at_
theorem tok_reader_while_at128_x_le (k : Nat) (p0 : TokReader) : Le (tok_reader_while_at128_x k p0) (tok_reader_while_at128 p0) := by
  simp only [tok_reader_while_at128, tok_reader_while_at128_x, tok_reader_while_at128_l0, tok_reader_while_at128_l0_x, tok_reader_while_at128_l0_step, tok_reader_while_at128_l0_step_x]
  repeat' first | exact Le.refl _ | exact tok_reader_quote_1_x_le k _ | apply Le.jn | apply Le.bind | apply Le.map | apply Le.ite | apply Le.run | intro _
def val_Plain_l0_step_x (k : Nat) (a0 : List UInt8) (b1 : List Int) (s2 : Int) : Option ((Int) ⊕ (Bool)) :=
  if s2 < (b1.length : Int) then
    (idx b1 s2).bind fun x3 =>
    if x3 < 32 then
      some (.inr false)
    else
      if 126 < x3 then
        some (.inr false)
      else
        if (x3 == 39) then
          some (.inr false)
        else
          some (.inl ((IntKind.i64.wrap (s2 + 1))))
  else
    some (.inr ((decide ((a0.length : Int) ≤ 48))))
def val_Plain_l0_x (k : Nat) (a0 : List UInt8) (b1 : List Int) (s2 : Int) : Option (Bool) := iter (val_Plain_l0_step_x k a0 b1) k s2
def val_Plain_x (k : Nat) (a0 : List UInt8) : Option (Bool) :=
  (byts a0).bind fun b1 =>
  val_Plain_l0_x k a0 b1 0
theorem val_Plain_x_le (k : Nat) (a0 : List UInt8) : Le (val_Plain_x k a0) (val_Plain a0) := by
  simp only [val_Plain, val_Plain_x, val_Plain_l0, val_Plain_l0_x, val_Plain_l0_step, val_Plain_l0_step_x]
  repeat' first | exact Le.refl _ | apply Le.jn | apply Le.bind | apply Le.map | apply Le.ite | apply Le.run | intro _
def tok_reader_quote_x (k : Nat) (p0 : TokReader) : Option (TokToken × Int × TokReader) :=
  (tok_reader_while_at128_x k ((TokReader.mk p0.s ((IntKind.i64.wrap (p0.at_ + 1)))))).bind fun r1 =>
  if (r1.2.at_ == (r1.2.s.length : Int)) then
    some (((TokToken.mk 0 [] 0 0), 14, r1.2))
  else
    if 48 < (r1.1.length : Int) then
      some (((TokToken.mk 0 [] 0 0), 15, (TokReader.mk r1.2.s ((IntKind.i64.wrap (r1.2.at_ + 1))))))
    else
      (val_Plain_x k r1.1).bind fun r2 =>
      if r2 then
        some (((TokToken.mk 4 r1.1 0 0), 0, (TokReader.mk r1.2.s ((IntKind.i64.wrap (r1.2.at_ + 1))))))
      else
        some (((TokToken.mk 0 [] 0 0), 11, (TokReader.mk r1.2.s ((IntKind.i64.wrap (r1.2.at_ + 1))))))
theorem tok_reader_quote_x_le (k : Nat) (p0 : TokReader) : Le (tok_reader_quote_x k p0) (tok_reader_quote p0) := by
  simp only [tok_reader_quote, tok_reader_quote_x]
  repeat' first | exact Le.refl _ | exact tok_reader_while_at128_x_le k _ | exact val_Plain_x_le k _ | apply Le.jn | apply Le.bind | apply Le.map | apply Le.ite | apply Le.run | intro _
def internal_stringslite_HasPrefix_x (k : Nat) (a0 : List UInt8) (a1 : List UInt8) : Option (Bool) :=
  if (a1.length : Int) ≤ (a0.length : Int) then
    (subT a0 (a1.length : Int)).bind fun m2 =>
    some (m2 == a1)
  else
    some false
theorem internal_stringslite_HasPrefix_x_le (k : Nat) (a0 : List UInt8) (a1 : List UInt8) : Le (internal_stringslite_HasPrefix_x k a0 a1) (internal_stringslite_HasPrefix a0 a1) := by
  simp only [internal_stringslite_HasPrefix, internal_stringslite_HasPrefix_x]
  repeat' first | exact Le.refl _ | apply Le.jn | apply Le.bind | apply Le.map | apply Le.ite | apply Le.run | intro _
def strings_HasPrefix_x (k : Nat) (a0 : List UInt8) (a1 : List UInt8) : Option (Bool) :=
  (internal_stringslite_HasPrefix_x k a0 a1).bind fun r2 =>
  some r2
theorem strings_HasPrefix_x_le (k : Nat) (a0 : List UInt8) (a1 : List UInt8) : Le (strings_HasPrefix_x k a0 a1) (strings_HasPrefix a0 a1) := by
  simp only [strings_HasPrefix, strings_HasPrefix_x]
  repeat' first | exact Le.refl _ | exact internal_stringslite_HasPrefix_x_le k _ _ | apply Le.jn | apply Le.bind | apply Le.map | apply Le.ite | apply Le.run | intro _
def tok_reader_sign_l0_step_x (k : Nat) (p0 : TokReader) (s1 : Int) : Option ((Int) ⊕ (TokToken × Int × TokReader)) :=
  if s1 < 15 then
    (idx tab3 s1).bind fun x2 =>
    (subF p0.s p0.at_).bind fun m3 =>
    (strings_HasPrefix_x k m3 x2).bind fun r4 =>
    if r4 then
      some (.inr (((TokToken.mk 5 x2 0 0), 0, (TokReader.mk p0.s ((IntKind.i64.wrap (p0.at_ + (x2.length : Int))))))))
    else
      some (.inl ((IntKind.i64.wrap (s1 + 1))))
  else
    some (.inr (((TokToken.mk 0 [] 0 0), 11, p0)))
def tok_reader_sign_l0_x (k : Nat) (p0 : TokReader) (s1 : Int) : Option (TokToken × Int × TokReader) := iter (tok_reader_sign_l0_step_x k p0) k s1
def tok_reader_sign_x (k : Nat) (p0 : TokReader) : Option (TokToken × Int × TokReader) :=
  tok_reader_sign_l0_x k p0 0
theorem tok_reader_sign_x_le (k : Nat) (p0 : TokReader) : Le (tok_reader_sign_x k p0) (tok_reader_sign p0) := by
  simp only [tok_reader_sign, tok_reader_sign_x, tok_reader_sign_l0, tok_reader_sign_l0_x, tok_reader_sign_l0_step, tok_reader_sign_l0_step_x]
  repeat' first | exact Le.refl _ | exact strings_HasPrefix_x_le k _ _ | apply Le.jn | apply Le.bind | apply Le.map | apply Le.ite | apply Le.run | intro _
def tok_reader_token_x (k : Nat) (p0 : TokReader) : Option (TokToken × Int × TokReader) :=
  (idx p0.s p0.at_).bind fun c1 =>
  (tok_small_x k (c1.toNat : Int)).bind fun r2 =>
  if r2 then
    (tok_reader_path_x k p0).bind fun r3 =>
    some (r3.1, r3.2.1, r3.2.2)
  else
    (tok_digit_x k (c1.toNat : Int)).bind fun r4 =>
    if r4 then
      (tok_reader_number_x k p0).bind fun r5 =>
      some (r5.1, r5.2.1, r5.2.2)
    else
      if ((c1.toNat : Int) == 39) then
        (tok_reader_quote_x k p0).bind fun r6 =>
        some (r6.1, r6.2.1, r6.2.2)
      else
        (tok_reader_sign_x k p0).bind fun r7 =>
        some (r7.1, r7.2.1, r7.2.2)
theorem tok_reader_token_x_le (k : Nat) (p0 : TokReader) : Le (tok_reader_token_x k p0) (tok_reader_token p0) := by
  simp only [tok_reader_token, tok_reader_token_x]
  repeat' first | exact Le.refl _ | exact tok_digit_x_le k _ | exact tok_reader_number_x_le k _ | exact tok_reader_path_x_le k _ | exact tok_reader_quote_x_le k _ | exact tok_reader_sign_x_le k _ | exact tok_small_x_le k _ | apply Le.jn | apply Le.bind | apply Le.map | apply Le.ite | apply Le.run | intro _
def tok_Lex_l0_step_x (k : Nat) (s1 : (List TokToken) × (List UInt8) × Int) : Option (((List TokToken) × (List UInt8) × Int) ⊕ ((List TokToken) × Int × Int)) :=
  (tok_reader_while_at55_x k (TokReader.mk s1.2.1 s1.2.2)).bind fun r2 =>
  if (r2.2.at_ == (r2.2.s.length : Int)) then
    some (.inr (s1.1, 0, 0))
  else
    if ((s1.1.length : Int) == 120) then
      some (.inr ((([] : List TokToken), 13, r2.2.at_)))
    else
      (tok_reader_token_x k r2.2).bind fun r3 =>
      if (r3.2.1 != 0) then
        some (.inr ((([] : List TokToken), r3.2.1, r2.2.at_)))
      else
        (app 40 s1.1 [(TokToken.mk r3.1.Kind r3.1.Text r3.1.N r2.2.at_)]).bind fun l4 =>
        some (.inl (l4, r3.2.2.s, r3.2.2.at_))
def tok_Lex_l0_x (k : Nat) (s1 : (List TokToken) × (List UInt8) × Int) : Option ((List TokToken) × Int × Int) := iter (tok_Lex_l0_step_x k) k s1
def tok_Lex_x (k : Nat) (a0 : List UInt8) : Option ((List TokToken) × Int × Int) :=
  tok_Lex_l0_x k ((([] : List TokToken), a0, 0))
theorem tok_Lex_x_le (k : Nat) (a0 : List UInt8) : Le (tok_Lex_x k a0) (tok_Lex a0) := by
  simp only [tok_Lex, tok_Lex_x, tok_Lex_l0, tok_Lex_l0_x, tok_Lex_l0_step, tok_Lex_l0_step_x]
  repeat' first | exact Le.refl _ | exact tok_reader_token_x_le k _ | exact tok_reader_while_at55_x_le k _ | apply Le.jn | apply Le.bind | apply Le.map | apply Le.ite | apply Le.run | intro _
def tok_Event_x (k : Nat) (a0 : List UInt8) : Option (Bool) :=
  (tok_Lex_x k a0).bind fun r1 =>
  if (r1.2.1 == 0) then
    if ((r1.1.length : Int) == 1) then
      (idx r1.1 0).bind fun x2 =>
      if (x2.Kind == 1) then
        some (x2.Text == a0)
      else
        if (x2.Kind == 2) then
          some (x2.Text == a0)
        else
          some false
    else
      some false
  else
    some false
theorem tok_Event_x_le (k : Nat) (a0 : List UInt8) : Le (tok_Event_x k a0) (tok_Event a0) := by
  simp only [tok_Event, tok_Event_x]
  repeat' first | exact Le.refl _ | exact tok_Lex_x_le k _ | apply Le.jn | apply Le.bind | apply Le.map | apply Le.ite | apply Le.run | intro _
def tok_Means_x (k : Nat) (a0 : List UInt8) : Option (Bool) :=
  if (a0 == [99, 104, 97, 114, 116]) then
    some true
  else
    if (a0 == [118, 97, 114]) then
      some true
    else
      if (a0 == [115, 116, 97, 116, 101]) then
        some true
      else
        if (a0 == [112, 97, 114, 97, 108, 108, 101, 108]) then
          some true
        else
          if (a0 == [102, 105, 110, 97, 108]) then
            some true
          else
            if (a0 == [100, 101, 101, 112]) then
              some true
            else
              if (a0 == [115, 104, 97, 108, 108, 111, 119]) then
                some true
              else
                if (a0 == [101, 110, 116, 101, 114]) then
                  some true
                else
                  if (a0 == [101, 120, 105, 116]) then
                    some true
                  else
                    if (a0 == [111, 110]) then
                      some true
                    else
                      if (a0 == [97, 117, 116, 111]) then
                        some true
                      else
                        if (a0 == [101, 110, 100]) then
                          some true
                        else
                          if (a0 == [105, 102]) then
                            some true
                          else
                            if (a0 == [103, 111]) then
                              some true
                            else
                              if (a0 == [105, 110, 110, 101, 114]) then
                                some true
                              else
                                if (a0 == [100, 111]) then
                                  some true
                                else
                                  if (a0 == [115, 101, 116]) then
                                    some true
                                  else
                                    if (a0 == [114, 97, 105, 115, 101]) then
                                      some true
                                    else
                                      if (a0 == [115, 101, 110, 100]) then
                                        some true
                                      else
                                        if (a0 == [99, 97, 110, 99, 101, 108]) then
                                          some true
                                        else
                                          if (a0 == [108, 111, 103]) then
                                            some true
                                          else
                                            if (a0 == [116, 114, 117, 101]) then
                                              some true
                                            else
                                              if (a0 == [102, 97, 108, 115, 101]) then
                                                some true
                                              else
                                                if (a0 == [110, 111, 116]) then
                                                  some true
                                                else
                                                  if (a0 == [97, 110, 100]) then
                                                    some true
                                                  else
                                                    if (a0 == [111, 114]) then
                                                      some true
                                                    else
                                                      if (a0 == [105, 110]) then
                                                        some true
                                                      else
                                                        some false
theorem tok_Means_x_le (k : Nat) (a0 : List UInt8) : Le (tok_Means_x k a0) (tok_Means a0) := by
  simp only [tok_Means, tok_Means_x]
  repeat' first | exact Le.refl _ | apply Le.jn | apply Le.bind | apply Le.map | apply Le.ite | apply Le.run | intro _
def act_Event_x (k : Nat) (a0 : List UInt8) : Option (Bool) :=
  (tok_Event_x k a0).bind fun r1 =>
  if r1 then
    (tok_Means_x k a0).bind fun r2 =>
    some (!r2)
  else
    some false
theorem act_Event_x_le (k : Nat) (a0 : List UInt8) : Le (act_Event_x k a0) (act_Event a0) := by
  simp only [act_Event, act_Event_x]
  repeat' first | exact Le.refl _ | exact tok_Event_x_le k _ | exact tok_Means_x_le k _ | apply Le.jn | apply Le.bind | apply Le.map | apply Le.ite | apply Le.run | intro _
def tok_Token_Is_l0_step_x (k : Nat) (a0 : TokToken) (a1 : List (List UInt8)) (s2 : Int) : Option ((Int) ⊕ (Bool)) :=
  if s2 < (a1.length : Int) then
    (idx a1 s2).bind fun x3 =>
    if (a0.Text == x3) then
      some (.inr true)
    else
      some (.inl ((IntKind.i64.wrap (s2 + 1))))
  else
    some (.inr false)
def tok_Token_Is_l0_x (k : Nat) (a0 : TokToken) (a1 : List (List UInt8)) (s2 : Int) : Option (Bool) := iter (tok_Token_Is_l0_step_x k a0 a1) k s2
def tok_Token_Is_l1_step_x (k : Nat) (a0 : TokToken) (a1 : List (List UInt8)) (s4 : Int) : Option ((Int) ⊕ (Bool)) :=
  if s4 < (a1.length : Int) then
    (idx a1 s4).bind fun x5 =>
    if (a0.Text == x5) then
      some (.inr true)
    else
      some (.inl ((IntKind.i64.wrap (s4 + 1))))
  else
    some (.inr false)
def tok_Token_Is_l1_x (k : Nat) (a0 : TokToken) (a1 : List (List UInt8)) (s4 : Int) : Option (Bool) := iter (tok_Token_Is_l1_step_x k a0 a1) k s4
def tok_Token_Is_x (k : Nat) (a0 : TokToken) (a1 : List (List UInt8)) : Option (Bool) :=
  if (a0.Kind != 1) then
    if (a0.Kind != 5) then
      some false
    else
      tok_Token_Is_l0_x k a0 a1 0
  else
    tok_Token_Is_l1_x k a0 a1 0
theorem tok_Token_Is_x_le (k : Nat) (a0 : TokToken) (a1 : List (List UInt8)) : Le (tok_Token_Is_x k a0 a1) (tok_Token_Is a0 a1) := by
  simp only [tok_Token_Is, tok_Token_Is_x, tok_Token_Is_l0, tok_Token_Is_l0_x, tok_Token_Is_l0_step, tok_Token_Is_l0_step_x, tok_Token_Is_l1, tok_Token_Is_l1_x, tok_Token_Is_l1_step, tok_Token_Is_l1_step_x]
  repeat' first | exact Le.refl _ | apply Le.jn | apply Le.bind | apply Le.map | apply Le.ite | apply Le.run | intro _
def expr_levels_x (k : Nat) : Option ((List ExprLevel)) :=
  some ([(ExprLevel.mk ([[111, 114]]) [15] false), (ExprLevel.mk ([[97, 110, 100]]) [14] false), (ExprLevel.mk ([[60], [60, 61], [62], [62, 61], [61], [33, 61]]) [8, 9, 10, 11, 12, 13] true), (ExprLevel.mk ([[43], [45]]) [6, 7] false), (ExprLevel.mk ([[42], [47], [37]]) [3, 4, 5] false)])
theorem expr_levels_x_le (k : Nat) : Le (expr_levels_x k ) (expr_levels ) := by
  simp only [expr_levels, expr_levels_x]
  repeat' first | exact Le.refl _ | apply Le.jn | apply Le.bind | apply Le.map | apply Le.ite | apply Le.run | intro _
def expr_parser_next_x (k : Nat) (p0 : ExprParser) : Option (TokToken) :=
  if p0.at_ < (p0.l.length : Int) then
    (idx p0.l p0.at_).bind fun x1 =>
    some x1
  else
    some (TokToken.mk 0 [] 0 0)
theorem expr_parser_next_x_le (k : Nat) (p0 : ExprParser) : Le (expr_parser_next_x k p0) (expr_parser_next p0) := by
  simp only [expr_parser_next, expr_parser_next_x]
  repeat' first | exact Le.refl _ | apply Le.jn | apply Le.bind | apply Le.map | apply Le.ite | apply Le.run | intro _
def expr_parser_take_x (k : Nat) (p0 : ExprParser) (a1 : List UInt8) : Option (Bool × ExprParser) :=
  (expr_parser_next_x k p0).bind fun r2 =>
  (tok_Token_Is_x k r2 [a1]).bind fun r3 =>
  if r3 then
    some ((true, (ExprParser.mk p0.l ((IntKind.i64.wrap (p0.at_ + 1))) p0.e)))
  else
    some (false, p0)
theorem expr_parser_take_x_le (k : Nat) (p0 : ExprParser) (a1 : List UInt8) : Le (expr_parser_take_x k p0 a1) (expr_parser_take p0 a1) := by
  simp only [expr_parser_take, expr_parser_take_x]
  repeat' first | exact Le.refl _ | exact expr_parser_next_x_le k _ | exact tok_Token_Is_x_le k _ _ | apply Le.jn | apply Le.bind | apply Le.map | apply Le.ite | apply Le.run | intro _
def expr_parser_operation_l0_step_x (k : Nat) (a1 : ExprLevel) (s2 : Int × (List TokToken) × Int × (List ExprNode)) : Option ((Int × (List TokToken) × Int × (List ExprNode)) ⊕ (Int × ExprParser)) :=
  if s2.1 < (a1.signs.length : Int) then
    (idx a1.signs s2.1).bind fun x3 =>
    (expr_parser_take_x k (ExprParser.mk s2.2.1 s2.2.2.1 s2.2.2.2) x3).bind fun r4 =>
    if r4.1 then
      (idx a1.ops s2.1).bind fun x5 =>
      some (.inr (x5, r4.2))
    else
      some (.inl (((IntKind.i64.wrap (s2.1 + 1)), r4.2.l, r4.2.at_, r4.2.e)))
  else
    some (.inr ((0, (ExprParser.mk s2.2.1 s2.2.2.1 s2.2.2.2))))
def expr_parser_operation_l0_x (k : Nat) (a1 : ExprLevel) (s2 : Int × (List TokToken) × Int × (List ExprNode)) : Option (Int × ExprParser) := iter (expr_parser_operation_l0_step_x k a1) k s2
def expr_parser_operation_x (k : Nat) (p0 : ExprParser) (a1 : ExprLevel) : Option (Int × ExprParser) :=
  expr_parser_operation_l0_x k a1 (0, p0.l, p0.at_, p0.e)
theorem expr_parser_operation_x_le (k : Nat) (p0 : ExprParser) (a1 : ExprLevel) : Le (expr_parser_operation_x k p0 a1) (expr_parser_operation p0 a1) := by
  simp only [expr_parser_operation, expr_parser_operation_x, expr_parser_operation_l0, expr_parser_operation_l0_x, expr_parser_operation_l0_step, expr_parser_operation_l0_step_x]
  repeat' first | exact Le.refl _ | exact expr_parser_take_x_le k _ _ | apply Le.jn | apply Le.bind | apply Le.map | apply Le.ite | apply Le.run | intro _
def expr_parser_add_x (k : Nat) (p0 : ExprParser) (a1 : ExprNode) : Option (Bool × ExprParser) :=
  (app 72 p0.e [a1]).bind fun l2 =>
  some ((true, (ExprParser.mk p0.l p0.at_ l2)))
theorem expr_parser_add_x_le (k : Nat) (p0 : ExprParser) (a1 : ExprNode) : Le (expr_parser_add_x k p0 a1) (expr_parser_add p0 a1) := by
  simp only [expr_parser_add, expr_parser_add_x]
  repeat' first | exact Le.refl _ | apply Le.jn | apply Le.bind | apply Le.map | apply Le.ite | apply Le.run | intro _
def val_Of_x (k : Nat) (a0 : Int) : Option (ValValue) :=
  some (ValValue.mk 1 a0 [])
theorem val_Of_x_le (k : Nat) (a0 : Int) : Le (val_Of_x k a0) (val_Of a0) := by
  simp only [val_Of, val_Of_x]
  repeat' first | exact Le.refl _ | apply Le.jn | apply Le.bind | apply Le.map | apply Le.ite | apply Le.run | intro _
def val_Word_x (k : Nat) (a0 : List UInt8) : Option (ValValue) :=
  some (ValValue.mk 3 0 a0)
theorem val_Word_x_le (k : Nat) (a0 : List UInt8) : Le (val_Word_x k a0) (val_Word a0) := by
  simp only [val_Word, val_Word_x]
  repeat' first | exact Le.refl _ | apply Le.jn | apply Le.bind | apply Le.map | apply Le.ite | apply Le.run | intro _
def val_Truth_x (k : Nat) (a0 : Bool) : Option (ValValue) :=
  if a0 then
    some (ValValue.mk 2 1 [])
  else
    some (ValValue.mk 2 0 [])
theorem val_Truth_x_le (k : Nat) (a0 : Bool) : Le (val_Truth_x k a0) (val_Truth a0) := by
  simp only [val_Truth, val_Truth_x]
  repeat' first | exact Le.refl _ | apply Le.jn | apply Le.bind | apply Le.map | apply Le.ite | apply Le.run | intro _
def expr_parser_name_x (k : Nat) (p0 : ExprParser) (a1 : Int) : Option (Bool × ExprParser) :=
  (expr_parser_next_x k p0).bind fun r2 =>
  if (r2.Kind != 1) then
    some (false, p0)
  else
    (tok_Means_x k r2.Text).bind fun r3 =>
    if r3 then
      some (false, p0)
    else
      (expr_parser_add_x k ((ExprParser.mk p0.l ((IntKind.i64.wrap (p0.at_ + 1))) p0.e)) ((ExprNode.mk a1 (ValValue.mk 0 0 []) r2.Text 0 0))).bind fun r4 =>
      some (r4.1, r4.2)
theorem expr_parser_name_x_le (k : Nat) (p0 : ExprParser) (a1 : Int) : Le (expr_parser_name_x k p0 a1) (expr_parser_name p0 a1) := by
  simp only [expr_parser_name, expr_parser_name_x]
  repeat' first | exact Le.refl _ | exact expr_parser_add_x_le k _ _ | exact expr_parser_next_x_le k _ | exact tok_Means_x_le k _ | apply Le.jn | apply Le.bind | apply Le.map | apply Le.ite | apply Le.run | intro _
def expr_parser_binary_l0_step_x (k : Nat) (R : expr_parser_binary_Rec) (a1 : Int) (r2 : (List ExprLevel)) (s5 : (List TokToken) × Int × (List ExprNode)) : Option (((List TokToken) × Int × (List ExprNode)) ⊕ (Bool × ExprParser)) :=
  (idx r2 a1).bind fun x6 =>
  (expr_parser_operation_x k (ExprParser.mk s5.1 s5.2.1 s5.2.2) x6).bind fun r7 =>
  if (r7.1 == 0) then
    some (.inr (true, r7.2))
  else
    (R.expr_parser_binary r7.2 ((IntKind.i64.wrap (a1 + 1)))).bind fun r8 =>
    if r8.1 then
      (expr_parser_add_x k r8.2 ((ExprNode.mk r7.1 (ValValue.mk 0 0 []) [] ((IntKind.i64.wrap ((s5.2.2.length : Int) - 1))) ((IntKind.i64.wrap ((r8.2.e.length : Int) - 1)))))).bind fun r9 =>
      if r9.1 then
        if x6.once then
          some (.inr (true, r9.2))
        else
          some (.inl (r9.2.l, r9.2.at_, r9.2.e))
      else
        some (.inr (false, r9.2))
    else
      some (.inr (false, r8.2))
def expr_parser_binary_l0_x (k : Nat) (R : expr_parser_binary_Rec) (a1 : Int) (r2 : (List ExprLevel)) (s5 : (List TokToken) × Int × (List ExprNode)) : Option (Bool × ExprParser) := iter (expr_parser_binary_l0_step_x k R a1 r2) k s5
def expr_parser_binary_F_x (k : Nat) (R : expr_parser_binary_Rec) (p0 : ExprParser) (a1 : Int) : Option (Bool × ExprParser) :=
  (expr_levels_x k).bind fun r2 =>
  if (a1 == (r2.length : Int)) then
    (R.expr_parser_unary p0).bind fun r3 =>
    some (r3.1, r3.2)
  else
    (R.expr_parser_binary p0 ((IntKind.i64.wrap (a1 + 1)))).bind fun r4 =>
    if r4.1 then
      expr_parser_binary_l0_x k R a1 r2 (r4.2.l, r4.2.at_, r4.2.e)
    else
      some (false, r4.2)
def expr_parser_unary_F_x (k : Nat) (R : expr_parser_binary_Rec) (p0 : ExprParser) : Option (Bool × ExprParser) :=
  (expr_parser_take_x k p0 [110, 111, 116]).bind fun r1 =>
  if r1.1 then
    (R.expr_parser_unary r1.2).bind fun r2 =>
    if r2.1 then
      (expr_parser_add_x k r2.2 ((ExprNode.mk 1 (ValValue.mk 0 0 []) [] ((IntKind.i64.wrap ((r2.2.e.length : Int) - 1))) 0))).bind fun r3 =>
      some (r3.1, r3.2)
    else
      some (false, r2.2)
  else
    (expr_parser_take_x k r1.2 [45]).bind fun r4 =>
    if r4.1 then
      (R.expr_parser_unary r4.2).bind fun r5 =>
      if r5.1 then
        (expr_parser_add_x k r5.2 ((ExprNode.mk 2 (ValValue.mk 0 0 []) [] ((IntKind.i64.wrap ((r5.2.e.length : Int) - 1))) 0))).bind fun r6 =>
        some (r6.1, r6.2)
      else
        some (false, r5.2)
    else
      (R.expr_parser_atom r4.2).bind fun r7 =>
      some (r7.1, r7.2)
def expr_parser_atom_F_x (k : Nat) (R : expr_parser_binary_Rec) (p0 : ExprParser) : Option (Bool × ExprParser) :=
  (expr_parser_next_x k p0).bind fun r1 =>
  if (r1.Kind == 3) then
    (val_Of_x k r1.N).bind fun r2 =>
    (expr_parser_add_x k ((ExprParser.mk p0.l ((IntKind.i64.wrap (p0.at_ + 1))) p0.e)) (ExprNode.mk 0 r2 [] 0 0)).bind fun r3 =>
    some (r3.1, r3.2)
  else
    if (r1.Kind == 4) then
      (val_Word_x k r1.Text).bind fun r4 =>
      (expr_parser_add_x k ((ExprParser.mk p0.l ((IntKind.i64.wrap (p0.at_ + 1))) p0.e)) (ExprNode.mk 0 r4 [] 0 0)).bind fun r5 =>
      some (r5.1, r5.2)
    else
      (tok_Token_Is_x k r1 ([[116, 114, 117, 101], [102, 97, 108, 115, 101]])).bind fun r6 =>
      if r6 then
        (val_Truth_x k (r1.Text == [116, 114, 117, 101])).bind fun r7 =>
        (expr_parser_add_x k ((ExprParser.mk p0.l ((IntKind.i64.wrap (p0.at_ + 1))) p0.e)) (ExprNode.mk 0 r7 [] 0 0)).bind fun r8 =>
        some (r8.1, r8.2)
      else
        (expr_parser_take_x k p0 [105, 110]).bind fun r9 =>
        if r9.1 then
          (expr_parser_take_x k r9.2 [40]).bind fun r10 =>
          if r10.1 then
            (expr_parser_name_x k r10.2 17).bind fun r11 =>
            if r11.1 then
              (expr_parser_take_x k r11.2 [41]).bind fun r12 =>
              some (r12.1, r12.2)
            else
              some (false, r11.2)
          else
            some (false, r10.2)
        else
          (expr_parser_take_x k r9.2 [40]).bind fun r13 =>
          if r13.1 then
            (R.expr_parser_binary r13.2 0).bind fun r14 =>
            if r14.1 then
              (expr_parser_take_x k r14.2 [41]).bind fun r15 =>
              some (r15.1, r15.2)
            else
              some (false, r14.2)
          else
            (expr_parser_name_x k r13.2 16).bind fun r16 =>
            some (r16.1, r16.2)
def expr_parser_binary_recx (k : Nat) : Nat → expr_parser_binary_Rec
  | 0 => ⟨fun _ _ => none, fun _ => none, fun _ => none⟩
  | n + 1 => ⟨expr_parser_binary_F_x k (expr_parser_binary_recx k n), expr_parser_unary_F_x k (expr_parser_binary_recx k n), expr_parser_atom_F_x k (expr_parser_binary_recx k n)⟩
def expr_parser_binary_x (k : Nat) (p0 : ExprParser) (a1 : Int) : Option (Bool × ExprParser) := (expr_parser_binary_recx k k).expr_parser_binary p0 a1
def expr_parser_unary_x (k : Nat) (p0 : ExprParser) : Option (Bool × ExprParser) := (expr_parser_binary_recx k k).expr_parser_unary p0
def expr_parser_atom_x (k : Nat) (p0 : ExprParser) : Option (Bool × ExprParser) := (expr_parser_binary_recx k k).expr_parser_atom p0
theorem expr_parser_binary_F_x_le (k : Nat) {R W : expr_parser_binary_Rec} (h133 : ∀ (p0 : ExprParser) (a1 : Int), Le (R.expr_parser_binary p0 a1) (W.expr_parser_binary p0 a1)) (h160 : ∀ (p0 : ExprParser), Le (R.expr_parser_unary p0) (W.expr_parser_unary p0)) (h177 : ∀ (p0 : ExprParser), Le (R.expr_parser_atom p0) (W.expr_parser_atom p0)) (p0 : ExprParser) (a1 : Int) : Le (expr_parser_binary_F_x k R p0 a1) (expr_parser_binary_F W p0 a1) := by
  simp only [expr_parser_binary_F, expr_parser_binary_F_x, expr_parser_binary_l0, expr_parser_binary_l0_x, expr_parser_binary_l0_step, expr_parser_binary_l0_step_x]
  repeat' first | exact Le.refl _ | exact expr_levels_x_le k | exact expr_parser_add_x_le k _ _ | exact expr_parser_operation_x_le k _ _ | exact h133 _ _ | exact h160 _ | exact h177 _ | apply Le.jn | apply Le.bind | apply Le.map | apply Le.ite | apply Le.run | intro _
theorem expr_parser_unary_F_x_le (k : Nat) {R W : expr_parser_binary_Rec} (h133 : ∀ (p0 : ExprParser) (a1 : Int), Le (R.expr_parser_binary p0 a1) (W.expr_parser_binary p0 a1)) (h160 : ∀ (p0 : ExprParser), Le (R.expr_parser_unary p0) (W.expr_parser_unary p0)) (h177 : ∀ (p0 : ExprParser), Le (R.expr_parser_atom p0) (W.expr_parser_atom p0)) (p0 : ExprParser) : Le (expr_parser_unary_F_x k R p0) (expr_parser_unary_F W p0) := by
  simp only [expr_parser_unary_F, expr_parser_unary_F_x]
  repeat' first | exact Le.refl _ | exact expr_parser_add_x_le k _ _ | exact expr_parser_take_x_le k _ _ | exact h133 _ _ | exact h160 _ | exact h177 _ | apply Le.jn | apply Le.bind | apply Le.map | apply Le.ite | apply Le.run | intro _
theorem expr_parser_atom_F_x_le (k : Nat) {R W : expr_parser_binary_Rec} (h133 : ∀ (p0 : ExprParser) (a1 : Int), Le (R.expr_parser_binary p0 a1) (W.expr_parser_binary p0 a1)) (h160 : ∀ (p0 : ExprParser), Le (R.expr_parser_unary p0) (W.expr_parser_unary p0)) (h177 : ∀ (p0 : ExprParser), Le (R.expr_parser_atom p0) (W.expr_parser_atom p0)) (p0 : ExprParser) : Le (expr_parser_atom_F_x k R p0) (expr_parser_atom_F W p0) := by
  simp only [expr_parser_atom_F, expr_parser_atom_F_x]
  repeat' first | exact Le.refl _ | exact expr_parser_add_x_le k _ _ | exact expr_parser_name_x_le k _ _ | exact expr_parser_next_x_le k _ | exact expr_parser_take_x_le k _ _ | exact tok_Token_Is_x_le k _ _ | exact val_Of_x_le k _ | exact val_Truth_x_le k _ | exact val_Word_x_le k _ | exact h133 _ _ | exact h160 _ | exact h177 _ | apply Le.jn | apply Le.bind | apply Le.map | apply Le.ite | apply Le.run | intro _
theorem expr_parser_binary_recx_le (k : Nat) : ∀ n, (∀ (p0 : ExprParser) (a1 : Int), Le ((expr_parser_binary_recx k n).expr_parser_binary p0 a1) (expr_parser_binary p0 a1)) ∧ (∀ (p0 : ExprParser), Le ((expr_parser_binary_recx k n).expr_parser_unary p0) (expr_parser_unary p0)) ∧ (∀ (p0 : ExprParser), Le ((expr_parser_binary_recx k n).expr_parser_atom p0) (expr_parser_atom p0))
  | 0 => ⟨fun _ _ _ h => (by cases h), fun _ _ h => (by cases h), fun _ _ h => (by cases h)⟩
  | n + 1 => by
    obtain ⟨m133, m160, m177⟩ := expr_parser_binary_recx_le k n
    exact ⟨fun p0 a1 => (by rw [expr_parser_binary_eq]; exact expr_parser_binary_F_x_le k m133 m160 m177 p0 a1), fun p0 => (by rw [expr_parser_unary_eq]; exact expr_parser_unary_F_x_le k m133 m160 m177 p0), fun p0 => (by rw [expr_parser_atom_eq]; exact expr_parser_atom_F_x_le k m133 m160 m177 p0)⟩
theorem expr_parser_binary_x_le (k : Nat) (p0 : ExprParser) (a1 : Int) : Le (expr_parser_binary_x k p0 a1) (expr_parser_binary p0 a1) := (expr_parser_binary_recx_le k k).1 p0 a1
theorem expr_parser_unary_x_le (k : Nat) (p0 : ExprParser) : Le (expr_parser_unary_x k p0) (expr_parser_unary p0) := (expr_parser_binary_recx_le k k).2.1 p0
theorem expr_parser_atom_x_le (k : Nat) (p0 : ExprParser) : Le (expr_parser_atom_x k p0) (expr_parser_atom p0) := (expr_parser_binary_recx_le k k).2.2 p0
def expr_one_x (k : Nat) (a0 : Int) : Option (Bool) :=
  if (a0 == 1) then
    some true
  else
    some (a0 == 2)
theorem expr_one_x_le (k : Nat) (a0 : Int) : Le (expr_one_x k a0) (expr_one a0) := by
  simp only [expr_one, expr_one_x]
  repeat' first | exact Le.refl _ | apply Le.jn | apply Le.bind | apply Le.map | apply Le.ite | apply Le.run | intro _
def expr_two_x (k : Nat) (a0 : Int) : Option (Bool) :=
  if 3 ≤ a0 then
    some ((decide (a0 ≤ 15)))
  else
    some false
theorem expr_two_x_le (k : Nat) (a0 : Int) : Le (expr_two_x k a0) (expr_two a0) := by
  simp only [expr_two, expr_two_x]
  repeat' first | exact Le.refl _ | apply Le.jn | apply Le.bind | apply Le.map | apply Le.ite | apply Le.run | intro _
def expr_Expr_depths_l0_step_x (k : Nat) (a0 : List ExprNode) (s2 : Int × (List Int)) : Option ((Int × (List Int)) ⊕ ((List Int))) :=
  if s2.1 < (a0.length : Int) then
    (idx a0 s2.1).bind fun x3 =>
    (inM a0.length s2.1).bind fun j4 =>
    (setJ s2.2 j4 1).bind fun w5 =>
    (expr_one_x k x3.Op).bind fun r6 =>
    if r6 then
      (inM a0.length x3.L).bind fun j7 =>
      (w5[j7]?).bind fun x8 =>
      (setJ w5 j4 ((IntKind.i64.wrap (1 + x8)))).bind fun w9 =>
      (expr_two_x k x3.Op).bind fun r10 =>
      if r10 then
        (w9[j4]?).bind fun x11 =>
        (inM a0.length x3.R).bind fun j12 =>
        (w9[j12]?).bind fun x13 =>
        (setJ w9 j4 ((if x11 < (IntKind.i64.wrap (1 + x13)) then (IntKind.i64.wrap (1 + x13)) else x11))).bind fun w14 =>
        some (.inl (((IntKind.i64.wrap (s2.1 + 1)), w14)))
      else
        some (.inl (((IntKind.i64.wrap (s2.1 + 1)), w9)))
    else
      (expr_two_x k x3.Op).bind fun r15 =>
      if r15 then
        (inM a0.length x3.L).bind fun j16 =>
        (w5[j16]?).bind fun x17 =>
        (setJ w5 j4 ((IntKind.i64.wrap (1 + x17)))).bind fun w18 =>
        (expr_two_x k x3.Op).bind fun r19 =>
        if r19 then
          (w18[j4]?).bind fun x20 =>
          (inM a0.length x3.R).bind fun j21 =>
          (w18[j21]?).bind fun x22 =>
          (setJ w18 j4 ((if x20 < (IntKind.i64.wrap (1 + x22)) then (IntKind.i64.wrap (1 + x22)) else x20))).bind fun w23 =>
          some (.inl (((IntKind.i64.wrap (s2.1 + 1)), w23)))
        else
          some (.inl (((IntKind.i64.wrap (s2.1 + 1)), w18)))
      else
        (expr_two_x k x3.Op).bind fun r24 =>
        if r24 then
          (w5[j4]?).bind fun x25 =>
          (inM a0.length x3.R).bind fun j26 =>
          (w5[j26]?).bind fun x27 =>
          (setJ w5 j4 ((if x25 < (IntKind.i64.wrap (1 + x27)) then (IntKind.i64.wrap (1 + x27)) else x25))).bind fun w28 =>
          some (.inl (((IntKind.i64.wrap (s2.1 + 1)), w28)))
        else
          some (.inl (((IntKind.i64.wrap (s2.1 + 1)), w5)))
  else
    (frz a0.length s2.2).bind fun z29 =>
    some (.inr z29)
def expr_Expr_depths_l0_x (k : Nat) (a0 : List ExprNode) (s2 : Int × (List Int)) : Option ((List Int)) := iter (expr_Expr_depths_l0_step_x k a0) k s2
def expr_Expr_depths_x (k : Nat) (a0 : List ExprNode) : Option ((List Int)) :=
  (mkA 8 (a0.length : Int) 0).bind fun z1 =>
  expr_Expr_depths_l0_x k a0 (0, z1)
theorem expr_Expr_depths_x_le (k : Nat) (a0 : List ExprNode) : Le (expr_Expr_depths_x k a0) (expr_Expr_depths a0) := by
  simp only [expr_Expr_depths, expr_Expr_depths_x, expr_Expr_depths_l0, expr_Expr_depths_l0_x, expr_Expr_depths_l0_step, expr_Expr_depths_l0_step_x]
  repeat' first | exact Le.refl _ | exact expr_one_x_le k _ | exact expr_two_x_le k _ | apply Le.jn | apply Le.bind | apply Le.map | apply Le.ite | apply Le.run | intro _
def expr_Expr_Size_l0_step_x (k : Nat) (r1 : (List Int)) (s2 : Int) : Option ((Int) ⊕ (Int)) :=
  if s2 < (r1.length : Int) then
    (idx r1 s2).bind fun x3 =>
    if 8 < x3 then
      some (.inr 23)
    else
      some (.inl ((IntKind.i64.wrap (s2 + 1))))
  else
    some (.inr 0)
def expr_Expr_Size_l0_x (k : Nat) (r1 : (List Int)) (s2 : Int) : Option (Int) := iter (expr_Expr_Size_l0_step_x k r1) k s2
def expr_Expr_Size_x (k : Nat) (a0 : List ExprNode) : Option (Int) :=
  if 32 < (a0.length : Int) then
    some 13
  else
    (expr_Expr_depths_x k a0).bind fun r1 =>
    expr_Expr_Size_l0_x k r1 0
theorem expr_Expr_Size_x_le (k : Nat) (a0 : List ExprNode) : Le (expr_Expr_Size_x k a0) (expr_Expr_Size a0) := by
  simp only [expr_Expr_Size, expr_Expr_Size_x, expr_Expr_Size_l0, expr_Expr_Size_l0_x, expr_Expr_Size_l0_step, expr_Expr_Size_l0_step_x]
  repeat' first | exact Le.refl _ | exact expr_Expr_depths_x_le k _ | apply Le.jn | apply Le.bind | apply Le.map | apply Le.ite | apply Le.run | intro _
def expr_Parse_x (k : Nat) (a0 : List TokToken) (a1 : Int) : Option ((List ExprNode) × Int × Int) :=
  if a1 < 0 then
    some ((([] : List ExprNode), 0, 11))
  else
    if (a0.length : Int) < a1 then
      some ((([] : List ExprNode), 0, 11))
    else
      (expr_parser_binary_x k ((ExprParser.mk a0 a1 ([] : List ExprNode))) 0).bind fun r2 =>
      if r2.1 then
        (expr_Expr_Size_x k r2.2.e).bind fun r3 =>
        if (r3 != 0) then
          some ((([] : List ExprNode), 0, r3))
        else
          some (r2.2.e, r2.2.at_, 0)
      else
        some ((([] : List ExprNode), 0, 11))
theorem expr_Parse_x_le (k : Nat) (a0 : List TokToken) (a1 : Int) : Le (expr_Parse_x k a0 a1) (expr_Parse a0 a1) := by
  simp only [expr_Parse, expr_Parse_x]
  repeat' first | exact Le.refl _ | exact expr_Expr_Size_x_le k _ | exact expr_parser_binary_x_le k _ _ | apply Le.jn | apply Le.bind | apply Le.map | apply Le.ite | apply Le.run | intro _
def tok_Name_x (k : Nat) (a0 : List UInt8) : Option (Bool) :=
  (tok_Lex_x k a0).bind fun r1 =>
  if (r1.2.1 == 0) then
    if ((r1.1.length : Int) == 1) then
      (idx r1.1 0).bind fun x2 =>
      if (x2.Kind == 1) then
        if (x2.Text == a0) then
          (tok_Means_x k a0).bind fun r3 =>
          some (!r3)
        else
          some false
      else
        some false
    else
      some false
  else
    some false
theorem tok_Name_x_le (k : Nat) (a0 : List UInt8) : Le (tok_Name_x k a0) (tok_Name a0) := by
  simp only [tok_Name, tok_Name_x]
  repeat' first | exact Le.refl _ | exact tok_Lex_x_le k _ | exact tok_Means_x_le k _ | apply Le.jn | apply Le.bind | apply Le.map | apply Le.ite | apply Le.run | intro _
def brk_Parse_j0_x (k : Nat) (r1 : (List TokToken) × Int × Int) : Option (((List TokToken) × Bool) ⊕ (BrkBreak × Int)) :=
  if 0 < (r1.1.length : Int) then
    (idx r1.1 0).bind fun x3 =>
    (tok_Token_Is_x k x3 ([[111, 102, 102]])).bind fun r4 =>
    if r4 then
      (subF r1.1 1).bind fun m5 =>
      some (.inl (m5, true))
    else
      some (.inl (r1.1, false))
  else
    some (.inl (r1.1, false))
def brk_Parse_l2_step_x (k : Nat) (s2 : (List TokToken) × Bool) (s7 : Int × Int) : Option ((Int × Int) ⊕ ((Int) ⊕ (BrkBreak × Int))) :=
  if s7.1 ≤ 3 then
    if 0 < (s2.1.length : Int) then
      (idx s2.1 0).bind fun x8 =>
      (inM 4 s7.1).bind fun j9 =>
      (tab2[j9]?).bind fun x10 =>
      (tok_Token_Is_x k x8 [x10]).bind fun r11 =>
      if r11 then
        some (.inl (((IntKind.i64.wrap (s7.1 + 1)), s7.1)))
      else
        some (.inl (((IntKind.i64.wrap (s7.1 + 1)), s7.2)))
    else
      some (.inr (.inl s7.2))
  else
    some (.inr (.inl s7.2))
def brk_Parse_l2_x (k : Nat) (s2 : (List TokToken) × Bool) (s7 : Int × Int) : Option ((Int) ⊕ (BrkBreak × Int)) := iter (brk_Parse_l2_step_x k s2) k s7
def brk_Parse_j1_x (k : Nat) (s2 : (List TokToken) × Bool) : Option ((Int) ⊕ (BrkBreak × Int)) :=
  brk_Parse_l2_x k s2 (1, 0)
def brk_Parse_j3_x (k : Nat) (s2 : (List TokToken) × Bool) (r12 : (List ExprNode) × Int × Int) : Option ((Int) ⊕ (BrkBreak × Int)) :=
  if (r12.2.2 == 0) then
    if r12.2.1 < (s2.1.length : Int) then
      some (.inl 11)
    else
      some (.inl r12.2.2)
  else
    some (.inl r12.2.2)
def brk_Parse_x (k : Nat) (a0 : List UInt8) : Option (BrkBreak × Int) :=
  (tok_Lex_x k a0).bind fun r1 =>
  if (r1.2.1 != 0) then
    some (((BrkBreak.mk 0 [] 0 ([] : List ExprNode) false), r1.2.1))
  else
    jn (brk_Parse_j0_x k r1) fun s2 =>
    jn (brk_Parse_j1_x k s2) fun s6 =>
    if (s6 == 0) then
      some (((BrkBreak.mk 0 [] 0 ([] : List ExprNode) false), 11))
    else
      if (s6 == 3) then
        (expr_Parse_x k s2.1 1).bind fun r12 =>
        jn (brk_Parse_j3_x k s2 r12) fun s13 =>
        if (s13 != 0) then
          some (((BrkBreak.mk 0 [] 0 ([] : List ExprNode) false), s13))
        else
          some (((BrkBreak.mk s6 [] 0 r12.1 s2.2), 0))
      else
        if ((s2.1.length : Int) != 2) then
          some (((BrkBreak.mk 0 [] 0 ([] : List ExprNode) false), 11))
        else
          if (s6 == 1) then
            (idx s2.1 1).bind fun x14 =>
            (tok_Name_x k x14.Text).bind fun r15 =>
            if r15 then
              if (x14.Kind == 1) then
                some (((BrkBreak.mk s6 x14.Text 0 ([] : List ExprNode) s2.2), 0))
              else
                if (s6 == 2) then
                  if (x14.Kind == 3) then
                    if x14.N < 96 then
                      some (((BrkBreak.mk s6 [] x14.N ([] : List ExprNode) s2.2), 0))
                    else
                      some (((BrkBreak.mk 0 [] 0 ([] : List ExprNode) false), 10))
                  else
                    some (((BrkBreak.mk 0 [] 0 ([] : List ExprNode) false), 11))
                else
                  some (((BrkBreak.mk 0 [] 0 ([] : List ExprNode) false), 11))
            else
              if (s6 == 2) then
                if (x14.Kind == 3) then
                  if x14.N < 96 then
                    some (((BrkBreak.mk s6 [] x14.N ([] : List ExprNode) s2.2), 0))
                  else
                    some (((BrkBreak.mk 0 [] 0 ([] : List ExprNode) false), 10))
                else
                  some (((BrkBreak.mk 0 [] 0 ([] : List ExprNode) false), 11))
              else
                some (((BrkBreak.mk 0 [] 0 ([] : List ExprNode) false), 11))
          else
            if (s6 == 2) then
              (idx s2.1 1).bind fun x16 =>
              if (x16.Kind == 3) then
                if x16.N < 96 then
                  some (((BrkBreak.mk s6 [] x16.N ([] : List ExprNode) s2.2), 0))
                else
                  some (((BrkBreak.mk 0 [] 0 ([] : List ExprNode) false), 10))
              else
                some (((BrkBreak.mk 0 [] 0 ([] : List ExprNode) false), 11))
            else
              some (((BrkBreak.mk 0 [] 0 ([] : List ExprNode) false), 11))
theorem brk_Parse_x_le (k : Nat) (a0 : List UInt8) : Le (brk_Parse_x k a0) (brk_Parse a0) := by
  simp only [brk_Parse, brk_Parse_x, brk_Parse_j0, brk_Parse_j0_x, brk_Parse_j1, brk_Parse_j1_x, brk_Parse_l2, brk_Parse_l2_x, brk_Parse_l2_step, brk_Parse_l2_step_x, brk_Parse_j3, brk_Parse_j3_x]
  repeat' first | exact Le.refl _ | exact expr_Parse_x_le k _ _ | exact tok_Lex_x_le k _ | exact tok_Name_x_le k _ | exact tok_Token_Is_x_le k _ _ | apply Le.jn | apply Le.bind | apply Le.map | apply Le.ite | apply Le.run | intro _
def expr_Read_x (k : Nat) (a0 : List UInt8) : Option ((List ExprNode) × Int) :=
  (tok_Lex_x k a0).bind fun r1 =>
  if (r1.2.1 != 0) then
    some ((([] : List ExprNode), r1.2.1))
  else
    (expr_Parse_x k r1.1 0).bind fun r2 =>
    if (r2.2.2 != 0) then
      some ((([] : List ExprNode), r2.2.2))
    else
      if r2.2.1 < (r1.1.length : Int) then
        some ((([] : List ExprNode), 11))
      else
        some (r2.1, 0)
theorem expr_Read_x_le (k : Nat) (a0 : List UInt8) : Le (expr_Read_x k a0) (expr_Read a0) := by
  simp only [expr_Read, expr_Read_x]
  repeat' first | exact Le.refl _ | exact expr_Parse_x_le k _ _ | exact tok_Lex_x_le k _ | apply Le.jn | apply Le.bind | apply Le.map | apply Le.ite | apply Le.run | intro _
def cmd_Command_rest_x (k : Nat) (p0 : CmdCommand) (a1 : List UInt8) : Option (Int × CmdCommand) :=
  if (p0.Kind == 23) then
    (act_Event_x k a1).bind fun r2 =>
    if r2 then
      some ((0, (CmdCommand.mk p0.Kind p0.N a1 p0.Break p0.Watch)))
    else
      some ((11, (CmdCommand.mk p0.Kind p0.N p0.Name p0.Break p0.Watch)))
  else
    if (p0.Kind == 24) then
      (brk_Parse_x k a1).bind fun r3 =>
      some ((r3.2, (CmdCommand.mk p0.Kind p0.N p0.Name r3.1 p0.Watch)))
    else
      if (p0.Kind == 25) then
        (expr_Read_x k a1).bind fun r4 =>
        some ((r4.2, (CmdCommand.mk p0.Kind p0.N p0.Name p0.Break r4.1)))
      else
        some ((0, (CmdCommand.mk p0.Kind p0.N p0.Name p0.Break p0.Watch)))
theorem cmd_Command_rest_x_le (k : Nat) (p0 : CmdCommand) (a1 : List UInt8) : Le (cmd_Command_rest_x k p0 a1) (cmd_Command_rest p0 a1) := by
  simp only [cmd_Command_rest, cmd_Command_rest_x]
  repeat' first | exact Le.refl _ | exact act_Event_x_le k _ | exact brk_Parse_x_le k _ | exact expr_Read_x_le k _ | apply Le.jn | apply Le.bind | apply Le.map | apply Le.ite | apply Le.run | intro _
def strings_Index_x (k : Nat) (a0 : List UInt8) (a1 : List UInt8) : Option (Int) :=
  (stringslite_Index a0 a1).bind fun r2 =>
  some r2
theorem strings_Index_x_le (k : Nat) (a0 : List UInt8) (a1 : List UInt8) : Le (strings_Index_x k a0 a1) (strings_Index a0 a1) := by
  simp only [strings_Index, strings_Index_x]
  repeat' first | exact Le.refl _ | apply Le.jn | apply Le.bind | apply Le.map | apply Le.ite | apply Le.run | intro _
def strings_genSplit_j0_x (k : Nat) (a0 : List UInt8) (a1 : List UInt8) (a3 : Int) : Option ((Int) ⊕ ((List (List UInt8)))) :=
  if a3 < 0 then
    (strings_Count a0 a1).bind fun r5 =>
    some (.inl ((IntKind.i64.wrap (r5 + 1))))
  else
    some (.inl a3)
def strings_genSplit_l1_step_x (k : Nat) (a0 : List UInt8) (a1 : List UInt8) (a2 : Int) (s4 : Int) (s7 : (List UInt8) × Int × (List (List UInt8))) : Option (((List UInt8) × Int × (List (List UInt8))) ⊕ ((List (List UInt8)))) :=
  if s7.2.1 < (IntKind.i64.wrap ((if (IntKind.i64.wrap ((a0.length : Int) + 1)) < s4 then (IntKind.i64.wrap ((a0.length : Int) + 1)) else s4) - 1)) then
    (strings_Index_x k s7.1 a1).bind fun r8 =>
    if r8 < 0 then
      (inM (((if (IntKind.i64.wrap ((a0.length : Int) + 1)) < s4 then (IntKind.i64.wrap ((a0.length : Int) + 1)) else s4)).toNat) s7.2.1).bind fun j9 =>
      (setJ s7.2.2 j9 s7.1).bind fun w10 =>
      (upM (((if (IntKind.i64.wrap ((a0.length : Int) + 1)) < s4 then (IntKind.i64.wrap ((a0.length : Int) + 1)) else s4)).toNat) ((IntKind.i64.wrap (s7.2.1 + 1)))).bind fun j11 =>
      (frz j11 w10).bind fun z12 =>
      some (.inr z12)
    else
      (subT s7.1 ((IntKind.i64.wrap (r8 + a2)))).bind fun m13 =>
      (inM (((if (IntKind.i64.wrap ((a0.length : Int) + 1)) < s4 then (IntKind.i64.wrap ((a0.length : Int) + 1)) else s4)).toNat) s7.2.1).bind fun j14 =>
      (setJ s7.2.2 j14 m13).bind fun w15 =>
      (subF s7.1 ((IntKind.i64.wrap (r8 + (a1.length : Int))))).bind fun m16 =>
      some (.inl ((m16, (IntKind.i64.wrap (s7.2.1 + 1)), w15)))
  else
    (inM (((if (IntKind.i64.wrap ((a0.length : Int) + 1)) < s4 then (IntKind.i64.wrap ((a0.length : Int) + 1)) else s4)).toNat) s7.2.1).bind fun j17 =>
    (setJ s7.2.2 j17 s7.1).bind fun w18 =>
    (upM (((if (IntKind.i64.wrap ((a0.length : Int) + 1)) < s4 then (IntKind.i64.wrap ((a0.length : Int) + 1)) else s4)).toNat) ((IntKind.i64.wrap (s7.2.1 + 1)))).bind fun j19 =>
    (frz j19 w18).bind fun z20 =>
    some (.inr z20)
def strings_genSplit_l1_x (k : Nat) (a0 : List UInt8) (a1 : List UInt8) (a2 : Int) (s4 : Int) (s7 : (List UInt8) × Int × (List (List UInt8))) : Option ((List (List UInt8))) := iter (strings_genSplit_l1_step_x k a0 a1 a2 s4) k s7
def strings_genSplit_x (k : Nat) (a0 : List UInt8) (a1 : List UInt8) (a2 : Int) (a3 : Int) : Option ((List (List UInt8))) :=
  if (a3 == 0) then
    some (([] : List (List UInt8)))
  else
    if (a1 == []) then
      none
    else
      jn (strings_genSplit_j0_x k a0 a1 a3) fun s4 =>
      (mkA 16 ((if (IntKind.i64.wrap ((a0.length : Int) + 1)) < s4 then (IntKind.i64.wrap ((a0.length : Int) + 1)) else s4)) ([] : List UInt8)).bind fun z6 =>
      strings_genSplit_l1_x k a0 a1 a2 s4 (a0, 0, z6)
theorem strings_genSplit_x_le (k : Nat) (a0 : List UInt8) (a1 : List UInt8) (a2 : Int) (a3 : Int) : Le (strings_genSplit_x k a0 a1 a2 a3) (strings_genSplit a0 a1 a2 a3) := by
  simp only [strings_genSplit, strings_genSplit_x, strings_genSplit_j0, strings_genSplit_j0_x, strings_genSplit_l1, strings_genSplit_l1_x, strings_genSplit_l1_step, strings_genSplit_l1_step_x]
  repeat' first | exact Le.refl _ | exact strings_Index_x_le k _ _ | apply Le.jn | apply Le.bind | apply Le.map | apply Le.ite | apply Le.run | intro _
def strings_Split_x (k : Nat) (a0 : List UInt8) (a1 : List UInt8) : Option ((List (List UInt8))) :=
  (strings_genSplit_x k a0 a1 0 (-1)).bind fun r2 =>
  some r2
theorem strings_Split_x_le (k : Nat) (a0 : List UInt8) (a1 : List UInt8) : Le (strings_Split_x k a0 a1) (strings_Split a0 a1) := by
  simp only [strings_Split, strings_Split_x]
  repeat' first | exact Le.refl _ | exact strings_genSplit_x_le k _ _ _ _ | apply Le.jn | apply Le.bind | apply Le.map | apply Le.ite | apply Le.run | intro _
def cmd_formOf_x (k : Nat) (a0 : Int) : Option (CmdForm) :=
  if (a0 == 10) then
    some (CmdForm.mk 1 1 512 1)
  else
    if (a0 == 11) then
      some (CmdForm.mk 1 1 512 1)
    else
      if (a0 == 12) then
        some (CmdForm.mk 1 1 512 512)
      else
        if (a0 == 13) then
          some (CmdForm.mk 1 1 512 512)
        else
          if (a0 == 14) then
            some ((CmdForm.mk 1 0 512 (-1)))
          else
            if (a0 == 15) then
              some ((CmdForm.mk 1 1 1048576 (-1)))
            else
              if (a0 == 16) then
                some ((CmdForm.mk 1 0 7 (-1)))
              else
                if (a0 == 21) then
                  some ((CmdForm.mk 2 0 7 (-1)))
                else
                  if (a0 == 17) then
                    some ((CmdForm.mk 1 0 15 (-1)))
                  else
                    if (a0 == 18) then
                      some ((CmdForm.mk 1 0 15 (-1)))
                    else
                      if (a0 == 19) then
                        some ((CmdForm.mk 1 0 15 (-1)))
                      else
                        if (a0 == 20) then
                          some ((CmdForm.mk 1 0 7 (-1)))
                        else
                          if (a0 == 22) then
                            some ((CmdForm.mk 3 0 64 (-1)))
                          else
                            some (CmdForm.mk 0 0 0 0)
theorem cmd_formOf_x_le (k : Nat) (a0 : Int) : Le (cmd_formOf_x k a0) (cmd_formOf a0) := by
  simp only [cmd_formOf, cmd_formOf_x]
  repeat' first | exact Le.refl _ | apply Le.jn | apply Le.bind | apply Le.map | apply Le.ite | apply Le.run | intro _
def cmd_number_l0_step_x (k : Nat) (b2 : List Int) (s3 : Int × Int) : Option ((Int × Int) ⊕ (Int × Bool)) :=
  if s3.2 < (b2.length : Int) then
    (idx b2 s3.2).bind fun x4 =>
    if x4 < 48 then
      some (.inr (0, false))
    else
      if 57 < x4 then
        some (.inr (0, false))
      else
        some (.inl (((IntKind.i64.wrap ((IntKind.i64.wrap (s3.1 * 10)) + (IntKind.i64.wrap ((IntKind.u8.wrap (x4 - 48)))))), (IntKind.i64.wrap (s3.2 + 1)))))
  else
    some (.inr (s3.1, true))
def cmd_number_l0_x (k : Nat) (b2 : List Int) (s3 : Int × Int) : Option (Int × Bool) := iter (cmd_number_l0_step_x k b2) k s3
def cmd_number_l1_step_x (k : Nat) (b5 : List Int) (s6 : Int × Int) : Option ((Int × Int) ⊕ (Int × Bool)) :=
  if s6.2 < (b5.length : Int) then
    (idx b5 s6.2).bind fun x7 =>
    if x7 < 48 then
      some (.inr (0, false))
    else
      if 57 < x7 then
        some (.inr (0, false))
      else
        some (.inl (((IntKind.i64.wrap ((IntKind.i64.wrap (s6.1 * 10)) + (IntKind.i64.wrap ((IntKind.u8.wrap (x7 - 48)))))), (IntKind.i64.wrap (s6.2 + 1)))))
  else
    some (.inr (s6.1, true))
def cmd_number_l1_x (k : Nat) (b5 : List Int) (s6 : Int × Int) : Option (Int × Bool) := iter (cmd_number_l1_step_x k b5) k s6
def cmd_number_x (k : Nat) (a0 : List UInt8) : Option (Int × Bool) :=
  if (a0 == []) then
    some (0, false)
  else
    if 9 < (a0.length : Int) then
      some (0, false)
    else
      if 1 < (a0.length : Int) then
        (idx a0 0).bind fun c1 =>
        if ((c1.toNat : Int) == 48) then
          some (0, false)
        else
          (byts a0).bind fun b2 =>
          cmd_number_l0_x k b2 (0, 0)
      else
        (byts a0).bind fun b5 =>
        cmd_number_l1_x k b5 (0, 0)
theorem cmd_number_x_le (k : Nat) (a0 : List UInt8) : Le (cmd_number_x k a0) (cmd_number a0) := by
  simp only [cmd_number, cmd_number_x, cmd_number_l0, cmd_number_l0_x, cmd_number_l0_step, cmd_number_l0_step_x, cmd_number_l1, cmd_number_l1_x, cmd_number_l1_step, cmd_number_l1_step_x]
  repeat' first | exact Le.refl _ | apply Le.jn | apply Le.bind | apply Le.map | apply Le.ite | apply Le.run | intro _
def cmd_numbers_l1_step_x (k : Nat) (a1 : List (List UInt8)) (s4 : (List Int) × Int) : Option (((List Int) × Int) ⊕ (((List Int)) ⊕ ((List Int) × Int))) :=
  if s4.2 < (a1.length : Int) then
    (idx a1 s4.2).bind fun x5 =>
    (cmd_number_x k x5).bind fun r6 =>
    if r6.2 then
      (app 8 s4.1 [r6.1]).bind fun l7 =>
      some (.inl ((l7, (IntKind.i64.wrap (s4.2 + 1)))))
    else
      some (.inr (.inr ((([] : List Int), 11))))
  else
    some (.inr (.inl s4.1))
def cmd_numbers_l1_x (k : Nat) (a1 : List (List UInt8)) (s4 : (List Int) × Int) : Option (((List Int)) ⊕ ((List Int) × Int)) := iter (cmd_numbers_l1_step_x k a1) k s4
def cmd_numbers_j0_x (k : Nat) (a1 : List (List UInt8)) : Option (((List Int)) ⊕ ((List Int) × Int)) :=
  cmd_numbers_l1_x k a1 ((([] : List Int), 0))
def cmd_numbers_l2_step_x (k : Nat) (r2 : CmdForm) (s3 : (List Int)) (s8 : Int) : Option ((Int) ⊕ ((List Int) × Int)) :=
  if s8 < (s3.length : Int) then
    (idx s3 s8).bind fun x9 =>
    if x9 < r2.least then
      some (.inr ((([] : List Int), 10)))
    else
      if r2.most < x9 then
        some (.inr ((([] : List Int), 10)))
      else
        some (.inl ((IntKind.i64.wrap (s8 + 1))))
  else
    some (.inr (s3, 0))
def cmd_numbers_l2_x (k : Nat) (r2 : CmdForm) (s3 : (List Int)) (s8 : Int) : Option ((List Int) × Int) := iter (cmd_numbers_l2_step_x k r2 s3) k s8
def cmd_numbers_l4_step_x (k : Nat) (a1 : List (List UInt8)) (s11 : (List Int) × Int) : Option (((List Int) × Int) ⊕ (((List Int)) ⊕ ((List Int) × Int))) :=
  if s11.2 < (a1.length : Int) then
    (idx a1 s11.2).bind fun x12 =>
    (cmd_number_x k x12).bind fun r13 =>
    if r13.2 then
      (app 8 s11.1 [r13.1]).bind fun l14 =>
      some (.inl ((l14, (IntKind.i64.wrap (s11.2 + 1)))))
    else
      some (.inr (.inr ((([] : List Int), 11))))
  else
    some (.inr (.inl s11.1))
def cmd_numbers_l4_x (k : Nat) (a1 : List (List UInt8)) (s11 : (List Int) × Int) : Option (((List Int)) ⊕ ((List Int) × Int)) := iter (cmd_numbers_l4_step_x k a1) k s11
def cmd_numbers_j3_x (k : Nat) (a1 : List (List UInt8)) : Option (((List Int)) ⊕ ((List Int) × Int)) :=
  cmd_numbers_l4_x k a1 ((([] : List Int), 0))
def cmd_numbers_l5_step_x (k : Nat) (r2 : CmdForm) (s10 : (List Int)) (s15 : Int) : Option ((Int) ⊕ ((List Int) × Int)) :=
  if s15 < (s10.length : Int) then
    (idx s10 s15).bind fun x16 =>
    if x16 < r2.least then
      some (.inr ((([] : List Int), 10)))
    else
      if r2.most < x16 then
        some (.inr ((([] : List Int), 10)))
      else
        some (.inl ((IntKind.i64.wrap (s15 + 1))))
  else
    some (.inr (s10, 0))
def cmd_numbers_l5_x (k : Nat) (r2 : CmdForm) (s10 : (List Int)) (s15 : Int) : Option ((List Int) × Int) := iter (cmd_numbers_l5_step_x k r2 s10) k s15
def cmd_numbers_l7_step_x (k : Nat) (a1 : List (List UInt8)) (s18 : (List Int) × Int) : Option (((List Int) × Int) ⊕ (((List Int)) ⊕ ((List Int) × Int))) :=
  if s18.2 < (a1.length : Int) then
    (idx a1 s18.2).bind fun x19 =>
    (cmd_number_x k x19).bind fun r20 =>
    if r20.2 then
      (app 8 s18.1 [r20.1]).bind fun l21 =>
      some (.inl ((l21, (IntKind.i64.wrap (s18.2 + 1)))))
    else
      some (.inr (.inr ((([] : List Int), 11))))
  else
    some (.inr (.inl s18.1))
def cmd_numbers_l7_x (k : Nat) (a1 : List (List UInt8)) (s18 : (List Int) × Int) : Option (((List Int)) ⊕ ((List Int) × Int)) := iter (cmd_numbers_l7_step_x k a1) k s18
def cmd_numbers_j6_x (k : Nat) (a1 : List (List UInt8)) : Option (((List Int)) ⊕ ((List Int) × Int)) :=
  cmd_numbers_l7_x k a1 ((([] : List Int), 0))
def cmd_numbers_l8_step_x (k : Nat) (r2 : CmdForm) (s17 : (List Int)) (s22 : Int) : Option ((Int) ⊕ ((List Int) × Int)) :=
  if s22 < (s17.length : Int) then
    (idx s17 s22).bind fun x23 =>
    if x23 < r2.least then
      some (.inr ((([] : List Int), 10)))
    else
      if r2.most < x23 then
        some (.inr ((([] : List Int), 10)))
      else
        some (.inl ((IntKind.i64.wrap (s22 + 1))))
  else
    some (.inr (s17, 0))
def cmd_numbers_l8_x (k : Nat) (r2 : CmdForm) (s17 : (List Int)) (s22 : Int) : Option ((List Int) × Int) := iter (cmd_numbers_l8_step_x k r2 s17) k s22
def cmd_numbers_x (k : Nat) (a0 : Int) (a1 : List (List UInt8)) : Option ((List Int) × Int) :=
  (cmd_formOf_x k a0).bind fun r2 =>
  if ((a1.length : Int) == 0) then
    if (r2.count == 1) then
      if 0 ≤ r2.without then
        some ([r2.without], 0)
      else
        if ((a1.length : Int) != r2.count) then
          some ((([] : List Int), 11))
        else
          jn (cmd_numbers_j0_x k a1) fun s3 =>
          cmd_numbers_l2_x k r2 s3 0
    else
      if ((a1.length : Int) != r2.count) then
        some ((([] : List Int), 11))
      else
        jn (cmd_numbers_j3_x k a1) fun s10 =>
        cmd_numbers_l5_x k r2 s10 0
  else
    if ((a1.length : Int) != r2.count) then
      some ((([] : List Int), 11))
    else
      jn (cmd_numbers_j6_x k a1) fun s17 =>
      cmd_numbers_l8_x k r2 s17 0
theorem cmd_numbers_x_le (k : Nat) (a0 : Int) (a1 : List (List UInt8)) : Le (cmd_numbers_x k a0 a1) (cmd_numbers a0 a1) := by
  simp only [cmd_numbers, cmd_numbers_x, cmd_numbers_j0, cmd_numbers_j0_x, cmd_numbers_l1, cmd_numbers_l1_x, cmd_numbers_l1_step, cmd_numbers_l1_step_x, cmd_numbers_l2, cmd_numbers_l2_x, cmd_numbers_l2_step, cmd_numbers_l2_step_x, cmd_numbers_j3, cmd_numbers_j3_x, cmd_numbers_l4, cmd_numbers_l4_x, cmd_numbers_l4_step, cmd_numbers_l4_step_x, cmd_numbers_l5, cmd_numbers_l5_x, cmd_numbers_l5_step, cmd_numbers_l5_step_x, cmd_numbers_j6, cmd_numbers_j6_x, cmd_numbers_l7, cmd_numbers_l7_x, cmd_numbers_l7_step, cmd_numbers_l7_step_x, cmd_numbers_l8, cmd_numbers_l8_x, cmd_numbers_l8_step, cmd_numbers_l8_step_x]
  repeat' first | exact Le.refl _ | exact cmd_formOf_x_le k _ | exact cmd_number_x_le k _ | apply Le.jn | apply Le.bind | apply Le.map | apply Le.ite | apply Le.run | intro _
def cmd_Parse_j0_x (k : Nat) (r1 : (List UInt8) × (List UInt8) × Bool) : Option (((List (List UInt8))) ⊕ (CmdCommand × Int)) :=
  if r1.2.2 then
    (strings_Split_x k r1.2.1 [32]).bind fun r5 =>
    some (.inl r5)
  else
    some (.inl (([] : List (List UInt8))))
def cmd_Parse_x (k : Nat) (a0 : List UInt8) : Option (CmdCommand × Int) :=
  (strings_Cut_x k a0 [32]).bind fun r1 =>
  (cmd_kindOf_x k r1.1).bind fun r2 =>
  if (r2 == 0) then
    some (((CmdCommand.mk 0 ([] : List Int) [] ((BrkBreak.mk 0 [] 0 ([] : List ExprNode) false)) ([] : List ExprNode)), 25))
  else
    if 23 ≤ r2 then
      (cmd_Command_rest_x k ((CmdCommand.mk r2 ([] : List Int) [] ((BrkBreak.mk 0 [] 0 ([] : List ExprNode) false)) ([] : List ExprNode))) r1.2.1).bind fun r3 =>
      if (r3.1 != 0) then
        some (((CmdCommand.mk 0 ([] : List Int) [] ((BrkBreak.mk 0 [] 0 ([] : List ExprNode) false)) ([] : List ExprNode)), r3.1))
      else
        some (r3.2, 0)
    else
      jn (cmd_Parse_j0_x k r1) fun s4 =>
      (cmd_numbers_x k r2 s4).bind fun r6 =>
      if (r6.2 != 0) then
        some (((CmdCommand.mk 0 ([] : List Int) [] ((BrkBreak.mk 0 [] 0 ([] : List ExprNode) false)) ([] : List ExprNode)), r6.2))
      else
        some (((CmdCommand.mk r2 r6.1 [] ((BrkBreak.mk 0 [] 0 ([] : List ExprNode) false)) ([] : List ExprNode)), 0))
theorem cmd_Parse_x_le (k : Nat) (a0 : List UInt8) : Le (cmd_Parse_x k a0) (cmd_Parse a0) := by
  simp only [cmd_Parse, cmd_Parse_x, cmd_Parse_j0, cmd_Parse_j0_x]
  repeat' first | exact Le.refl _ | exact cmd_Command_rest_x_le k _ _ | exact cmd_kindOf_x_le k _ | exact cmd_numbers_x_le k _ _ | exact strings_Cut_x_le k _ _ | exact strings_Split_x_le k _ _ | apply Le.jn | apply Le.bind | apply Le.map | apply Le.ite | apply Le.run | intro _
def expr_tight_l2_step_x (k : Nat) (a0 : Int) (s5 : Int) (x6 : ExprLevel) (s7 : Int) : Option ((Int) ⊕ ((Int) ⊕ ((Unit) ⊕ (Int)))) :=
  if s7 < (x6.ops.length : Int) then
    (idx x6.ops s7).bind fun x8 =>
    if (x8 == a0) then
      some (.inr (.inr (.inr s5)))
    else
      some (.inl ((IntKind.i64.wrap (s7 + 1))))
  else
    some (.inr (.inl ((IntKind.i64.wrap (s5 + 1)))))
def expr_tight_l2_x (k : Nat) (a0 : Int) (s5 : Int) (x6 : ExprLevel) (s7 : Int) : Option ((Int) ⊕ ((Unit) ⊕ (Int))) := iter (expr_tight_l2_step_x k a0 s5 x6) k s7
def expr_tight_l1_step_x (k : Nat) (a0 : Int) (r4 : (List ExprLevel)) (s5 : Int) : Option ((Int) ⊕ ((Unit) ⊕ (Int))) :=
  if s5 < (r4.length : Int) then
    (idx r4 s5).bind fun x6 =>
    expr_tight_l2_x k a0 s5 x6 0
  else
    some (.inr (.inl ()))
def expr_tight_l1_x (k : Nat) (a0 : Int) (r4 : (List ExprLevel)) (s5 : Int) : Option ((Unit) ⊕ (Int)) := iter (expr_tight_l1_step_x k a0 r4) k s5
def expr_tight_j0_x (k : Nat) (a0 : Int) : Option ((Unit) ⊕ (Int)) :=
  (expr_levels_x k).bind fun r4 =>
  expr_tight_l1_x k a0 r4 0
def expr_tight_x (k : Nat) (a0 : Int) : Option (Int) :=
  (expr_one_x k a0).bind fun r1 =>
  if r1 then
    (expr_levels_x k).bind fun r2 =>
    some (r2.length : Int)
  else
    jn (expr_tight_j0_x k a0) fun s3 =>
    (expr_levels_x k).bind fun r9 =>
    some ((IntKind.i64.wrap ((r9.length : Int) + 1)))
theorem expr_tight_x_le (k : Nat) (a0 : Int) : Le (expr_tight_x k a0) (expr_tight a0) := by
  simp only [expr_tight, expr_tight_x, expr_tight_j0, expr_tight_j0_x, expr_tight_l1, expr_tight_l1_x, expr_tight_l1_step, expr_tight_l1_step_x, expr_tight_l2, expr_tight_l2_x, expr_tight_l2_step, expr_tight_l2_step_x]
  repeat' first | exact Le.refl _ | exact expr_levels_x_le k | exact expr_one_x_le k _ | apply Le.jn | apply Le.bind | apply Le.map | apply Le.ite | apply Le.run | intro _
def internal_strconv_small_x (k : Nat) (a0 : Int) : Option ((List UInt8)) :=
  if a0 < 10 then
    (sub ([48, 49, 50, 51, 52, 53, 54, 55, 56, 57, 97, 98, 99, 100, 101, 102, 103, 104, 105, 106, 107, 108, 109, 110, 111, 112, 113, 114, 115, 116, 117, 118, 119, 120, 121, 122] : List UInt8) a0 ((IntKind.i64.wrap (a0 + 1)))).bind fun m1 =>
    some m1
  else
    (sub ([48, 48, 48, 49, 48, 50, 48, 51, 48, 52, 48, 53, 48, 54, 48, 55, 48, 56, 48, 57, 49, 48, 49, 49, 49, 50, 49, 51, 49, 52, 49, 53, 49, 54, 49, 55, 49, 56, 49, 57, 50, 48, 50, 49, 50, 50, 50, 51, 50, 52, 50, 53, 50, 54, 50, 55, 50, 56, 50, 57, 51, 48, 51, 49, 51, 50, 51, 51, 51, 52, 51, 53, 51, 54, 51, 55, 51, 56, 51, 57, 52, 48, 52, 49, 52, 50, 52, 51, 52, 52, 52, 53, 52, 54, 52, 55, 52, 56, 52, 57, 53, 48, 53, 49, 53, 50, 53, 51, 53, 52, 53, 53, 53, 54, 53, 55, 53, 56, 53, 57, 54, 48, 54, 49, 54, 50, 54, 51, 54, 52, 54, 53, 54, 54, 54, 55, 54, 56, 54, 57, 55, 48, 55, 49, 55, 50, 55, 51, 55, 52, 55, 53, 55, 54, 55, 55, 55, 56, 55, 57, 56, 48, 56, 49, 56, 50, 56, 51, 56, 52, 56, 53, 56, 54, 56, 55, 56, 56, 56, 57, 57, 48, 57, 49, 57, 50, 57, 51, 57, 52, 57, 53, 57, 54, 57, 55, 57, 56, 57, 57] : List UInt8) ((IntKind.i64.wrap (a0 * 2))) ((IntKind.i64.wrap ((IntKind.i64.wrap (a0 * 2)) + 2)))).bind fun m2 =>
    some m2
theorem internal_strconv_small_x_le (k : Nat) (a0 : Int) : Le (internal_strconv_small_x k a0) (internal_strconv_small a0) := by
  simp only [internal_strconv_small, internal_strconv_small_x]
  repeat' first | exact Le.refl _ | apply Le.jn | apply Le.bind | apply Le.map | apply Le.ite | apply Le.run | intro _
def internal_strconv_FormatInt_j0_x (k : Nat) (a0 : Int) : Option ((Int) ⊕ ((List UInt8))) :=
  if a0 < 0 then
    some (.inl ((IntKind.u64.wrap (0 - (IntKind.u64.wrap a0)))))
  else
    some (.inl (IntKind.u64.wrap a0))
def internal_strconv_FormatInt_j1_x (k : Nat) (a0 : Int) : Option ((Int) ⊕ ((List UInt8))) :=
  if a0 < 0 then
    some (.inl ((IntKind.u64.wrap (0 - (IntKind.u64.wrap a0)))))
  else
    some (.inl (IntKind.u64.wrap a0))
def internal_strconv_FormatInt_x (k : Nat) (a0 : Int) (a1 : Int) : Option ((List UInt8)) :=
  if (a1 == 10) then
    if 0 ≤ a0 then
      if a0 < 100 then
        (internal_strconv_small_x k a0).bind fun r2 =>
        some r2
      else
        jn (internal_strconv_FormatInt_j0_x k a0) fun s3 =>
        none
    else
      jn (internal_strconv_FormatInt_j1_x k a0) fun s4 =>
      none
  else
    none
theorem internal_strconv_FormatInt_x_le (k : Nat) (a0 : Int) (a1 : Int) : Le (internal_strconv_FormatInt_x k a0 a1) (internal_strconv_FormatInt a0 a1) := by
  simp only [internal_strconv_FormatInt, internal_strconv_FormatInt_x, internal_strconv_FormatInt_j0, internal_strconv_FormatInt_j0_x, internal_strconv_FormatInt_j1, internal_strconv_FormatInt_j1_x]
  repeat' first | exact Le.refl _ | exact internal_strconv_small_x_le k _ | apply Le.jn | apply Le.bind | apply Le.map | apply Le.ite | apply Le.run | intro _
def strconv_FormatInt_x (k : Nat) (a0 : Int) (a1 : Int) : Option ((List UInt8)) :=
  (internal_strconv_FormatInt_x k a0 a1).bind fun r2 =>
  some r2
theorem strconv_FormatInt_x_le (k : Nat) (a0 : Int) (a1 : Int) : Le (strconv_FormatInt_x k a0 a1) (strconv_FormatInt a0 a1) := by
  simp only [strconv_FormatInt, strconv_FormatInt_x]
  repeat' first | exact Le.refl _ | exact internal_strconv_FormatInt_x_le k _ _ | apply Le.jn | apply Le.bind | apply Le.map | apply Le.ite | apply Le.run | intro _
def internal_strconv_FormatBool_x (k : Nat) (a0 : Bool) : Option ((List UInt8)) :=
  if a0 then
    some [116, 114, 117, 101]
  else
    some [102, 97, 108, 115, 101]
theorem internal_strconv_FormatBool_x_le (k : Nat) (a0 : Bool) : Le (internal_strconv_FormatBool_x k a0) (internal_strconv_FormatBool a0) := by
  simp only [internal_strconv_FormatBool, internal_strconv_FormatBool_x]
  repeat' first | exact Le.refl _ | apply Le.jn | apply Le.bind | apply Le.map | apply Le.ite | apply Le.run | intro _
def strconv_FormatBool_x (k : Nat) (a0 : Bool) : Option ((List UInt8)) :=
  (internal_strconv_FormatBool_x k a0).bind fun r1 =>
  some r1
theorem strconv_FormatBool_x_le (k : Nat) (a0 : Bool) : Le (strconv_FormatBool_x k a0) (strconv_FormatBool a0) := by
  simp only [strconv_FormatBool, strconv_FormatBool_x]
  repeat' first | exact Le.refl _ | exact internal_strconv_FormatBool_x_le k _ | apply Le.jn | apply Le.bind | apply Le.map | apply Le.ite | apply Le.run | intro _
def val_Value_Show_x (k : Nat) (a0 : ValValue) : Option ((List UInt8)) :=
  if (a0.Kind == 1) then
    (strconv_FormatInt_x k a0.N 10).bind fun r1 =>
    some r1
  else
    if (a0.Kind == 2) then
      (strconv_FormatBool_x k (a0.N != 0)).bind fun r2 =>
      some r2
    else
      (cat [39] a0.S).bind fun s3 =>
      (cat s3 [39]).bind fun s4 =>
      some s4
theorem val_Value_Show_x_le (k : Nat) (a0 : ValValue) : Le (val_Value_Show_x k a0) (val_Value_Show a0) := by
  simp only [val_Value_Show, val_Value_Show_x]
  repeat' first | exact Le.refl _ | exact strconv_FormatBool_x_le k _ | exact strconv_FormatInt_x_le k _ _ | apply Le.jn | apply Le.bind | apply Le.map | apply Le.ite | apply Le.run | intro _
def expr_sign_l1_step_x (k : Nat) (a0 : Int) (s2 : Int) (x3 : ExprLevel) (s4 : Int) : Option ((Int) ⊕ ((Int) ⊕ ((List UInt8)))) :=
  if s4 < (x3.ops.length : Int) then
    (idx x3.ops s4).bind fun x5 =>
    if (x5 == a0) then
      (idx x3.signs s4).bind fun x6 =>
      some (.inr (.inr x6))
    else
      some (.inl ((IntKind.i64.wrap (s4 + 1))))
  else
    some (.inr (.inl ((IntKind.i64.wrap (s2 + 1)))))
def expr_sign_l1_x (k : Nat) (a0 : Int) (s2 : Int) (x3 : ExprLevel) (s4 : Int) : Option ((Int) ⊕ ((List UInt8))) := iter (expr_sign_l1_step_x k a0 s2 x3) k s4
def expr_sign_l0_step_x (k : Nat) (a0 : Int) (r1 : (List ExprLevel)) (s2 : Int) : Option ((Int) ⊕ ((List UInt8))) :=
  if s2 < (r1.length : Int) then
    (idx r1 s2).bind fun x3 =>
    expr_sign_l1_x k a0 s2 x3 0
  else
    some (.inr [])
def expr_sign_l0_x (k : Nat) (a0 : Int) (r1 : (List ExprLevel)) (s2 : Int) : Option ((List UInt8)) := iter (expr_sign_l0_step_x k a0 r1) k s2
def expr_sign_x (k : Nat) (a0 : Int) : Option ((List UInt8)) :=
  (expr_levels_x k).bind fun r1 =>
  expr_sign_l0_x k a0 r1 0
theorem expr_sign_x_le (k : Nat) (a0 : Int) : Le (expr_sign_x k a0) (expr_sign a0) := by
  simp only [expr_sign, expr_sign_x, expr_sign_l0, expr_sign_l0_x, expr_sign_l0_step, expr_sign_l0_step_x, expr_sign_l1, expr_sign_l1_x, expr_sign_l1_step, expr_sign_l1_step_x]
  repeat' first | exact Le.refl _ | exact expr_levels_x_le k | apply Le.jn | apply Le.bind | apply Le.map | apply Le.ite | apply Le.run | intro _
def expr_Expr_node_j0_x (k : Nat) (x2 : ExprNode) (r3 : Int) : Option ((Int) ⊕ ((List UInt8))) :=
  if 8 ≤ x2.Op then
    if x2.Op ≤ 13 then
      some (.inl ((IntKind.i64.wrap (r3 + 1))))
    else
      some (.inl r3)
  else
    some (.inl r3)
def expr_Expr_node_F_x (k : Nat) (R : expr_Expr_node_Rec) (a0 : List ExprNode) (a1 : Int) : Option ((List UInt8)) :=
  (idx a0 a1).bind fun x2 =>
  (expr_tight_x k x2.Op).bind fun r3 =>
  if (x2.Op == 0) then
    (val_Value_Show_x k x2.V).bind fun r4 =>
    some r4
  else
    if (x2.Op == 16) then
      some x2.Name
    else
      if (x2.Op == 17) then
        (cat [105, 110, 40] x2.Name).bind fun s5 =>
        (cat s5 [41]).bind fun s6 =>
        some s6
      else
        if (x2.Op == 1) then
          (R.expr_Expr_part a0 x2.L r3).bind fun r7 =>
          (cat [110, 111, 116, 32] r7).bind fun s8 =>
          some s8
        else
          if (x2.Op == 2) then
            (R.expr_Expr_part a0 x2.L r3).bind fun r9 =>
            (cat [45] r9).bind fun s10 =>
            some s10
          else
            jn (expr_Expr_node_j0_x k x2 r3) fun s11 =>
            (R.expr_Expr_part a0 x2.L s11).bind fun r12 =>
            (cat r12 [32]).bind fun s13 =>
            (expr_sign_x k x2.Op).bind fun r14 =>
            (cat s13 r14).bind fun s15 =>
            (cat s15 [32]).bind fun s16 =>
            (R.expr_Expr_part a0 x2.R ((IntKind.i64.wrap (r3 + 1)))).bind fun r17 =>
            (cat s16 r17).bind fun s18 =>
            some s18
def expr_Expr_part_F_x (k : Nat) (R : expr_Expr_node_Rec) (a0 : List ExprNode) (a1 : Int) (a2 : Int) : Option ((List UInt8)) :=
  (R.expr_Expr_node a0 a1).bind fun r3 =>
  (idx a0 a1).bind fun x4 =>
  (expr_tight_x k x4.Op).bind fun r5 =>
  if r5 < a2 then
    (cat [40] r3).bind fun s6 =>
    (cat s6 [41]).bind fun s7 =>
    some s7
  else
    some r3
def expr_Expr_node_recx (k : Nat) : Nat → expr_Expr_node_Rec
  | 0 => ⟨fun _ _ => none, fun _ _ _ => none⟩
  | n + 1 => ⟨expr_Expr_node_F_x k (expr_Expr_node_recx k n), expr_Expr_part_F_x k (expr_Expr_node_recx k n)⟩
def expr_Expr_node_x (k : Nat) (a0 : List ExprNode) (a1 : Int) : Option ((List UInt8)) := (expr_Expr_node_recx k k).expr_Expr_node a0 a1
def expr_Expr_part_x (k : Nat) (a0 : List ExprNode) (a1 : Int) (a2 : Int) : Option ((List UInt8)) := (expr_Expr_node_recx k k).expr_Expr_part a0 a1 a2
theorem expr_Expr_node_F_x_le (k : Nat) {R W : expr_Expr_node_Rec} (h115 : ∀ (a0 : List ExprNode) (a1 : Int), Le (R.expr_Expr_node a0 a1) (W.expr_Expr_node a0 a1)) (h141 : ∀ (a0 : List ExprNode) (a1 : Int) (a2 : Int), Le (R.expr_Expr_part a0 a1 a2) (W.expr_Expr_part a0 a1 a2)) (a0 : List ExprNode) (a1 : Int) : Le (expr_Expr_node_F_x k R a0 a1) (expr_Expr_node_F W a0 a1) := by
  simp only [expr_Expr_node_F, expr_Expr_node_F_x, expr_Expr_node_j0, expr_Expr_node_j0_x]
  repeat' first | exact Le.refl _ | exact expr_sign_x_le k _ | exact expr_tight_x_le k _ | exact val_Value_Show_x_le k _ | exact h115 _ _ | exact h141 _ _ _ | apply Le.jn | apply Le.bind | apply Le.map | apply Le.ite | apply Le.run | intro _
theorem expr_Expr_part_F_x_le (k : Nat) {R W : expr_Expr_node_Rec} (h115 : ∀ (a0 : List ExprNode) (a1 : Int), Le (R.expr_Expr_node a0 a1) (W.expr_Expr_node a0 a1)) (h141 : ∀ (a0 : List ExprNode) (a1 : Int) (a2 : Int), Le (R.expr_Expr_part a0 a1 a2) (W.expr_Expr_part a0 a1 a2)) (a0 : List ExprNode) (a1 : Int) (a2 : Int) : Le (expr_Expr_part_F_x k R a0 a1 a2) (expr_Expr_part_F W a0 a1 a2) := by
  simp only [expr_Expr_part_F, expr_Expr_part_F_x]
  repeat' first | exact Le.refl _ | exact expr_tight_x_le k _ | exact h115 _ _ | exact h141 _ _ _ | apply Le.jn | apply Le.bind | apply Le.map | apply Le.ite | apply Le.run | intro _
theorem expr_Expr_node_recx_le (k : Nat) : ∀ n, (∀ (a0 : List ExprNode) (a1 : Int), Le ((expr_Expr_node_recx k n).expr_Expr_node a0 a1) (expr_Expr_node a0 a1)) ∧ (∀ (a0 : List ExprNode) (a1 : Int) (a2 : Int), Le ((expr_Expr_node_recx k n).expr_Expr_part a0 a1 a2) (expr_Expr_part a0 a1 a2))
  | 0 => ⟨fun _ _ _ h => (by cases h), fun _ _ _ _ h => (by cases h)⟩
  | n + 1 => by
    obtain ⟨m115, m141⟩ := expr_Expr_node_recx_le k n
    exact ⟨fun a0 a1 => (by rw [expr_Expr_node_eq]; exact expr_Expr_node_F_x_le k m115 m141 a0 a1), fun a0 a1 a2 => (by rw [expr_Expr_part_eq]; exact expr_Expr_part_F_x_le k m115 m141 a0 a1 a2)⟩
theorem expr_Expr_node_x_le (k : Nat) (a0 : List ExprNode) (a1 : Int) : Le (expr_Expr_node_x k a0 a1) (expr_Expr_node a0 a1) := (expr_Expr_node_recx_le k k).1 a0 a1
theorem expr_Expr_part_x_le (k : Nat) (a0 : List ExprNode) (a1 : Int) (a2 : Int) : Le (expr_Expr_part_x k a0 a1 a2) (expr_Expr_part a0 a1 a2) := (expr_Expr_node_recx_le k k).2 a0 a1 a2
def expr_Expr_Show_x (k : Nat) (a0 : List ExprNode) : Option ((List UInt8)) :=
  if ((a0.length : Int) == 0) then
    some []
  else
    (expr_Expr_node_x k a0 ((IntKind.i64.wrap ((a0.length : Int) - 1)))).bind fun r1 =>
    some r1
theorem expr_Expr_Show_x_le (k : Nat) (a0 : List ExprNode) : Le (expr_Expr_Show_x k a0) (expr_Expr_Show a0) := by
  simp only [expr_Expr_Show, expr_Expr_Show_x]
  repeat' first | exact Le.refl _ | exact expr_Expr_node_x_le k _ _ | apply Le.jn | apply Le.bind | apply Le.map | apply Le.ite | apply Le.run | intro _
def brk_Break_Show_j0_x (k : Nat) (a0 : BrkBreak) (s3 : List UInt8) : Option (((List UInt8)) ⊕ ((List UInt8))) :=
  if a0.Off then
    (cat [111, 102, 102, 32] s3).bind fun s5 =>
    some (.inl s5)
  else
    some (.inl s3)
def brk_Break_Show_x (k : Nat) (a0 : BrkBreak) : Option ((List UInt8)) :=
  (inM 4 a0.Kind).bind fun j1 =>
  (tab2[j1]?).bind fun x2 =>
  (cat x2 [32]).bind fun s3 =>
  jn (brk_Break_Show_j0_x k a0 s3) fun s4 =>
  if (a0.Kind == 1) then
    (cat s4 a0.Name).bind fun s6 =>
    some s6
  else
    if (a0.Kind == 2) then
      (strconv_Itoa a0.N).bind fun r7 =>
      (cat s4 r7).bind fun s8 =>
      some s8
    else
      (expr_Expr_Show_x k a0.If).bind fun r9 =>
      (cat s4 r9).bind fun s10 =>
      some s10
theorem brk_Break_Show_x_le (k : Nat) (a0 : BrkBreak) : Le (brk_Break_Show_x k a0) (brk_Break_Show a0) := by
  simp only [brk_Break_Show, brk_Break_Show_x, brk_Break_Show_j0, brk_Break_Show_j0_x]
  repeat' first | exact Le.refl _ | exact expr_Expr_Show_x_le k _ | apply Le.jn | apply Le.bind | apply Le.map | apply Le.ite | apply Le.run | intro _
def cmd_Command_Show_l1_step_x (k : Nat) (a0 : CmdCommand) (s4 : (List (List UInt8)) × Int) : Option (((List (List UInt8)) × Int) ⊕ (((List (List UInt8))) ⊕ ((List UInt8)))) :=
  if s4.2 < (a0.N.length : Int) then
    (idx a0.N s4.2).bind fun x5 =>
    (strconv_Itoa x5).bind fun r6 =>
    (app 16 s4.1 [r6]).bind fun l7 =>
    some (.inl ((l7, (IntKind.i64.wrap (s4.2 + 1)))))
  else
    some (.inr (.inl s4.1))
def cmd_Command_Show_l1_x (k : Nat) (a0 : CmdCommand) (s4 : (List (List UInt8)) × Int) : Option (((List (List UInt8))) ⊕ ((List UInt8))) := iter (cmd_Command_Show_l1_step_x k a0) k s4
def cmd_Command_Show_j0_x (k : Nat) (a0 : CmdCommand) (x2 : List UInt8) : Option (((List (List UInt8))) ⊕ ((List UInt8))) :=
  cmd_Command_Show_l1_x k a0 ([x2], 0)
def cmd_Command_Show_x (k : Nat) (a0 : CmdCommand) : Option ((List UInt8)) :=
  (inM 26 a0.Kind).bind fun j1 =>
  (tab1[j1]?).bind fun x2 =>
  jn (cmd_Command_Show_j0_x k a0 x2) fun s3 =>
  if (a0.Kind == 23) then
    (app 16 s3 [a0.Name]).bind fun l8 =>
    (strings_Join l8 [32]).bind fun r9 =>
    some r9
  else
    if (a0.Kind == 24) then
      (brk_Break_Show_x k a0.Break).bind fun r10 =>
      (app 16 s3 [r10]).bind fun l11 =>
      (strings_Join l11 [32]).bind fun r12 =>
      some r12
    else
      if (a0.Kind == 25) then
        (expr_Expr_Show_x k a0.Watch).bind fun r13 =>
        (app 16 s3 [r13]).bind fun l14 =>
        (strings_Join l14 [32]).bind fun r15 =>
        some r15
      else
        (strings_Join s3 [32]).bind fun r16 =>
        some r16
theorem cmd_Command_Show_x_le (k : Nat) (a0 : CmdCommand) : Le (cmd_Command_Show_x k a0) (cmd_Command_Show a0) := by
  simp only [cmd_Command_Show, cmd_Command_Show_x, cmd_Command_Show_j0, cmd_Command_Show_j0_x, cmd_Command_Show_l1, cmd_Command_Show_l1_x, cmd_Command_Show_l1_step, cmd_Command_Show_l1_step_x]
  repeat' first | exact Le.refl _ | exact brk_Break_Show_x_le k _ | exact expr_Expr_Show_x_le k _ | apply Le.jn | apply Le.bind | apply Le.map | apply Le.ite | apply Le.run | intro _
def wlaw31_anchor_x (k : Nat) : Option (Bool) :=
  (cmd_Parse_x k [114, 117, 110]).bind fun r0 =>
  (cmd_Parse_x k [115, 116, 101, 112, 32, 32, 49]).bind fun r1 =>
  if (r0.2 == 0) then
    (cmd_Command_Show_x k r0.1).bind fun r2 =>
    if (r2 == [114, 117, 110, 32, 53, 49, 50]) then
      some (r1.2 == 11)
    else
      some false
  else
    some false
theorem wlaw31_anchor_x_le (k : Nat) : Le (wlaw31_anchor_x k ) (wlaw31_anchor ) := by
  simp only [wlaw31_anchor, wlaw31_anchor_x]
  repeat' first | exact Le.refl _ | exact cmd_Command_Show_x_le k _ | exact cmd_Parse_x_le k _ | apply Le.jn | apply Le.bind | apply Le.map | apply Le.ite | apply Le.run | intro _
def wref02_letter_x (k : Nat) (a0 : Int) : Option (Bool) :=
  if 97 ≤ a0 then
    some ((decide (a0 ≤ 122)))
  else
    some false
theorem wref02_letter_x_le (k : Nat) (a0 : Int) : Le (wref02_letter_x k a0) (wref02_letter a0) := by
  simp only [wref02_letter, wref02_letter_x]
  repeat' first | exact Le.refl _ | apply Le.jn | apply Le.bind | apply Le.map | apply Le.ite | apply Le.run | intro _
def wref02_inner_x (k : Nat) (a0 : Int) : Option (Bool) :=
  (wref02_letter_x k a0).bind fun r1 =>
  if r1 then
    some true
  else
    if 48 ≤ a0 then
      if a0 ≤ 57 then
        some true
      else
        some (a0 == 95)
    else
      some (a0 == 95)
theorem wref02_inner_x_le (k : Nat) (a0 : Int) : Le (wref02_inner_x k a0) (wref02_inner a0) := by
  simp only [wref02_inner, wref02_inner_x]
  repeat' first | exact Le.refl _ | exact wref02_letter_x_le k _ | apply Le.jn | apply Le.bind | apply Le.map | apply Le.ite | apply Le.run | intro _
def wref02_word_l0_step_x (k : Nat) (a0 : List UInt8) (a1 : Int) (s2 : Int) : Option ((Int) ⊕ (Int)) :=
  if (IntKind.i64.wrap (a1 + s2)) < (a0.length : Int) then
    (idx a0 ((IntKind.i64.wrap (a1 + s2)))).bind fun c3 =>
    (wref02_inner_x k (c3.toNat : Int)).bind fun r4 =>
    if r4 then
      some (.inl ((IntKind.i64.wrap (s2 + 1))))
    else
      some (.inr s2)
  else
    some (.inr s2)
def wref02_word_l0_x (k : Nat) (a0 : List UInt8) (a1 : Int) (s2 : Int) : Option (Int) := iter (wref02_word_l0_step_x k a0 a1) k s2
def wref02_word_x (k : Nat) (a0 : List UInt8) (a1 : Int) : Option (Int) :=
  wref02_word_l0_x k a0 a1 0
theorem wref02_word_x_le (k : Nat) (a0 : List UInt8) (a1 : Int) : Le (wref02_word_x k a0 a1) (wref02_word a0 a1) := by
  simp only [wref02_word, wref02_word_x, wref02_word_l0, wref02_word_l0_x, wref02_word_l0_step, wref02_word_l0_step_x]
  repeat' first | exact Le.refl _ | exact wref02_inner_x_le k _ | apply Le.jn | apply Le.bind | apply Le.map | apply Le.ite | apply Le.run | intro _
def wref02_Means_l0_step_x (k : Nat) (a0 : List UInt8) (s1 : Int) : Option ((Int) ⊕ (Bool)) :=
  if (IntKind.i64.wrap ((IntKind.i64.wrap (s1 + (a0.length : Int))) + 2)) ≤ 134 then
    (sub ([32, 99, 104, 97, 114, 116, 32, 118, 97, 114, 32, 115, 116, 97, 116, 101, 32, 112, 97, 114, 97, 108, 108, 101, 108, 32, 102, 105, 110, 97, 108, 32, 100, 101, 101, 112, 32, 115, 104, 97, 108, 108, 111, 119, 32, 101, 110, 116, 101, 114, 32, 101, 120, 105, 116, 32, 111, 110, 32, 97, 117, 116, 111, 32, 101, 110, 100, 32, 105, 102, 32, 103, 111, 32, 105, 110, 110, 101, 114, 32, 100, 111, 32, 115, 101, 116, 32, 114, 97, 105, 115, 101, 32, 115, 101, 110, 100, 32, 99, 97, 110, 99, 101, 108, 32, 108, 111, 103, 32, 116, 114, 117, 101, 32, 102, 97, 108, 115, 101, 32, 110, 111, 116, 32, 97, 110, 100, 32, 111, 114, 32, 105, 110, 32] : List UInt8) s1 ((IntKind.i64.wrap ((IntKind.i64.wrap (s1 + (a0.length : Int))) + 2)))).bind fun m2 =>
    (cat [32] a0).bind fun s3 =>
    (cat s3 [32]).bind fun s4 =>
    if (m2 == s4) then
      if (a0 == []) then
        some (.inr false)
      else
        (wref02_word_x k a0 0).bind fun r5 =>
        some (.inr ((r5 == (a0.length : Int))))
    else
      some (.inl ((IntKind.i64.wrap (s1 + 1))))
  else
    some (.inr false)
def wref02_Means_l0_x (k : Nat) (a0 : List UInt8) (s1 : Int) : Option (Bool) := iter (wref02_Means_l0_step_x k a0) k s1
def wref02_Means_x (k : Nat) (a0 : List UInt8) : Option (Bool) :=
  wref02_Means_l0_x k a0 0
theorem wref02_Means_x_le (k : Nat) (a0 : List UInt8) : Le (wref02_Means_x k a0) (wref02_Means a0) := by
  simp only [wref02_Means, wref02_Means_x, wref02_Means_l0, wref02_Means_l0_x, wref02_Means_l0_step, wref02_Means_l0_step_x]
  repeat' first | exact Le.refl _ | exact wref02_word_x_le k _ _ | apply Le.jn | apply Le.bind | apply Le.map | apply Le.ite | apply Le.run | intro _
end Go.Proofs.YtilmjbljkkbakaaGreatDoor
