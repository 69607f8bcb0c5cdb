/-
  A part of the proof: lemmas.
-/
import Derived.Test.YtilmjbljkkbakaaDoorL
set_option linter.unusedSimpArgs false
set_option linter.unusedVariables false
set_option linter.unusedSectionVars false
set_option linter.unnecessarySimpa false
set_option linter.deprecated false
/-! The program's data, and its functions over plain data. -/
namespace Go.Proofs.YtilmjbljkkbakaaDoor
open Go.Wv
set_option linter.unusedSimpArgs false
set_option linter.unusedVariables false
def tab0 : List (List UInt8) := [[60, 61], [62, 61], [33, 61], [40], [41], [59], [58], [43], [45], [42], [47], [37], [60], [62], [61]]
structure TokToken where
  Kind : Int
  Text : List UInt8
  N : Int
  At : Int
  deriving DecidableEq, Inhabited
def TokToken.en : En TokToken := ⟨fun x => .agg [.lit (.int .i64 x.Kind), .lit (.string (bs x.Text)), .lit (.int .i64 x.N), .lit (.int .i64 x.At)], 4, fun _ => rfl, fun _ => rfl, fun _ _ => rfl, fun _ => rfl, fun _ => rfl⟩
@[go_sem] theorem TokToken.en_enc (x : TokToken) : TokToken.en.enc x = .agg [.lit (.int .i64 x.Kind), .lit (.string (bs x.Text)), .lit (.int .i64 x.N), .lit (.int .i64 x.At)] := rfl
@[go_sem] theorem TokToken.en_sz : TokToken.en.sz = 4 := rfl
structure TokReader where
  s : List UInt8
  at_ : Int
  deriving DecidableEq, Inhabited
def TokReader.en : En TokReader := ⟨fun x => .agg [.lit (.string (bs x.s)), .lit (.int .i64 x.at_)], 2, fun _ => rfl, fun _ => rfl, fun _ _ => rfl, fun _ => rfl, fun _ => rfl⟩
@[go_sem] theorem TokReader.en_enc (x : TokReader) : TokReader.en.enc x = .agg [.lit (.string (bs x.s)), .lit (.int .i64 x.at_)] := rfl
@[go_sem] theorem TokReader.en_sz : TokReader.en.sz = 2 := rfl
structure ValValue where
  Kind : Int
  N : Int
  S : List UInt8
  deriving DecidableEq, Inhabited
def ValValue.en : En ValValue := ⟨fun x => .agg [.lit (.int .i64 x.Kind), .lit (.int .i64 x.N), .lit (.string (bs x.S))], 3, fun _ => rfl, fun _ => rfl, fun _ _ => rfl, fun _ => rfl, fun _ => rfl⟩
@[go_sem] theorem ValValue.en_enc (x : ValValue) : ValValue.en.enc x = .agg [.lit (.int .i64 x.Kind), .lit (.int .i64 x.N), .lit (.string (bs x.S))] := rfl
@[go_sem] theorem ValValue.en_sz : ValValue.en.sz = 3 := rfl
structure ExprNode where
  Op : Int
  V : ValValue
  Name : List UInt8
  L : Int
  R : Int
  deriving DecidableEq, Inhabited
def ExprNode.en : En ExprNode := ⟨fun x => .agg [.lit (.int .i64 x.Op), .lit (.int .i64 x.V.Kind), .lit (.int .i64 x.V.N), .lit (.string (bs x.V.S)), .lit (.string (bs x.Name)), .lit (.int .i64 x.L), .lit (.int .i64 x.R)], 7, fun _ => rfl, fun _ => rfl, fun _ _ => rfl, fun _ => rfl, fun _ => rfl⟩
@[go_sem] theorem ExprNode.en_enc (x : ExprNode) : ExprNode.en.enc x = .agg [.lit (.int .i64 x.Op), .lit (.int .i64 x.V.Kind), .lit (.int .i64 x.V.N), .lit (.string (bs x.V.S)), .lit (.string (bs x.Name)), .lit (.int .i64 x.L), .lit (.int .i64 x.R)] := rfl
@[go_sem] theorem ExprNode.en_sz : ExprNode.en.sz = 7 := rfl
structure ExprParser where
  l : List TokToken
  at_ : Int
  e : List ExprNode
  deriving DecidableEq, Inhabited
def ExprParser.en : En ExprParser := ⟨fun x => .agg [.sl .view (x.l.map TokToken.en.enc), .lit (.int .i64 x.at_), .sl .view (x.e.map ExprNode.en.enc)], 3, fun _ => rfl, fun _ => rfl, fun _ _ => rfl, fun _ => rfl, fun _ => rfl⟩
@[go_sem] theorem ExprParser.en_enc (x : ExprParser) : ExprParser.en.enc x = .agg [.sl .view (x.l.map TokToken.en.enc), .lit (.int .i64 x.at_), .sl .view (x.e.map ExprNode.en.enc)] := rfl
@[go_sem] theorem ExprParser.en_sz : ExprParser.en.sz = 3 := rfl
structure ExprLevel where
  signs : List (List UInt8)
  ops : List Int
  once : Bool
  deriving DecidableEq, Inhabited
def ExprLevel.en : En ExprLevel := ⟨fun x => .agg [.sl .view (x.signs.map En.str.enc), .sl .view (x.ops.map (En.int .i64).enc), .lit (.bool x.once)], 3, fun _ => rfl, fun _ => rfl, fun _ _ => rfl, fun _ => rfl, fun _ => rfl⟩
@[go_sem] theorem ExprLevel.en_enc (x : ExprLevel) : ExprLevel.en.enc x = .agg [.sl .view (x.signs.map En.str.enc), .sl .view (x.ops.map (En.int .i64).enc), .lit (.bool x.once)] := rfl
@[go_sem] theorem ExprLevel.en_sz : ExprLevel.en.sz = 3 := rfl
structure Wref01V where
  Kind : Int
  N : Int
  S : List UInt8
  deriving DecidableEq, Inhabited
def Wref01V.en : En Wref01V := ⟨fun x => .agg [.lit (.int .i64 x.Kind), .lit (.int .i64 x.N), .lit (.string (bs x.S))], 3, fun _ => rfl, fun _ => rfl, fun _ _ => rfl, fun _ => rfl, fun _ => rfl⟩
@[go_sem] theorem Wref01V.en_enc (x : Wref01V) : Wref01V.en.enc x = .agg [.lit (.int .i64 x.Kind), .lit (.int .i64 x.N), .lit (.string (bs x.S))] := rfl
@[go_sem] theorem Wref01V.en_sz : Wref01V.en.sz = 3 := rfl
structure Wref03N where
  Op : Int
  V : Wref01V
  Name : List UInt8
  L : Int
  R : Int
  deriving DecidableEq, Inhabited
def Wref03N.en : En Wref03N := ⟨fun x => .agg [.lit (.int .i64 x.Op), .lit (.int .i64 x.V.Kind), .lit (.int .i64 x.V.N), .lit (.string (bs x.V.S)), .lit (.string (bs x.Name)), .lit (.int .i64 x.L), .lit (.int .i64 x.R)], 7, fun _ => rfl, fun _ => rfl, fun _ _ => rfl, fun _ => rfl, fun _ => rfl⟩
@[go_sem] theorem Wref03N.en_enc (x : Wref03N) : Wref03N.en.enc x = .agg [.lit (.int .i64 x.Op), .lit (.int .i64 x.V.Kind), .lit (.int .i64 x.V.N), .lit (.string (bs x.V.S)), .lit (.string (bs x.Name)), .lit (.int .i64 x.L), .lit (.int .i64 x.R)] := rfl
@[go_sem] theorem Wref03N.en_sz : Wref03N.en.sz = 7 := rfl
def wlaw03_anchor : Option (Bool) := some true
noncomputable def tok_Lex_1 (a0 : Int) : Option (Bool) :=
  some (a0 == 32)
noncomputable def tok_reader_while_at18_l0_step (p0 : TokReader) (s1 : Int) : Option ((Int) ⊕ ((List UInt8) × TokReader)) :=
  if s1 < (p0.s.length : Int) then
    (idx p0.s s1).bind fun c2 =>
    (tok_Lex_1 (c2.toNat : Int)).bind fun r3 =>
    if r3 then
      some (.inl ((IntKind.i64.wrap (s1 + 1))))
    else
      (sub p0.s p0.at_ s1).bind fun m4 =>
      some (.inr ((m4, (TokReader.mk p0.s s1))))
  else
    (sub p0.s p0.at_ s1).bind fun m5 =>
    some (.inr ((m5, (TokReader.mk p0.s s1))))
noncomputable def tok_reader_while_at18_l0 (p0 : TokReader) (s1 : Int) : Option ((List UInt8) × TokReader) := run (tok_reader_while_at18_l0_step p0) s1
noncomputable def tok_reader_while_at18 (p0 : TokReader) : Option ((List UInt8) × TokReader) :=
  tok_reader_while_at18_l0 p0 p0.at_
noncomputable def tok_small (a0 : Int) : Option (Bool) :=
  if 97 ≤ a0 then
    some ((decide (a0 ≤ 122)))
  else
    some false
noncomputable def tok_digit (a0 : Int) : Option (Bool) :=
  if 48 ≤ a0 then
    some ((decide (a0 ≤ 57)))
  else
    some false
noncomputable def tok_reader_word_1 (a0 : Int) : Option (Bool) :=
  (tok_small a0).bind fun r1 =>
  if r1 then
    some true
  else
    (tok_digit a0).bind fun r2 =>
    if r2 then
      some true
    else
      some (a0 == 95)
noncomputable def tok_reader_while_at72_l0_step (p0 : TokReader) (s1 : Int) : Option ((Int) ⊕ ((List UInt8) × TokReader)) :=
  if s1 < (p0.s.length : Int) then
    (idx p0.s s1).bind fun c2 =>
    (tok_reader_word_1 (c2.toNat : Int)).bind fun r3 =>
    if r3 then
      some (.inl ((IntKind.i64.wrap (s1 + 1))))
    else
      (sub p0.s p0.at_ s1).bind fun m4 =>
      some (.inr ((m4, (TokReader.mk p0.s s1))))
  else
    (sub p0.s p0.at_ s1).bind fun m5 =>
    some (.inr ((m5, (TokReader.mk p0.s s1))))
noncomputable def tok_reader_while_at72_l0 (p0 : TokReader) (s1 : Int) : Option ((List UInt8) × TokReader) := run (tok_reader_while_at72_l0_step p0) s1
noncomputable def tok_reader_while_at72 (p0 : TokReader) : Option ((List UInt8) × TokReader) :=
  tok_reader_while_at72_l0 p0 p0.at_
noncomputable def tok_reader_word (p0 : TokReader) : Option ((List UInt8) × TokReader) :=
  (tok_reader_while_at72 p0).bind fun r1 =>
  some (r1.1, r1.2)
noncomputable def tok_reader_path_l0_step (r1 : (List UInt8) × TokReader) (s2 : Int × (List UInt8) × (List UInt8) × Int) : Option ((Int × (List UInt8) × (List UInt8) × Int) ⊕ (TokToken × Int × TokReader)) :=
  if (IntKind.i64.wrap (s2.2.2.2 + 1)) < (s2.2.2.1.length : Int) then
    (idx s2.2.2.1 s2.2.2.2).bind fun c3 =>
    if ((c3.toNat : Int) == 46) then
      (idx s2.2.2.1 ((IntKind.i64.wrap (s2.2.2.2 + 1)))).bind fun c4 =>
      (tok_small (c4.toNat : Int)).bind fun r5 =>
      if r5 then
        (tok_reader_word ((TokReader.mk s2.2.2.1 ((IntKind.i64.wrap (s2.2.2.2 + 1)))))).bind fun r6 =>
        (cat [46] r6.1).bind fun s7 =>
        (cat s2.2.1 s7).bind fun s8 =>
        if 16 < (r6.1.length : Int) then
          some (.inr (((TokToken.mk 2 s8 0 r1.2.at_), 15, r6.2)))
        else
          some (.inl (2, s8, r6.2.s, r6.2.at_))
      else
        if 32 < (s2.2.1.length : Int) then
          some (.inr (((TokToken.mk s2.1 s2.2.1 0 r1.2.at_), 15, (TokReader.mk s2.2.2.1 s2.2.2.2))))
        else
          some (.inr (((TokToken.mk s2.1 s2.2.1 0 r1.2.at_), 0, (TokReader.mk s2.2.2.1 s2.2.2.2))))
    else
      if 32 < (s2.2.1.length : Int) then
        some (.inr (((TokToken.mk s2.1 s2.2.1 0 r1.2.at_), 15, (TokReader.mk s2.2.2.1 s2.2.2.2))))
      else
        some (.inr (((TokToken.mk s2.1 s2.2.1 0 r1.2.at_), 0, (TokReader.mk s2.2.2.1 s2.2.2.2))))
  else
    if 32 < (s2.2.1.length : Int) then
      some (.inr (((TokToken.mk s2.1 s2.2.1 0 r1.2.at_), 15, (TokReader.mk s2.2.2.1 s2.2.2.2))))
    else
      some (.inr (((TokToken.mk s2.1 s2.2.1 0 r1.2.at_), 0, (TokReader.mk s2.2.2.1 s2.2.2.2))))
noncomputable def tok_reader_path_l0 (r1 : (List UInt8) × TokReader) (s2 : Int × (List UInt8) × (List UInt8) × Int) : Option (TokToken × Int × TokReader) := run (tok_reader_path_l0_step r1) s2
noncomputable def tok_reader_path (p0 : TokReader) : Option (TokToken × Int × TokReader) :=
  (tok_reader_word p0).bind fun r1 =>
  if 16 < (r1.1.length : Int) then
    some (((TokToken.mk 1 r1.1 0 r1.2.at_), 15, r1.2))
  else
    tok_reader_path_l0 r1 (1, r1.1, r1.2.s, r1.2.at_)
noncomputable def tok_reader_while_at33_l0_step (p0 : TokReader) (s1 : Int) : Option ((Int) ⊕ ((List UInt8) × TokReader)) :=
  if s1 < (p0.s.length : Int) then
    (idx p0.s s1).bind fun c2 =>
    (tok_digit (c2.toNat : Int)).bind fun r3 =>
    if r3 then
      some (.inl ((IntKind.i64.wrap (s1 + 1))))
    else
      (sub p0.s p0.at_ s1).bind fun m4 =>
      some (.inr ((m4, (TokReader.mk p0.s s1))))
  else
    (sub p0.s p0.at_ s1).bind fun m5 =>
    some (.inr ((m5, (TokReader.mk p0.s s1))))
noncomputable def tok_reader_while_at33_l0 (p0 : TokReader) (s1 : Int) : Option ((List UInt8) × TokReader) := run (tok_reader_while_at33_l0_step p0) s1
noncomputable def tok_reader_while_at33 (p0 : TokReader) : Option ((List UInt8) × TokReader) :=
  tok_reader_while_at33_l0 p0 p0.at_
noncomputable def tok_reader_number_l0_step (r1 : (List UInt8) × TokReader) (b3 : List Int) (s4 : Int × Int) : Option ((Int × Int) ⊕ (TokToken × Int × TokReader)) :=
  if s4.2 < (b3.length : Int) then
    (idx b3 s4.2).bind fun x5 =>
    (quo .i64 ((IntKind.i64.wrap (9223372036854775807 - (IntKind.i64.wrap ((IntKind.u8.wrap (x5 - 48))))))) 10).bind fun q6 =>
    if q6 < s4.1 then
      some (.inr (((TokToken.mk 0 [] 0 0), 21, r1.2)))
    else
      some (.inl (((IntKind.i64.wrap ((IntKind.i64.wrap (s4.1 * 10)) + (IntKind.i64.wrap ((IntKind.u8.wrap (x5 - 48)))))), (IntKind.i64.wrap (s4.2 + 1)))))
  else
    some (.inr (((TokToken.mk 3 r1.1 s4.1 0), 0, r1.2)))
noncomputable def tok_reader_number_l0 (r1 : (List UInt8) × TokReader) (b3 : List Int) (s4 : Int × Int) : Option (TokToken × Int × TokReader) := run (tok_reader_number_l0_step r1 b3) s4
noncomputable def tok_reader_number_l1_step (r1 : (List UInt8) × TokReader) (b7 : List Int) (s8 : Int × Int) : Option ((Int × Int) ⊕ (TokToken × Int × TokReader)) :=
  if s8.2 < (b7.length : Int) then
    (idx b7 s8.2).bind fun x9 =>
    (quo .i64 ((IntKind.i64.wrap (9223372036854775807 - (IntKind.i64.wrap ((IntKind.u8.wrap (x9 - 48))))))) 10).bind fun q10 =>
    if q10 < s8.1 then
      some (.inr (((TokToken.mk 0 [] 0 0), 21, r1.2)))
    else
      some (.inl (((IntKind.i64.wrap ((IntKind.i64.wrap (s8.1 * 10)) + (IntKind.i64.wrap ((IntKind.u8.wrap (x9 - 48)))))), (IntKind.i64.wrap (s8.2 + 1)))))
  else
    some (.inr (((TokToken.mk 3 r1.1 s8.1 0), 0, r1.2)))
noncomputable def tok_reader_number_l1 (r1 : (List UInt8) × TokReader) (b7 : List Int) (s8 : Int × Int) : Option (TokToken × Int × TokReader) := run (tok_reader_number_l1_step r1 b7) s8
noncomputable def tok_reader_number (p0 : TokReader) : Option (TokToken × Int × TokReader) :=
  (tok_reader_while_at33 p0).bind fun r1 =>
  if 1 < (r1.1.length : Int) then
    (idx r1.1 0).bind fun c2 =>
    if ((c2.toNat : Int) == 48) then
      some (((TokToken.mk 0 [] 0 0), 11, r1.2))
    else
      (byts r1.1).bind fun b3 =>
      tok_reader_number_l0 r1 b3 (0, 0)
  else
    (byts r1.1).bind fun b7 =>
    tok_reader_number_l1 r1 b7 (0, 0)
noncomputable def tok_reader_quote_1 (a0 : Int) : Option (Bool) :=
  some (a0 != 39)
noncomputable def tok_reader_while_at60_l0_step (p0 : TokReader) (s1 : Int) : Option ((Int) ⊕ ((List UInt8) × TokReader)) :=
  if s1 < (p0.s.length : Int) then
    (idx p0.s s1).bind fun c2 =>
    (tok_reader_quote_1 (c2.toNat : Int)).bind fun r3 =>
    if r3 then
      some (.inl ((IntKind.i64.wrap (s1 + 1))))
    else
      (sub p0.s p0.at_ s1).bind fun m4 =>
      some (.inr ((m4, (TokReader.mk p0.s s1))))
  else
    (sub p0.s p0.at_ s1).bind fun m5 =>
    some (.inr ((m5, (TokReader.mk p0.s s1))))
noncomputable def tok_reader_while_at60_l0 (p0 : TokReader) (s1 : Int) : Option ((List UInt8) × TokReader) := run (tok_reader_while_at60_l0_step p0) s1
noncomputable def tok_reader_while_at60 (p0 : TokReader) : Option ((List UInt8) × TokReader) :=
  tok_reader_while_at60_l0 p0 p0.at_
noncomputable def val_Plain_l0_step (a0 : List UInt8) (b1 : List Int) (s2 : Int) : Option ((Int) ⊕ (Bool)) :=
  if s2 < (b1.length : Int) then
    (idx b1 s2).bind fun x3 =>
    if x3 < 32 then
      some (.inr false)
    else
      if 126 < x3 then
        some (.inr false)
      else
        if (x3 == 39) then
          some (.inr false)
        else
          some (.inl ((IntKind.i64.wrap (s2 + 1))))
  else
    some (.inr ((decide ((a0.length : Int) ≤ 48))))
noncomputable def val_Plain_l0 (a0 : List UInt8) (b1 : List Int) (s2 : Int) : Option (Bool) := run (val_Plain_l0_step a0 b1) s2
noncomputable def val_Plain (a0 : List UInt8) : Option (Bool) :=
  (byts a0).bind fun b1 =>
  val_Plain_l0 a0 b1 0
noncomputable def tok_reader_quote (p0 : TokReader) : Option (TokToken × Int × TokReader) :=
  (tok_reader_while_at60 ((TokReader.mk p0.s ((IntKind.i64.wrap (p0.at_ + 1)))))).bind fun r1 =>
  if (r1.2.at_ == (r1.2.s.length : Int)) then
    some (((TokToken.mk 0 [] 0 0), 14, r1.2))
  else
    if 48 < (r1.1.length : Int) then
      some (((TokToken.mk 0 [] 0 0), 15, (TokReader.mk r1.2.s ((IntKind.i64.wrap (r1.2.at_ + 1))))))
    else
      (val_Plain r1.1).bind fun r2 =>
      if (!r2) then
        some (((TokToken.mk 0 [] 0 0), 11, (TokReader.mk r1.2.s ((IntKind.i64.wrap (r1.2.at_ + 1))))))
      else
        some (((TokToken.mk 4 r1.1 0 0), 0, (TokReader.mk r1.2.s ((IntKind.i64.wrap (r1.2.at_ + 1))))))
noncomputable def internal_stringslite_HasPrefix (a0 : List UInt8) (a1 : List UInt8) : Option (Bool) :=
  if (a1.length : Int) ≤ (a0.length : Int) then
    (subT a0 (a1.length : Int)).bind fun m2 =>
    some (m2 == a1)
  else
    some false
noncomputable def strings_HasPrefix (a0 : List UInt8) (a1 : List UInt8) : Option (Bool) :=
  (internal_stringslite_HasPrefix a0 a1).bind fun r2 =>
  some r2
noncomputable def tok_reader_sign_l0_step (p0 : TokReader) (s1 : Int) : Option ((Int) ⊕ (TokToken × Int × TokReader)) :=
  if s1 < 15 then
    (idx tab0 s1).bind fun x2 =>
    (subF p0.s p0.at_).bind fun m3 =>
    (strings_HasPrefix m3 x2).bind fun r4 =>
    if r4 then
      some (.inr (((TokToken.mk 5 x2 0 0), 0, (TokReader.mk p0.s ((IntKind.i64.wrap (p0.at_ + (x2.length : Int))))))))
    else
      some (.inl ((IntKind.i64.wrap (s1 + 1))))
  else
    some (.inr (((TokToken.mk 0 [] 0 0), 11, p0)))
noncomputable def tok_reader_sign_l0 (p0 : TokReader) (s1 : Int) : Option (TokToken × Int × TokReader) := run (tok_reader_sign_l0_step p0) s1
noncomputable def tok_reader_sign (p0 : TokReader) : Option (TokToken × Int × TokReader) :=
  tok_reader_sign_l0 p0 0
noncomputable def tok_reader_token (p0 : TokReader) : Option (TokToken × Int × TokReader) :=
  (idx p0.s p0.at_).bind fun c1 =>
  (tok_small (c1.toNat : Int)).bind fun r2 =>
  if r2 then
    (tok_reader_path p0).bind fun r3 =>
    some (r3.1, r3.2.1, r3.2.2)
  else
    (tok_digit (c1.toNat : Int)).bind fun r4 =>
    if r4 then
      (tok_reader_number p0).bind fun r5 =>
      some (r5.1, r5.2.1, r5.2.2)
    else
      if ((c1.toNat : Int) == 39) then
        (tok_reader_quote p0).bind fun r6 =>
        some (r6.1, r6.2.1, r6.2.2)
      else
        (tok_reader_sign p0).bind fun r7 =>
        some (r7.1, r7.2.1, r7.2.2)
noncomputable def tok_Lex_l0_step (s1 : (List TokToken) × (List UInt8) × Int) : Option (((List TokToken) × (List UInt8) × Int) ⊕ ((List TokToken) × Int × Int)) :=
  (tok_reader_while_at18 (TokReader.mk s1.2.1 s1.2.2)).bind fun r2 =>
  if (r2.2.at_ == (r2.2.s.length : Int)) then
    some (.inr (s1.1, 0, 0))
  else
    if ((s1.1.length : Int) == 120) then
      some (.inr ((([] : List TokToken), 13, r2.2.at_)))
    else
      (tok_reader_token r2.2).bind fun r3 =>
      if (r3.2.1 != 0) then
        some (.inr ((([] : List TokToken), r3.2.1, r2.2.at_)))
      else
        (app 40 s1.1 [(TokToken.mk r3.1.Kind r3.1.Text r3.1.N r2.2.at_)]).bind fun l4 =>
        some (.inl (l4, r3.2.2.s, r3.2.2.at_))
noncomputable def tok_Lex_l0 (s1 : (List TokToken) × (List UInt8) × Int) : Option ((List TokToken) × Int × Int) := run (tok_Lex_l0_step) s1
noncomputable def tok_Lex (a0 : List UInt8) : Option ((List TokToken) × Int × Int) :=
  tok_Lex_l0 ((([] : List TokToken), a0, 0))
noncomputable def expr_levels : Option ((List ExprLevel)) :=
  some ([(ExprLevel.mk ([[111, 114]]) [15] false), (ExprLevel.mk ([[97, 110, 100]]) [14] false), (ExprLevel.mk ([[60], [60, 61], [62], [62, 61], [61], [33, 61]]) [8, 9, 10, 11, 12, 13] true), (ExprLevel.mk ([[43], [45]]) [6, 7] false), (ExprLevel.mk ([[42], [47], [37]]) [3, 4, 5] false)])
noncomputable def expr_parser_next (p0 : ExprParser) : Option (TokToken) :=
  if p0.at_ < (p0.l.length : Int) then
    (idx p0.l p0.at_).bind fun x1 =>
    some x1
  else
    some (TokToken.mk 0 [] 0 0)
noncomputable def tok_Token_Is_l0_step (a0 : TokToken) (a1 : List (List UInt8)) (s2 : Int) : Option ((Int) ⊕ (Bool)) :=
  if s2 < (a1.length : Int) then
    (idx a1 s2).bind fun x3 =>
    if (a0.Text == x3) then
      some (.inr true)
    else
      some (.inl ((IntKind.i64.wrap (s2 + 1))))
  else
    some (.inr false)
noncomputable def tok_Token_Is_l0 (a0 : TokToken) (a1 : List (List UInt8)) (s2 : Int) : Option (Bool) := run (tok_Token_Is_l0_step a0 a1) s2
noncomputable def tok_Token_Is_l1_step (a0 : TokToken) (a1 : List (List UInt8)) (s4 : Int) : Option ((Int) ⊕ (Bool)) :=
  if s4 < (a1.length : Int) then
    (idx a1 s4).bind fun x5 =>
    if (a0.Text == x5) then
      some (.inr true)
    else
      some (.inl ((IntKind.i64.wrap (s4 + 1))))
  else
    some (.inr false)
noncomputable def tok_Token_Is_l1 (a0 : TokToken) (a1 : List (List UInt8)) (s4 : Int) : Option (Bool) := run (tok_Token_Is_l1_step a0 a1) s4
noncomputable def tok_Token_Is (a0 : TokToken) (a1 : List (List UInt8)) : Option (Bool) :=
  if (a0.Kind != 1) then
    if (a0.Kind != 5) then
      some false
    else
      tok_Token_Is_l0 a0 a1 0
  else
    tok_Token_Is_l1 a0 a1 0
noncomputable def expr_parser_take (p0 : ExprParser) (a1 : List UInt8) : Option (Bool × ExprParser) :=
  (expr_parser_next p0).bind fun r2 =>
  (tok_Token_Is r2 [a1]).bind fun r3 =>
  if r3 then
    some ((true, (ExprParser.mk p0.l ((IntKind.i64.wrap (p0.at_ + 1))) p0.e)))
  else
    some (false, p0)
noncomputable def expr_parser_operation_l0_step (a1 : ExprLevel) (s2 : Int × (List TokToken) × Int × (List ExprNode)) : Option ((Int × (List TokToken) × Int × (List ExprNode)) ⊕ (Int × ExprParser)) :=
  if s2.1 < (a1.signs.length : Int) then
    (idx a1.signs s2.1).bind fun x3 =>
    (expr_parser_take (ExprParser.mk s2.2.1 s2.2.2.1 s2.2.2.2) x3).bind fun r4 =>
    if r4.1 then
      (idx a1.ops s2.1).bind fun x5 =>
      some (.inr (x5, r4.2))
    else
      some (.inl (((IntKind.i64.wrap (s2.1 + 1)), r4.2.l, r4.2.at_, r4.2.e)))
  else
    some (.inr ((0, (ExprParser.mk s2.2.1 s2.2.2.1 s2.2.2.2))))
noncomputable def expr_parser_operation_l0 (a1 : ExprLevel) (s2 : Int × (List TokToken) × Int × (List ExprNode)) : Option (Int × ExprParser) := run (expr_parser_operation_l0_step a1) s2
noncomputable def expr_parser_operation (p0 : ExprParser) (a1 : ExprLevel) : Option (Int × ExprParser) :=
  expr_parser_operation_l0 a1 (0, p0.l, p0.at_, p0.e)
noncomputable def expr_parser_add (p0 : ExprParser) (a1 : ExprNode) : Option (Bool × ExprParser) :=
  (app 72 p0.e [a1]).bind fun l2 =>
  some ((true, (ExprParser.mk p0.l p0.at_ l2)))
noncomputable def val_Of (a0 : Int) : Option (ValValue) :=
  some (ValValue.mk 1 a0 [])
noncomputable def val_Word (a0 : List UInt8) : Option (ValValue) :=
  some (ValValue.mk 3 0 a0)
noncomputable def val_Truth (a0 : Bool) : Option (ValValue) :=
  if a0 then
    some (ValValue.mk 2 1 [])
  else
    some (ValValue.mk 2 0 [])
noncomputable def tok_Means (a0 : List UInt8) : Option (Bool) :=
  if (a0 == [99, 104, 97, 114, 116]) then
    some true
  else
    if (a0 == [118, 97, 114]) then
      some true
    else
      if (a0 == [115, 116, 97, 116, 101]) then
        some true
      else
        if (a0 == [112, 97, 114, 97, 108, 108, 101, 108]) then
          some true
        else
          if (a0 == [102, 105, 110, 97, 108]) then
            some true
          else
            if (a0 == [100, 101, 101, 112]) then
              some true
            else
              if (a0 == [115, 104, 97, 108, 108, 111, 119]) then
                some true
              else
                if (a0 == [101, 110, 116, 101, 114]) then
                  some true
                else
                  if (a0 == [101, 120, 105, 116]) then
                    some true
                  else
                    if (a0 == [111, 110]) then
                      some true
                    else
                      if (a0 == [97, 117, 116, 111]) then
                        some true
                      else
                        if (a0 == [101, 110, 100]) then
                          some true
                        else
                          if (a0 == [105, 102]) then
                            some true
                          else
                            if (a0 == [103, 111]) then
                              some true
                            else
                              if (a0 == [105, 110, 110, 101, 114]) then
                                some true
                              else
                                if (a0 == [100, 111]) then
                                  some true
                                else
                                  if (a0 == [115, 101, 116]) then
                                    some true
                                  else
                                    if (a0 == [114, 97, 105, 115, 101]) then
                                      some true
                                    else
                                      if (a0 == [115, 101, 110, 100]) then
                                        some true
                                      else
                                        if (a0 == [99, 97, 110, 99, 101, 108]) then
                                          some true
                                        else
                                          if (a0 == [108, 111, 103]) then
                                            some true
                                          else
                                            if (a0 == [116, 114, 117, 101]) then
                                              some true
                                            else
                                              if (a0 == [102, 97, 108, 115, 101]) then
                                                some true
                                              else
                                                if (a0 == [110, 111, 116]) then
                                                  some true
                                                else
                                                  if (a0 == [97, 110, 100]) then
                                                    some true
                                                  else
                                                    if (a0 == [111, 114]) then
                                                      some true
                                                    else
                                                      if (a0 == [105, 110]) then
                                                        some true
                                                      else
                                                        some false
noncomputable def expr_parser_name (p0 : ExprParser) (a1 : Int) : Option (Bool × ExprParser) :=
  (expr_parser_next p0).bind fun r2 =>
  if (r2.Kind != 1) then
    some (false, p0)
  else
    (tok_Means r2.Text).bind fun r3 =>
    if r3 then
      some (false, p0)
    else
      (expr_parser_add ((ExprParser.mk p0.l ((IntKind.i64.wrap (p0.at_ + 1))) p0.e)) ((ExprNode.mk a1 (ValValue.mk 0 0 []) r2.Text 0 0))).bind fun r4 =>
      some (r4.1, r4.2)
structure expr_parser_binary_Rec where
  expr_parser_binary : ExprParser → Int → Option (Bool × ExprParser)
  expr_parser_unary : ExprParser → Option (Bool × ExprParser)
  expr_parser_atom : ExprParser → Option (Bool × ExprParser)
noncomputable def expr_parser_binary_l0_step (R : expr_parser_binary_Rec) (a1 : Int) (r2 : (List ExprLevel)) (s5 : (List TokToken) × Int × (List ExprNode)) : Option (((List TokToken) × Int × (List ExprNode)) ⊕ (Bool × ExprParser)) :=
  (idx r2 a1).bind fun x6 =>
  (expr_parser_operation (ExprParser.mk s5.1 s5.2.1 s5.2.2) x6).bind fun r7 =>
  if (r7.1 == 0) then
    some (.inr (true, r7.2))
  else
    (R.expr_parser_binary r7.2 ((IntKind.i64.wrap (a1 + 1)))).bind fun r8 =>
    if (!r8.1) then
      some (.inr (false, r8.2))
    else
      (expr_parser_add r8.2 ((ExprNode.mk r7.1 (ValValue.mk 0 0 []) [] ((IntKind.i64.wrap ((s5.2.2.length : Int) - 1))) ((IntKind.i64.wrap ((r8.2.e.length : Int) - 1)))))).bind fun r9 =>
      if (!r9.1) then
        some (.inr (false, r9.2))
      else
        if x6.once then
          some (.inr (true, r9.2))
        else
          some (.inl (r9.2.l, r9.2.at_, r9.2.e))
noncomputable def expr_parser_binary_l0 (R : expr_parser_binary_Rec) (a1 : Int) (r2 : (List ExprLevel)) (s5 : (List TokToken) × Int × (List ExprNode)) : Option (Bool × ExprParser) := run (expr_parser_binary_l0_step R a1 r2) s5
noncomputable def expr_parser_binary_F (R : expr_parser_binary_Rec) (p0 : ExprParser) (a1 : Int) : Option (Bool × ExprParser) :=
  (expr_levels).bind fun r2 =>
  if (a1 == (r2.length : Int)) then
    (R.expr_parser_unary p0).bind fun r3 =>
    some (r3.1, r3.2)
  else
    (R.expr_parser_binary p0 ((IntKind.i64.wrap (a1 + 1)))).bind fun r4 =>
    if (!r4.1) then
      some (false, r4.2)
    else
      expr_parser_binary_l0 R a1 r2 (r4.2.l, r4.2.at_, r4.2.e)
noncomputable def expr_parser_unary_F (R : expr_parser_binary_Rec) (p0 : ExprParser) : Option (Bool × ExprParser) :=
  (expr_parser_take p0 [110, 111, 116]).bind fun r1 =>
  if r1.1 then
    (R.expr_parser_unary r1.2).bind fun r2 =>
    if r2.1 then
      (expr_parser_add r2.2 ((ExprNode.mk 1 (ValValue.mk 0 0 []) [] ((IntKind.i64.wrap ((r2.2.e.length : Int) - 1))) 0))).bind fun r3 =>
      some (r3.1, r3.2)
    else
      some (false, r2.2)
  else
    (expr_parser_take r1.2 [45]).bind fun r4 =>
    if r4.1 then
      (R.expr_parser_unary r4.2).bind fun r5 =>
      if r5.1 then
        (expr_parser_add r5.2 ((ExprNode.mk 2 (ValValue.mk 0 0 []) [] ((IntKind.i64.wrap ((r5.2.e.length : Int) - 1))) 0))).bind fun r6 =>
        some (r6.1, r6.2)
      else
        some (false, r5.2)
    else
      (R.expr_parser_atom r4.2).bind fun r7 =>
      some (r7.1, r7.2)
noncomputable def expr_parser_atom_F (R : expr_parser_binary_Rec) (p0 : ExprParser) : Option (Bool × ExprParser) :=
  (expr_parser_next p0).bind fun r1 =>
  if (r1.Kind == 3) then
    (val_Of r1.N).bind fun r2 =>
    (expr_parser_add ((ExprParser.mk p0.l ((IntKind.i64.wrap (p0.at_ + 1))) p0.e)) (ExprNode.mk 0 r2 [] 0 0)).bind fun r3 =>
    some (r3.1, r3.2)
  else
    if (r1.Kind == 4) then
      (val_Word r1.Text).bind fun r4 =>
      (expr_parser_add ((ExprParser.mk p0.l ((IntKind.i64.wrap (p0.at_ + 1))) p0.e)) (ExprNode.mk 0 r4 [] 0 0)).bind fun r5 =>
      some (r5.1, r5.2)
    else
      (tok_Token_Is r1 ([[116, 114, 117, 101], [102, 97, 108, 115, 101]])).bind fun r6 =>
      if r6 then
        (val_Truth (r1.Text == [116, 114, 117, 101])).bind fun r7 =>
        (expr_parser_add ((ExprParser.mk p0.l ((IntKind.i64.wrap (p0.at_ + 1))) p0.e)) (ExprNode.mk 0 r7 [] 0 0)).bind fun r8 =>
        some (r8.1, r8.2)
      else
        (expr_parser_take p0 [105, 110]).bind fun r9 =>
        if r9.1 then
          (expr_parser_take r9.2 [40]).bind fun r10 =>
          if r10.1 then
            (expr_parser_name r10.2 17).bind fun r11 =>
            if r11.1 then
              (expr_parser_take r11.2 [41]).bind fun r12 =>
              some (r12.1, r12.2)
            else
              some (false, r11.2)
          else
            some (false, r10.2)
        else
          (expr_parser_take r9.2 [40]).bind fun r13 =>
          if r13.1 then
            (R.expr_parser_binary r13.2 0).bind fun r14 =>
            if r14.1 then
              (expr_parser_take r14.2 [41]).bind fun r15 =>
              some (r15.1, r15.2)
            else
              some (false, r14.2)
          else
            (expr_parser_name r13.2 16).bind fun r16 =>
            some (r16.1, r16.2)
noncomputable def expr_parser_binary_rec : Nat → expr_parser_binary_Rec
  | 0 => ⟨fun _ _ => none, fun _ => none, fun _ => none⟩
  | k + 1 => ⟨expr_parser_binary_F (expr_parser_binary_rec k), expr_parser_unary_F (expr_parser_binary_rec k), expr_parser_atom_F (expr_parser_binary_rec k)⟩
noncomputable def expr_parser_binary (p0 : ExprParser) (a1 : Int) : Option (Bool × ExprParser) := lim? fun k => (expr_parser_binary_rec k).expr_parser_binary p0 a1
noncomputable def expr_parser_unary (p0 : ExprParser) : Option (Bool × ExprParser) := lim? fun k => (expr_parser_binary_rec k).expr_parser_unary p0
noncomputable def expr_parser_atom (p0 : ExprParser) : Option (Bool × ExprParser) := lim? fun k => (expr_parser_binary_rec k).expr_parser_atom p0
theorem expr_parser_binary_lm {R : Nat → expr_parser_binary_Rec} {W : expr_parser_binary_Rec} (h20 : ∀ (p0 : ExprParser) (a1 : Int), Lm (fun k => (R k).expr_parser_binary p0 a1) (W.expr_parser_binary p0 a1)) (h38 : ∀ (p0 : ExprParser), Lm (fun k => (R k).expr_parser_unary p0) (W.expr_parser_unary p0)) (h64 : ∀ (p0 : ExprParser), Lm (fun k => (R k).expr_parser_atom p0) (W.expr_parser_atom p0)) (p0 : ExprParser) (a1 : Int) : Lm (fun k => expr_parser_binary_F (R k) p0 a1) (expr_parser_binary_F W p0 a1) := by
  simp only [expr_parser_binary_F, expr_parser_binary_l0, expr_parser_binary_l0_step]
  repeat' first | exact Lm.const _ | exact h20 _ _ | exact h38 _ | exact h64 _ | apply Lm.bind | apply Lm.map | apply Lm.ite | apply Lm.run | intro _
theorem expr_parser_unary_lm {R : Nat → expr_parser_binary_Rec} {W : expr_parser_binary_Rec} (h20 : ∀ (p0 : ExprParser) (a1 : Int), Lm (fun k => (R k).expr_parser_binary p0 a1) (W.expr_parser_binary p0 a1)) (h38 : ∀ (p0 : ExprParser), Lm (fun k => (R k).expr_parser_unary p0) (W.expr_parser_unary p0)) (h64 : ∀ (p0 : ExprParser), Lm (fun k => (R k).expr_parser_atom p0) (W.expr_parser_atom p0)) (p0 : ExprParser) : Lm (fun k => expr_parser_unary_F (R k) p0) (expr_parser_unary_F W p0) := by
  simp only [expr_parser_unary_F]
  repeat' first | exact Lm.const _ | exact h20 _ _ | exact h38 _ | exact h64 _ | apply Lm.bind | apply Lm.map | apply Lm.ite | apply Lm.run | intro _
theorem expr_parser_atom_lm {R : Nat → expr_parser_binary_Rec} {W : expr_parser_binary_Rec} (h20 : ∀ (p0 : ExprParser) (a1 : Int), Lm (fun k => (R k).expr_parser_binary p0 a1) (W.expr_parser_binary p0 a1)) (h38 : ∀ (p0 : ExprParser), Lm (fun k => (R k).expr_parser_unary p0) (W.expr_parser_unary p0)) (h64 : ∀ (p0 : ExprParser), Lm (fun k => (R k).expr_parser_atom p0) (W.expr_parser_atom p0)) (p0 : ExprParser) : Lm (fun k => expr_parser_atom_F (R k) p0) (expr_parser_atom_F W p0) := by
  simp only [expr_parser_atom_F]
  repeat' first | exact Lm.const _ | exact h20 _ _ | exact h38 _ | exact h64 _ | apply Lm.bind | apply Lm.map | apply Lm.ite | apply Lm.run | intro _
noncomputable def expr_parser_binary_W : expr_parser_binary_Rec := ⟨expr_parser_binary, expr_parser_unary, expr_parser_atom⟩
theorem expr_parser_binary_mono : ∀ k, (∀ p0 a1 r, (expr_parser_binary_rec k).expr_parser_binary p0 a1 = some r → (expr_parser_binary_rec (k + 1)).expr_parser_binary p0 a1 = some r) ∧ (∀ p0 r, (expr_parser_binary_rec k).expr_parser_unary p0 = some r → (expr_parser_binary_rec (k + 1)).expr_parser_unary p0 = some r) ∧ (∀ p0 r, (expr_parser_binary_rec k).expr_parser_atom p0 = some r → (expr_parser_binary_rec (k + 1)).expr_parser_atom p0 = some r)
  | 0 => ⟨fun _ _ _ h => (by cases h), fun _ _ h => (by cases h), fun _ _ h => (by cases h)⟩
  | k + 1 => by
    obtain ⟨m20, m38, m64⟩ := expr_parser_binary_mono k
    have key : ∀ (f : expr_parser_binary_Rec → Option Unit), True := fun _ => trivial
    have l20 : ∀ p0 a1, Lm (fun j => ((fun j => if j = 0 then expr_parser_binary_rec k else expr_parser_binary_rec (k + 1)) j).expr_parser_binary p0 a1) ((expr_parser_binary_rec (k + 1)).expr_parser_binary p0 a1) := fun _ _ => Lm.step (m20 _ _) (fun j => by by_cases hj : j = 0 <;> simp [hj])
    have l38 : ∀ p0, Lm (fun j => ((fun j => if j = 0 then expr_parser_binary_rec k else expr_parser_binary_rec (k + 1)) j).expr_parser_unary p0) ((expr_parser_binary_rec (k + 1)).expr_parser_unary p0) := fun _ => Lm.step (m38 _) (fun j => by by_cases hj : j = 0 <;> simp [hj])
    have l64 : ∀ p0, Lm (fun j => ((fun j => if j = 0 then expr_parser_binary_rec k else expr_parser_binary_rec (k + 1)) j).expr_parser_atom p0) ((expr_parser_binary_rec (k + 1)).expr_parser_atom p0) := fun _ => Lm.step (m64 _) (fun j => by by_cases hj : j = 0 <;> simp [hj])
    exact ⟨fun p0 a1 r h => (expr_parser_binary_lm l20 l38 l64 p0 a1).2 0 r h, fun p0 r h => (expr_parser_unary_lm l20 l38 l64 p0).2 0 r h, fun p0 r h => (expr_parser_atom_lm l20 l38 l64 p0).2 0 r h⟩
theorem expr_parser_binary_lim (p0 : ExprParser) (a1 : Int) : Lm (fun k => (expr_parser_binary_rec k).expr_parser_binary p0 a1) (expr_parser_binary p0 a1) := lim_Lm fun k => (expr_parser_binary_mono k).1 p0 a1
theorem expr_parser_unary_lim (p0 : ExprParser) : Lm (fun k => (expr_parser_binary_rec k).expr_parser_unary p0) (expr_parser_unary p0) := lim_Lm fun k => (expr_parser_binary_mono k).2.1 p0
theorem expr_parser_atom_lim (p0 : ExprParser) : Lm (fun k => (expr_parser_binary_rec k).expr_parser_atom p0) (expr_parser_atom p0) := lim_Lm fun k => (expr_parser_binary_mono k).2.2 p0
theorem expr_parser_binary_eq (p0 : ExprParser) (a1 : Int) : expr_parser_binary p0 a1 = expr_parser_binary_F expr_parser_binary_W p0 a1 := Lm.uniq (expr_parser_binary_lim p0 a1) (expr_parser_binary_lm (R := expr_parser_binary_rec) (W := expr_parser_binary_W) expr_parser_binary_lim expr_parser_unary_lim expr_parser_atom_lim p0 a1)
theorem expr_parser_unary_eq (p0 : ExprParser) : expr_parser_unary p0 = expr_parser_unary_F expr_parser_binary_W p0 := Lm.uniq (expr_parser_unary_lim p0) (expr_parser_unary_lm (R := expr_parser_binary_rec) (W := expr_parser_binary_W) expr_parser_binary_lim expr_parser_unary_lim expr_parser_atom_lim p0)
theorem expr_parser_atom_eq (p0 : ExprParser) : expr_parser_atom p0 = expr_parser_atom_F expr_parser_binary_W p0 := Lm.uniq (expr_parser_atom_lim p0) (expr_parser_atom_lm (R := expr_parser_binary_rec) (W := expr_parser_binary_W) expr_parser_binary_lim expr_parser_unary_lim expr_parser_atom_lim p0)
noncomputable def expr_one (a0 : Int) : Option (Bool) :=
  if (a0 == 1) then
    some true
  else
    some (a0 == 2)
noncomputable def expr_two (a0 : Int) : Option (Bool) :=
  if 3 ≤ a0 then
    some ((decide (a0 ≤ 15)))
  else
    some false
noncomputable def expr_Expr_depths_l0_step (a0 : List ExprNode) (s2 : Int × (List Int)) : Option ((Int × (List Int)) ⊕ ((List Int))) :=
  if s2.1 < (a0.length : Int) then
    (idx a0 s2.1).bind fun x3 =>
    (inM a0.length s2.1).bind fun j4 =>
    (setJ s2.2 j4 1).bind fun w5 =>
    (expr_one x3.Op).bind fun r6 =>
    if r6 then
      (inM a0.length x3.L).bind fun j7 =>
      (w5[j7]?).bind fun x8 =>
      (setJ w5 j4 ((IntKind.i64.wrap (1 + x8)))).bind fun w9 =>
      (expr_two x3.Op).bind fun r10 =>
      if r10 then
        (w9[j4]?).bind fun x11 =>
        (inM a0.length x3.R).bind fun j12 =>
        (w9[j12]?).bind fun x13 =>
        (setJ w9 j4 ((if x11 < (IntKind.i64.wrap (1 + x13)) then (IntKind.i64.wrap (1 + x13)) else x11))).bind fun w14 =>
        some (.inl (((IntKind.i64.wrap (s2.1 + 1)), w14)))
      else
        some (.inl (((IntKind.i64.wrap (s2.1 + 1)), w9)))
    else
      (expr_two x3.Op).bind fun r15 =>
      if r15 then
        (inM a0.length x3.L).bind fun j16 =>
        (w5[j16]?).bind fun x17 =>
        (setJ w5 j4 ((IntKind.i64.wrap (1 + x17)))).bind fun w18 =>
        (expr_two x3.Op).bind fun r19 =>
        if r19 then
          (w18[j4]?).bind fun x20 =>
          (inM a0.length x3.R).bind fun j21 =>
          (w18[j21]?).bind fun x22 =>
          (setJ w18 j4 ((if x20 < (IntKind.i64.wrap (1 + x22)) then (IntKind.i64.wrap (1 + x22)) else x20))).bind fun w23 =>
          some (.inl (((IntKind.i64.wrap (s2.1 + 1)), w23)))
        else
          some (.inl (((IntKind.i64.wrap (s2.1 + 1)), w18)))
      else
        (expr_two x3.Op).bind fun r24 =>
        if r24 then
          (w5[j4]?).bind fun x25 =>
          (inM a0.length x3.R).bind fun j26 =>
          (w5[j26]?).bind fun x27 =>
          (setJ w5 j4 ((if x25 < (IntKind.i64.wrap (1 + x27)) then (IntKind.i64.wrap (1 + x27)) else x25))).bind fun w28 =>
          some (.inl (((IntKind.i64.wrap (s2.1 + 1)), w28)))
        else
          some (.inl (((IntKind.i64.wrap (s2.1 + 1)), w5)))
  else
    (frz a0.length s2.2).bind fun z29 =>
    some (.inr z29)
noncomputable def expr_Expr_depths_l0 (a0 : List ExprNode) (s2 : Int × (List Int)) : Option ((List Int)) := run (expr_Expr_depths_l0_step a0) s2
noncomputable def expr_Expr_depths (a0 : List ExprNode) : Option ((List Int)) :=
  (mkA 8 (a0.length : Int) 0).bind fun z1 =>
  expr_Expr_depths_l0 a0 (0, z1)
noncomputable def expr_Expr_Size_l0_step (r1 : (List Int)) (s2 : Int) : Option ((Int) ⊕ (Int)) :=
  if s2 < (r1.length : Int) then
    (idx r1 s2).bind fun x3 =>
    if 8 < x3 then
      some (.inr 23)
    else
      some (.inl ((IntKind.i64.wrap (s2 + 1))))
  else
    some (.inr 0)
noncomputable def expr_Expr_Size_l0 (r1 : (List Int)) (s2 : Int) : Option (Int) := run (expr_Expr_Size_l0_step r1) s2
noncomputable def expr_Expr_Size (a0 : List ExprNode) : Option (Int) :=
  if 32 < (a0.length : Int) then
    some 13
  else
    (expr_Expr_depths a0).bind fun r1 =>
    expr_Expr_Size_l0 r1 0
noncomputable def expr_Parse (a0 : List TokToken) (a1 : Int) : Option ((List ExprNode) × Int × Int) :=
  if a1 < 0 then
    some ((([] : List ExprNode), 0, 11))
  else
    if (a0.length : Int) < a1 then
      some ((([] : List ExprNode), 0, 11))
    else
      (expr_parser_binary ((ExprParser.mk a0 a1 ([] : List ExprNode))) 0).bind fun r2 =>
      if (!r2.1) then
        some ((([] : List ExprNode), 0, 11))
      else
        (expr_Expr_Size r2.2.e).bind fun r3 =>
        if (r3 != 0) then
          some ((([] : List ExprNode), 0, r3))
        else
          some (r2.2.e, r2.2.at_, 0)
noncomputable def wlaw03_refs_l0_step (a0 : List ExprNode) (s1 : (List Wref03N) × Int) : Option (((List Wref03N) × Int) ⊕ ((List Wref03N))) :=
  if s1.2 < (a0.length : Int) then
    (idx a0 s1.2).bind fun x2 =>
    (app 72 s1.1 [(Wref03N.mk x2.Op (Wref01V.mk x2.V.Kind x2.V.N x2.V.S) x2.Name x2.L x2.R)]).bind fun l3 =>
    some (.inl ((l3, (IntKind.i64.wrap (s1.2 + 1)))))
  else
    some (.inr s1.1)
noncomputable def wlaw03_refs_l0 (a0 : List ExprNode) (s1 : (List Wref03N) × Int) : Option ((List Wref03N)) := run (wlaw03_refs_l0_step a0) s1
noncomputable def wlaw03_refs (a0 : List ExprNode) : Option ((List Wref03N)) :=
  wlaw03_refs_l0 a0 ((([] : List Wref03N), 0))
noncomputable def wlaw03_same_l0_step (a1 : List Wref03N) (r2 : (List Wref03N)) (s3 : Int) : Option ((Int) ⊕ (Bool)) :=
  if s3 < (r2.length : Int) then
    (idx r2 s3).bind fun x4 =>
    (idx a1 s3).bind fun x5 =>
    if (!((x4.Op == x5.Op) && ((x4.V.Kind == x5.V.Kind) && ((x4.V.N == x5.V.N) && ((x4.V.S == x5.V.S) && ((x4.Name == x5.Name) && ((x4.L == x5.L) && (x4.R == x5.R)))))))) then
      some (.inr false)
    else
      some (.inl ((IntKind.i64.wrap (s3 + 1))))
  else
    some (.inr true)
noncomputable def wlaw03_same_l0 (a1 : List Wref03N) (r2 : (List Wref03N)) (s3 : Int) : Option (Bool) := run (wlaw03_same_l0_step a1 r2) s3
noncomputable def wlaw03_same (a0 : List ExprNode) (a1 : List Wref03N) : Option (Bool) :=
  if ((a0.length : Int) != (a1.length : Int)) then
    some false
  else
    (wlaw03_refs a0).bind fun r2 =>
    wlaw03_same_l0 a1 r2 0
noncomputable def wlaw03_ExprAhead (a0 : List UInt8) (a1 : List UInt8) : Option (Bool) :=
  (wlaw03_anchor).bind fun r2 =>
  if (!r2) then
    some false
  else
    if 400 < (a0.length : Int) then
      some true
    else
      if 200 < (a1.length : Int) then
        some true
      else
        (tok_Lex a0).bind fun r3 =>
        (cat a0 [32, 59, 32]).bind fun s4 =>
        (cat s4 a1).bind fun s5 =>
        (tok_Lex s5).bind fun r6 =>
        if (r3.2.1 != 0) then
          some true
        else
          if (r6.2.1 != 0) then
            some true
          else
            (expr_Parse r3.1 0).bind fun r7 =>
            (expr_Parse r6.1 0).bind fun r8 =>
            if (r7.2.2 == r8.2.2) then
              if (r7.2.1 == r8.2.1) then
                (wlaw03_refs r7.1).bind fun r9 =>
                (wlaw03_same r8.1 r9).bind fun r10 =>
                some r10
              else
                some false
            else
              some false
end Go.Proofs.YtilmjbljkkbakaaDoor
