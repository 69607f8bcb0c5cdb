/-
  A part of the proof: lemmas.
-/
import Derived.Test.YtilmjbljkkbakaaDoorE
set_option linter.unusedSimpArgs false
set_option linter.unusedVariables false
set_option linter.unusedSectionVars false
set_option linter.unnecessarySimpa false
set_option linter.deprecated false
/-! The program's data, and its functions over plain data. -/
namespace Go.Proofs.YtilmjbljkkbakaaDoor
open Go.Wv
set_option linter.unusedSimpArgs false
set_option linter.unusedVariables false
def tab0 : List (List UInt8) := [[60, 61], [62, 61], [33, 61], [40], [41], [59], [58], [43], [45], [42], [47], [37], [60], [62], [61]]
structure TokToken where
  Kind : Int
  Text : List UInt8
  N : Int
  At : Int
  deriving DecidableEq, Inhabited
def TokToken.en : En TokToken := ⟨fun x => .agg [.lit (.int .i64 x.Kind), .lit (.string (bs x.Text)), .lit (.int .i64 x.N), .lit (.int .i64 x.At)], 4, fun _ => rfl, fun _ => rfl, fun _ _ => rfl, fun _ => rfl, fun _ => rfl⟩
@[go_sem] theorem TokToken.en_enc (x : TokToken) : TokToken.en.enc x = .agg [.lit (.int .i64 x.Kind), .lit (.string (bs x.Text)), .lit (.int .i64 x.N), .lit (.int .i64 x.At)] := rfl
@[go_sem] theorem TokToken.en_sz : TokToken.en.sz = 4 := rfl
structure TokReader where
  s : List UInt8
  at_ : Int
  deriving DecidableEq, Inhabited
def TokReader.en : En TokReader := ⟨fun x => .agg [.lit (.string (bs x.s)), .lit (.int .i64 x.at_)], 2, fun _ => rfl, fun _ => rfl, fun _ _ => rfl, fun _ => rfl, fun _ => rfl⟩
@[go_sem] theorem TokReader.en_enc (x : TokReader) : TokReader.en.enc x = .agg [.lit (.string (bs x.s)), .lit (.int .i64 x.at_)] := rfl
@[go_sem] theorem TokReader.en_sz : TokReader.en.sz = 2 := rfl
structure ValValue where
  Kind : Int
  N : Int
  S : List UInt8
  deriving DecidableEq, Inhabited
def ValValue.en : En ValValue := ⟨fun x => .agg [.lit (.int .i64 x.Kind), .lit (.int .i64 x.N), .lit (.string (bs x.S))], 3, fun _ => rfl, fun _ => rfl, fun _ _ => rfl, fun _ => rfl, fun _ => rfl⟩
@[go_sem] theorem ValValue.en_enc (x : ValValue) : ValValue.en.enc x = .agg [.lit (.int .i64 x.Kind), .lit (.int .i64 x.N), .lit (.string (bs x.S))] := rfl
@[go_sem] theorem ValValue.en_sz : ValValue.en.sz = 3 := rfl
structure ExprNode where
  Op : Int
  V : ValValue
  Name : List UInt8
  L : Int
  R : Int
  deriving DecidableEq, Inhabited
def ExprNode.en : En ExprNode := ⟨fun x => .agg [.lit (.int .i64 x.Op), .lit (.int .i64 x.V.Kind), .lit (.int .i64 x.V.N), .lit (.string (bs x.V.S)), .lit (.string (bs x.Name)), .lit (.int .i64 x.L), .lit (.int .i64 x.R)], 7, fun _ => rfl, fun _ => rfl, fun _ _ => rfl, fun _ => rfl, fun _ => rfl⟩
@[go_sem] theorem ExprNode.en_enc (x : ExprNode) : ExprNode.en.enc x = .agg [.lit (.int .i64 x.Op), .lit (.int .i64 x.V.Kind), .lit (.int .i64 x.V.N), .lit (.string (bs x.V.S)), .lit (.string (bs x.Name)), .lit (.int .i64 x.L), .lit (.int .i64 x.R)] := rfl
@[go_sem] theorem ExprNode.en_sz : ExprNode.en.sz = 7 := rfl
structure ActAct where
  Kind : Int
  If : List ExprNode
  Name : List UInt8
  X : List ExprNode
  N : Int
  deriving DecidableEq, Inhabited
def ActAct.en : En ActAct := ⟨fun x => .agg [.lit (.int .i64 x.Kind), .sl .view (x.If.map ExprNode.en.enc), .lit (.string (bs x.Name)), .sl .view (x.X.map ExprNode.en.enc), .lit (.int .i64 x.N)], 5, fun _ => rfl, fun _ => rfl, fun _ _ => rfl, fun _ => rfl, fun _ => rfl⟩
@[go_sem] theorem ActAct.en_enc (x : ActAct) : ActAct.en.enc x = .agg [.lit (.int .i64 x.Kind), .sl .view (x.If.map ExprNode.en.enc), .lit (.string (bs x.Name)), .sl .view (x.X.map ExprNode.en.enc), .lit (.int .i64 x.N)] := rfl
@[go_sem] theorem ActAct.en_sz : ActAct.en.sz = 5 := rfl
structure ActReader where
  l : List TokToken
  at_ : Int
  e : Int
  deriving DecidableEq, Inhabited
def ActReader.en : En ActReader := ⟨fun x => .agg [.sl .view (x.l.map TokToken.en.enc), .lit (.int .i64 x.at_), .lit (.int .i64 x.e)], 3, fun _ => rfl, fun _ => rfl, fun _ _ => rfl, fun _ => rfl, fun _ => rfl⟩
@[go_sem] theorem ActReader.en_enc (x : ActReader) : ActReader.en.enc x = .agg [.sl .view (x.l.map TokToken.en.enc), .lit (.int .i64 x.at_), .lit (.int .i64 x.e)] := rfl
@[go_sem] theorem ActReader.en_sz : ActReader.en.sz = 3 := rfl
structure ExprParser where
  l : List TokToken
  at_ : Int
  e : List ExprNode
  deriving DecidableEq, Inhabited
def ExprParser.en : En ExprParser := ⟨fun x => .agg [.sl .view (x.l.map TokToken.en.enc), .lit (.int .i64 x.at_), .sl .view (x.e.map ExprNode.en.enc)], 3, fun _ => rfl, fun _ => rfl, fun _ _ => rfl, fun _ => rfl, fun _ => rfl⟩
@[go_sem] theorem ExprParser.en_enc (x : ExprParser) : ExprParser.en.enc x = .agg [.sl .view (x.l.map TokToken.en.enc), .lit (.int .i64 x.at_), .sl .view (x.e.map ExprNode.en.enc)] := rfl
@[go_sem] theorem ExprParser.en_sz : ExprParser.en.sz = 3 := rfl
structure ExprLevel where
  signs : List (List UInt8)
  ops : List Int
  once : Bool
  deriving DecidableEq, Inhabited
def ExprLevel.en : En ExprLevel := ⟨fun x => .agg [.sl .view (x.signs.map En.str.enc), .sl .view (x.ops.map (En.int .i64).enc), .lit (.bool x.once)], 3, fun _ => rfl, fun _ => rfl, fun _ _ => rfl, fun _ => rfl, fun _ => rfl⟩
@[go_sem] theorem ExprLevel.en_enc (x : ExprLevel) : ExprLevel.en.enc x = .agg [.sl .view (x.signs.map En.str.enc), .sl .view (x.ops.map (En.int .i64).enc), .lit (.bool x.once)] := rfl
@[go_sem] theorem ExprLevel.en_sz : ExprLevel.en.sz = 3 := rfl
structure Wref01V where
  Kind : Int
  N : Int
  S : List UInt8
  deriving DecidableEq, Inhabited
def Wref01V.en : En Wref01V := ⟨fun x => .agg [.lit (.int .i64 x.Kind), .lit (.int .i64 x.N), .lit (.string (bs x.S))], 3, fun _ => rfl, fun _ => rfl, fun _ _ => rfl, fun _ => rfl, fun _ => rfl⟩
@[go_sem] theorem Wref01V.en_enc (x : Wref01V) : Wref01V.en.enc x = .agg [.lit (.int .i64 x.Kind), .lit (.int .i64 x.N), .lit (.string (bs x.S))] := rfl
@[go_sem] theorem Wref01V.en_sz : Wref01V.en.sz = 3 := rfl
structure Wref03N where
  Op : Int
  V : Wref01V
  Name : List UInt8
  L : Int
  R : Int
  deriving DecidableEq, Inhabited
def Wref03N.en : En Wref03N := ⟨fun x => .agg [.lit (.int .i64 x.Op), .lit (.int .i64 x.V.Kind), .lit (.int .i64 x.V.N), .lit (.string (bs x.V.S)), .lit (.string (bs x.Name)), .lit (.int .i64 x.L), .lit (.int .i64 x.R)], 7, fun _ => rfl, fun _ => rfl, fun _ _ => rfl, fun _ => rfl, fun _ => rfl⟩
@[go_sem] theorem Wref03N.en_enc (x : Wref03N) : Wref03N.en.enc x = .agg [.lit (.int .i64 x.Op), .lit (.int .i64 x.V.Kind), .lit (.int .i64 x.V.N), .lit (.string (bs x.V.S)), .lit (.string (bs x.Name)), .lit (.int .i64 x.L), .lit (.int .i64 x.R)] := rfl
@[go_sem] theorem Wref03N.en_sz : Wref03N.en.sz = 7 := rfl
structure Wref06A where
  Kind : Int
  If : List Wref03N
  Name : List UInt8
  X : List Wref03N
  N : Int
  deriving DecidableEq, Inhabited
def Wref06A.en : En Wref06A := ⟨fun x => .agg [.lit (.int .i64 x.Kind), .sl .view (x.If.map Wref03N.en.enc), .lit (.string (bs x.Name)), .sl .view (x.X.map Wref03N.en.enc), .lit (.int .i64 x.N)], 5, fun _ => rfl, fun _ => rfl, fun _ _ => rfl, fun _ => rfl, fun _ => rfl⟩
@[go_sem] theorem Wref06A.en_enc (x : Wref06A) : Wref06A.en.enc x = .agg [.lit (.int .i64 x.Kind), .sl .view (x.If.map Wref03N.en.enc), .lit (.string (bs x.Name)), .sl .view (x.X.map Wref03N.en.enc), .lit (.int .i64 x.N)] := rfl
@[go_sem] theorem Wref06A.en_sz : Wref06A.en.sz = 5 := rfl
noncomputable def tok_Lex_1 (a0 : Int) : Option (Bool) :=
  some (a0 == 32)
noncomputable def tok_reader_while_at18_l0_step (p0 : TokReader) (s1 : Int) : Option ((Int) ⊕ ((List UInt8) × TokReader)) :=
  if s1 < (p0.s.length : Int) then
    (idx p0.s s1).bind fun c2 =>
    (tok_Lex_1 (c2.toNat : Int)).bind fun r3 =>
    if r3 then
      some (.inl ((IntKind.i64.wrap (s1 + 1))))
    else
      (sub p0.s p0.at_ s1).bind fun m4 =>
      some (.inr ((m4, (TokReader.mk p0.s s1))))
  else
    (sub p0.s p0.at_ s1).bind fun m5 =>
    some (.inr ((m5, (TokReader.mk p0.s s1))))
noncomputable def tok_reader_while_at18_l0 (p0 : TokReader) (s1 : Int) : Option ((List UInt8) × TokReader) := run (tok_reader_while_at18_l0_step p0) s1
noncomputable def tok_reader_while_at18 (p0 : TokReader) : Option ((List UInt8) × TokReader) :=
  tok_reader_while_at18_l0 p0 p0.at_
noncomputable def tok_small (a0 : Int) : Option (Bool) :=
  if 97 ≤ a0 then
    some ((decide (a0 ≤ 122)))
  else
    some false
noncomputable def tok_digit (a0 : Int) : Option (Bool) :=
  if 48 ≤ a0 then
    some ((decide (a0 ≤ 57)))
  else
    some false
noncomputable def tok_reader_word_1 (a0 : Int) : Option (Bool) :=
  (tok_small a0).bind fun r1 =>
  if r1 then
    some true
  else
    (tok_digit a0).bind fun r2 =>
    if r2 then
      some true
    else
      some (a0 == 95)
noncomputable def tok_reader_while_at72_l0_step (p0 : TokReader) (s1 : Int) : Option ((Int) ⊕ ((List UInt8) × TokReader)) :=
  if s1 < (p0.s.length : Int) then
    (idx p0.s s1).bind fun c2 =>
    (tok_reader_word_1 (c2.toNat : Int)).bind fun r3 =>
    if r3 then
      some (.inl ((IntKind.i64.wrap (s1 + 1))))
    else
      (sub p0.s p0.at_ s1).bind fun m4 =>
      some (.inr ((m4, (TokReader.mk p0.s s1))))
  else
    (sub p0.s p0.at_ s1).bind fun m5 =>
    some (.inr ((m5, (TokReader.mk p0.s s1))))
noncomputable def tok_reader_while_at72_l0 (p0 : TokReader) (s1 : Int) : Option ((List UInt8) × TokReader) := run (tok_reader_while_at72_l0_step p0) s1
noncomputable def tok_reader_while_at72 (p0 : TokReader) : Option ((List UInt8) × TokReader) :=
  tok_reader_while_at72_l0 p0 p0.at_
noncomputable def tok_reader_word (p0 : TokReader) : Option ((List UInt8) × TokReader) :=
  (tok_reader_while_at72 p0).bind fun r1 =>
  some (r1.1, r1.2)
noncomputable def tok_reader_path_l0_step (r1 : (List UInt8) × TokReader) (s2 : Int × (List UInt8) × (List UInt8) × Int) : Option ((Int × (List UInt8) × (List UInt8) × Int) ⊕ (TokToken × Int × TokReader)) :=
  if (IntKind.i64.wrap (s2.2.2.2 + 1)) < (s2.2.2.1.length : Int) then
    (idx s2.2.2.1 s2.2.2.2).bind fun c3 =>
    if ((c3.toNat : Int) == 46) then
      (idx s2.2.2.1 ((IntKind.i64.wrap (s2.2.2.2 + 1)))).bind fun c4 =>
      (tok_small (c4.toNat : Int)).bind fun r5 =>
      if r5 then
        (tok_reader_word ((TokReader.mk s2.2.2.1 ((IntKind.i64.wrap (s2.2.2.2 + 1)))))).bind fun r6 =>
        (cat [46] r6.1).bind fun s7 =>
        (cat s2.2.1 s7).bind fun s8 =>
        if 16 < (r6.1.length : Int) then
          some (.inr (((TokToken.mk 2 s8 0 r1.2.at_), 15, r6.2)))
        else
          some (.inl (2, s8, r6.2.s, r6.2.at_))
      else
        if 32 < (s2.2.1.length : Int) then
          some (.inr (((TokToken.mk s2.1 s2.2.1 0 r1.2.at_), 15, (TokReader.mk s2.2.2.1 s2.2.2.2))))
        else
          some (.inr (((TokToken.mk s2.1 s2.2.1 0 r1.2.at_), 0, (TokReader.mk s2.2.2.1 s2.2.2.2))))
    else
      if 32 < (s2.2.1.length : Int) then
        some (.inr (((TokToken.mk s2.1 s2.2.1 0 r1.2.at_), 15, (TokReader.mk s2.2.2.1 s2.2.2.2))))
      else
        some (.inr (((TokToken.mk s2.1 s2.2.1 0 r1.2.at_), 0, (TokReader.mk s2.2.2.1 s2.2.2.2))))
  else
    if 32 < (s2.2.1.length : Int) then
      some (.inr (((TokToken.mk s2.1 s2.2.1 0 r1.2.at_), 15, (TokReader.mk s2.2.2.1 s2.2.2.2))))
    else
      some (.inr (((TokToken.mk s2.1 s2.2.1 0 r1.2.at_), 0, (TokReader.mk s2.2.2.1 s2.2.2.2))))
noncomputable def tok_reader_path_l0 (r1 : (List UInt8) × TokReader) (s2 : Int × (List UInt8) × (List UInt8) × Int) : Option (TokToken × Int × TokReader) := run (tok_reader_path_l0_step r1) s2
noncomputable def tok_reader_path (p0 : TokReader) : Option (TokToken × Int × TokReader) :=
  (tok_reader_word p0).bind fun r1 =>
  if 16 < (r1.1.length : Int) then
    some (((TokToken.mk 1 r1.1 0 r1.2.at_), 15, r1.2))
  else
    tok_reader_path_l0 r1 (1, r1.1, r1.2.s, r1.2.at_)
noncomputable def tok_reader_while_at33_l0_step (p0 : TokReader) (s1 : Int) : Option ((Int) ⊕ ((List UInt8) × TokReader)) :=
  if s1 < (p0.s.length : Int) then
    (idx p0.s s1).bind fun c2 =>
    (tok_digit (c2.toNat : Int)).bind fun r3 =>
    if r3 then
      some (.inl ((IntKind.i64.wrap (s1 + 1))))
    else
      (sub p0.s p0.at_ s1).bind fun m4 =>
      some (.inr ((m4, (TokReader.mk p0.s s1))))
  else
    (sub p0.s p0.at_ s1).bind fun m5 =>
    some (.inr ((m5, (TokReader.mk p0.s s1))))
noncomputable def tok_reader_while_at33_l0 (p0 : TokReader) (s1 : Int) : Option ((List UInt8) × TokReader) := run (tok_reader_while_at33_l0_step p0) s1
noncomputable def tok_reader_while_at33 (p0 : TokReader) : Option ((List UInt8) × TokReader) :=
  tok_reader_while_at33_l0 p0 p0.at_
noncomputable def tok_reader_number_l0_step (r1 : (List UInt8) × TokReader) (b3 : List Int) (s4 : Int × Int) : Option ((Int × Int) ⊕ (TokToken × Int × TokReader)) :=
  if s4.2 < (b3.length : Int) then
    (idx b3 s4.2).bind fun x5 =>
    (quo .i64 ((IntKind.i64.wrap (9223372036854775807 - (IntKind.i64.wrap ((IntKind.u8.wrap (x5 - 48))))))) 10).bind fun q6 =>
    if q6 < s4.1 then
      some (.inr (((TokToken.mk 0 [] 0 0), 21, r1.2)))
    else
      some (.inl (((IntKind.i64.wrap ((IntKind.i64.wrap (s4.1 * 10)) + (IntKind.i64.wrap ((IntKind.u8.wrap (x5 - 48)))))), (IntKind.i64.wrap (s4.2 + 1)))))
  else
    some (.inr (((TokToken.mk 3 r1.1 s4.1 0), 0, r1.2)))
noncomputable def tok_reader_number_l0 (r1 : (List UInt8) × TokReader) (b3 : List Int) (s4 : Int × Int) : Option (TokToken × Int × TokReader) := run (tok_reader_number_l0_step r1 b3) s4
noncomputable def tok_reader_number_l1_step (r1 : (List UInt8) × TokReader) (b7 : List Int) (s8 : Int × Int) : Option ((Int × Int) ⊕ (TokToken × Int × TokReader)) :=
  if s8.2 < (b7.length : Int) then
    (idx b7 s8.2).bind fun x9 =>
    (quo .i64 ((IntKind.i64.wrap (9223372036854775807 - (IntKind.i64.wrap ((IntKind.u8.wrap (x9 - 48))))))) 10).bind fun q10 =>
    if q10 < s8.1 then
      some (.inr (((TokToken.mk 0 [] 0 0), 21, r1.2)))
    else
      some (.inl (((IntKind.i64.wrap ((IntKind.i64.wrap (s8.1 * 10)) + (IntKind.i64.wrap ((IntKind.u8.wrap (x9 - 48)))))), (IntKind.i64.wrap (s8.2 + 1)))))
  else
    some (.inr (((TokToken.mk 3 r1.1 s8.1 0), 0, r1.2)))
noncomputable def tok_reader_number_l1 (r1 : (List UInt8) × TokReader) (b7 : List Int) (s8 : Int × Int) : Option (TokToken × Int × TokReader) := run (tok_reader_number_l1_step r1 b7) s8
noncomputable def tok_reader_number (p0 : TokReader) : Option (TokToken × Int × TokReader) :=
  (tok_reader_while_at33 p0).bind fun r1 =>
  if 1 < (r1.1.length : Int) then
    (idx r1.1 0).bind fun c2 =>
    if ((c2.toNat : Int) == 48) then
      some (((TokToken.mk 0 [] 0 0), 11, r1.2))
    else
      (byts r1.1).bind fun b3 =>
      tok_reader_number_l0 r1 b3 (0, 0)
  else
    (byts r1.1).bind fun b7 =>
    tok_reader_number_l1 r1 b7 (0, 0)
noncomputable def tok_reader_quote_1 (a0 : Int) : Option (Bool) :=
  some (a0 != 39)
noncomputable def tok_reader_while_at60_l0_step (p0 : TokReader) (s1 : Int) : Option ((Int) ⊕ ((List UInt8) × TokReader)) :=
  if s1 < (p0.s.length : Int) then
    (idx p0.s s1).bind fun c2 =>
    (tok_reader_quote_1 (c2.toNat : Int)).bind fun r3 =>
    if r3 then
      some (.inl ((IntKind.i64.wrap (s1 + 1))))
    else
      (sub p0.s p0.at_ s1).bind fun m4 =>
      some (.inr ((m4, (TokReader.mk p0.s s1))))
  else
    (sub p0.s p0.at_ s1).bind fun m5 =>
    some (.inr ((m5, (TokReader.mk p0.s s1))))
noncomputable def tok_reader_while_at60_l0 (p0 : TokReader) (s1 : Int) : Option ((List UInt8) × TokReader) := run (tok_reader_while_at60_l0_step p0) s1
noncomputable def tok_reader_while_at60 (p0 : TokReader) : Option ((List UInt8) × TokReader) :=
  tok_reader_while_at60_l0 p0 p0.at_
noncomputable def val_Plain_l0_step (a0 : List UInt8) (b1 : List Int) (s2 : Int) : Option ((Int) ⊕ (Bool)) :=
  if s2 < (b1.length : Int) then
    (idx b1 s2).bind fun x3 =>
    if x3 < 32 then
      some (.inr false)
    else
      if 126 < x3 then
        some (.inr false)
      else
        if (x3 == 39) then
          some (.inr false)
        else
          some (.inl ((IntKind.i64.wrap (s2 + 1))))
  else
    some (.inr ((decide ((a0.length : Int) ≤ 48))))
noncomputable def val_Plain_l0 (a0 : List UInt8) (b1 : List Int) (s2 : Int) : Option (Bool) := run (val_Plain_l0_step a0 b1) s2
noncomputable def val_Plain (a0 : List UInt8) : Option (Bool) :=
  (byts a0).bind fun b1 =>
  val_Plain_l0 a0 b1 0
noncomputable def tok_reader_quote (p0 : TokReader) : Option (TokToken × Int × TokReader) :=
  (tok_reader_while_at60 ((TokReader.mk p0.s ((IntKind.i64.wrap (p0.at_ + 1)))))).bind fun r1 =>
  if (r1.2.at_ == (r1.2.s.length : Int)) then
    some (((TokToken.mk 0 [] 0 0), 14, r1.2))
  else
    if 48 < (r1.1.length : Int) then
      some (((TokToken.mk 0 [] 0 0), 15, (TokReader.mk r1.2.s ((IntKind.i64.wrap (r1.2.at_ + 1))))))
    else
      (val_Plain r1.1).bind fun r2 =>
      if r2 then
        some (((TokToken.mk 4 r1.1 0 0), 0, (TokReader.mk r1.2.s ((IntKind.i64.wrap (r1.2.at_ + 1))))))
      else
        some (((TokToken.mk 0 [] 0 0), 11, (TokReader.mk r1.2.s ((IntKind.i64.wrap (r1.2.at_ + 1))))))
noncomputable def internal_stringslite_HasPrefix (a0 : List UInt8) (a1 : List UInt8) : Option (Bool) :=
  if (a1.length : Int) ≤ (a0.length : Int) then
    (subT a0 (a1.length : Int)).bind fun m2 =>
    some (m2 == a1)
  else
    some false
noncomputable def strings_HasPrefix (a0 : List UInt8) (a1 : List UInt8) : Option (Bool) :=
  (internal_stringslite_HasPrefix a0 a1).bind fun r2 =>
  some r2
noncomputable def tok_reader_sign_l0_step (p0 : TokReader) (s1 : Int) : Option ((Int) ⊕ (TokToken × Int × TokReader)) :=
  if s1 < 15 then
    (idx tab0 s1).bind fun x2 =>
    (subF p0.s p0.at_).bind fun m3 =>
    (strings_HasPrefix m3 x2).bind fun r4 =>
    if r4 then
      some (.inr (((TokToken.mk 5 x2 0 0), 0, (TokReader.mk p0.s ((IntKind.i64.wrap (p0.at_ + (x2.length : Int))))))))
    else
      some (.inl ((IntKind.i64.wrap (s1 + 1))))
  else
    some (.inr (((TokToken.mk 0 [] 0 0), 11, p0)))
noncomputable def tok_reader_sign_l0 (p0 : TokReader) (s1 : Int) : Option (TokToken × Int × TokReader) := run (tok_reader_sign_l0_step p0) s1
noncomputable def tok_reader_sign (p0 : TokReader) : Option (TokToken × Int × TokReader) :=
  tok_reader_sign_l0 p0 0
noncomputable def tok_reader_token (p0 : TokReader) : Option (TokToken × Int × TokReader) :=
  (idx p0.s p0.at_).bind fun c1 =>
  (tok_small (c1.toNat : Int)).bind fun r2 =>
  if r2 then
    (tok_reader_path p0).bind fun r3 =>
    some (r3.1, r3.2.1, r3.2.2)
  else
    (tok_digit (c1.toNat : Int)).bind fun r4 =>
    if r4 then
      (tok_reader_number p0).bind fun r5 =>
      some (r5.1, r5.2.1, r5.2.2)
    else
      if ((c1.toNat : Int) == 39) then
        (tok_reader_quote p0).bind fun r6 =>
        some (r6.1, r6.2.1, r6.2.2)
      else
        (tok_reader_sign p0).bind fun r7 =>
        some (r7.1, r7.2.1, r7.2.2)
noncomputable def tok_Lex_l0_step (s1 : (List TokToken) × (List UInt8) × Int) : Option (((List TokToken) × (List UInt8) × Int) ⊕ ((List TokToken) × Int × Int)) :=
  (tok_reader_while_at18 (TokReader.mk s1.2.1 s1.2.2)).bind fun r2 =>
  if (r2.2.at_ == (r2.2.s.length : Int)) then
    some (.inr (s1.1, 0, 0))
  else
    if ((s1.1.length : Int) == 120) then
      some (.inr ((([] : List TokToken), 13, r2.2.at_)))
    else
      (tok_reader_token r2.2).bind fun r3 =>
      if (r3.2.1 != 0) then
        some (.inr ((([] : List TokToken), r3.2.1, r2.2.at_)))
      else
        (app 40 s1.1 [(TokToken.mk r3.1.Kind r3.1.Text r3.1.N r2.2.at_)]).bind fun l4 =>
        some (.inl (l4, r3.2.2.s, r3.2.2.at_))
noncomputable def tok_Lex_l0 (s1 : (List TokToken) × (List UInt8) × Int) : Option ((List TokToken) × Int × Int) := run (tok_Lex_l0_step) s1
noncomputable def tok_Lex (a0 : List UInt8) : Option ((List TokToken) × Int × Int) :=
  tok_Lex_l0 ((([] : List TokToken), a0, 0))
noncomputable def tok_Token_Is_l0_step (a0 : TokToken) (a1 : List (List UInt8)) (s2 : Int) : Option ((Int) ⊕ (Bool)) :=
  if s2 < (a1.length : Int) then
    (idx a1 s2).bind fun x3 =>
    if (a0.Text == x3) then
      some (.inr true)
    else
      some (.inl ((IntKind.i64.wrap (s2 + 1))))
  else
    some (.inr false)
noncomputable def tok_Token_Is_l0 (a0 : TokToken) (a1 : List (List UInt8)) (s2 : Int) : Option (Bool) := run (tok_Token_Is_l0_step a0 a1) s2
noncomputable def tok_Token_Is_l1_step (a0 : TokToken) (a1 : List (List UInt8)) (s4 : Int) : Option ((Int) ⊕ (Bool)) :=
  if s4 < (a1.length : Int) then
    (idx a1 s4).bind fun x5 =>
    if (a0.Text == x5) then
      some (.inr true)
    else
      some (.inl ((IntKind.i64.wrap (s4 + 1))))
  else
    some (.inr false)
noncomputable def tok_Token_Is_l1 (a0 : TokToken) (a1 : List (List UInt8)) (s4 : Int) : Option (Bool) := run (tok_Token_Is_l1_step a0 a1) s4
noncomputable def tok_Token_Is (a0 : TokToken) (a1 : List (List UInt8)) : Option (Bool) :=
  if (a0.Kind != 1) then
    if (a0.Kind != 5) then
      some false
    else
      tok_Token_Is_l0 a0 a1 0
  else
    tok_Token_Is_l1 a0 a1 0
noncomputable def act_reader_take (p0 : ActReader) (a1 : List UInt8) : Option (Bool × ActReader) :=
  if p0.at_ < (p0.l.length : Int) then
    (idx p0.l p0.at_).bind fun x2 =>
    (tok_Token_Is x2 [a1]).bind fun r3 =>
    if r3 then
      some ((true, (ActReader.mk p0.l ((IntKind.i64.wrap (p0.at_ + 1))) p0.e)))
    else
      some (false, p0)
  else
    some (false, p0)
noncomputable def expr_levels : Option ((List ExprLevel)) :=
  some ([(ExprLevel.mk ([[111, 114]]) [15] false), (ExprLevel.mk ([[97, 110, 100]]) [14] false), (ExprLevel.mk ([[60], [60, 61], [62], [62, 61], [61], [33, 61]]) [8, 9, 10, 11, 12, 13] true), (ExprLevel.mk ([[43], [45]]) [6, 7] false), (ExprLevel.mk ([[42], [47], [37]]) [3, 4, 5] false)])
noncomputable def expr_parser_next (p0 : ExprParser) : Option (TokToken) :=
  if p0.at_ < (p0.l.length : Int) then
    (idx p0.l p0.at_).bind fun x1 =>
    some x1
  else
    some (TokToken.mk 0 [] 0 0)
noncomputable def expr_parser_take (p0 : ExprParser) (a1 : List UInt8) : Option (Bool × ExprParser) :=
  (expr_parser_next p0).bind fun r2 =>
  (tok_Token_Is r2 [a1]).bind fun r3 =>
  if r3 then
    some ((true, (ExprParser.mk p0.l ((IntKind.i64.wrap (p0.at_ + 1))) p0.e)))
  else
    some (false, p0)
noncomputable def expr_parser_operation_l0_step (a1 : ExprLevel) (s2 : Int × (List TokToken) × Int × (List ExprNode)) : Option ((Int × (List TokToken) × Int × (List ExprNode)) ⊕ (Int × ExprParser)) :=
  if s2.1 < (a1.signs.length : Int) then
    (idx a1.signs s2.1).bind fun x3 =>
    (expr_parser_take (ExprParser.mk s2.2.1 s2.2.2.1 s2.2.2.2) x3).bind fun r4 =>
    if r4.1 then
      (idx a1.ops s2.1).bind fun x5 =>
      some (.inr (x5, r4.2))
    else
      some (.inl (((IntKind.i64.wrap (s2.1 + 1)), r4.2.l, r4.2.at_, r4.2.e)))
  else
    some (.inr ((0, (ExprParser.mk s2.2.1 s2.2.2.1 s2.2.2.2))))
noncomputable def expr_parser_operation_l0 (a1 : ExprLevel) (s2 : Int × (List TokToken) × Int × (List ExprNode)) : Option (Int × ExprParser) := run (expr_parser_operation_l0_step a1) s2
noncomputable def expr_parser_operation (p0 : ExprParser) (a1 : ExprLevel) : Option (Int × ExprParser) :=
  expr_parser_operation_l0 a1 (0, p0.l, p0.at_, p0.e)
noncomputable def expr_parser_add (p0 : ExprParser) (a1 : ExprNode) : Option (Bool × ExprParser) :=
  (app 72 p0.e [a1]).bind fun l2 =>
  some ((true, (ExprParser.mk p0.l p0.at_ l2)))
noncomputable def val_Of (a0 : Int) : Option (ValValue) :=
  some (ValValue.mk 1 a0 [])
noncomputable def val_Word (a0 : List UInt8) : Option (ValValue) :=
  some (ValValue.mk 3 0 a0)
noncomputable def val_Truth (a0 : Bool) : Option (ValValue) :=
  if a0 then
    some (ValValue.mk 2 1 [])
  else
    some (ValValue.mk 2 0 [])
noncomputable def tok_Means (a0 : List UInt8) : Option (Bool) :=
  if (a0 == [99, 104, 97, 114, 116]) then
    some true
  else
    if (a0 == [118, 97, 114]) then
      some true
    else
      if (a0 == [115, 116, 97, 116, 101]) then
        some true
      else
        if (a0 == [112, 97, 114, 97, 108, 108, 101, 108]) then
          some true
        else
          if (a0 == [102, 105, 110, 97, 108]) then
            some true
          else
            if (a0 == [100, 101, 101, 112]) then
              some true
            else
              if (a0 == [115, 104, 97, 108, 108, 111, 119]) then
                some true
              else
                if (a0 == [101, 110, 116, 101, 114]) then
                  some true
                else
                  if (a0 == [101, 120, 105, 116]) then
                    some true
                  else
                    if (a0 == [111, 110]) then
                      some true
                    else
                      if (a0 == [97, 117, 116, 111]) then
                        some true
                      else
                        if (a0 == [101, 110, 100]) then
                          some true
                        else
                          if (a0 == [105, 102]) then
                            some true
                          else
                            if (a0 == [103, 111]) then
                              some true
                            else
                              if (a0 == [105, 110, 110, 101, 114]) then
                                some true
                              else
                                if (a0 == [100, 111]) then
                                  some true
                                else
                                  if (a0 == [115, 101, 116]) then
                                    some true
                                  else
                                    if (a0 == [114, 97, 105, 115, 101]) then
                                      some true
                                    else
                                      if (a0 == [115, 101, 110, 100]) then
                                        some true
                                      else
                                        if (a0 == [99, 97, 110, 99, 101, 108]) then
                                          some true
                                        else
                                          if (a0 == [108, 111, 103]) then
                                            some true
                                          else
                                            if (a0 == [116, 114, 117, 101]) then
                                              some true
                                            else
                                              if (a0 == [102, 97, 108, 115, 101]) then
                                                some true
                                              else
                                                if (a0 == [110, 111, 116]) then
                                                  some true
                                                else
                                                  if (a0 == [97, 110, 100]) then
                                                    some true
                                                  else
                                                    if (a0 == [111, 114]) then
                                                      some true
                                                    else
                                                      if (a0 == [105, 110]) then
                                                        some true
                                                      else
                                                        some false
noncomputable def expr_parser_name (p0 : ExprParser) (a1 : Int) : Option (Bool × ExprParser) :=
  (expr_parser_next p0).bind fun r2 =>
  if (r2.Kind != 1) then
    some (false, p0)
  else
    (tok_Means r2.Text).bind fun r3 =>
    if r3 then
      some (false, p0)
    else
      (expr_parser_add ((ExprParser.mk p0.l ((IntKind.i64.wrap (p0.at_ + 1))) p0.e)) ((ExprNode.mk a1 (ValValue.mk 0 0 []) r2.Text 0 0))).bind fun r4 =>
      some (r4.1, r4.2)
structure expr_parser_binary_Rec where
  expr_parser_binary : ExprParser → Int → Option (Bool × ExprParser)
  expr_parser_unary : ExprParser → Option (Bool × ExprParser)
  expr_parser_atom : ExprParser → Option (Bool × ExprParser)
noncomputable def expr_parser_binary_l0_step (R : expr_parser_binary_Rec) (a1 : Int) (r2 : (List ExprLevel)) (s5 : (List TokToken) × Int × (List ExprNode)) : Option (((List TokToken) × Int × (List ExprNode)) ⊕ (Bool × ExprParser)) :=
  (idx r2 a1).bind fun x6 =>
  (expr_parser_operation (ExprParser.mk s5.1 s5.2.1 s5.2.2) x6).bind fun r7 =>
  if (r7.1 == 0) then
    some (.inr (true, r7.2))
  else
    (R.expr_parser_binary r7.2 ((IntKind.i64.wrap (a1 + 1)))).bind fun r8 =>
    if r8.1 then
      (expr_parser_add r8.2 ((ExprNode.mk r7.1 (ValValue.mk 0 0 []) [] ((IntKind.i64.wrap ((s5.2.2.length : Int) - 1))) ((IntKind.i64.wrap ((r8.2.e.length : Int) - 1)))))).bind fun r9 =>
      if r9.1 then
        if x6.once then
          some (.inr (true, r9.2))
        else
          some (.inl (r9.2.l, r9.2.at_, r9.2.e))
      else
        some (.inr (false, r9.2))
    else
      some (.inr (false, r8.2))
noncomputable def expr_parser_binary_l0 (R : expr_parser_binary_Rec) (a1 : Int) (r2 : (List ExprLevel)) (s5 : (List TokToken) × Int × (List ExprNode)) : Option (Bool × ExprParser) := run (expr_parser_binary_l0_step R a1 r2) s5
noncomputable def expr_parser_binary_F (R : expr_parser_binary_Rec) (p0 : ExprParser) (a1 : Int) : Option (Bool × ExprParser) :=
  (expr_levels).bind fun r2 =>
  if (a1 == (r2.length : Int)) then
    (R.expr_parser_unary p0).bind fun r3 =>
    some (r3.1, r3.2)
  else
    (R.expr_parser_binary p0 ((IntKind.i64.wrap (a1 + 1)))).bind fun r4 =>
    if r4.1 then
      expr_parser_binary_l0 R a1 r2 (r4.2.l, r4.2.at_, r4.2.e)
    else
      some (false, r4.2)
noncomputable def expr_parser_unary_F (R : expr_parser_binary_Rec) (p0 : ExprParser) : Option (Bool × ExprParser) :=
  (expr_parser_take p0 [110, 111, 116]).bind fun r1 =>
  if r1.1 then
    (R.expr_parser_unary r1.2).bind fun r2 =>
    if r2.1 then
      (expr_parser_add r2.2 ((ExprNode.mk 1 (ValValue.mk 0 0 []) [] ((IntKind.i64.wrap ((r2.2.e.length : Int) - 1))) 0))).bind fun r3 =>
      some (r3.1, r3.2)
    else
      some (false, r2.2)
  else
    (expr_parser_take r1.2 [45]).bind fun r4 =>
    if r4.1 then
      (R.expr_parser_unary r4.2).bind fun r5 =>
      if r5.1 then
        (expr_parser_add r5.2 ((ExprNode.mk 2 (ValValue.mk 0 0 []) [] ((IntKind.i64.wrap ((r5.2.e.length : Int) - 1))) 0))).bind fun r6 =>
        some (r6.1, r6.2)
      else
        some (false, r5.2)
    else
      (R.expr_parser_atom r4.2).bind fun r7 =>
      some (r7.1, r7.2)
noncomputable def expr_parser_atom_F (R : expr_parser_binary_Rec) (p0 : ExprParser) : Option (Bool × ExprParser) :=
  (expr_parser_next p0).bind fun r1 =>
  if (r1.Kind == 3) then
    (val_Of r1.N).bind fun r2 =>
    (expr_parser_add ((ExprParser.mk p0.l ((IntKind.i64.wrap (p0.at_ + 1))) p0.e)) (ExprNode.mk 0 r2 [] 0 0)).bind fun r3 =>
    some (r3.1, r3.2)
  else
    if (r1.Kind == 4) then
      (val_Word r1.Text).bind fun r4 =>
      (expr_parser_add ((ExprParser.mk p0.l ((IntKind.i64.wrap (p0.at_ + 1))) p0.e)) (ExprNode.mk 0 r4 [] 0 0)).bind fun r5 =>
      some (r5.1, r5.2)
    else
      (tok_Token_Is r1 ([[116, 114, 117, 101], [102, 97, 108, 115, 101]])).bind fun r6 =>
      if r6 then
        (val_Truth (r1.Text == [116, 114, 117, 101])).bind fun r7 =>
        (expr_parser_add ((ExprParser.mk p0.l ((IntKind.i64.wrap (p0.at_ + 1))) p0.e)) (ExprNode.mk 0 r7 [] 0 0)).bind fun r8 =>
        some (r8.1, r8.2)
      else
        (expr_parser_take p0 [105, 110]).bind fun r9 =>
        if r9.1 then
          (expr_parser_take r9.2 [40]).bind fun r10 =>
          if r10.1 then
            (expr_parser_name r10.2 17).bind fun r11 =>
            if r11.1 then
              (expr_parser_take r11.2 [41]).bind fun r12 =>
              some (r12.1, r12.2)
            else
              some (false, r11.2)
          else
            some (false, r10.2)
        else
          (expr_parser_take r9.2 [40]).bind fun r13 =>
          if r13.1 then
            (R.expr_parser_binary r13.2 0).bind fun r14 =>
            if r14.1 then
              (expr_parser_take r14.2 [41]).bind fun r15 =>
              some (r15.1, r15.2)
            else
              some (false, r14.2)
          else
            (expr_parser_name r13.2 16).bind fun r16 =>
            some (r16.1, r16.2)
noncomputable def expr_parser_binary_rec : Nat → expr_parser_binary_Rec
  | 0 => ⟨fun _ _ => none, fun _ => none, fun _ => none⟩
  | k + 1 => ⟨expr_parser_binary_F (expr_parser_binary_rec k), expr_parser_unary_F (expr_parser_binary_rec k), expr_parser_atom_F (expr_parser_binary_rec k)⟩
noncomputable def expr_parser_binary (p0 : ExprParser) (a1 : Int) : Option (Bool × ExprParser) := lim? fun k => (expr_parser_binary_rec k).expr_parser_binary p0 a1
noncomputable def expr_parser_unary (p0 : ExprParser) : Option (Bool × ExprParser) := lim? fun k => (expr_parser_binary_rec k).expr_parser_unary p0
noncomputable def expr_parser_atom (p0 : ExprParser) : Option (Bool × ExprParser) := lim? fun k => (expr_parser_binary_rec k).expr_parser_atom p0
theorem expr_parser_binary_lm {R : Nat → expr_parser_binary_Rec} {W : expr_parser_binary_Rec} (h20 : ∀ (p0 : ExprParser) (a1 : Int), Lm (fun k => (R k).expr_parser_binary p0 a1) (W.expr_parser_binary p0 a1)) (h38 : ∀ (p0 : ExprParser), Lm (fun k => (R k).expr_parser_unary p0) (W.expr_parser_unary p0)) (h64 : ∀ (p0 : ExprParser), Lm (fun k => (R k).expr_parser_atom p0) (W.expr_parser_atom p0)) (p0 : ExprParser) (a1 : Int) : Lm (fun k => expr_parser_binary_F (R k) p0 a1) (expr_parser_binary_F W p0 a1) := by
  simp only [expr_parser_binary_F, expr_parser_binary_l0, expr_parser_binary_l0_step]
  repeat' first | exact Lm.const _ | exact h20 _ _ | exact h38 _ | exact h64 _ | apply Lm.jn | apply Lm.bind | apply Lm.map | apply Lm.ite | apply Lm.run | intro _
theorem expr_parser_unary_lm {R : Nat → expr_parser_binary_Rec} {W : expr_parser_binary_Rec} (h20 : ∀ (p0 : ExprParser) (a1 : Int), Lm (fun k => (R k).expr_parser_binary p0 a1) (W.expr_parser_binary p0 a1)) (h38 : ∀ (p0 : ExprParser), Lm (fun k => (R k).expr_parser_unary p0) (W.expr_parser_unary p0)) (h64 : ∀ (p0 : ExprParser), Lm (fun k => (R k).expr_parser_atom p0) (W.expr_parser_atom p0)) (p0 : ExprParser) : Lm (fun k => expr_parser_unary_F (R k) p0) (expr_parser_unary_F W p0) := by
  simp only [expr_parser_unary_F]
  repeat' first | exact Lm.const _ | exact h20 _ _ | exact h38 _ | exact h64 _ | apply Lm.jn | apply Lm.bind | apply Lm.map | apply Lm.ite | apply Lm.run | intro _
theorem expr_parser_atom_lm {R : Nat → expr_parser_binary_Rec} {W : expr_parser_binary_Rec} (h20 : ∀ (p0 : ExprParser) (a1 : Int), Lm (fun k => (R k).expr_parser_binary p0 a1) (W.expr_parser_binary p0 a1)) (h38 : ∀ (p0 : ExprParser), Lm (fun k => (R k).expr_parser_unary p0) (W.expr_parser_unary p0)) (h64 : ∀ (p0 : ExprParser), Lm (fun k => (R k).expr_parser_atom p0) (W.expr_parser_atom p0)) (p0 : ExprParser) : Lm (fun k => expr_parser_atom_F (R k) p0) (expr_parser_atom_F W p0) := by
  simp only [expr_parser_atom_F]
  repeat' first | exact Lm.const _ | exact h20 _ _ | exact h38 _ | exact h64 _ | apply Lm.jn | apply Lm.bind | apply Lm.map | apply Lm.ite | apply Lm.run | intro _
noncomputable def expr_parser_binary_W : expr_parser_binary_Rec := ⟨expr_parser_binary, expr_parser_unary, expr_parser_atom⟩
theorem expr_parser_binary_mono : ∀ k, (∀ p0 a1 r, (expr_parser_binary_rec k).expr_parser_binary p0 a1 = some r → (expr_parser_binary_rec (k + 1)).expr_parser_binary p0 a1 = some r) ∧ (∀ p0 r, (expr_parser_binary_rec k).expr_parser_unary p0 = some r → (expr_parser_binary_rec (k + 1)).expr_parser_unary p0 = some r) ∧ (∀ p0 r, (expr_parser_binary_rec k).expr_parser_atom p0 = some r → (expr_parser_binary_rec (k + 1)).expr_parser_atom p0 = some r)
  | 0 => ⟨fun _ _ _ h => (by cases h), fun _ _ h => (by cases h), fun _ _ h => (by cases h)⟩
  | k + 1 => by
    obtain ⟨m20, m38, m64⟩ := expr_parser_binary_mono k
    have key : ∀ (f : expr_parser_binary_Rec → Option Unit), True := fun _ => trivial
    have l20 : ∀ p0 a1, Lm (fun j => ((fun j => if j = 0 then expr_parser_binary_rec k else expr_parser_binary_rec (k + 1)) j).expr_parser_binary p0 a1) ((expr_parser_binary_rec (k + 1)).expr_parser_binary p0 a1) := fun _ _ => Lm.step (m20 _ _) (fun j => by by_cases hj : j = 0 <;> simp [hj])
    have l38 : ∀ p0, Lm (fun j => ((fun j => if j = 0 then expr_parser_binary_rec k else expr_parser_binary_rec (k + 1)) j).expr_parser_unary p0) ((expr_parser_binary_rec (k + 1)).expr_parser_unary p0) := fun _ => Lm.step (m38 _) (fun j => by by_cases hj : j = 0 <;> simp [hj])
    have l64 : ∀ p0, Lm (fun j => ((fun j => if j = 0 then expr_parser_binary_rec k else expr_parser_binary_rec (k + 1)) j).expr_parser_atom p0) ((expr_parser_binary_rec (k + 1)).expr_parser_atom p0) := fun _ => Lm.step (m64 _) (fun j => by by_cases hj : j = 0 <;> simp [hj])
    exact ⟨fun p0 a1 r h => (expr_parser_binary_lm l20 l38 l64 p0 a1).2 0 r h, fun p0 r h => (expr_parser_unary_lm l20 l38 l64 p0).2 0 r h, fun p0 r h => (expr_parser_atom_lm l20 l38 l64 p0).2 0 r h⟩
theorem expr_parser_binary_lim (p0 : ExprParser) (a1 : Int) : Lm (fun k => (expr_parser_binary_rec k).expr_parser_binary p0 a1) (expr_parser_binary p0 a1) := lim_Lm fun k => (expr_parser_binary_mono k).1 p0 a1
theorem expr_parser_unary_lim (p0 : ExprParser) : Lm (fun k => (expr_parser_binary_rec k).expr_parser_unary p0) (expr_parser_unary p0) := lim_Lm fun k => (expr_parser_binary_mono k).2.1 p0
theorem expr_parser_atom_lim (p0 : ExprParser) : Lm (fun k => (expr_parser_binary_rec k).expr_parser_atom p0) (expr_parser_atom p0) := lim_Lm fun k => (expr_parser_binary_mono k).2.2 p0
theorem expr_parser_binary_eq (p0 : ExprParser) (a1 : Int) : expr_parser_binary p0 a1 = expr_parser_binary_F expr_parser_binary_W p0 a1 := Lm.uniq (expr_parser_binary_lim p0 a1) (expr_parser_binary_lm (R := expr_parser_binary_rec) (W := expr_parser_binary_W) expr_parser_binary_lim expr_parser_unary_lim expr_parser_atom_lim p0 a1)
theorem expr_parser_unary_eq (p0 : ExprParser) : expr_parser_unary p0 = expr_parser_unary_F expr_parser_binary_W p0 := Lm.uniq (expr_parser_unary_lim p0) (expr_parser_unary_lm (R := expr_parser_binary_rec) (W := expr_parser_binary_W) expr_parser_binary_lim expr_parser_unary_lim expr_parser_atom_lim p0)
theorem expr_parser_atom_eq (p0 : ExprParser) : expr_parser_atom p0 = expr_parser_atom_F expr_parser_binary_W p0 := Lm.uniq (expr_parser_atom_lim p0) (expr_parser_atom_lm (R := expr_parser_binary_rec) (W := expr_parser_binary_W) expr_parser_binary_lim expr_parser_unary_lim expr_parser_atom_lim p0)
noncomputable def expr_one (a0 : Int) : Option (Bool) :=
  if (a0 == 1) then
    some true
  else
    some (a0 == 2)
noncomputable def expr_two (a0 : Int) : Option (Bool) :=
  if 3 ≤ a0 then
    some ((decide (a0 ≤ 15)))
  else
    some false
noncomputable def expr_Expr_depths_l0_step (a0 : List ExprNode) (s2 : Int × (List Int)) : Option ((Int × (List Int)) ⊕ ((List Int))) :=
  if s2.1 < (a0.length : Int) then
    (idx a0 s2.1).bind fun x3 =>
    (inM a0.length s2.1).bind fun j4 =>
    (setJ s2.2 j4 1).bind fun w5 =>
    (expr_one x3.Op).bind fun r6 =>
    if r6 then
      (inM a0.length x3.L).bind fun j7 =>
      (w5[j7]?).bind fun x8 =>
      (setJ w5 j4 ((IntKind.i64.wrap (1 + x8)))).bind fun w9 =>
      (expr_two x3.Op).bind fun r10 =>
      if r10 then
        (w9[j4]?).bind fun x11 =>
        (inM a0.length x3.R).bind fun j12 =>
        (w9[j12]?).bind fun x13 =>
        (setJ w9 j4 ((if x11 < (IntKind.i64.wrap (1 + x13)) then (IntKind.i64.wrap (1 + x13)) else x11))).bind fun w14 =>
        some (.inl (((IntKind.i64.wrap (s2.1 + 1)), w14)))
      else
        some (.inl (((IntKind.i64.wrap (s2.1 + 1)), w9)))
    else
      (expr_two x3.Op).bind fun r15 =>
      if r15 then
        (inM a0.length x3.L).bind fun j16 =>
        (w5[j16]?).bind fun x17 =>
        (setJ w5 j4 ((IntKind.i64.wrap (1 + x17)))).bind fun w18 =>
        (expr_two x3.Op).bind fun r19 =>
        if r19 then
          (w18[j4]?).bind fun x20 =>
          (inM a0.length x3.R).bind fun j21 =>
          (w18[j21]?).bind fun x22 =>
          (setJ w18 j4 ((if x20 < (IntKind.i64.wrap (1 + x22)) then (IntKind.i64.wrap (1 + x22)) else x20))).bind fun w23 =>
          some (.inl (((IntKind.i64.wrap (s2.1 + 1)), w23)))
        else
          some (.inl (((IntKind.i64.wrap (s2.1 + 1)), w18)))
      else
        (expr_two x3.Op).bind fun r24 =>
        if r24 then
          (w5[j4]?).bind fun x25 =>
          (inM a0.length x3.R).bind fun j26 =>
          (w5[j26]?).bind fun x27 =>
          (setJ w5 j4 ((if x25 < (IntKind.i64.wrap (1 + x27)) then (IntKind.i64.wrap (1 + x27)) else x25))).bind fun w28 =>
          some (.inl (((IntKind.i64.wrap (s2.1 + 1)), w28)))
        else
          some (.inl (((IntKind.i64.wrap (s2.1 + 1)), w5)))
  else
    (frz a0.length s2.2).bind fun z29 =>
    some (.inr z29)
noncomputable def expr_Expr_depths_l0 (a0 : List ExprNode) (s2 : Int × (List Int)) : Option ((List Int)) := run (expr_Expr_depths_l0_step a0) s2
noncomputable def expr_Expr_depths (a0 : List ExprNode) : Option ((List Int)) :=
  (mkA 8 (a0.length : Int) 0).bind fun z1 =>
  expr_Expr_depths_l0 a0 (0, z1)
noncomputable def expr_Expr_Size_l0_step (r1 : (List Int)) (s2 : Int) : Option ((Int) ⊕ (Int)) :=
  if s2 < (r1.length : Int) then
    (idx r1 s2).bind fun x3 =>
    if 8 < x3 then
      some (.inr 23)
    else
      some (.inl ((IntKind.i64.wrap (s2 + 1))))
  else
    some (.inr 0)
noncomputable def expr_Expr_Size_l0 (r1 : (List Int)) (s2 : Int) : Option (Int) := run (expr_Expr_Size_l0_step r1) s2
noncomputable def expr_Expr_Size (a0 : List ExprNode) : Option (Int) :=
  if 32 < (a0.length : Int) then
    some 13
  else
    (expr_Expr_depths a0).bind fun r1 =>
    expr_Expr_Size_l0 r1 0
noncomputable def expr_Parse (a0 : List TokToken) (a1 : Int) : Option ((List ExprNode) × Int × Int) :=
  if a1 < 0 then
    some ((([] : List ExprNode), 0, 11))
  else
    if (a0.length : Int) < a1 then
      some ((([] : List ExprNode), 0, 11))
    else
      (expr_parser_binary ((ExprParser.mk a0 a1 ([] : List ExprNode))) 0).bind fun r2 =>
      if r2.1 then
        (expr_Expr_Size r2.2.e).bind fun r3 =>
        if (r3 != 0) then
          some ((([] : List ExprNode), 0, r3))
        else
          some (r2.2.e, r2.2.at_, 0)
      else
        some ((([] : List ExprNode), 0, 11))
noncomputable def act_reader_fail (p0 : ActReader) (a1 : Int) : Option (ActReader) :=
  if (p0.e == 0) then
    some (ActReader.mk p0.l p0.at_ a1)
  else
    some p0
noncomputable def act_reader_expr (p0 : ActReader) : Option ((List ExprNode) × ActReader) :=
  (expr_Parse p0.l p0.at_).bind fun r1 =>
  if (r1.2.2 != 0) then
    (act_reader_fail p0 r1.2.2).bind fun r2 =>
    some ((([] : List ExprNode), r2))
  else
    some ((r1.1, (ActReader.mk p0.l r1.2.1 p0.e)))
noncomputable def act_word (a0 : Int) : Option ((List UInt8)) :=
  if a0 < 1 then
    some []
  else
    if 5 < a0 then
      some []
    else
      (inM 6 a0).bind fun j1 =>
      (([[], [115, 101, 116], [114, 97, 105, 115, 101], [115, 101, 110, 100], [99, 97, 110, 99, 101, 108], [108, 111, 103]])[j1]?).bind fun x2 =>
      some x2
noncomputable def act_reader_name (p0 : ActReader) (a1 : Bool) : Option ((List UInt8) × ActReader) :=
  if (p0.l.length : Int) ≤ p0.at_ then
    (act_reader_fail p0 11).bind fun r2 =>
    some ([], r2)
  else
    (idx p0.l p0.at_).bind fun x3 =>
    if (x3.Kind != 1) then
      if (x3.Kind != 2) then
        (act_reader_fail p0 11).bind fun r4 =>
        some ([], r4)
      else
        if a1 then
          (tok_Means x3.Text).bind fun r5 =>
          if r5 then
            (act_reader_fail p0 11).bind fun r6 =>
            some ([], r6)
          else
            some ((x3.Text, (ActReader.mk p0.l ((IntKind.i64.wrap (p0.at_ + 1))) p0.e)))
        else
          (act_reader_fail p0 11).bind fun r7 =>
          some ([], r7)
    else
      (tok_Means x3.Text).bind fun r8 =>
      if r8 then
        (act_reader_fail p0 11).bind fun r9 =>
        some ([], r9)
      else
        some ((x3.Text, (ActReader.mk p0.l ((IntKind.i64.wrap (p0.at_ + 1))) p0.e)))
noncomputable def act_reader_number (p0 : ActReader) : Option (Int × ActReader) :=
  if (p0.l.length : Int) ≤ p0.at_ then
    (act_reader_fail p0 11).bind fun r1 =>
    some (0, r1)
  else
    (idx p0.l p0.at_).bind fun x2 =>
    if (x2.Kind != 3) then
      (act_reader_fail p0 11).bind fun r3 =>
      some (0, r3)
    else
      if 1048576 < x2.N then
        (act_reader_fail p0 10).bind fun r4 =>
        some ((x2.N, (ActReader.mk r4.l ((IntKind.i64.wrap (r4.at_ + 1))) r4.e)))
      else
        some ((x2.N, (ActReader.mk p0.l ((IntKind.i64.wrap (p0.at_ + 1))) p0.e)))
noncomputable def act_reader_act_j0 (p0 : ActReader) : Option (((List ExprNode) × (List TokToken) × Int × Int) ⊕ (ActAct × ActReader)) :=
  (act_reader_take p0 [105, 102]).bind fun r2 =>
  if r2.1 then
    (act_reader_expr r2.2).bind fun r3 =>
    if (r3.2.e == 0) then
      (act_reader_take r3.2 [58]).bind fun r4 =>
      if r4.1 then
        some (.inl (r3.1, r4.2.l, r4.2.at_, r4.2.e))
      else
        (act_reader_fail r4.2 11).bind fun r5 =>
        some (.inl (r3.1, r5.l, r5.at_, r5.e))
    else
      some (.inl (r3.1, r3.2.l, r3.2.at_, r3.2.e))
  else
    some (.inl ((([] : List ExprNode), r2.2.l, r2.2.at_, r2.2.e)))
noncomputable def act_reader_act_l2_step (s7 : Int × Int × (List TokToken) × Int × Int) : Option ((Int × Int × (List TokToken) × Int × Int) ⊕ ((Int × (List TokToken) × Int × Int) ⊕ (ActAct × ActReader))) :=
  if s7.1 ≤ 5 then
    if (s7.2.1 == 0) then
      if (s7.2.2.2.2 == 0) then
        (act_word s7.1).bind fun r8 =>
        (act_reader_take (ActReader.mk s7.2.2.1 s7.2.2.2.1 s7.2.2.2.2) r8).bind fun r9 =>
        if r9.1 then
          some (.inl (((IntKind.i64.wrap (s7.1 + 1)), s7.1, r9.2.l, r9.2.at_, r9.2.e)))
        else
          some (.inl (((IntKind.i64.wrap (s7.1 + 1)), s7.2.1, r9.2.l, r9.2.at_, r9.2.e)))
      else
        some (.inl (((IntKind.i64.wrap (s7.1 + 1)), s7.2.1, s7.2.2.1, s7.2.2.2.1, s7.2.2.2.2)))
    else
      some (.inr (.inl (s7.2.1, s7.2.2.1, s7.2.2.2.1, s7.2.2.2.2)))
  else
    some (.inr (.inl (s7.2.1, s7.2.2.1, s7.2.2.2.1, s7.2.2.2.2)))
noncomputable def act_reader_act_l2 (s7 : Int × Int × (List TokToken) × Int × Int) : Option ((Int × (List TokToken) × Int × Int) ⊕ (ActAct × ActReader)) := run (act_reader_act_l2_step) s7
noncomputable def act_reader_act_j1 (s1 : (List ExprNode) × (List TokToken) × Int × Int) : Option ((Int × (List TokToken) × Int × Int) ⊕ (ActAct × ActReader)) :=
  act_reader_act_l2 (1, 0, s1.2.1, s1.2.2.1, s1.2.2.2)
noncomputable def act_reader_act_j3 (s6 : Int × (List TokToken) × Int × Int) : Option (((List UInt8) × (List TokToken) × Int × Int) ⊕ (ActAct × ActReader)) :=
  if (s6.2.2.2 != 0) then
    some (.inl ((([] : List UInt8), s6.2.1, s6.2.2.1, s6.2.2.2)))
  else
    if (s6.1 == 1) then
      (act_reader_name (ActReader.mk s6.2.1 s6.2.2.1 s6.2.2.2) false).bind fun r11 =>
      some (.inl (r11.1, r11.2.l, r11.2.at_, r11.2.e))
    else
      if (s6.1 == 2) then
        (act_reader_name (ActReader.mk s6.2.1 s6.2.2.1 s6.2.2.2) true).bind fun r12 =>
        some (.inl (r12.1, r12.2.l, r12.2.at_, r12.2.e))
      else
        if (s6.1 == 3) then
          (act_reader_name (ActReader.mk s6.2.1 s6.2.2.1 s6.2.2.2) true).bind fun r13 =>
          some (.inl (r13.1, r13.2.l, r13.2.at_, r13.2.e))
        else
          if (s6.1 == 4) then
            (act_reader_name (ActReader.mk s6.2.1 s6.2.2.1 s6.2.2.2) true).bind fun r14 =>
            some (.inl (r14.1, r14.2.l, r14.2.at_, r14.2.e))
          else
            if (s6.1 == 0) then
              (act_reader_fail (ActReader.mk s6.2.1 s6.2.2.1 s6.2.2.2) 11).bind fun r15 =>
              some (.inl ((([] : List UInt8), r15.l, r15.at_, r15.e)))
            else
              some (.inl ((([] : List UInt8), s6.2.1, s6.2.2.1, s6.2.2.2)))
noncomputable def act_reader_act_j4 (s6 : Int × (List TokToken) × Int × Int) (s10 : (List UInt8) × (List TokToken) × Int × Int) : Option (((List ExprNode) × (List TokToken) × Int × Int) ⊕ (ActAct × ActReader)) :=
  if (s10.2.2.2 == 0) then
    if (s6.1 == 1) then
      (act_reader_expr (ActReader.mk s10.2.1 s10.2.2.1 s10.2.2.2)).bind fun r17 =>
      some (.inl (r17.1, r17.2.l, r17.2.at_, r17.2.e))
    else
      if (s6.1 == 5) then
        (act_reader_expr (ActReader.mk s10.2.1 s10.2.2.1 s10.2.2.2)).bind fun r18 =>
        some (.inl (r18.1, r18.2.l, r18.2.at_, r18.2.e))
      else
        some (.inl ((([] : List ExprNode), s10.2.1, s10.2.2.1, s10.2.2.2)))
  else
    some (.inl ((([] : List ExprNode), s10.2.1, s10.2.2.1, s10.2.2.2)))
noncomputable def act_reader_act (p0 : ActReader) : Option (ActAct × ActReader) :=
  jn (act_reader_act_j0 p0) fun s1 =>
  jn (act_reader_act_j1 s1) fun s6 =>
  jn (act_reader_act_j3 s6) fun s10 =>
  jn (act_reader_act_j4 s6 s10) fun s16 =>
  if (s16.2.2.2 == 0) then
    if (s6.1 == 3) then
      (act_reader_number (ActReader.mk s16.2.1 s16.2.2.1 s16.2.2.2)).bind fun r19 =>
      some (((ActAct.mk s6.1 s1.1 s10.1 s16.1 r19.1), r19.2))
    else
      some (((ActAct.mk s6.1 s1.1 s10.1 s16.1 0), (ActReader.mk s16.2.1 s16.2.2.1 s16.2.2.2)))
  else
    some (((ActAct.mk s6.1 s1.1 s10.1 s16.1 0), (ActReader.mk s16.2.1 s16.2.2.1 s16.2.2.2)))
noncomputable def act_Take_l0_step (s2 : (List ActAct) × Bool × (List TokToken) × Int × Int) : Option (((List ActAct) × Bool × (List TokToken) × Int × Int) ⊕ ((List ActAct) × Int × Int)) :=
  if s2.2.1 then
    if ((s2.1.length : Int) == 8) then
      some (.inr ((([] : List ActAct), 0, 13)))
    else
      (act_reader_act (ActReader.mk s2.2.2.1 s2.2.2.2.1 s2.2.2.2.2)).bind fun r3 =>
      if (r3.2.e != 0) then
        some (.inr ((([] : List ActAct), 0, r3.2.e)))
      else
        (app 80 s2.1 [r3.1]).bind fun l4 =>
        (act_reader_take r3.2 [59]).bind fun r5 =>
        some (.inl (l4, r5.1, r5.2.l, r5.2.at_, r5.2.e))
  else
    some (.inr (s2.1, s2.2.2.2.1, 0))
noncomputable def act_Take_l0 (s2 : (List ActAct) × Bool × (List TokToken) × Int × Int) : Option ((List ActAct) × Int × Int) := run (act_Take_l0_step) s2
noncomputable def act_Take (a0 : List TokToken) (a1 : Int) : Option ((List ActAct) × Int × Int) :=
  if a1 < 0 then
    some ((([] : List ActAct), 0, 11))
  else
    if (a0.length : Int) < a1 then
      some ((([] : List ActAct), 0, 11))
    else
      act_Take_l0 ((([] : List ActAct), true, a0, a1, 0))
noncomputable def expr_tight_l2_step (a0 : Int) (s5 : Int) (x6 : ExprLevel) (s7 : Int) : Option ((Int) ⊕ ((Int) ⊕ ((Unit) ⊕ (Int)))) :=
  if s7 < (x6.ops.length : Int) then
    (idx x6.ops s7).bind fun x8 =>
    if (x8 == a0) then
      some (.inr (.inr (.inr s5)))
    else
      some (.inl ((IntKind.i64.wrap (s7 + 1))))
  else
    some (.inr (.inl ((IntKind.i64.wrap (s5 + 1)))))
noncomputable def expr_tight_l2 (a0 : Int) (s5 : Int) (x6 : ExprLevel) (s7 : Int) : Option ((Int) ⊕ ((Unit) ⊕ (Int))) := run (expr_tight_l2_step a0 s5 x6) s7
noncomputable def expr_tight_l1_step (a0 : Int) (r4 : (List ExprLevel)) (s5 : Int) : Option ((Int) ⊕ ((Unit) ⊕ (Int))) :=
  if s5 < (r4.length : Int) then
    (idx r4 s5).bind fun x6 =>
    expr_tight_l2 a0 s5 x6 0
  else
    some (.inr (.inl ()))
noncomputable def expr_tight_l1 (a0 : Int) (r4 : (List ExprLevel)) (s5 : Int) : Option ((Unit) ⊕ (Int)) := run (expr_tight_l1_step a0 r4) s5
noncomputable def expr_tight_j0 (a0 : Int) : Option ((Unit) ⊕ (Int)) :=
  (expr_levels).bind fun r4 =>
  expr_tight_l1 a0 r4 0
noncomputable def expr_tight (a0 : Int) : Option (Int) :=
  (expr_one a0).bind fun r1 =>
  if r1 then
    (expr_levels).bind fun r2 =>
    some (r2.length : Int)
  else
    jn (expr_tight_j0 a0) fun s3 =>
    (expr_levels).bind fun r9 =>
    some ((IntKind.i64.wrap ((r9.length : Int) + 1)))
noncomputable def internal_strconv_small (a0 : Int) : Option ((List UInt8)) :=
  if a0 < 10 then
    (sub ([48, 49, 50, 51, 52, 53, 54, 55, 56, 57, 97, 98, 99, 100, 101, 102, 103, 104, 105, 106, 107, 108, 109, 110, 111, 112, 113, 114, 115, 116, 117, 118, 119, 120, 121, 122] : List UInt8) a0 ((IntKind.i64.wrap (a0 + 1)))).bind fun m1 =>
    some m1
  else
    (sub ([48, 48, 48, 49, 48, 50, 48, 51, 48, 52, 48, 53, 48, 54, 48, 55, 48, 56, 48, 57, 49, 48, 49, 49, 49, 50, 49, 51, 49, 52, 49, 53, 49, 54, 49, 55, 49, 56, 49, 57, 50, 48, 50, 49, 50, 50, 50, 51, 50, 52, 50, 53, 50, 54, 50, 55, 50, 56, 50, 57, 51, 48, 51, 49, 51, 50, 51, 51, 51, 52, 51, 53, 51, 54, 51, 55, 51, 56, 51, 57, 52, 48, 52, 49, 52, 50, 52, 51, 52, 52, 52, 53, 52, 54, 52, 55, 52, 56, 52, 57, 53, 48, 53, 49, 53, 50, 53, 51, 53, 52, 53, 53, 53, 54, 53, 55, 53, 56, 53, 57, 54, 48, 54, 49, 54, 50, 54, 51, 54, 52, 54, 53, 54, 54, 54, 55, 54, 56, 54, 57, 55, 48, 55, 49, 55, 50, 55, 51, 55, 52, 55, 53, 55, 54, 55, 55, 55, 56, 55, 57, 56, 48, 56, 49, 56, 50, 56, 51, 56, 52, 56, 53, 56, 54, 56, 55, 56, 56, 56, 57, 57, 48, 57, 49, 57, 50, 57, 51, 57, 52, 57, 53, 57, 54, 57, 55, 57, 56, 57, 57] : List UInt8) ((IntKind.i64.wrap (a0 * 2))) ((IntKind.i64.wrap ((IntKind.i64.wrap (a0 * 2)) + 2)))).bind fun m2 =>
    some m2
noncomputable def internal_strconv_FormatInt_j0 (a0 : Int) : Option ((Int × Int) ⊕ ((List UInt8))) :=
  if a0 < 0 then
    some (.inl ((a0, (IntKind.u64.wrap (0 - (IntKind.u64.wrap a0))))))
  else
    some (.inl ((a0, (IntKind.u64.wrap a0))))
noncomputable def internal_strconv_FormatInt_j1 (a0 : Int) : Option ((Int × Int) ⊕ ((List UInt8))) :=
  if a0 < 0 then
    some (.inl ((a0, (IntKind.u64.wrap (0 - (IntKind.u64.wrap a0))))))
  else
    some (.inl ((a0, (IntKind.u64.wrap a0))))
noncomputable def internal_strconv_FormatInt (a0 : Int) (a1 : Int) : Option ((List UInt8)) :=
  if (a1 == 10) then
    if 0 ≤ a0 then
      if a0 < 100 then
        (internal_strconv_small a0).bind fun r2 =>
        some r2
      else
        jn (internal_strconv_FormatInt_j0 a0) fun s3 =>
        none
    else
      jn (internal_strconv_FormatInt_j1 a0) fun s4 =>
      none
  else
    none
noncomputable def strconv_FormatInt (a0 : Int) (a1 : Int) : Option ((List UInt8)) :=
  (internal_strconv_FormatInt a0 a1).bind fun r2 =>
  some r2
noncomputable def internal_strconv_FormatBool (a0 : Bool) : Option ((List UInt8)) :=
  if a0 then
    some [116, 114, 117, 101]
  else
    some [102, 97, 108, 115, 101]
noncomputable def strconv_FormatBool (a0 : Bool) : Option ((List UInt8)) :=
  (internal_strconv_FormatBool a0).bind fun r1 =>
  some r1
noncomputable def val_Value_Show (a0 : ValValue) : Option ((List UInt8)) :=
  if (a0.Kind == 1) then
    (strconv_FormatInt a0.N 10).bind fun r1 =>
    some r1
  else
    if (a0.Kind == 2) then
      (strconv_FormatBool (a0.N != 0)).bind fun r2 =>
      some r2
    else
      (cat [39] a0.S).bind fun s3 =>
      (cat s3 [39]).bind fun s4 =>
      some s4
noncomputable def expr_sign_l1_step (a0 : Int) (s2 : Int) (x3 : ExprLevel) (s4 : Int) : Option ((Int) ⊕ ((Int) ⊕ ((List UInt8)))) :=
  if s4 < (x3.ops.length : Int) then
    (idx x3.ops s4).bind fun x5 =>
    if (x5 == a0) then
      (idx x3.signs s4).bind fun x6 =>
      some (.inr (.inr x6))
    else
      some (.inl ((IntKind.i64.wrap (s4 + 1))))
  else
    some (.inr (.inl ((IntKind.i64.wrap (s2 + 1)))))
noncomputable def expr_sign_l1 (a0 : Int) (s2 : Int) (x3 : ExprLevel) (s4 : Int) : Option ((Int) ⊕ ((List UInt8))) := run (expr_sign_l1_step a0 s2 x3) s4
noncomputable def expr_sign_l0_step (a0 : Int) (r1 : (List ExprLevel)) (s2 : Int) : Option ((Int) ⊕ ((List UInt8))) :=
  if s2 < (r1.length : Int) then
    (idx r1 s2).bind fun x3 =>
    expr_sign_l1 a0 s2 x3 0
  else
    some (.inr [])
noncomputable def expr_sign_l0 (a0 : Int) (r1 : (List ExprLevel)) (s2 : Int) : Option ((List UInt8)) := run (expr_sign_l0_step a0 r1) s2
noncomputable def expr_sign (a0 : Int) : Option ((List UInt8)) :=
  (expr_levels).bind fun r1 =>
  expr_sign_l0 a0 r1 0
structure expr_Expr_node_Rec where
  expr_Expr_node : (List ExprNode) → Int → Option ((List UInt8))
  expr_Expr_part : (List ExprNode) → Int → Int → Option ((List UInt8))
noncomputable def expr_Expr_node_j0 (a0 : List ExprNode) (x2 : ExprNode) (r3 : Int) : Option (((List ExprNode) × Int) ⊕ ((List UInt8))) :=
  if 8 ≤ x2.Op then
    if x2.Op ≤ 13 then
      some (.inl ((a0, (IntKind.i64.wrap (r3 + 1)))))
    else
      some (.inl (a0, r3))
  else
    some (.inl (a0, r3))
noncomputable def expr_Expr_node_F (R : expr_Expr_node_Rec) (a0 : List ExprNode) (a1 : Int) : Option ((List UInt8)) :=
  (idx a0 a1).bind fun x2 =>
  (expr_tight x2.Op).bind fun r3 =>
  if (x2.Op == 0) then
    (val_Value_Show x2.V).bind fun r4 =>
    some r4
  else
    if (x2.Op == 16) then
      some x2.Name
    else
      if (x2.Op == 17) then
        (cat [105, 110, 40] x2.Name).bind fun s5 =>
        (cat s5 [41]).bind fun s6 =>
        some s6
      else
        if (x2.Op == 1) then
          (R.expr_Expr_part a0 x2.L r3).bind fun r7 =>
          (cat [110, 111, 116, 32] r7).bind fun s8 =>
          some s8
        else
          if (x2.Op == 2) then
            (R.expr_Expr_part a0 x2.L r3).bind fun r9 =>
            (cat [45] r9).bind fun s10 =>
            some s10
          else
            jn (expr_Expr_node_j0 a0 x2 r3) fun s11 =>
            (R.expr_Expr_part s11.1 x2.L s11.2).bind fun r12 =>
            (cat r12 [32]).bind fun s13 =>
            (expr_sign x2.Op).bind fun r14 =>
            (cat s13 r14).bind fun s15 =>
            (cat s15 [32]).bind fun s16 =>
            (R.expr_Expr_part s11.1 x2.R ((IntKind.i64.wrap (r3 + 1)))).bind fun r17 =>
            (cat s16 r17).bind fun s18 =>
            some s18
noncomputable def expr_Expr_part_F (R : expr_Expr_node_Rec) (a0 : List ExprNode) (a1 : Int) (a2 : Int) : Option ((List UInt8)) :=
  (R.expr_Expr_node a0 a1).bind fun r3 =>
  (idx a0 a1).bind fun x4 =>
  (expr_tight x4.Op).bind fun r5 =>
  if r5 < a2 then
    (cat [40] r3).bind fun s6 =>
    (cat s6 [41]).bind fun s7 =>
    some s7
  else
    some r3
noncomputable def expr_Expr_node_rec : Nat → expr_Expr_node_Rec
  | 0 => ⟨fun _ _ => none, fun _ _ _ => none⟩
  | k + 1 => ⟨expr_Expr_node_F (expr_Expr_node_rec k), expr_Expr_part_F (expr_Expr_node_rec k)⟩
noncomputable def expr_Expr_node (a0 : List ExprNode) (a1 : Int) : Option ((List UInt8)) := lim? fun k => (expr_Expr_node_rec k).expr_Expr_node a0 a1
noncomputable def expr_Expr_part (a0 : List ExprNode) (a1 : Int) (a2 : Int) : Option ((List UInt8)) := lim? fun k => (expr_Expr_node_rec k).expr_Expr_part a0 a1 a2
theorem expr_Expr_node_lm {R : Nat → expr_Expr_node_Rec} {W : expr_Expr_node_Rec} (h28 : ∀ (a0 : List ExprNode) (a1 : Int), Lm (fun k => (R k).expr_Expr_node a0 a1) (W.expr_Expr_node a0 a1)) (h54 : ∀ (a0 : List ExprNode) (a1 : Int) (a2 : Int), Lm (fun k => (R k).expr_Expr_part a0 a1 a2) (W.expr_Expr_part a0 a1 a2)) (a0 : List ExprNode) (a1 : Int) : Lm (fun k => expr_Expr_node_F (R k) a0 a1) (expr_Expr_node_F W a0 a1) := by
  simp only [expr_Expr_node_F, expr_Expr_node_j0]
  repeat' first | exact Lm.const _ | exact h28 _ _ | exact h54 _ _ _ | apply Lm.jn | apply Lm.bind | apply Lm.map | apply Lm.ite | apply Lm.run | intro _
theorem expr_Expr_part_lm {R : Nat → expr_Expr_node_Rec} {W : expr_Expr_node_Rec} (h28 : ∀ (a0 : List ExprNode) (a1 : Int), Lm (fun k => (R k).expr_Expr_node a0 a1) (W.expr_Expr_node a0 a1)) (h54 : ∀ (a0 : List ExprNode) (a1 : Int) (a2 : Int), Lm (fun k => (R k).expr_Expr_part a0 a1 a2) (W.expr_Expr_part a0 a1 a2)) (a0 : List ExprNode) (a1 : Int) (a2 : Int) : Lm (fun k => expr_Expr_part_F (R k) a0 a1 a2) (expr_Expr_part_F W a0 a1 a2) := by
  simp only [expr_Expr_part_F]
  repeat' first | exact Lm.const _ | exact h28 _ _ | exact h54 _ _ _ | apply Lm.jn | apply Lm.bind | apply Lm.map | apply Lm.ite | apply Lm.run | intro _
noncomputable def expr_Expr_node_W : expr_Expr_node_Rec := ⟨expr_Expr_node, expr_Expr_part⟩
theorem expr_Expr_node_mono : ∀ k, (∀ a0 a1 r, (expr_Expr_node_rec k).expr_Expr_node a0 a1 = some r → (expr_Expr_node_rec (k + 1)).expr_Expr_node a0 a1 = some r) ∧ (∀ a0 a1 a2 r, (expr_Expr_node_rec k).expr_Expr_part a0 a1 a2 = some r → (expr_Expr_node_rec (k + 1)).expr_Expr_part a0 a1 a2 = some r)
  | 0 => ⟨fun _ _ _ h => (by cases h), fun _ _ _ _ h => (by cases h)⟩
  | k + 1 => by
    obtain ⟨m28, m54⟩ := expr_Expr_node_mono k
    have key : ∀ (f : expr_Expr_node_Rec → Option Unit), True := fun _ => trivial
    have l28 : ∀ a0 a1, Lm (fun j => ((fun j => if j = 0 then expr_Expr_node_rec k else expr_Expr_node_rec (k + 1)) j).expr_Expr_node a0 a1) ((expr_Expr_node_rec (k + 1)).expr_Expr_node a0 a1) := fun _ _ => Lm.step (m28 _ _) (fun j => by by_cases hj : j = 0 <;> simp [hj])
    have l54 : ∀ a0 a1 a2, Lm (fun j => ((fun j => if j = 0 then expr_Expr_node_rec k else expr_Expr_node_rec (k + 1)) j).expr_Expr_part a0 a1 a2) ((expr_Expr_node_rec (k + 1)).expr_Expr_part a0 a1 a2) := fun _ _ _ => Lm.step (m54 _ _ _) (fun j => by by_cases hj : j = 0 <;> simp [hj])
    exact ⟨fun a0 a1 r h => (expr_Expr_node_lm l28 l54 a0 a1).2 0 r h, fun a0 a1 a2 r h => (expr_Expr_part_lm l28 l54 a0 a1 a2).2 0 r h⟩
theorem expr_Expr_node_lim (a0 : List ExprNode) (a1 : Int) : Lm (fun k => (expr_Expr_node_rec k).expr_Expr_node a0 a1) (expr_Expr_node a0 a1) := lim_Lm fun k => (expr_Expr_node_mono k).1 a0 a1
theorem expr_Expr_part_lim (a0 : List ExprNode) (a1 : Int) (a2 : Int) : Lm (fun k => (expr_Expr_node_rec k).expr_Expr_part a0 a1 a2) (expr_Expr_part a0 a1 a2) := lim_Lm fun k => (expr_Expr_node_mono k).2 a0 a1 a2
theorem expr_Expr_node_eq (a0 : List ExprNode) (a1 : Int) : expr_Expr_node a0 a1 = expr_Expr_node_F expr_Expr_node_W a0 a1 := Lm.uniq (expr_Expr_node_lim a0 a1) (expr_Expr_node_lm (R := expr_Expr_node_rec) (W := expr_Expr_node_W) expr_Expr_node_lim expr_Expr_part_lim a0 a1)
theorem expr_Expr_part_eq (a0 : List ExprNode) (a1 : Int) (a2 : Int) : expr_Expr_part a0 a1 a2 = expr_Expr_part_F expr_Expr_node_W a0 a1 a2 := Lm.uniq (expr_Expr_part_lim a0 a1 a2) (expr_Expr_part_lm (R := expr_Expr_node_rec) (W := expr_Expr_node_W) expr_Expr_node_lim expr_Expr_part_lim a0 a1 a2)
noncomputable def expr_Expr_Show (a0 : List ExprNode) : Option ((List UInt8)) :=
  if ((a0.length : Int) == 0) then
    some []
  else
    (expr_Expr_node a0 ((IntKind.i64.wrap ((a0.length : Int) - 1)))).bind fun r1 =>
    some r1
noncomputable def act_Act_show_j0 (a0 : ActAct) (r1 : (List UInt8)) : Option (((List UInt8) × Int × (List ExprNode) × (List UInt8) × (List ExprNode) × Int) ⊕ ((List UInt8))) :=
  if (a0.Name == []) then
    some (.inl (r1, a0.Kind, a0.If, a0.Name, a0.X, a0.N))
  else
    (cat [32] a0.Name).bind fun s3 =>
    (cat r1 s3).bind fun s4 =>
    some (.inl (s4, a0.Kind, a0.If, a0.Name, a0.X, a0.N))
noncomputable def act_Act_show_j1 (s2 : (List UInt8) × Int × (List ExprNode) × (List UInt8) × (List ExprNode) × Int) : Option (((List UInt8)) ⊕ ((List UInt8))) :=
  if 0 < (s2.2.2.2.2.1.length : Int) then
    (expr_Expr_Show s2.2.2.2.2.1).bind fun r6 =>
    (cat [32] r6).bind fun s7 =>
    (cat s2.1 s7).bind fun s8 =>
    some (.inl s8)
  else
    some (.inl s2.1)
noncomputable def act_Act_show_j2 (s2 : (List UInt8) × Int × (List ExprNode) × (List UInt8) × (List ExprNode) × Int) (s5 : (List UInt8)) : Option (((List UInt8)) ⊕ ((List UInt8))) :=
  if (s2.2.1 == 3) then
    (strconv_FormatInt s2.2.2.2.2.2 10).bind fun r10 =>
    (cat [32] r10).bind fun s11 =>
    (cat s5 s11).bind fun s12 =>
    some (.inl s12)
  else
    some (.inl s5)
noncomputable def act_Act_show (a0 : ActAct) : Option ((List UInt8)) :=
  (act_word a0.Kind).bind fun r1 =>
  jn (act_Act_show_j0 a0 r1) fun s2 =>
  jn (act_Act_show_j1 s2) fun s5 =>
  jn (act_Act_show_j2 s2 s5) fun s9 =>
  if 0 < (s2.2.2.1.length : Int) then
    (expr_Expr_Show s2.2.2.1).bind fun r13 =>
    (cat [105, 102, 32] r13).bind fun s14 =>
    (cat s14 [32, 58, 32]).bind fun s15 =>
    (cat s15 s9).bind fun s16 =>
    some s16
  else
    some s9
def strings_Join (a0 : List (List UInt8)) (a1 : List UInt8) : Option ((List UInt8)) := joinP a0 a1
noncomputable def act_Show_l1_step (a0 : List ActAct) (s2 : (List (List UInt8)) × Int) : Option (((List (List UInt8)) × Int) ⊕ (((List (List UInt8))) ⊕ ((List UInt8)))) :=
  if s2.2 < (a0.length : Int) then
    (idx a0 s2.2).bind fun x3 =>
    (act_Act_show x3).bind fun r4 =>
    (app 16 s2.1 [r4]).bind fun l5 =>
    some (.inl ((l5, (IntKind.i64.wrap (s2.2 + 1)))))
  else
    some (.inr (.inl s2.1))
noncomputable def act_Show_l1 (a0 : List ActAct) (s2 : (List (List UInt8)) × Int) : Option (((List (List UInt8))) ⊕ ((List UInt8))) := run (act_Show_l1_step a0) s2
noncomputable def act_Show_j0 (a0 : List ActAct) : Option (((List (List UInt8))) ⊕ ((List UInt8))) :=
  act_Show_l1 a0 ((([] : List (List UInt8)), 0))
noncomputable def act_Show (a0 : List ActAct) : Option ((List UInt8)) :=
  jn (act_Show_j0 a0) fun s1 =>
  (strings_Join s1 [32, 59, 32]).bind fun r6 =>
  some r6
noncomputable def val_Value_Right (a0 : ValValue) : Option (Bool) :=
  if (a0.Kind == 1) then
    some (a0.S == [])
  else
    if (a0.Kind == 2) then
      if (a0.S == []) then
        if (a0.N == 0) then
          some true
        else
          some (a0.N == 1)
      else
        some false
    else
      if (a0.Kind == 3) then
        if (a0.N == 0) then
          (val_Plain a0.S).bind fun r1 =>
          some r1
        else
          some false
      else
        some false
noncomputable def tok_Name (a0 : List UInt8) : Option (Bool) :=
  (tok_Lex a0).bind fun r1 =>
  if (r1.2.1 == 0) then
    if ((r1.1.length : Int) == 1) then
      (idx r1.1 0).bind fun x2 =>
      if (x2.Kind == 1) then
        if (x2.Text == a0) then
          (tok_Means a0).bind fun r3 =>
          some (!r3)
        else
          some false
      else
        some false
    else
      some false
  else
    some false
noncomputable def expr_Node_right (a0 : ExprNode) (a1 : Int) : Option (Bool) :=
  if (a0.Op == 0) then
    if ((a0.Name == []) && ((a0.L == 0) && (a0.R == 0))) then
      (val_Value_Right a0.V).bind fun r2 =>
      if r2 then
        if (a0.V.Kind != 1) then
          some true
        else
          some ((decide (0 ≤ a0.V.N)))
      else
        some false
    else
      some false
  else
    if (a0.Op == 16) then
      if ((a0.V.Kind == 0) && ((a0.V.N == 0) && ((a0.V.S == []) && ((a0.L == 0) && (a0.R == 0))))) then
        (tok_Name a0.Name).bind fun r3 =>
        some r3
      else
        some false
    else
      if (a0.Op == 17) then
        if ((a0.V.Kind == 0) && ((a0.V.N == 0) && ((a0.V.S == []) && ((a0.L == 0) && (a0.R == 0))))) then
          (tok_Name a0.Name).bind fun r4 =>
          some r4
        else
          some false
      else
        (expr_one a0.Op).bind fun r5 =>
        if r5 then
          if ((a0.V.Kind == 0) && ((a0.V.N == 0) && ((a0.V.S == []) && ((a0.Name == []) && ((a0.L == (IntKind.i64.wrap (a1 - 1))) && (a0.R == 0)))))) then
            if 0 ≤ a0.L then
              some ((decide (a0.L < a1)))
            else
              some false
          else
            some false
        else
          (expr_two a0.Op).bind fun r6 =>
          if r6 then
            if ((a0.V.Kind == 0) && ((a0.V.N == 0) && ((a0.V.S == []) && ((a0.Name == []) && (a0.R == (IntKind.i64.wrap (a1 - 1))))))) then
              if 0 ≤ a0.L then
                some ((decide (a0.L < a1)))
              else
                some false
            else
              some false
          else
            some false
structure expr_Expr_begins_Rec where
  expr_Expr_begins : (List ExprNode) → Int → Option (Int)
noncomputable def expr_Expr_begins_l0_step (R : expr_Expr_begins_Rec) (a0 : List ExprNode) (s2 : Int) : Option ((Int) ⊕ (Int)) :=
  if 0 ≤ s2 then
    if s2 < (a0.length : Int) then
      (idx a0 s2).bind fun x3 =>
      (expr_one x3.Op).bind fun r4 =>
      if r4 then
        (expr_two x3.Op).bind fun r5 =>
        if r5 then
          (R.expr_Expr_begins a0 x3.R).bind fun r6 =>
          if (r6 != (IntKind.i64.wrap (x3.L + 1))) then
            some (.inr (-1))
          else
            some (.inl x3.L)
        else
          some (.inl x3.L)
      else
        (expr_two x3.Op).bind fun r7 =>
        if r7 then
          (expr_two x3.Op).bind fun r8 =>
          if r8 then
            (R.expr_Expr_begins a0 x3.R).bind fun r9 =>
            if (r9 != (IntKind.i64.wrap (x3.L + 1))) then
              some (.inr (-1))
            else
              some (.inl x3.L)
          else
            some (.inl x3.L)
        else
          some (.inr s2)
    else
      some (.inr s2)
  else
    some (.inr s2)
noncomputable def expr_Expr_begins_l0 (R : expr_Expr_begins_Rec) (a0 : List ExprNode) (s2 : Int) : Option (Int) := run (expr_Expr_begins_l0_step R a0) s2
noncomputable def expr_Expr_begins_F (R : expr_Expr_begins_Rec) (a0 : List ExprNode) (a1 : Int) : Option (Int) :=
  expr_Expr_begins_l0 R a0 a1
noncomputable def expr_Expr_begins_rec : Nat → expr_Expr_begins_Rec
  | 0 => ⟨fun _ _ => none⟩
  | k + 1 => ⟨expr_Expr_begins_F (expr_Expr_begins_rec k)⟩
noncomputable def expr_Expr_begins (a0 : List ExprNode) (a1 : Int) : Option (Int) := lim? fun k => (expr_Expr_begins_rec k).expr_Expr_begins a0 a1
theorem expr_Expr_begins_lm {R : Nat → expr_Expr_begins_Rec} {W : expr_Expr_begins_Rec} (h30 : ∀ (a0 : List ExprNode) (a1 : Int), Lm (fun k => (R k).expr_Expr_begins a0 a1) (W.expr_Expr_begins a0 a1)) (a0 : List ExprNode) (a1 : Int) : Lm (fun k => expr_Expr_begins_F (R k) a0 a1) (expr_Expr_begins_F W a0 a1) := by
  simp only [expr_Expr_begins_F, expr_Expr_begins_l0, expr_Expr_begins_l0_step]
  repeat' first | exact Lm.const _ | exact h30 _ _ | apply Lm.jn | apply Lm.bind | apply Lm.map | apply Lm.ite | apply Lm.run | intro _
noncomputable def expr_Expr_begins_W : expr_Expr_begins_Rec := ⟨expr_Expr_begins⟩
theorem expr_Expr_begins_mono : ∀ k, (∀ a0 a1 r, (expr_Expr_begins_rec k).expr_Expr_begins a0 a1 = some r → (expr_Expr_begins_rec (k + 1)).expr_Expr_begins a0 a1 = some r)
  | 0 => fun _ _ _ h => (by cases h)
  | k + 1 => by
    obtain m30 := expr_Expr_begins_mono k
    have key : ∀ (f : expr_Expr_begins_Rec → Option Unit), True := fun _ => trivial
    have l30 : ∀ a0 a1, Lm (fun j => ((fun j => if j = 0 then expr_Expr_begins_rec k else expr_Expr_begins_rec (k + 1)) j).expr_Expr_begins a0 a1) ((expr_Expr_begins_rec (k + 1)).expr_Expr_begins a0 a1) := fun _ _ => Lm.step (m30 _ _) (fun j => by by_cases hj : j = 0 <;> simp [hj])
    exact fun a0 a1 r h => (expr_Expr_begins_lm l30 a0 a1).2 0 r h
theorem expr_Expr_begins_lim (a0 : List ExprNode) (a1 : Int) : Lm (fun k => (expr_Expr_begins_rec k).expr_Expr_begins a0 a1) (expr_Expr_begins a0 a1) := lim_Lm fun k => (expr_Expr_begins_mono k) a0 a1
theorem expr_Expr_begins_eq (a0 : List ExprNode) (a1 : Int) : expr_Expr_begins a0 a1 = expr_Expr_begins_F expr_Expr_begins_W a0 a1 := Lm.uniq (expr_Expr_begins_lim a0 a1) (expr_Expr_begins_lm (R := expr_Expr_begins_rec) (W := expr_Expr_begins_W) expr_Expr_begins_lim a0 a1)
noncomputable def expr_Expr_Right_l1_step (a0 : List ExprNode) (s2 : Int) : Option ((Int) ⊕ (((List ExprNode)) ⊕ (Bool))) :=
  if s2 < (a0.length : Int) then
    (idx a0 s2).bind fun x3 =>
    (expr_Node_right x3 s2).bind fun r4 =>
    if r4 then
      some (.inl ((IntKind.i64.wrap (s2 + 1))))
    else
      some (.inr (.inr false))
  else
    some (.inr (.inl a0))
noncomputable def expr_Expr_Right_l1 (a0 : List ExprNode) (s2 : Int) : Option (((List ExprNode)) ⊕ (Bool)) := run (expr_Expr_Right_l1_step a0) s2
noncomputable def expr_Expr_Right_j0 (a0 : List ExprNode) : Option (((List ExprNode)) ⊕ (Bool)) :=
  expr_Expr_Right_l1 a0 0
noncomputable def expr_Expr_Right (a0 : List ExprNode) : Option (Bool) :=
  if ((a0.length : Int) == 0) then
    some false
  else
    if 32 < (a0.length : Int) then
      some false
    else
      jn (expr_Expr_Right_j0 a0) fun s1 =>
      (expr_Expr_begins s1 ((IntKind.i64.wrap ((s1.length : Int) - 1)))).bind fun r5 =>
      if (r5 == 0) then
        (expr_Expr_Size s1).bind fun r6 =>
        some (r6 == 0)
      else
        some false
noncomputable def tok_Event (a0 : List UInt8) : Option (Bool) :=
  (tok_Lex a0).bind fun r1 =>
  if (r1.2.1 == 0) then
    if ((r1.1.length : Int) == 1) then
      (idx r1.1 0).bind fun x2 =>
      if (x2.Kind == 1) then
        some (x2.Text == a0)
      else
        if (x2.Kind == 2) then
          some (x2.Text == a0)
        else
          some false
    else
      some false
  else
    some false
noncomputable def act_Event (a0 : List UInt8) : Option (Bool) :=
  (tok_Event a0).bind fun r1 =>
  if r1 then
    (tok_Means a0).bind fun r2 =>
    some (!r2)
  else
    some false
noncomputable def act_Act_Right (a0 : ActAct) : Option (Bool) :=
  if 0 < (a0.If.length : Int) then
    (expr_Expr_Right a0.If).bind fun r1 =>
    if r1 then
      if (a0.Kind == 1) then
        (tok_Name a0.Name).bind fun r2 =>
        if r2 then
          (expr_Expr_Right a0.X).bind fun r3 =>
          if r3 then
            some (a0.N == 0)
          else
            some false
        else
          some false
      else
        if (a0.Kind == 5) then
          if (a0.Name == []) then
            (expr_Expr_Right a0.X).bind fun r4 =>
            if r4 then
              some (a0.N == 0)
            else
              some false
          else
            some false
        else
          if (a0.Kind == 2) then
            (act_Event a0.Name).bind fun r5 =>
            if r5 then
              if ((a0.X.length : Int) == 0) then
                some (a0.N == 0)
              else
                some false
            else
              some false
          else
            if (a0.Kind == 4) then
              (act_Event a0.Name).bind fun r6 =>
              if r6 then
                if ((a0.X.length : Int) == 0) then
                  some (a0.N == 0)
                else
                  some false
              else
                some false
            else
              if (a0.Kind == 3) then
                (act_Event a0.Name).bind fun r7 =>
                if r7 then
                  if ((a0.X.length : Int) == 0) then
                    if 0 ≤ a0.N then
                      some ((decide (a0.N ≤ 1048576)))
                    else
                      some false
                  else
                    some false
                else
                  some false
              else
                some false
    else
      some false
  else
    if (a0.Kind == 1) then
      (tok_Name a0.Name).bind fun r8 =>
      if r8 then
        (expr_Expr_Right a0.X).bind fun r9 =>
        if r9 then
          some (a0.N == 0)
        else
          some false
      else
        some false
    else
      if (a0.Kind == 5) then
        if (a0.Name == []) then
          (expr_Expr_Right a0.X).bind fun r10 =>
          if r10 then
            some (a0.N == 0)
          else
            some false
        else
          some false
      else
        if (a0.Kind == 2) then
          (act_Event a0.Name).bind fun r11 =>
          if r11 then
            if ((a0.X.length : Int) == 0) then
              some (a0.N == 0)
            else
              some false
          else
            some false
        else
          if (a0.Kind == 4) then
            (act_Event a0.Name).bind fun r12 =>
            if r12 then
              if ((a0.X.length : Int) == 0) then
                some (a0.N == 0)
              else
                some false
            else
              some false
          else
            if (a0.Kind == 3) then
              (act_Event a0.Name).bind fun r13 =>
              if r13 then
                if ((a0.X.length : Int) == 0) then
                  if 0 ≤ a0.N then
                    some ((decide (a0.N ≤ 1048576)))
                  else
                    some false
                else
                  some false
              else
                some false
            else
              some false
noncomputable def wlaw06_anchor : Option (Bool) :=
  (tok_Lex [115, 101, 116, 32, 120, 32, 120, 43, 49, 59, 105, 102, 32, 120, 62, 51, 58, 114, 97, 105, 115, 101, 32, 98, 105, 103]).bind fun r0 =>
  (act_Take r0.1 0).bind fun r1 =>
  if (r1.2.2 == 0) then
    if (r1.2.1 == (r0.1.length : Int)) then
      if ((r1.1.length : Int) == 2) then
        (act_Show r1.1).bind fun r2 =>
        if (r2 == [115, 101, 116, 32, 120, 32, 120, 32, 43, 32, 49, 32, 59, 32, 105, 102, 32, 120, 32, 62, 32, 51, 32, 58, 32, 114, 97, 105, 115, 101, 32, 98, 105, 103]) then
          (idx r1.1 1).bind fun x3 =>
          (act_Act_Right (ActAct.mk x3.Kind x3.If x3.Name x3.X x3.N)).bind fun r4 =>
          some r4
        else
          some false
      else
        some false
    else
      some false
  else
    some false
noncomputable def wlaw06_nodes_l0_step (a0 : List ExprNode) (s1 : (List Wref03N) × Int) : Option (((List Wref03N) × Int) ⊕ ((List Wref03N))) :=
  if s1.2 < (a0.length : Int) then
    (idx a0 s1.2).bind fun x2 =>
    (app 72 s1.1 [(Wref03N.mk x2.Op (Wref01V.mk x2.V.Kind x2.V.N x2.V.S) x2.Name x2.L x2.R)]).bind fun l3 =>
    some (.inl ((l3, (IntKind.i64.wrap (s1.2 + 1)))))
  else
    some (.inr s1.1)
noncomputable def wlaw06_nodes_l0 (a0 : List ExprNode) (s1 : (List Wref03N) × Int) : Option ((List Wref03N)) := run (wlaw06_nodes_l0_step a0) s1
noncomputable def wlaw06_nodes (a0 : List ExprNode) : Option ((List Wref03N)) :=
  wlaw06_nodes_l0 a0 ((([] : List Wref03N), 0))
noncomputable def wlaw06_refs_l0_step (a0 : List ActAct) (s1 : (List Wref06A) × Int) : Option (((List Wref06A) × Int) ⊕ ((List Wref06A))) :=
  if s1.2 < (a0.length : Int) then
    (idx a0 s1.2).bind fun x2 =>
    (wlaw06_nodes x2.If).bind fun r3 =>
    (wlaw06_nodes x2.X).bind fun r4 =>
    (app 80 s1.1 [(Wref06A.mk x2.Kind r3 x2.Name r4 x2.N)]).bind fun l5 =>
    some (.inl ((l5, (IntKind.i64.wrap (s1.2 + 1)))))
  else
    some (.inr s1.1)
noncomputable def wlaw06_refs_l0 (a0 : List ActAct) (s1 : (List Wref06A) × Int) : Option ((List Wref06A)) := run (wlaw06_refs_l0_step a0) s1
noncomputable def wlaw06_refs (a0 : List ActAct) : Option ((List Wref06A)) :=
  wlaw06_refs_l0 a0 ((([] : List Wref06A), 0))
noncomputable def wlaw06_alike_l0_step (a0 : List Wref03N) (a1 : List Wref03N) (s2 : Int) : Option ((Int) ⊕ (Bool)) :=
  if s2 < (a0.length : Int) then
    (idx a0 s2).bind fun x3 =>
    (idx a1 s2).bind fun x4 =>
    if (!((x3.Op == x4.Op) && ((x3.V.Kind == x4.V.Kind) && ((x3.V.N == x4.V.N) && ((x3.V.S == x4.V.S) && ((x3.Name == x4.Name) && ((x3.L == x4.L) && (x3.R == x4.R)))))))) then
      some (.inr false)
    else
      some (.inl ((IntKind.i64.wrap (s2 + 1))))
  else
    some (.inr true)
noncomputable def wlaw06_alike_l0 (a0 : List Wref03N) (a1 : List Wref03N) (s2 : Int) : Option (Bool) := run (wlaw06_alike_l0_step a0 a1) s2
noncomputable def wlaw06_alike (a0 : List Wref03N) (a1 : List Wref03N) : Option (Bool) :=
  if ((a0.length : Int) != (a1.length : Int)) then
    some false
  else
    wlaw06_alike_l0 a0 a1 0
noncomputable def wlaw06_same_l0_step (a1 : List Wref06A) (r2 : (List Wref06A)) (s3 : Int) : Option ((Int) ⊕ (Bool)) :=
  if s3 < (r2.length : Int) then
    (idx r2 s3).bind fun x4 =>
    (idx a1 s3).bind fun x5 =>
    if (x4.Kind != x5.Kind) then
      some (.inr false)
    else
      if (x4.Name == x5.Name) then
        if (x4.N != x5.N) then
          some (.inr false)
        else
          (wlaw06_alike x4.If x5.If).bind fun r6 =>
          if r6 then
            (wlaw06_alike x4.X x5.X).bind fun r7 =>
            if r7 then
              some (.inl ((IntKind.i64.wrap (s3 + 1))))
            else
              some (.inr false)
          else
            some (.inr false)
      else
        some (.inr false)
  else
    some (.inr true)
noncomputable def wlaw06_same_l0 (a1 : List Wref06A) (r2 : (List Wref06A)) (s3 : Int) : Option (Bool) := run (wlaw06_same_l0_step a1 r2) s3
noncomputable def wlaw06_same (a0 : List ActAct) (a1 : List Wref06A) : Option (Bool) :=
  if ((a0.length : Int) != (a1.length : Int)) then
    some false
  else
    (wlaw06_refs a0).bind fun r2 =>
    wlaw06_same_l0 a1 r2 0
noncomputable def wlaw06_ActRows (a0 : List UInt8) (a1 : List UInt8) : Option (Bool) :=
  (wlaw06_anchor).bind fun r2 =>
  if r2 then
    if 400 < (a0.length : Int) then
      some true
    else
      if 400 < (a1.length : Int) then
        some true
      else
        (tok_Lex a0).bind fun r3 =>
        (tok_Lex a1).bind fun r4 =>
        (cat a0 [32, 59, 32]).bind fun s5 =>
        (cat s5 a1).bind fun s6 =>
        (tok_Lex s6).bind fun r7 =>
        if (r3.2.1 != 0) then
          some true
        else
          if (r4.2.1 != 0) then
            some true
          else
            if (r7.2.1 != 0) then
              some true
            else
              (act_Take r3.1 0).bind fun r8 =>
              (act_Take r4.1 0).bind fun r9 =>
              (act_Take r7.1 0).bind fun r10 =>
              if (r8.2.2 != 0) then
                some true
              else
                if (r9.2.2 != 0) then
                  some true
                else
                  if (r8.2.1 != (r3.1.length : Int)) then
                    some true
                  else
                    if 8 < (IntKind.i64.wrap ((r8.1.length : Int) + (r9.1.length : Int))) then
                      if (r10.2.2 == 13) then
                        some (r10.2.1 == 0)
                      else
                        some false
                    else
                      if (r10.2.2 == 0) then
                        if (r10.2.1 == (IntKind.i64.wrap ((IntKind.i64.wrap (r8.2.1 + 1)) + r9.2.1))) then
                          (wlaw06_refs r8.1).bind fun r11 =>
                          (wlaw06_refs r9.1).bind fun r12 =>
                          (app 80 r11 r12).bind fun l13 =>
                          (wlaw06_same r10.1 l13).bind fun r14 =>
                          some r14
                        else
                          some false
                      else
                        some false
  else
    some false
end Go.Proofs.YtilmjbljkkbakaaDoor
