/-
  A part of the proof: lemmas.
-/
import Derived.Test.YtilmjbljkkbakaaGreatDoorE
set_option linter.unusedSimpArgs false
set_option linter.unusedVariables false
set_option linter.unusedSectionVars false
set_option linter.unnecessarySimpa false
set_option linter.deprecated false
/-! The program's data, and its functions over plain data. -/
namespace Go.Proofs.YtilmjbljkkbakaaGreatDoor
open Go.Wv
set_option linter.unusedSimpArgs false
set_option linter.unusedVariables false
def tab1 : List (List UInt8) := [[], [108, 111, 97, 100], [105, 109, 112, 111, 114, 116], [101, 120, 112, 111, 114, 116], [115, 104, 111, 119], [98, 114, 101, 97, 107, 115], [119, 97, 116, 99, 104, 101, 115], [98, 114, 97, 110, 99, 104, 101, 115], [99, 111, 118, 101, 114], [108, 105, 110, 116], [115, 116, 101, 112], [98, 97, 99, 107], [114, 117, 110], [114, 98, 97, 99, 107], [106, 117, 109, 112], [116, 105, 99, 107], [98, 114, 97, 110, 99, 104], [117, 110, 98, 114, 101, 97, 107], [101, 110, 97, 98, 108, 101], [100, 105, 115, 97, 98, 108, 101], [117, 110, 119, 97, 116, 99, 104], [100, 105, 102, 102], [99, 97, 112, 115], [115, 101, 110, 100], [98, 114, 101, 97, 107], [119, 97, 116, 99, 104]]
def tab2 : List (List UInt8) := [[], [115, 116, 97, 116, 101], [116, 114, 97, 110, 115], [119, 104, 101, 110]]
def tab3 : List (List UInt8) := [[60, 61], [62, 61], [33, 61], [40], [41], [59], [58], [43], [45], [42], [47], [37], [60], [62], [61]]
def tabF25 : List (List UInt8) := [[], [108, 111, 97, 100], [105, 109, 112, 111, 114, 116], [101, 120, 112, 111, 114, 116], [115, 104, 111, 119], [98, 114, 101, 97, 107, 115], [119, 97, 116, 99, 104, 101, 115], [98, 114, 97, 110, 99, 104, 101, 115], [99, 111, 118, 101, 114], [108, 105, 110, 116], [115, 116, 101, 112], [98, 97, 99, 107], [114, 117, 110], [114, 98, 97, 99, 107], [106, 117, 109, 112], [116, 105, 99, 107], [98, 114, 97, 110, 99, 104], [117, 110, 98, 114, 101, 97, 107], [101, 110, 97, 98, 108, 101], [100, 105, 115, 97, 98, 108, 101], [117, 110, 119, 97, 116, 99, 104], [100, 105, 102, 102], [99, 97, 112, 115], [115, 101, 110, 100], [98, 114, 101, 97, 107], [119, 97, 116, 99, 104]]
structure ValValue where
  Kind : Int
  N : Int
  S : List UInt8
  deriving DecidableEq, Inhabited
def ValValue.en : En ValValue := ⟨fun x => .agg [.lit (.int .i64 x.Kind), .lit (.int .i64 x.N), .lit (.string (bs x.S))], 3, fun _ => rfl, fun _ => rfl, fun _ _ => rfl, fun _ => rfl, fun _ => rfl⟩
@[go_sem] theorem ValValue.en_enc (x : ValValue) : ValValue.en.enc x = .agg [.lit (.int .i64 x.Kind), .lit (.int .i64 x.N), .lit (.string (bs x.S))] := rfl
@[go_sem] theorem ValValue.en_sz : ValValue.en.sz = 3 := rfl
structure ExprNode where
  Op : Int
  V : ValValue
  Name : List UInt8
  L : Int
  R : Int
  deriving DecidableEq, Inhabited
def ExprNode.en : En ExprNode := ⟨fun x => .agg [.lit (.int .i64 x.Op), .lit (.int .i64 x.V.Kind), .lit (.int .i64 x.V.N), .lit (.string (bs x.V.S)), .lit (.string (bs x.Name)), .lit (.int .i64 x.L), .lit (.int .i64 x.R)], 7, fun _ => rfl, fun _ => rfl, fun _ _ => rfl, fun _ => rfl, fun _ => rfl⟩
@[go_sem] theorem ExprNode.en_enc (x : ExprNode) : ExprNode.en.enc x = .agg [.lit (.int .i64 x.Op), .lit (.int .i64 x.V.Kind), .lit (.int .i64 x.V.N), .lit (.string (bs x.V.S)), .lit (.string (bs x.Name)), .lit (.int .i64 x.L), .lit (.int .i64 x.R)] := rfl
@[go_sem] theorem ExprNode.en_sz : ExprNode.en.sz = 7 := rfl
structure BrkBreak where
  Kind : Int
  Name : List UInt8
  N : Int
  If : List ExprNode
  Off : Bool
  deriving DecidableEq, Inhabited
def BrkBreak.en : En BrkBreak := ⟨fun x => .agg [.lit (.int .i64 x.Kind), .lit (.string (bs x.Name)), .lit (.int .i64 x.N), .sl .view (x.If.map ExprNode.en.enc), .lit (.bool x.Off)], 5, fun _ => rfl, fun _ => rfl, fun _ _ => rfl, fun _ => rfl, fun _ => rfl⟩
@[go_sem] theorem BrkBreak.en_enc (x : BrkBreak) : BrkBreak.en.enc x = .agg [.lit (.int .i64 x.Kind), .lit (.string (bs x.Name)), .lit (.int .i64 x.N), .sl .view (x.If.map ExprNode.en.enc), .lit (.bool x.Off)] := rfl
@[go_sem] theorem BrkBreak.en_sz : BrkBreak.en.sz = 5 := rfl
structure CmdCommand where
  Kind : Int
  N : List Int
  Name : List UInt8
  Break : BrkBreak
  Watch : List ExprNode
  deriving DecidableEq, Inhabited
def CmdCommand.en : En CmdCommand := ⟨fun x => .agg [.lit (.int .i64 x.Kind), .sl .view (x.N.map (En.int .i64).enc), .lit (.string (bs x.Name)), .lit (.int .i64 x.Break.Kind), .lit (.string (bs x.Break.Name)), .lit (.int .i64 x.Break.N), .sl .view (x.Break.If.map ExprNode.en.enc), .lit (.bool x.Break.Off), .sl .view (x.Watch.map ExprNode.en.enc)], 9, fun _ => rfl, fun _ => rfl, fun _ _ => rfl, fun _ => rfl, fun _ => rfl⟩
@[go_sem] theorem CmdCommand.en_enc (x : CmdCommand) : CmdCommand.en.enc x = .agg [.lit (.int .i64 x.Kind), .sl .view (x.N.map (En.int .i64).enc), .lit (.string (bs x.Name)), .lit (.int .i64 x.Break.Kind), .lit (.string (bs x.Break.Name)), .lit (.int .i64 x.Break.N), .sl .view (x.Break.If.map ExprNode.en.enc), .lit (.bool x.Break.Off), .sl .view (x.Watch.map ExprNode.en.enc)] := rfl
@[go_sem] theorem CmdCommand.en_sz : CmdCommand.en.sz = 9 := rfl
structure TokToken where
  Kind : Int
  Text : List UInt8
  N : Int
  At : Int
  deriving DecidableEq, Inhabited
def TokToken.en : En TokToken := ⟨fun x => .agg [.lit (.int .i64 x.Kind), .lit (.string (bs x.Text)), .lit (.int .i64 x.N), .lit (.int .i64 x.At)], 4, fun _ => rfl, fun _ => rfl, fun _ _ => rfl, fun _ => rfl, fun _ => rfl⟩
@[go_sem] theorem TokToken.en_enc (x : TokToken) : TokToken.en.enc x = .agg [.lit (.int .i64 x.Kind), .lit (.string (bs x.Text)), .lit (.int .i64 x.N), .lit (.int .i64 x.At)] := rfl
@[go_sem] theorem TokToken.en_sz : TokToken.en.sz = 4 := rfl
structure TokReader where
  s : List UInt8
  at_ : Int
  deriving DecidableEq, Inhabited
def TokReader.en : En TokReader := ⟨fun x => .agg [.lit (.string (bs x.s)), .lit (.int .i64 x.at_)], 2, fun _ => rfl, fun _ => rfl, fun _ _ => rfl, fun _ => rfl, fun _ => rfl⟩
@[go_sem] theorem TokReader.en_enc (x : TokReader) : TokReader.en.enc x = .agg [.lit (.string (bs x.s)), .lit (.int .i64 x.at_)] := rfl
@[go_sem] theorem TokReader.en_sz : TokReader.en.sz = 2 := rfl
structure ExprParser where
  l : List TokToken
  at_ : Int
  e : List ExprNode
  deriving DecidableEq, Inhabited
def ExprParser.en : En ExprParser := ⟨fun x => .agg [.sl .view (x.l.map TokToken.en.enc), .lit (.int .i64 x.at_), .sl .view (x.e.map ExprNode.en.enc)], 3, fun _ => rfl, fun _ => rfl, fun _ _ => rfl, fun _ => rfl, fun _ => rfl⟩
@[go_sem] theorem ExprParser.en_enc (x : ExprParser) : ExprParser.en.enc x = .agg [.sl .view (x.l.map TokToken.en.enc), .lit (.int .i64 x.at_), .sl .view (x.e.map ExprNode.en.enc)] := rfl
@[go_sem] theorem ExprParser.en_sz : ExprParser.en.sz = 3 := rfl
structure ExprLevel where
  signs : List (List UInt8)
  ops : List Int
  once : Bool
  deriving DecidableEq, Inhabited
def ExprLevel.en : En ExprLevel := ⟨fun x => .agg [.sl .view (x.signs.map En.str.enc), .sl .view (x.ops.map (En.int .i64).enc), .lit (.bool x.once)], 3, fun _ => rfl, fun _ => rfl, fun _ _ => rfl, fun _ => rfl, fun _ => rfl⟩
@[go_sem] theorem ExprLevel.en_enc (x : ExprLevel) : ExprLevel.en.enc x = .agg [.sl .view (x.signs.map En.str.enc), .sl .view (x.ops.map (En.int .i64).enc), .lit (.bool x.once)] := rfl
@[go_sem] theorem ExprLevel.en_sz : ExprLevel.en.sz = 3 := rfl
structure CmdForm where
  count : Int
  least : Int
  most : Int
  without : Int
  deriving DecidableEq, Inhabited
def CmdForm.en : En CmdForm := ⟨fun x => .agg [.lit (.int .i64 x.count), .lit (.int .i64 x.least), .lit (.int .i64 x.most), .lit (.int .i64 x.without)], 4, fun _ => rfl, fun _ => rfl, fun _ _ => rfl, fun _ => rfl, fun _ => rfl⟩
@[go_sem] theorem CmdForm.en_enc (x : CmdForm) : CmdForm.en.enc x = .agg [.lit (.int .i64 x.count), .lit (.int .i64 x.least), .lit (.int .i64 x.most), .lit (.int .i64 x.without)] := rfl
@[go_sem] theorem CmdForm.en_sz : CmdForm.en.sz = 4 := rfl
def stringslite_Index (a0 : List UInt8) (a1 : List UInt8) : Option (Int) := indexP a0 a1
noncomputable def internal_stringslite_Cut (a0 : List UInt8) (a1 : List UInt8) : Option ((List UInt8) × (List UInt8) × Bool) :=
  (stringslite_Index a0 a1).bind fun r2 =>
  if 0 ≤ r2 then
    (subT a0 r2).bind fun m3 =>
    (subF a0 ((IntKind.i64.wrap (r2 + (a1.length : Int))))).bind fun m4 =>
    some (m3, m4, true)
  else
    some (a0, [], false)
noncomputable def strings_Cut (a0 : List UInt8) (a1 : List UInt8) : Option ((List UInt8) × (List UInt8) × Bool) :=
  (internal_stringslite_Cut a0 a1).bind fun r2 =>
  some (r2.1, r2.2.1, r2.2.2)
noncomputable def cmd_kindOf_l0_step (a0 : List UInt8) (s1 : Int) : Option ((Int) ⊕ (Int)) :=
  if s1 ≤ 25 then
    (inM 26 s1).bind fun j2 =>
    (tab1[j2]?).bind fun x3 =>
    if (x3 == a0) then
      some (.inr s1)
    else
      some (.inl ((IntKind.i64.wrap (s1 + 1))))
  else
    some (.inr 0)
noncomputable def cmd_kindOf_l0 (a0 : List UInt8) (s1 : Int) : Option (Int) := run (cmd_kindOf_l0_step a0) s1
noncomputable def cmd_kindOf (a0 : List UInt8) : Option (Int) :=
  cmd_kindOf_l0 a0 1
noncomputable def tok_Lex_1 (a0 : Int) : Option (Bool) :=
  some (a0 == 32)
noncomputable def tok_reader_while_at55_l0_step (p0 : TokReader) (s1 : Int) : Option ((Int) ⊕ ((List UInt8) × TokReader)) :=
  if s1 < (p0.s.length : Int) then
    (idx p0.s s1).bind fun c2 =>
    (tok_Lex_1 (c2.toNat : Int)).bind fun r3 =>
    if r3 then
      some (.inl ((IntKind.i64.wrap (s1 + 1))))
    else
      (sub p0.s p0.at_ s1).bind fun m4 =>
      some (.inr ((m4, (TokReader.mk p0.s s1))))
  else
    (sub p0.s p0.at_ s1).bind fun m5 =>
    some (.inr ((m5, (TokReader.mk p0.s s1))))
noncomputable def tok_reader_while_at55_l0 (p0 : TokReader) (s1 : Int) : Option ((List UInt8) × TokReader) := run (tok_reader_while_at55_l0_step p0) s1
noncomputable def tok_reader_while_at55 (p0 : TokReader) : Option ((List UInt8) × TokReader) :=
  tok_reader_while_at55_l0 p0 p0.at_
noncomputable def tok_small (a0 : Int) : Option (Bool) :=
  if 97 ≤ a0 then
    some ((decide (a0 ≤ 122)))
  else
    some false
noncomputable def tok_digit (a0 : Int) : Option (Bool) :=
  if 48 ≤ a0 then
    some ((decide (a0 ≤ 57)))
  else
    some false
noncomputable def tok_reader_word_1 (a0 : Int) : Option (Bool) :=
  (tok_small a0).bind fun r1 =>
  if r1 then
    some true
  else
    (tok_digit a0).bind fun r2 =>
    if r2 then
      some true
    else
      some (a0 == 95)
noncomputable def tok_reader_while_at153_l0_step (p0 : TokReader) (s1 : Int) : Option ((Int) ⊕ ((List UInt8) × TokReader)) :=
  if s1 < (p0.s.length : Int) then
    (idx p0.s s1).bind fun c2 =>
    (tok_reader_word_1 (c2.toNat : Int)).bind fun r3 =>
    if r3 then
      some (.inl ((IntKind.i64.wrap (s1 + 1))))
    else
      (sub p0.s p0.at_ s1).bind fun m4 =>
      some (.inr ((m4, (TokReader.mk p0.s s1))))
  else
    (sub p0.s p0.at_ s1).bind fun m5 =>
    some (.inr ((m5, (TokReader.mk p0.s s1))))
noncomputable def tok_reader_while_at153_l0 (p0 : TokReader) (s1 : Int) : Option ((List UInt8) × TokReader) := run (tok_reader_while_at153_l0_step p0) s1
noncomputable def tok_reader_while_at153 (p0 : TokReader) : Option ((List UInt8) × TokReader) :=
  tok_reader_while_at153_l0 p0 p0.at_
noncomputable def tok_reader_word (p0 : TokReader) : Option ((List UInt8) × TokReader) :=
  (tok_reader_while_at153 p0).bind fun r1 =>
  some (r1.1, r1.2)
noncomputable def tok_reader_path_l0_step (r1 : (List UInt8) × TokReader) (s2 : Int × (List UInt8) × (List UInt8) × Int) : Option ((Int × (List UInt8) × (List UInt8) × Int) ⊕ (TokToken × Int × TokReader)) :=
  if (IntKind.i64.wrap (s2.2.2.2 + 1)) < (s2.2.2.1.length : Int) then
    (idx s2.2.2.1 s2.2.2.2).bind fun c3 =>
    if ((c3.toNat : Int) == 46) then
      (idx s2.2.2.1 ((IntKind.i64.wrap (s2.2.2.2 + 1)))).bind fun c4 =>
      (tok_small (c4.toNat : Int)).bind fun r5 =>
      if r5 then
        (tok_reader_word ((TokReader.mk s2.2.2.1 ((IntKind.i64.wrap (s2.2.2.2 + 1)))))).bind fun r6 =>
        (cat [46] r6.1).bind fun s7 =>
        (cat s2.2.1 s7).bind fun s8 =>
        if 16 < (r6.1.length : Int) then
          some (.inr (((TokToken.mk 2 s8 0 r1.2.at_), 15, r6.2)))
        else
          some (.inl (2, s8, r6.2.s, r6.2.at_))
      else
        if 32 < (s2.2.1.length : Int) then
          some (.inr (((TokToken.mk s2.1 s2.2.1 0 r1.2.at_), 15, (TokReader.mk s2.2.2.1 s2.2.2.2))))
        else
          some (.inr (((TokToken.mk s2.1 s2.2.1 0 r1.2.at_), 0, (TokReader.mk s2.2.2.1 s2.2.2.2))))
    else
      if 32 < (s2.2.1.length : Int) then
        some (.inr (((TokToken.mk s2.1 s2.2.1 0 r1.2.at_), 15, (TokReader.mk s2.2.2.1 s2.2.2.2))))
      else
        some (.inr (((TokToken.mk s2.1 s2.2.1 0 r1.2.at_), 0, (TokReader.mk s2.2.2.1 s2.2.2.2))))
  else
    if 32 < (s2.2.1.length : Int) then
      some (.inr (((TokToken.mk s2.1 s2.2.1 0 r1.2.at_), 15, (TokReader.mk s2.2.2.1 s2.2.2.2))))
    else
      some (.inr (((TokToken.mk s2.1 s2.2.1 0 r1.2.at_), 0, (TokReader.mk s2.2.2.1 s2.2.2.2))))
noncomputable def tok_reader_path_l0 (r1 : (List UInt8) × TokReader) (s2 : Int × (List UInt8) × (List UInt8) × Int) : Option (TokToken × Int × TokReader) := run (tok_reader_path_l0_step r1) s2
noncomputable def tok_reader_path (p0 : TokReader) : Option (TokToken × Int × TokReader) :=
  (tok_reader_word p0).bind fun r1 =>
  if 16 < (r1.1.length : Int) then
    some (((TokToken.mk 1 r1.1 0 r1.2.at_), 15, r1.2))
  else
    tok_reader_path_l0 r1 (1, r1.1, r1.2.s, r1.2.at_)
noncomputable def tok_reader_while_at94_l0_step (p0 : TokReader) (s1 : Int) : Option ((Int) ⊕ ((List UInt8) × TokReader)) :=
  if s1 < (p0.s.length : Int) then
    (idx p0.s s1).bind fun c2 =>
    (tok_digit (c2.toNat : Int)).bind fun r3 =>
    if r3 then
      some (.inl ((IntKind.i64.wrap (s1 + 1))))
    else
      (sub p0.s p0.at_ s1).bind fun m4 =>
      some (.inr ((m4, (TokReader.mk p0.s s1))))
  else
    (sub p0.s p0.at_ s1).bind fun m5 =>
    some (.inr ((m5, (TokReader.mk p0.s s1))))
noncomputable def tok_reader_while_at94_l0 (p0 : TokReader) (s1 : Int) : Option ((List UInt8) × TokReader) := run (tok_reader_while_at94_l0_step p0) s1
noncomputable def tok_reader_while_at94 (p0 : TokReader) : Option ((List UInt8) × TokReader) :=
  tok_reader_while_at94_l0 p0 p0.at_
noncomputable def tok_reader_number_l0_step (r1 : (List UInt8) × TokReader) (b3 : List Int) (s4 : Int × Int) : Option ((Int × Int) ⊕ (TokToken × Int × TokReader)) :=
  if s4.2 < (b3.length : Int) then
    (idx b3 s4.2).bind fun x5 =>
    (quo .i64 ((IntKind.i64.wrap (9223372036854775807 - (IntKind.i64.wrap ((IntKind.u8.wrap (x5 - 48))))))) 10).bind fun q6 =>
    if q6 < s4.1 then
      some (.inr (((TokToken.mk 0 [] 0 0), 21, r1.2)))
    else
      some (.inl (((IntKind.i64.wrap ((IntKind.i64.wrap (s4.1 * 10)) + (IntKind.i64.wrap ((IntKind.u8.wrap (x5 - 48)))))), (IntKind.i64.wrap (s4.2 + 1)))))
  else
    some (.inr (((TokToken.mk 3 r1.1 s4.1 0), 0, r1.2)))
noncomputable def tok_reader_number_l0 (r1 : (List UInt8) × TokReader) (b3 : List Int) (s4 : Int × Int) : Option (TokToken × Int × TokReader) := run (tok_reader_number_l0_step r1 b3) s4
noncomputable def tok_reader_number_l1_step (r1 : (List UInt8) × TokReader) (b7 : List Int) (s8 : Int × Int) : Option ((Int × Int) ⊕ (TokToken × Int × TokReader)) :=
  if s8.2 < (b7.length : Int) then
    (idx b7 s8.2).bind fun x9 =>
    (quo .i64 ((IntKind.i64.wrap (9223372036854775807 - (IntKind.i64.wrap ((IntKind.u8.wrap (x9 - 48))))))) 10).bind fun q10 =>
    if q10 < s8.1 then
      some (.inr (((TokToken.mk 0 [] 0 0), 21, r1.2)))
    else
      some (.inl (((IntKind.i64.wrap ((IntKind.i64.wrap (s8.1 * 10)) + (IntKind.i64.wrap ((IntKind.u8.wrap (x9 - 48)))))), (IntKind.i64.wrap (s8.2 + 1)))))
  else
    some (.inr (((TokToken.mk 3 r1.1 s8.1 0), 0, r1.2)))
noncomputable def tok_reader_number_l1 (r1 : (List UInt8) × TokReader) (b7 : List Int) (s8 : Int × Int) : Option (TokToken × Int × TokReader) := run (tok_reader_number_l1_step r1 b7) s8
noncomputable def tok_reader_number (p0 : TokReader) : Option (TokToken × Int × TokReader) :=
  (tok_reader_while_at94 p0).bind fun r1 =>
  if 1 < (r1.1.length : Int) then
    (idx r1.1 0).bind fun c2 =>
    if ((c2.toNat : Int) == 48) then
      some (((TokToken.mk 0 [] 0 0), 11, r1.2))
    else
      (byts r1.1).bind fun b3 =>
      tok_reader_number_l0 r1 b3 (0, 0)
  else
    (byts r1.1).bind fun b7 =>
    tok_reader_number_l1 r1 b7 (0, 0)
noncomputable def tok_reader_quote_1 (a0 : Int) : Option (Bool) :=
  some (a0 != 39)
noncomputable def tok_reader_while_at128_l0_step (p0 : TokReader) (s1 : Int) : Option ((Int) ⊕ ((List UInt8) × TokReader)) :=
  if s1 < (p0.s.length : Int) then
    (idx p0.s s1).bind fun c2 =>
    (tok_reader_quote_1 (c2.toNat : Int)).bind fun r3 =>
    if r3 then
      some (.inl ((IntKind.i64.wrap (s1 + 1))))
    else
      (sub p0.s p0.at_ s1).bind fun m4 =>
      some (.inr ((m4, (TokReader.mk p0.s s1))))
  else
    (sub p0.s p0.at_ s1).bind fun m5 =>
    some (.inr ((m5, (TokReader.mk p0.s s1))))
noncomputable def tok_reader_while_at128_l0 (p0 : TokReader) (s1 : Int) : Option ((List UInt8) × TokReader) := run (tok_reader_while_at128_l0_step p0) s1
noncomputable def tok_reader_while_at128 (p0 : TokReader) : Option ((List UInt8) × TokReader) :=
  tok_reader_while_at128_l0 p0 p0.at_
noncomputable def val_Plain_l0_step (a0 : List UInt8) (b1 : List Int) (s2 : Int) : Option ((Int) ⊕ (Bool)) :=
  if s2 < (b1.length : Int) then
    (idx b1 s2).bind fun x3 =>
    if x3 < 32 then
      some (.inr false)
    else
      if 126 < x3 then
        some (.inr false)
      else
        if (x3 == 39) then
          some (.inr false)
        else
          some (.inl ((IntKind.i64.wrap (s2 + 1))))
  else
    some (.inr ((decide ((a0.length : Int) ≤ 48))))
noncomputable def val_Plain_l0 (a0 : List UInt8) (b1 : List Int) (s2 : Int) : Option (Bool) := run (val_Plain_l0_step a0 b1) s2
noncomputable def val_Plain (a0 : List UInt8) : Option (Bool) :=
  (byts a0).bind fun b1 =>
  val_Plain_l0 a0 b1 0
noncomputable def tok_reader_quote (p0 : TokReader) : Option (TokToken × Int × TokReader) :=
  (tok_reader_while_at128 ((TokReader.mk p0.s ((IntKind.i64.wrap (p0.at_ + 1)))))).bind fun r1 =>
  if (r1.2.at_ == (r1.2.s.length : Int)) then
    some (((TokToken.mk 0 [] 0 0), 14, r1.2))
  else
    if 48 < (r1.1.length : Int) then
      some (((TokToken.mk 0 [] 0 0), 15, (TokReader.mk r1.2.s ((IntKind.i64.wrap (r1.2.at_ + 1))))))
    else
      (val_Plain r1.1).bind fun r2 =>
      if r2 then
        some (((TokToken.mk 4 r1.1 0 0), 0, (TokReader.mk r1.2.s ((IntKind.i64.wrap (r1.2.at_ + 1))))))
      else
        some (((TokToken.mk 0 [] 0 0), 11, (TokReader.mk r1.2.s ((IntKind.i64.wrap (r1.2.at_ + 1))))))
noncomputable def internal_stringslite_HasPrefix (a0 : List UInt8) (a1 : List UInt8) : Option (Bool) :=
  if (a1.length : Int) ≤ (a0.length : Int) then
    (subT a0 (a1.length : Int)).bind fun m2 =>
    some (m2 == a1)
  else
    some false
noncomputable def strings_HasPrefix (a0 : List UInt8) (a1 : List UInt8) : Option (Bool) :=
  (internal_stringslite_HasPrefix a0 a1).bind fun r2 =>
  some r2
noncomputable def tok_reader_sign_l0_step (p0 : TokReader) (s1 : Int) : Option ((Int) ⊕ (TokToken × Int × TokReader)) :=
  if s1 < 15 then
    (idx tab3 s1).bind fun x2 =>
    (subF p0.s p0.at_).bind fun m3 =>
    (strings_HasPrefix m3 x2).bind fun r4 =>
    if r4 then
      some (.inr (((TokToken.mk 5 x2 0 0), 0, (TokReader.mk p0.s ((IntKind.i64.wrap (p0.at_ + (x2.length : Int))))))))
    else
      some (.inl ((IntKind.i64.wrap (s1 + 1))))
  else
    some (.inr (((TokToken.mk 0 [] 0 0), 11, p0)))
noncomputable def tok_reader_sign_l0 (p0 : TokReader) (s1 : Int) : Option (TokToken × Int × TokReader) := run (tok_reader_sign_l0_step p0) s1
noncomputable def tok_reader_sign (p0 : TokReader) : Option (TokToken × Int × TokReader) :=
  tok_reader_sign_l0 p0 0
noncomputable def tok_reader_token (p0 : TokReader) : Option (TokToken × Int × TokReader) :=
  (idx p0.s p0.at_).bind fun c1 =>
  (tok_small (c1.toNat : Int)).bind fun r2 =>
  if r2 then
    (tok_reader_path p0).bind fun r3 =>
    some (r3.1, r3.2.1, r3.2.2)
  else
    (tok_digit (c1.toNat : Int)).bind fun r4 =>
    if r4 then
      (tok_reader_number p0).bind fun r5 =>
      some (r5.1, r5.2.1, r5.2.2)
    else
      if ((c1.toNat : Int) == 39) then
        (tok_reader_quote p0).bind fun r6 =>
        some (r6.1, r6.2.1, r6.2.2)
      else
        (tok_reader_sign p0).bind fun r7 =>
        some (r7.1, r7.2.1, r7.2.2)
noncomputable def tok_Lex_l0_step (s1 : (List TokToken) × (List UInt8) × Int) : Option (((List TokToken) × (List UInt8) × Int) ⊕ ((List TokToken) × Int × Int)) :=
  (tok_reader_while_at55 (TokReader.mk s1.2.1 s1.2.2)).bind fun r2 =>
  if (r2.2.at_ == (r2.2.s.length : Int)) then
    some (.inr (s1.1, 0, 0))
  else
    if ((s1.1.length : Int) == 120) then
      some (.inr ((([] : List TokToken), 13, r2.2.at_)))
    else
      (tok_reader_token r2.2).bind fun r3 =>
      if (r3.2.1 != 0) then
        some (.inr ((([] : List TokToken), r3.2.1, r2.2.at_)))
      else
        (app 40 s1.1 [(TokToken.mk r3.1.Kind r3.1.Text r3.1.N r2.2.at_)]).bind fun l4 =>
        some (.inl (l4, r3.2.2.s, r3.2.2.at_))
noncomputable def tok_Lex_l0 (s1 : (List TokToken) × (List UInt8) × Int) : Option ((List TokToken) × Int × Int) := run (tok_Lex_l0_step) s1
noncomputable def tok_Lex (a0 : List UInt8) : Option ((List TokToken) × Int × Int) :=
  tok_Lex_l0 ((([] : List TokToken), a0, 0))
noncomputable def tok_Event (a0 : List UInt8) : Option (Bool) :=
  (tok_Lex a0).bind fun r1 =>
  if (r1.2.1 == 0) then
    if ((r1.1.length : Int) == 1) then
      (idx r1.1 0).bind fun x2 =>
      if (x2.Kind == 1) then
        some (x2.Text == a0)
      else
        if (x2.Kind == 2) then
          some (x2.Text == a0)
        else
          some false
    else
      some false
  else
    some false
noncomputable def tok_Means (a0 : List UInt8) : Option (Bool) :=
  if (a0 == [99, 104, 97, 114, 116]) then
    some true
  else
    if (a0 == [118, 97, 114]) then
      some true
    else
      if (a0 == [115, 116, 97, 116, 101]) then
        some true
      else
        if (a0 == [112, 97, 114, 97, 108, 108, 101, 108]) then
          some true
        else
          if (a0 == [102, 105, 110, 97, 108]) then
            some true
          else
            if (a0 == [100, 101, 101, 112]) then
              some true
            else
              if (a0 == [115, 104, 97, 108, 108, 111, 119]) then
                some true
              else
                if (a0 == [101, 110, 116, 101, 114]) then
                  some true
                else
                  if (a0 == [101, 120, 105, 116]) then
                    some true
                  else
                    if (a0 == [111, 110]) then
                      some true
                    else
                      if (a0 == [97, 117, 116, 111]) then
                        some true
                      else
                        if (a0 == [101, 110, 100]) then
                          some true
                        else
                          if (a0 == [105, 102]) then
                            some true
                          else
                            if (a0 == [103, 111]) then
                              some true
                            else
                              if (a0 == [105, 110, 110, 101, 114]) then
                                some true
                              else
                                if (a0 == [100, 111]) then
                                  some true
                                else
                                  if (a0 == [115, 101, 116]) then
                                    some true
                                  else
                                    if (a0 == [114, 97, 105, 115, 101]) then
                                      some true
                                    else
                                      if (a0 == [115, 101, 110, 100]) then
                                        some true
                                      else
                                        if (a0 == [99, 97, 110, 99, 101, 108]) then
                                          some true
                                        else
                                          if (a0 == [108, 111, 103]) then
                                            some true
                                          else
                                            if (a0 == [116, 114, 117, 101]) then
                                              some true
                                            else
                                              if (a0 == [102, 97, 108, 115, 101]) then
                                                some true
                                              else
                                                if (a0 == [110, 111, 116]) then
                                                  some true
                                                else
                                                  if (a0 == [97, 110, 100]) then
                                                    some true
                                                  else
                                                    if (a0 == [111, 114]) then
                                                      some true
                                                    else
                                                      if (a0 == [105, 110]) then
                                                        some true
                                                      else
                                                        some false
noncomputable def act_Event (a0 : List UInt8) : Option (Bool) :=
  (tok_Event a0).bind fun r1 =>
  if r1 then
    (tok_Means a0).bind fun r2 =>
    some (!r2)
  else
    some false
noncomputable def tok_Token_Is_l0_step (a0 : TokToken) (a1 : List (List UInt8)) (s2 : Int) : Option ((Int) ⊕ (Bool)) :=
  if s2 < (a1.length : Int) then
    (idx a1 s2).bind fun x3 =>
    if (a0.Text == x3) then
      some (.inr true)
    else
      some (.inl ((IntKind.i64.wrap (s2 + 1))))
  else
    some (.inr false)
noncomputable def tok_Token_Is_l0 (a0 : TokToken) (a1 : List (List UInt8)) (s2 : Int) : Option (Bool) := run (tok_Token_Is_l0_step a0 a1) s2
noncomputable def tok_Token_Is_l1_step (a0 : TokToken) (a1 : List (List UInt8)) (s4 : Int) : Option ((Int) ⊕ (Bool)) :=
  if s4 < (a1.length : Int) then
    (idx a1 s4).bind fun x5 =>
    if (a0.Text == x5) then
      some (.inr true)
    else
      some (.inl ((IntKind.i64.wrap (s4 + 1))))
  else
    some (.inr false)
noncomputable def tok_Token_Is_l1 (a0 : TokToken) (a1 : List (List UInt8)) (s4 : Int) : Option (Bool) := run (tok_Token_Is_l1_step a0 a1) s4
noncomputable def tok_Token_Is (a0 : TokToken) (a1 : List (List UInt8)) : Option (Bool) :=
  if (a0.Kind != 1) then
    if (a0.Kind != 5) then
      some false
    else
      tok_Token_Is_l0 a0 a1 0
  else
    tok_Token_Is_l1 a0 a1 0
noncomputable def expr_levels : Option ((List ExprLevel)) :=
  some ([(ExprLevel.mk ([[111, 114]]) [15] false), (ExprLevel.mk ([[97, 110, 100]]) [14] false), (ExprLevel.mk ([[60], [60, 61], [62], [62, 61], [61], [33, 61]]) [8, 9, 10, 11, 12, 13] true), (ExprLevel.mk ([[43], [45]]) [6, 7] false), (ExprLevel.mk ([[42], [47], [37]]) [3, 4, 5] false)])
noncomputable def expr_parser_next (p0 : ExprParser) : Option (TokToken) :=
  if p0.at_ < (p0.l.length : Int) then
    (idx p0.l p0.at_).bind fun x1 =>
    some x1
  else
    some (TokToken.mk 0 [] 0 0)
noncomputable def expr_parser_take (p0 : ExprParser) (a1 : List UInt8) : Option (Bool × ExprParser) :=
  (expr_parser_next p0).bind fun r2 =>
  (tok_Token_Is r2 [a1]).bind fun r3 =>
  if r3 then
    some ((true, (ExprParser.mk p0.l ((IntKind.i64.wrap (p0.at_ + 1))) p0.e)))
  else
    some (false, p0)
noncomputable def expr_parser_operation_l0_step (a1 : ExprLevel) (s2 : Int × (List TokToken) × Int × (List ExprNode)) : Option ((Int × (List TokToken) × Int × (List ExprNode)) ⊕ (Int × ExprParser)) :=
  if s2.1 < (a1.signs.length : Int) then
    (idx a1.signs s2.1).bind fun x3 =>
    (expr_parser_take (ExprParser.mk s2.2.1 s2.2.2.1 s2.2.2.2) x3).bind fun r4 =>
    if r4.1 then
      (idx a1.ops s2.1).bind fun x5 =>
      some (.inr (x5, r4.2))
    else
      some (.inl (((IntKind.i64.wrap (s2.1 + 1)), r4.2.l, r4.2.at_, r4.2.e)))
  else
    some (.inr ((0, (ExprParser.mk s2.2.1 s2.2.2.1 s2.2.2.2))))
noncomputable def expr_parser_operation_l0 (a1 : ExprLevel) (s2 : Int × (List TokToken) × Int × (List ExprNode)) : Option (Int × ExprParser) := run (expr_parser_operation_l0_step a1) s2
noncomputable def expr_parser_operation (p0 : ExprParser) (a1 : ExprLevel) : Option (Int × ExprParser) :=
  expr_parser_operation_l0 a1 (0, p0.l, p0.at_, p0.e)
noncomputable def expr_parser_add (p0 : ExprParser) (a1 : ExprNode) : Option (Bool × ExprParser) :=
  (app 72 p0.e [a1]).bind fun l2 =>
  some ((true, (ExprParser.mk p0.l p0.at_ l2)))
noncomputable def val_Of (a0 : Int) : Option (ValValue) :=
  some (ValValue.mk 1 a0 [])
noncomputable def val_Word (a0 : List UInt8) : Option (ValValue) :=
  some (ValValue.mk 3 0 a0)
noncomputable def val_Truth (a0 : Bool) : Option (ValValue) :=
  if a0 then
    some (ValValue.mk 2 1 [])
  else
    some (ValValue.mk 2 0 [])
noncomputable def expr_parser_name (p0 : ExprParser) (a1 : Int) : Option (Bool × ExprParser) :=
  (expr_parser_next p0).bind fun r2 =>
  if (r2.Kind != 1) then
    some (false, p0)
  else
    (tok_Means r2.Text).bind fun r3 =>
    if r3 then
      some (false, p0)
    else
      (expr_parser_add ((ExprParser.mk p0.l ((IntKind.i64.wrap (p0.at_ + 1))) p0.e)) ((ExprNode.mk a1 (ValValue.mk 0 0 []) r2.Text 0 0))).bind fun r4 =>
      some (r4.1, r4.2)
structure expr_parser_binary_Rec where
  expr_parser_binary : ExprParser → Int → Option (Bool × ExprParser)
  expr_parser_unary : ExprParser → Option (Bool × ExprParser)
  expr_parser_atom : ExprParser → Option (Bool × ExprParser)
noncomputable def expr_parser_binary_l0_step (R : expr_parser_binary_Rec) (a1 : Int) (r2 : (List ExprLevel)) (s5 : (List TokToken) × Int × (List ExprNode)) : Option (((List TokToken) × Int × (List ExprNode)) ⊕ (Bool × ExprParser)) :=
  (idx r2 a1).bind fun x6 =>
  (expr_parser_operation (ExprParser.mk s5.1 s5.2.1 s5.2.2) x6).bind fun r7 =>
  if (r7.1 == 0) then
    some (.inr (true, r7.2))
  else
    (R.expr_parser_binary r7.2 ((IntKind.i64.wrap (a1 + 1)))).bind fun r8 =>
    if r8.1 then
      (expr_parser_add r8.2 ((ExprNode.mk r7.1 (ValValue.mk 0 0 []) [] ((IntKind.i64.wrap ((s5.2.2.length : Int) - 1))) ((IntKind.i64.wrap ((r8.2.e.length : Int) - 1)))))).bind fun r9 =>
      if r9.1 then
        if x6.once then
          some (.inr (true, r9.2))
        else
          some (.inl (r9.2.l, r9.2.at_, r9.2.e))
      else
        some (.inr (false, r9.2))
    else
      some (.inr (false, r8.2))
noncomputable def expr_parser_binary_l0 (R : expr_parser_binary_Rec) (a1 : Int) (r2 : (List ExprLevel)) (s5 : (List TokToken) × Int × (List ExprNode)) : Option (Bool × ExprParser) := run (expr_parser_binary_l0_step R a1 r2) s5
noncomputable def expr_parser_binary_F (R : expr_parser_binary_Rec) (p0 : ExprParser) (a1 : Int) : Option (Bool × ExprParser) :=
  (expr_levels).bind fun r2 =>
  if (a1 == (r2.length : Int)) then
    (R.expr_parser_unary p0).bind fun r3 =>
    some (r3.1, r3.2)
  else
    (R.expr_parser_binary p0 ((IntKind.i64.wrap (a1 + 1)))).bind fun r4 =>
    if r4.1 then
      expr_parser_binary_l0 R a1 r2 (r4.2.l, r4.2.at_, r4.2.e)
    else
      some (false, r4.2)
noncomputable def expr_parser_unary_F (R : expr_parser_binary_Rec) (p0 : ExprParser) : Option (Bool × ExprParser) :=
  (expr_parser_take p0 [110, 111, 116]).bind fun r1 =>
  if r1.1 then
    (R.expr_parser_unary r1.2).bind fun r2 =>
    if r2.1 then
      (expr_parser_add r2.2 ((ExprNode.mk 1 (ValValue.mk 0 0 []) [] ((IntKind.i64.wrap ((r2.2.e.length : Int) - 1))) 0))).bind fun r3 =>
      some (r3.1, r3.2)
    else
      some (false, r2.2)
  else
    (expr_parser_take r1.2 [45]).bind fun r4 =>
    if r4.1 then
      (R.expr_parser_unary r4.2).bind fun r5 =>
      if r5.1 then
        (expr_parser_add r5.2 ((ExprNode.mk 2 (ValValue.mk 0 0 []) [] ((IntKind.i64.wrap ((r5.2.e.length : Int) - 1))) 0))).bind fun r6 =>
        some (r6.1, r6.2)
      else
        some (false, r5.2)
    else
      (R.expr_parser_atom r4.2).bind fun r7 =>
      some (r7.1, r7.2)
noncomputable def expr_parser_atom_F (R : expr_parser_binary_Rec) (p0 : ExprParser) : Option (Bool × ExprParser) :=
  (expr_parser_next p0).bind fun r1 =>
  if (r1.Kind == 3) then
    (val_Of r1.N).bind fun r2 =>
    (expr_parser_add ((ExprParser.mk p0.l ((IntKind.i64.wrap (p0.at_ + 1))) p0.e)) (ExprNode.mk 0 r2 [] 0 0)).bind fun r3 =>
    some (r3.1, r3.2)
  else
    if (r1.Kind == 4) then
      (val_Word r1.Text).bind fun r4 =>
      (expr_parser_add ((ExprParser.mk p0.l ((IntKind.i64.wrap (p0.at_ + 1))) p0.e)) (ExprNode.mk 0 r4 [] 0 0)).bind fun r5 =>
      some (r5.1, r5.2)
    else
      (tok_Token_Is r1 ([[116, 114, 117, 101], [102, 97, 108, 115, 101]])).bind fun r6 =>
      if r6 then
        (val_Truth (r1.Text == [116, 114, 117, 101])).bind fun r7 =>
        (expr_parser_add ((ExprParser.mk p0.l ((IntKind.i64.wrap (p0.at_ + 1))) p0.e)) (ExprNode.mk 0 r7 [] 0 0)).bind fun r8 =>
        some (r8.1, r8.2)
      else
        (expr_parser_take p0 [105, 110]).bind fun r9 =>
        if r9.1 then
          (expr_parser_take r9.2 [40]).bind fun r10 =>
          if r10.1 then
            (expr_parser_name r10.2 17).bind fun r11 =>
            if r11.1 then
              (expr_parser_take r11.2 [41]).bind fun r12 =>
              some (r12.1, r12.2)
            else
              some (false, r11.2)
          else
            some (false, r10.2)
        else
          (expr_parser_take r9.2 [40]).bind fun r13 =>
          if r13.1 then
            (R.expr_parser_binary r13.2 0).bind fun r14 =>
            if r14.1 then
              (expr_parser_take r14.2 [41]).bind fun r15 =>
              some (r15.1, r15.2)
            else
              some (false, r14.2)
          else
            (expr_parser_name r13.2 16).bind fun r16 =>
            some (r16.1, r16.2)
noncomputable def expr_parser_binary_rec : Nat → expr_parser_binary_Rec
  | 0 => ⟨fun _ _ => none, fun _ => none, fun _ => none⟩
  | k + 1 => ⟨expr_parser_binary_F (expr_parser_binary_rec k), expr_parser_unary_F (expr_parser_binary_rec k), expr_parser_atom_F (expr_parser_binary_rec k)⟩
noncomputable def expr_parser_binary (p0 : ExprParser) (a1 : Int) : Option (Bool × ExprParser) := lim? fun k => (expr_parser_binary_rec k).expr_parser_binary p0 a1
noncomputable def expr_parser_unary (p0 : ExprParser) : Option (Bool × ExprParser) := lim? fun k => (expr_parser_binary_rec k).expr_parser_unary p0
noncomputable def expr_parser_atom (p0 : ExprParser) : Option (Bool × ExprParser) := lim? fun k => (expr_parser_binary_rec k).expr_parser_atom p0
theorem expr_parser_binary_lm {R : Nat → expr_parser_binary_Rec} {W : expr_parser_binary_Rec} (h133 : ∀ (p0 : ExprParser) (a1 : Int), Lm (fun k => (R k).expr_parser_binary p0 a1) (W.expr_parser_binary p0 a1)) (h160 : ∀ (p0 : ExprParser), Lm (fun k => (R k).expr_parser_unary p0) (W.expr_parser_unary p0)) (h177 : ∀ (p0 : ExprParser), Lm (fun k => (R k).expr_parser_atom p0) (W.expr_parser_atom p0)) (p0 : ExprParser) (a1 : Int) : Lm (fun k => expr_parser_binary_F (R k) p0 a1) (expr_parser_binary_F W p0 a1) := by
  simp only [expr_parser_binary_F, expr_parser_binary_l0, expr_parser_binary_l0_step]
  repeat' first | exact Lm.const _ | exact h133 _ _ | exact h160 _ | exact h177 _ | apply Lm.jn | apply Lm.bind | apply Lm.map | apply Lm.ite | apply Lm.run | intro _
theorem expr_parser_unary_lm {R : Nat → expr_parser_binary_Rec} {W : expr_parser_binary_Rec} (h133 : ∀ (p0 : ExprParser) (a1 : Int), Lm (fun k => (R k).expr_parser_binary p0 a1) (W.expr_parser_binary p0 a1)) (h160 : ∀ (p0 : ExprParser), Lm (fun k => (R k).expr_parser_unary p0) (W.expr_parser_unary p0)) (h177 : ∀ (p0 : ExprParser), Lm (fun k => (R k).expr_parser_atom p0) (W.expr_parser_atom p0)) (p0 : ExprParser) : Lm (fun k => expr_parser_unary_F (R k) p0) (expr_parser_unary_F W p0) := by
  simp only [expr_parser_unary_F]
  repeat' first | exact Lm.const _ | exact h133 _ _ | exact h160 _ | exact h177 _ | apply Lm.jn | apply Lm.bind | apply Lm.map | apply Lm.ite | apply Lm.run | intro _
theorem expr_parser_atom_lm {R : Nat → expr_parser_binary_Rec} {W : expr_parser_binary_Rec} (h133 : ∀ (p0 : ExprParser) (a1 : Int), Lm (fun k => (R k).expr_parser_binary p0 a1) (W.expr_parser_binary p0 a1)) (h160 : ∀ (p0 : ExprParser), Lm (fun k => (R k).expr_parser_unary p0) (W.expr_parser_unary p0)) (h177 : ∀ (p0 : ExprParser), Lm (fun k => (R k).expr_parser_atom p0) (W.expr_parser_atom p0)) (p0 : ExprParser) : Lm (fun k => expr_parser_atom_F (R k) p0) (expr_parser_atom_F W p0) := by
  simp only [expr_parser_atom_F]
  repeat' first | exact Lm.const _ | exact h133 _ _ | exact h160 _ | exact h177 _ | apply Lm.jn | apply Lm.bind | apply Lm.map | apply Lm.ite | apply Lm.run | intro _
noncomputable def expr_parser_binary_W : expr_parser_binary_Rec := ⟨expr_parser_binary, expr_parser_unary, expr_parser_atom⟩
theorem expr_parser_binary_mono : ∀ k, (∀ p0 a1 r, (expr_parser_binary_rec k).expr_parser_binary p0 a1 = some r → (expr_parser_binary_rec (k + 1)).expr_parser_binary p0 a1 = some r) ∧ (∀ p0 r, (expr_parser_binary_rec k).expr_parser_unary p0 = some r → (expr_parser_binary_rec (k + 1)).expr_parser_unary p0 = some r) ∧ (∀ p0 r, (expr_parser_binary_rec k).expr_parser_atom p0 = some r → (expr_parser_binary_rec (k + 1)).expr_parser_atom p0 = some r)
  | 0 => ⟨fun _ _ _ h => (by cases h), fun _ _ h => (by cases h), fun _ _ h => (by cases h)⟩
  | k + 1 => by
    obtain ⟨m133, m160, m177⟩ := expr_parser_binary_mono k
    have key : ∀ (f : expr_parser_binary_Rec → Option Unit), True := fun _ => trivial
    have l133 : ∀ p0 a1, Lm (fun j => ((fun j => if j = 0 then expr_parser_binary_rec k else expr_parser_binary_rec (k + 1)) j).expr_parser_binary p0 a1) ((expr_parser_binary_rec (k + 1)).expr_parser_binary p0 a1) := fun _ _ => Lm.step (m133 _ _) (fun j => by by_cases hj : j = 0 <;> simp [hj])
    have l160 : ∀ p0, Lm (fun j => ((fun j => if j = 0 then expr_parser_binary_rec k else expr_parser_binary_rec (k + 1)) j).expr_parser_unary p0) ((expr_parser_binary_rec (k + 1)).expr_parser_unary p0) := fun _ => Lm.step (m160 _) (fun j => by by_cases hj : j = 0 <;> simp [hj])
    have l177 : ∀ p0, Lm (fun j => ((fun j => if j = 0 then expr_parser_binary_rec k else expr_parser_binary_rec (k + 1)) j).expr_parser_atom p0) ((expr_parser_binary_rec (k + 1)).expr_parser_atom p0) := fun _ => Lm.step (m177 _) (fun j => by by_cases hj : j = 0 <;> simp [hj])
    exact ⟨fun p0 a1 r h => (expr_parser_binary_lm l133 l160 l177 p0 a1).2 0 r h, fun p0 r h => (expr_parser_unary_lm l133 l160 l177 p0).2 0 r h, fun p0 r h => (expr_parser_atom_lm l133 l160 l177 p0).2 0 r h⟩
theorem expr_parser_binary_lim (p0 : ExprParser) (a1 : Int) : Lm (fun k => (expr_parser_binary_rec k).expr_parser_binary p0 a1) (expr_parser_binary p0 a1) := lim_Lm fun k => (expr_parser_binary_mono k).1 p0 a1
theorem expr_parser_unary_lim (p0 : ExprParser) : Lm (fun k => (expr_parser_binary_rec k).expr_parser_unary p0) (expr_parser_unary p0) := lim_Lm fun k => (expr_parser_binary_mono k).2.1 p0
theorem expr_parser_atom_lim (p0 : ExprParser) : Lm (fun k => (expr_parser_binary_rec k).expr_parser_atom p0) (expr_parser_atom p0) := lim_Lm fun k => (expr_parser_binary_mono k).2.2 p0
theorem expr_parser_binary_eq (p0 : ExprParser) (a1 : Int) : expr_parser_binary p0 a1 = expr_parser_binary_F expr_parser_binary_W p0 a1 := Lm.uniq (expr_parser_binary_lim p0 a1) (expr_parser_binary_lm (R := expr_parser_binary_rec) (W := expr_parser_binary_W) expr_parser_binary_lim expr_parser_unary_lim expr_parser_atom_lim p0 a1)
theorem expr_parser_unary_eq (p0 : ExprParser) : expr_parser_unary p0 = expr_parser_unary_F expr_parser_binary_W p0 := Lm.uniq (expr_parser_unary_lim p0) (expr_parser_unary_lm (R := expr_parser_binary_rec) (W := expr_parser_binary_W) expr_parser_binary_lim expr_parser_unary_lim expr_parser_atom_lim p0)
theorem expr_parser_atom_eq (p0 : ExprParser) : expr_parser_atom p0 = expr_parser_atom_F expr_parser_binary_W p0 := Lm.uniq (expr_parser_atom_lim p0) (expr_parser_atom_lm (R := expr_parser_binary_rec) (W := expr_parser_binary_W) expr_parser_binary_lim expr_parser_unary_lim expr_parser_atom_lim p0)
noncomputable def expr_one (a0 : Int) : Option (Bool) :=
  if (a0 == 1) then
    some true
  else
    some (a0 == 2)
noncomputable def expr_two (a0 : Int) : Option (Bool) :=
  if 3 ≤ a0 then
    some ((decide (a0 ≤ 15)))
  else
    some false
noncomputable def expr_Expr_depths_l0_step (a0 : List ExprNode) (s2 : Int × (List Int)) : Option ((Int × (List Int)) ⊕ ((List Int))) :=
  if s2.1 < (a0.length : Int) then
    (idx a0 s2.1).bind fun x3 =>
    (inM a0.length s2.1).bind fun j4 =>
    (setJ s2.2 j4 1).bind fun w5 =>
    (expr_one x3.Op).bind fun r6 =>
    if r6 then
      (inM a0.length x3.L).bind fun j7 =>
      (w5[j7]?).bind fun x8 =>
      (setJ w5 j4 ((IntKind.i64.wrap (1 + x8)))).bind fun w9 =>
      (expr_two x3.Op).bind fun r10 =>
      if r10 then
        (w9[j4]?).bind fun x11 =>
        (inM a0.length x3.R).bind fun j12 =>
        (w9[j12]?).bind fun x13 =>
        (setJ w9 j4 ((if x11 < (IntKind.i64.wrap (1 + x13)) then (IntKind.i64.wrap (1 + x13)) else x11))).bind fun w14 =>
        some (.inl (((IntKind.i64.wrap (s2.1 + 1)), w14)))
      else
        some (.inl (((IntKind.i64.wrap (s2.1 + 1)), w9)))
    else
      (expr_two x3.Op).bind fun r15 =>
      if r15 then
        (inM a0.length x3.L).bind fun j16 =>
        (w5[j16]?).bind fun x17 =>
        (setJ w5 j4 ((IntKind.i64.wrap (1 + x17)))).bind fun w18 =>
        (expr_two x3.Op).bind fun r19 =>
        if r19 then
          (w18[j4]?).bind fun x20 =>
          (inM a0.length x3.R).bind fun j21 =>
          (w18[j21]?).bind fun x22 =>
          (setJ w18 j4 ((if x20 < (IntKind.i64.wrap (1 + x22)) then (IntKind.i64.wrap (1 + x22)) else x20))).bind fun w23 =>
          some (.inl (((IntKind.i64.wrap (s2.1 + 1)), w23)))
        else
          some (.inl (((IntKind.i64.wrap (s2.1 + 1)), w18)))
      else
        (expr_two x3.Op).bind fun r24 =>
        if r24 then
          (w5[j4]?).bind fun x25 =>
          (inM a0.length x3.R).bind fun j26 =>
          (w5[j26]?).bind fun x27 =>
          (setJ w5 j4 ((if x25 < (IntKind.i64.wrap (1 + x27)) then (IntKind.i64.wrap (1 + x27)) else x25))).bind fun w28 =>
          some (.inl (((IntKind.i64.wrap (s2.1 + 1)), w28)))
        else
          some (.inl (((IntKind.i64.wrap (s2.1 + 1)), w5)))
  else
    (frz a0.length s2.2).bind fun z29 =>
    some (.inr z29)
noncomputable def expr_Expr_depths_l0 (a0 : List ExprNode) (s2 : Int × (List Int)) : Option ((List Int)) := run (expr_Expr_depths_l0_step a0) s2
noncomputable def expr_Expr_depths (a0 : List ExprNode) : Option ((List Int)) :=
  (mkA 8 (a0.length : Int) 0).bind fun z1 =>
  expr_Expr_depths_l0 a0 (0, z1)
noncomputable def expr_Expr_Size_l0_step (r1 : (List Int)) (s2 : Int) : Option ((Int) ⊕ (Int)) :=
  if s2 < (r1.length : Int) then
    (idx r1 s2).bind fun x3 =>
    if 8 < x3 then
      some (.inr 23)
    else
      some (.inl ((IntKind.i64.wrap (s2 + 1))))
  else
    some (.inr 0)
noncomputable def expr_Expr_Size_l0 (r1 : (List Int)) (s2 : Int) : Option (Int) := run (expr_Expr_Size_l0_step r1) s2
noncomputable def expr_Expr_Size (a0 : List ExprNode) : Option (Int) :=
  if 32 < (a0.length : Int) then
    some 13
  else
    (expr_Expr_depths a0).bind fun r1 =>
    expr_Expr_Size_l0 r1 0
noncomputable def expr_Parse (a0 : List TokToken) (a1 : Int) : Option ((List ExprNode) × Int × Int) :=
  if a1 < 0 then
    some ((([] : List ExprNode), 0, 11))
  else
    if (a0.length : Int) < a1 then
      some ((([] : List ExprNode), 0, 11))
    else
      (expr_parser_binary ((ExprParser.mk a0 a1 ([] : List ExprNode))) 0).bind fun r2 =>
      if r2.1 then
        (expr_Expr_Size r2.2.e).bind fun r3 =>
        if (r3 != 0) then
          some ((([] : List ExprNode), 0, r3))
        else
          some (r2.2.e, r2.2.at_, 0)
      else
        some ((([] : List ExprNode), 0, 11))
noncomputable def tok_Name (a0 : List UInt8) : Option (Bool) :=
  (tok_Lex a0).bind fun r1 =>
  if (r1.2.1 == 0) then
    if ((r1.1.length : Int) == 1) then
      (idx r1.1 0).bind fun x2 =>
      if (x2.Kind == 1) then
        if (x2.Text == a0) then
          (tok_Means a0).bind fun r3 =>
          some (!r3)
        else
          some false
      else
        some false
    else
      some false
  else
    some false
noncomputable def brk_Parse_j0 (r1 : (List TokToken) × Int × Int) : Option (((List TokToken) × Bool) ⊕ (BrkBreak × Int)) :=
  if 0 < (r1.1.length : Int) then
    (idx r1.1 0).bind fun x3 =>
    (tok_Token_Is x3 ([[111, 102, 102]])).bind fun r4 =>
    if r4 then
      (subF r1.1 1).bind fun m5 =>
      some (.inl (m5, true))
    else
      some (.inl (r1.1, false))
  else
    some (.inl (r1.1, false))
noncomputable def brk_Parse_l2_step (s2 : (List TokToken) × Bool) (s7 : Int × Int) : Option ((Int × Int) ⊕ ((Int) ⊕ (BrkBreak × Int))) :=
  if s7.1 ≤ 3 then
    if 0 < (s2.1.length : Int) then
      (idx s2.1 0).bind fun x8 =>
      (inM 4 s7.1).bind fun j9 =>
      (tab2[j9]?).bind fun x10 =>
      (tok_Token_Is x8 [x10]).bind fun r11 =>
      if r11 then
        some (.inl (((IntKind.i64.wrap (s7.1 + 1)), s7.1)))
      else
        some (.inl (((IntKind.i64.wrap (s7.1 + 1)), s7.2)))
    else
      some (.inr (.inl s7.2))
  else
    some (.inr (.inl s7.2))
noncomputable def brk_Parse_l2 (s2 : (List TokToken) × Bool) (s7 : Int × Int) : Option ((Int) ⊕ (BrkBreak × Int)) := run (brk_Parse_l2_step s2) s7
noncomputable def brk_Parse_j1 (s2 : (List TokToken) × Bool) : Option ((Int) ⊕ (BrkBreak × Int)) :=
  brk_Parse_l2 s2 (1, 0)
noncomputable def brk_Parse_j3 (s2 : (List TokToken) × Bool) (r12 : (List ExprNode) × Int × Int) : Option ((Int) ⊕ (BrkBreak × Int)) :=
  if (r12.2.2 == 0) then
    if r12.2.1 < (s2.1.length : Int) then
      some (.inl 11)
    else
      some (.inl r12.2.2)
  else
    some (.inl r12.2.2)
noncomputable def brk_Parse (a0 : List UInt8) : Option (BrkBreak × Int) :=
  (tok_Lex a0).bind fun r1 =>
  if (r1.2.1 != 0) then
    some (((BrkBreak.mk 0 [] 0 ([] : List ExprNode) false), r1.2.1))
  else
    jn (brk_Parse_j0 r1) fun s2 =>
    jn (brk_Parse_j1 s2) fun s6 =>
    if (s6 == 0) then
      some (((BrkBreak.mk 0 [] 0 ([] : List ExprNode) false), 11))
    else
      if (s6 == 3) then
        (expr_Parse s2.1 1).bind fun r12 =>
        jn (brk_Parse_j3 s2 r12) fun s13 =>
        if (s13 != 0) then
          some (((BrkBreak.mk 0 [] 0 ([] : List ExprNode) false), s13))
        else
          some (((BrkBreak.mk s6 [] 0 r12.1 s2.2), 0))
      else
        if ((s2.1.length : Int) != 2) then
          some (((BrkBreak.mk 0 [] 0 ([] : List ExprNode) false), 11))
        else
          if (s6 == 1) then
            (idx s2.1 1).bind fun x14 =>
            (tok_Name x14.Text).bind fun r15 =>
            if r15 then
              if (x14.Kind == 1) then
                some (((BrkBreak.mk s6 x14.Text 0 ([] : List ExprNode) s2.2), 0))
              else
                if (s6 == 2) then
                  if (x14.Kind == 3) then
                    if x14.N < 96 then
                      some (((BrkBreak.mk s6 [] x14.N ([] : List ExprNode) s2.2), 0))
                    else
                      some (((BrkBreak.mk 0 [] 0 ([] : List ExprNode) false), 10))
                  else
                    some (((BrkBreak.mk 0 [] 0 ([] : List ExprNode) false), 11))
                else
                  some (((BrkBreak.mk 0 [] 0 ([] : List ExprNode) false), 11))
            else
              if (s6 == 2) then
                if (x14.Kind == 3) then
                  if x14.N < 96 then
                    some (((BrkBreak.mk s6 [] x14.N ([] : List ExprNode) s2.2), 0))
                  else
                    some (((BrkBreak.mk 0 [] 0 ([] : List ExprNode) false), 10))
                else
                  some (((BrkBreak.mk 0 [] 0 ([] : List ExprNode) false), 11))
              else
                some (((BrkBreak.mk 0 [] 0 ([] : List ExprNode) false), 11))
          else
            if (s6 == 2) then
              (idx s2.1 1).bind fun x16 =>
              if (x16.Kind == 3) then
                if x16.N < 96 then
                  some (((BrkBreak.mk s6 [] x16.N ([] : List ExprNode) s2.2), 0))
                else
                  some (((BrkBreak.mk 0 [] 0 ([] : List ExprNode) false), 10))
              else
                some (((BrkBreak.mk 0 [] 0 ([] : List ExprNode) false), 11))
            else
              some (((BrkBreak.mk 0 [] 0 ([] : List ExprNode) false), 11))
noncomputable def expr_Read (a0 : List UInt8) : Option ((List ExprNode) × Int) :=
  (tok_Lex a0).bind fun r1 =>
  if (r1.2.1 != 0) then
    some ((([] : List ExprNode), r1.2.1))
  else
    (expr_Parse r1.1 0).bind fun r2 =>
    if (r2.2.2 != 0) then
      some ((([] : List ExprNode), r2.2.2))
    else
      if r2.2.1 < (r1.1.length : Int) then
        some ((([] : List ExprNode), 11))
      else
        some (r2.1, 0)
noncomputable def cmd_Command_rest (p0 : CmdCommand) (a1 : List UInt8) : Option (Int × CmdCommand) :=
  if (p0.Kind == 23) then
    (act_Event a1).bind fun r2 =>
    if r2 then
      some ((0, (CmdCommand.mk p0.Kind p0.N a1 p0.Break p0.Watch)))
    else
      some ((11, (CmdCommand.mk p0.Kind p0.N p0.Name p0.Break p0.Watch)))
  else
    if (p0.Kind == 24) then
      (brk_Parse a1).bind fun r3 =>
      some ((r3.2, (CmdCommand.mk p0.Kind p0.N p0.Name r3.1 p0.Watch)))
    else
      if (p0.Kind == 25) then
        (expr_Read a1).bind fun r4 =>
        some ((r4.2, (CmdCommand.mk p0.Kind p0.N p0.Name p0.Break r4.1)))
      else
        some ((0, (CmdCommand.mk p0.Kind p0.N p0.Name p0.Break p0.Watch)))
def strings_Count (a0 : List UInt8) (a1 : List UInt8) : Option (Int) := countP a0 a1
noncomputable def strings_Index (a0 : List UInt8) (a1 : List UInt8) : Option (Int) :=
  (stringslite_Index a0 a1).bind fun r2 =>
  some r2
noncomputable def strings_genSplit_j0 (a0 : List UInt8) (a1 : List UInt8) (a3 : Int) : Option ((Int) ⊕ ((List (List UInt8)))) :=
  if a3 < 0 then
    (strings_Count a0 a1).bind fun r5 =>
    some (.inl ((IntKind.i64.wrap (r5 + 1))))
  else
    some (.inl a3)
noncomputable def strings_genSplit_l1_step (a0 : List UInt8) (a1 : List UInt8) (a2 : Int) (s4 : Int) (s7 : (List UInt8) × Int × (List (List UInt8))) : Option (((List UInt8) × Int × (List (List UInt8))) ⊕ ((List (List UInt8)))) :=
  if s7.2.1 < (IntKind.i64.wrap ((if (IntKind.i64.wrap ((a0.length : Int) + 1)) < s4 then (IntKind.i64.wrap ((a0.length : Int) + 1)) else s4) - 1)) then
    (strings_Index s7.1 a1).bind fun r8 =>
    if r8 < 0 then
      (inM (((if (IntKind.i64.wrap ((a0.length : Int) + 1)) < s4 then (IntKind.i64.wrap ((a0.length : Int) + 1)) else s4)).toNat) s7.2.1).bind fun j9 =>
      (setJ s7.2.2 j9 s7.1).bind fun w10 =>
      (upM (((if (IntKind.i64.wrap ((a0.length : Int) + 1)) < s4 then (IntKind.i64.wrap ((a0.length : Int) + 1)) else s4)).toNat) ((IntKind.i64.wrap (s7.2.1 + 1)))).bind fun j11 =>
      (frz j11 w10).bind fun z12 =>
      some (.inr z12)
    else
      (subT s7.1 ((IntKind.i64.wrap (r8 + a2)))).bind fun m13 =>
      (inM (((if (IntKind.i64.wrap ((a0.length : Int) + 1)) < s4 then (IntKind.i64.wrap ((a0.length : Int) + 1)) else s4)).toNat) s7.2.1).bind fun j14 =>
      (setJ s7.2.2 j14 m13).bind fun w15 =>
      (subF s7.1 ((IntKind.i64.wrap (r8 + (a1.length : Int))))).bind fun m16 =>
      some (.inl ((m16, (IntKind.i64.wrap (s7.2.1 + 1)), w15)))
  else
    (inM (((if (IntKind.i64.wrap ((a0.length : Int) + 1)) < s4 then (IntKind.i64.wrap ((a0.length : Int) + 1)) else s4)).toNat) s7.2.1).bind fun j17 =>
    (setJ s7.2.2 j17 s7.1).bind fun w18 =>
    (upM (((if (IntKind.i64.wrap ((a0.length : Int) + 1)) < s4 then (IntKind.i64.wrap ((a0.length : Int) + 1)) else s4)).toNat) ((IntKind.i64.wrap (s7.2.1 + 1)))).bind fun j19 =>
    (frz j19 w18).bind fun z20 =>
    some (.inr z20)
noncomputable def strings_genSplit_l1 (a0 : List UInt8) (a1 : List UInt8) (a2 : Int) (s4 : Int) (s7 : (List UInt8) × Int × (List (List UInt8))) : Option ((List (List UInt8))) := run (strings_genSplit_l1_step a0 a1 a2 s4) s7
noncomputable def strings_genSplit (a0 : List UInt8) (a1 : List UInt8) (a2 : Int) (a3 : Int) : Option ((List (List UInt8))) :=
  if (a3 == 0) then
    some (([] : List (List UInt8)))
  else
    if (a1 == []) then
      none
    else
      jn (strings_genSplit_j0 a0 a1 a3) fun s4 =>
      (mkA 16 ((if (IntKind.i64.wrap ((a0.length : Int) + 1)) < s4 then (IntKind.i64.wrap ((a0.length : Int) + 1)) else s4)) ([] : List UInt8)).bind fun z6 =>
      strings_genSplit_l1 a0 a1 a2 s4 (a0, 0, z6)
noncomputable def strings_Split (a0 : List UInt8) (a1 : List UInt8) : Option ((List (List UInt8))) :=
  (strings_genSplit a0 a1 0 (-1)).bind fun r2 =>
  some r2
noncomputable def cmd_formOf (a0 : Int) : Option (CmdForm) :=
  if (a0 == 10) then
    some (CmdForm.mk 1 1 512 1)
  else
    if (a0 == 11) then
      some (CmdForm.mk 1 1 512 1)
    else
      if (a0 == 12) then
        some (CmdForm.mk 1 1 512 512)
      else
        if (a0 == 13) then
          some (CmdForm.mk 1 1 512 512)
        else
          if (a0 == 14) then
            some ((CmdForm.mk 1 0 512 (-1)))
          else
            if (a0 == 15) then
              some ((CmdForm.mk 1 1 1048576 (-1)))
            else
              if (a0 == 16) then
                some ((CmdForm.mk 1 0 7 (-1)))
              else
                if (a0 == 21) then
                  some ((CmdForm.mk 2 0 7 (-1)))
                else
                  if (a0 == 17) then
                    some ((CmdForm.mk 1 0 15 (-1)))
                  else
                    if (a0 == 18) then
                      some ((CmdForm.mk 1 0 15 (-1)))
                    else
                      if (a0 == 19) then
                        some ((CmdForm.mk 1 0 15 (-1)))
                      else
                        if (a0 == 20) then
                          some ((CmdForm.mk 1 0 7 (-1)))
                        else
                          if (a0 == 22) then
                            some ((CmdForm.mk 3 0 64 (-1)))
                          else
                            some (CmdForm.mk 0 0 0 0)
noncomputable def cmd_number_l0_step (b2 : List Int) (s3 : Int × Int) : Option ((Int × Int) ⊕ (Int × Bool)) :=
  if s3.2 < (b2.length : Int) then
    (idx b2 s3.2).bind fun x4 =>
    if x4 < 48 then
      some (.inr (0, false))
    else
      if 57 < x4 then
        some (.inr (0, false))
      else
        some (.inl (((IntKind.i64.wrap ((IntKind.i64.wrap (s3.1 * 10)) + (IntKind.i64.wrap ((IntKind.u8.wrap (x4 - 48)))))), (IntKind.i64.wrap (s3.2 + 1)))))
  else
    some (.inr (s3.1, true))
noncomputable def cmd_number_l0 (b2 : List Int) (s3 : Int × Int) : Option (Int × Bool) := run (cmd_number_l0_step b2) s3
noncomputable def cmd_number_l1_step (b5 : List Int) (s6 : Int × Int) : Option ((Int × Int) ⊕ (Int × Bool)) :=
  if s6.2 < (b5.length : Int) then
    (idx b5 s6.2).bind fun x7 =>
    if x7 < 48 then
      some (.inr (0, false))
    else
      if 57 < x7 then
        some (.inr (0, false))
      else
        some (.inl (((IntKind.i64.wrap ((IntKind.i64.wrap (s6.1 * 10)) + (IntKind.i64.wrap ((IntKind.u8.wrap (x7 - 48)))))), (IntKind.i64.wrap (s6.2 + 1)))))
  else
    some (.inr (s6.1, true))
noncomputable def cmd_number_l1 (b5 : List Int) (s6 : Int × Int) : Option (Int × Bool) := run (cmd_number_l1_step b5) s6
noncomputable def cmd_number (a0 : List UInt8) : Option (Int × Bool) :=
  if (a0 == []) then
    some (0, false)
  else
    if 9 < (a0.length : Int) then
      some (0, false)
    else
      if 1 < (a0.length : Int) then
        (idx a0 0).bind fun c1 =>
        if ((c1.toNat : Int) == 48) then
          some (0, false)
        else
          (byts a0).bind fun b2 =>
          cmd_number_l0 b2 (0, 0)
      else
        (byts a0).bind fun b5 =>
        cmd_number_l1 b5 (0, 0)
noncomputable def cmd_numbers_l1_step (a1 : List (List UInt8)) (s4 : (List Int) × Int) : Option (((List Int) × Int) ⊕ (((List Int)) ⊕ ((List Int) × Int))) :=
  if s4.2 < (a1.length : Int) then
    (idx a1 s4.2).bind fun x5 =>
    (cmd_number x5).bind fun r6 =>
    if r6.2 then
      (app 8 s4.1 [r6.1]).bind fun l7 =>
      some (.inl ((l7, (IntKind.i64.wrap (s4.2 + 1)))))
    else
      some (.inr (.inr ((([] : List Int), 11))))
  else
    some (.inr (.inl s4.1))
noncomputable def cmd_numbers_l1 (a1 : List (List UInt8)) (s4 : (List Int) × Int) : Option (((List Int)) ⊕ ((List Int) × Int)) := run (cmd_numbers_l1_step a1) s4
noncomputable def cmd_numbers_j0 (a1 : List (List UInt8)) : Option (((List Int)) ⊕ ((List Int) × Int)) :=
  cmd_numbers_l1 a1 ((([] : List Int), 0))
noncomputable def cmd_numbers_l2_step (r2 : CmdForm) (s3 : (List Int)) (s8 : Int) : Option ((Int) ⊕ ((List Int) × Int)) :=
  if s8 < (s3.length : Int) then
    (idx s3 s8).bind fun x9 =>
    if x9 < r2.least then
      some (.inr ((([] : List Int), 10)))
    else
      if r2.most < x9 then
        some (.inr ((([] : List Int), 10)))
      else
        some (.inl ((IntKind.i64.wrap (s8 + 1))))
  else
    some (.inr (s3, 0))
noncomputable def cmd_numbers_l2 (r2 : CmdForm) (s3 : (List Int)) (s8 : Int) : Option ((List Int) × Int) := run (cmd_numbers_l2_step r2 s3) s8
noncomputable def cmd_numbers_l4_step (a1 : List (List UInt8)) (s11 : (List Int) × Int) : Option (((List Int) × Int) ⊕ (((List Int)) ⊕ ((List Int) × Int))) :=
  if s11.2 < (a1.length : Int) then
    (idx a1 s11.2).bind fun x12 =>
    (cmd_number x12).bind fun r13 =>
    if r13.2 then
      (app 8 s11.1 [r13.1]).bind fun l14 =>
      some (.inl ((l14, (IntKind.i64.wrap (s11.2 + 1)))))
    else
      some (.inr (.inr ((([] : List Int), 11))))
  else
    some (.inr (.inl s11.1))
noncomputable def cmd_numbers_l4 (a1 : List (List UInt8)) (s11 : (List Int) × Int) : Option (((List Int)) ⊕ ((List Int) × Int)) := run (cmd_numbers_l4_step a1) s11
noncomputable def cmd_numbers_j3 (a1 : List (List UInt8)) : Option (((List Int)) ⊕ ((List Int) × Int)) :=
  cmd_numbers_l4 a1 ((([] : List Int), 0))
noncomputable def cmd_numbers_l5_step (r2 : CmdForm) (s10 : (List Int)) (s15 : Int) : Option ((Int) ⊕ ((List Int) × Int)) :=
  if s15 < (s10.length : Int) then
    (idx s10 s15).bind fun x16 =>
    if x16 < r2.least then
      some (.inr ((([] : List Int), 10)))
    else
      if r2.most < x16 then
        some (.inr ((([] : List Int), 10)))
      else
        some (.inl ((IntKind.i64.wrap (s15 + 1))))
  else
    some (.inr (s10, 0))
noncomputable def cmd_numbers_l5 (r2 : CmdForm) (s10 : (List Int)) (s15 : Int) : Option ((List Int) × Int) := run (cmd_numbers_l5_step r2 s10) s15
noncomputable def cmd_numbers_l7_step (a1 : List (List UInt8)) (s18 : (List Int) × Int) : Option (((List Int) × Int) ⊕ (((List Int)) ⊕ ((List Int) × Int))) :=
  if s18.2 < (a1.length : Int) then
    (idx a1 s18.2).bind fun x19 =>
    (cmd_number x19).bind fun r20 =>
    if r20.2 then
      (app 8 s18.1 [r20.1]).bind fun l21 =>
      some (.inl ((l21, (IntKind.i64.wrap (s18.2 + 1)))))
    else
      some (.inr (.inr ((([] : List Int), 11))))
  else
    some (.inr (.inl s18.1))
noncomputable def cmd_numbers_l7 (a1 : List (List UInt8)) (s18 : (List Int) × Int) : Option (((List Int)) ⊕ ((List Int) × Int)) := run (cmd_numbers_l7_step a1) s18
noncomputable def cmd_numbers_j6 (a1 : List (List UInt8)) : Option (((List Int)) ⊕ ((List Int) × Int)) :=
  cmd_numbers_l7 a1 ((([] : List Int), 0))
noncomputable def cmd_numbers_l8_step (r2 : CmdForm) (s17 : (List Int)) (s22 : Int) : Option ((Int) ⊕ ((List Int) × Int)) :=
  if s22 < (s17.length : Int) then
    (idx s17 s22).bind fun x23 =>
    if x23 < r2.least then
      some (.inr ((([] : List Int), 10)))
    else
      if r2.most < x23 then
        some (.inr ((([] : List Int), 10)))
      else
        some (.inl ((IntKind.i64.wrap (s22 + 1))))
  else
    some (.inr (s17, 0))
noncomputable def cmd_numbers_l8 (r2 : CmdForm) (s17 : (List Int)) (s22 : Int) : Option ((List Int) × Int) := run (cmd_numbers_l8_step r2 s17) s22
noncomputable def cmd_numbers (a0 : Int) (a1 : List (List UInt8)) : Option ((List Int) × Int) :=
  (cmd_formOf a0).bind fun r2 =>
  if ((a1.length : Int) == 0) then
    if (r2.count == 1) then
      if 0 ≤ r2.without then
        some ([r2.without], 0)
      else
        if ((a1.length : Int) != r2.count) then
          some ((([] : List Int), 11))
        else
          jn (cmd_numbers_j0 a1) fun s3 =>
          cmd_numbers_l2 r2 s3 0
    else
      if ((a1.length : Int) != r2.count) then
        some ((([] : List Int), 11))
      else
        jn (cmd_numbers_j3 a1) fun s10 =>
        cmd_numbers_l5 r2 s10 0
  else
    if ((a1.length : Int) != r2.count) then
      some ((([] : List Int), 11))
    else
      jn (cmd_numbers_j6 a1) fun s17 =>
      cmd_numbers_l8 r2 s17 0
noncomputable def cmd_Parse_j0 (r1 : (List UInt8) × (List UInt8) × Bool) : Option (((List (List UInt8))) ⊕ (CmdCommand × Int)) :=
  if r1.2.2 then
    (strings_Split r1.2.1 [32]).bind fun r5 =>
    some (.inl r5)
  else
    some (.inl (([] : List (List UInt8))))
noncomputable def cmd_Parse (a0 : List UInt8) : Option (CmdCommand × Int) :=
  (strings_Cut a0 [32]).bind fun r1 =>
  (cmd_kindOf r1.1).bind fun r2 =>
  if (r2 == 0) then
    some (((CmdCommand.mk 0 ([] : List Int) [] ((BrkBreak.mk 0 [] 0 ([] : List ExprNode) false)) ([] : List ExprNode)), 25))
  else
    if 23 ≤ r2 then
      (cmd_Command_rest ((CmdCommand.mk r2 ([] : List Int) [] ((BrkBreak.mk 0 [] 0 ([] : List ExprNode) false)) ([] : List ExprNode))) r1.2.1).bind fun r3 =>
      if (r3.1 != 0) then
        some (((CmdCommand.mk 0 ([] : List Int) [] ((BrkBreak.mk 0 [] 0 ([] : List ExprNode) false)) ([] : List ExprNode)), r3.1))
      else
        some (r3.2, 0)
    else
      jn (cmd_Parse_j0 r1) fun s4 =>
      (cmd_numbers r2 s4).bind fun r6 =>
      if (r6.2 != 0) then
        some (((CmdCommand.mk 0 ([] : List Int) [] ((BrkBreak.mk 0 [] 0 ([] : List ExprNode) false)) ([] : List ExprNode)), r6.2))
      else
        some (((CmdCommand.mk r2 r6.1 [] ((BrkBreak.mk 0 [] 0 ([] : List ExprNode) false)) ([] : List ExprNode)), 0))
def strconv_Itoa (a0 : Int) : Option ((List UInt8)) := itoaP a0
def strings_Join (a0 : List (List UInt8)) (a1 : List UInt8) : Option ((List UInt8)) := joinP a0 a1
noncomputable def expr_tight_l2_step (a0 : Int) (s5 : Int) (x6 : ExprLevel) (s7 : Int) : Option ((Int) ⊕ ((Int) ⊕ ((Unit) ⊕ (Int)))) :=
  if s7 < (x6.ops.length : Int) then
    (idx x6.ops s7).bind fun x8 =>
    if (x8 == a0) then
      some (.inr (.inr (.inr s5)))
    else
      some (.inl ((IntKind.i64.wrap (s7 + 1))))
  else
    some (.inr (.inl ((IntKind.i64.wrap (s5 + 1)))))
noncomputable def expr_tight_l2 (a0 : Int) (s5 : Int) (x6 : ExprLevel) (s7 : Int) : Option ((Int) ⊕ ((Unit) ⊕ (Int))) := run (expr_tight_l2_step a0 s5 x6) s7
noncomputable def expr_tight_l1_step (a0 : Int) (r4 : (List ExprLevel)) (s5 : Int) : Option ((Int) ⊕ ((Unit) ⊕ (Int))) :=
  if s5 < (r4.length : Int) then
    (idx r4 s5).bind fun x6 =>
    expr_tight_l2 a0 s5 x6 0
  else
    some (.inr (.inl ()))
noncomputable def expr_tight_l1 (a0 : Int) (r4 : (List ExprLevel)) (s5 : Int) : Option ((Unit) ⊕ (Int)) := run (expr_tight_l1_step a0 r4) s5
noncomputable def expr_tight_j0 (a0 : Int) : Option ((Unit) ⊕ (Int)) :=
  (expr_levels).bind fun r4 =>
  expr_tight_l1 a0 r4 0
noncomputable def expr_tight (a0 : Int) : Option (Int) :=
  (expr_one a0).bind fun r1 =>
  if r1 then
    (expr_levels).bind fun r2 =>
    some (r2.length : Int)
  else
    jn (expr_tight_j0 a0) fun s3 =>
    (expr_levels).bind fun r9 =>
    some ((IntKind.i64.wrap ((r9.length : Int) + 1)))
noncomputable def internal_strconv_small (a0 : Int) : Option ((List UInt8)) :=
  if a0 < 10 then
    (sub ([48, 49, 50, 51, 52, 53, 54, 55, 56, 57, 97, 98, 99, 100, 101, 102, 103, 104, 105, 106, 107, 108, 109, 110, 111, 112, 113, 114, 115, 116, 117, 118, 119, 120, 121, 122] : List UInt8) a0 ((IntKind.i64.wrap (a0 + 1)))).bind fun m1 =>
    some m1
  else
    (sub ([48, 48, 48, 49, 48, 50, 48, 51, 48, 52, 48, 53, 48, 54, 48, 55, 48, 56, 48, 57, 49, 48, 49, 49, 49, 50, 49, 51, 49, 52, 49, 53, 49, 54, 49, 55, 49, 56, 49, 57, 50, 48, 50, 49, 50, 50, 50, 51, 50, 52, 50, 53, 50, 54, 50, 55, 50, 56, 50, 57, 51, 48, 51, 49, 51, 50, 51, 51, 51, 52, 51, 53, 51, 54, 51, 55, 51, 56, 51, 57, 52, 48, 52, 49, 52, 50, 52, 51, 52, 52, 52, 53, 52, 54, 52, 55, 52, 56, 52, 57, 53, 48, 53, 49, 53, 50, 53, 51, 53, 52, 53, 53, 53, 54, 53, 55, 53, 56, 53, 57, 54, 48, 54, 49, 54, 50, 54, 51, 54, 52, 54, 53, 54, 54, 54, 55, 54, 56, 54, 57, 55, 48, 55, 49, 55, 50, 55, 51, 55, 52, 55, 53, 55, 54, 55, 55, 55, 56, 55, 57, 56, 48, 56, 49, 56, 50, 56, 51, 56, 52, 56, 53, 56, 54, 56, 55, 56, 56, 56, 57, 57, 48, 57, 49, 57, 50, 57, 51, 57, 52, 57, 53, 57, 54, 57, 55, 57, 56, 57, 57] : List UInt8) ((IntKind.i64.wrap (a0 * 2))) ((IntKind.i64.wrap ((IntKind.i64.wrap (a0 * 2)) + 2)))).bind fun m2 =>
    some m2
noncomputable def internal_strconv_FormatInt_j0 (a0 : Int) : Option ((Int) ⊕ ((List UInt8))) :=
  if a0 < 0 then
    some (.inl ((IntKind.u64.wrap (0 - (IntKind.u64.wrap a0)))))
  else
    some (.inl (IntKind.u64.wrap a0))
noncomputable def internal_strconv_FormatInt_j1 (a0 : Int) : Option ((Int) ⊕ ((List UInt8))) :=
  if a0 < 0 then
    some (.inl ((IntKind.u64.wrap (0 - (IntKind.u64.wrap a0)))))
  else
    some (.inl (IntKind.u64.wrap a0))
noncomputable def internal_strconv_FormatInt (a0 : Int) (a1 : Int) : Option ((List UInt8)) :=
  if (a1 == 10) then
    if 0 ≤ a0 then
      if a0 < 100 then
        (internal_strconv_small a0).bind fun r2 =>
        some r2
      else
        jn (internal_strconv_FormatInt_j0 a0) fun s3 =>
        none
    else
      jn (internal_strconv_FormatInt_j1 a0) fun s4 =>
      none
  else
    none
noncomputable def strconv_FormatInt (a0 : Int) (a1 : Int) : Option ((List UInt8)) :=
  (internal_strconv_FormatInt a0 a1).bind fun r2 =>
  some r2
noncomputable def internal_strconv_FormatBool (a0 : Bool) : Option ((List UInt8)) :=
  if a0 then
    some [116, 114, 117, 101]
  else
    some [102, 97, 108, 115, 101]
noncomputable def strconv_FormatBool (a0 : Bool) : Option ((List UInt8)) :=
  (internal_strconv_FormatBool a0).bind fun r1 =>
  some r1
noncomputable def val_Value_Show (a0 : ValValue) : Option ((List UInt8)) :=
  if (a0.Kind == 1) then
    (strconv_FormatInt a0.N 10).bind fun r1 =>
    some r1
  else
    if (a0.Kind == 2) then
      (strconv_FormatBool (a0.N != 0)).bind fun r2 =>
      some r2
    else
      (cat [39] a0.S).bind fun s3 =>
      (cat s3 [39]).bind fun s4 =>
      some s4
noncomputable def expr_sign_l1_step (a0 : Int) (s2 : Int) (x3 : ExprLevel) (s4 : Int) : Option ((Int) ⊕ ((Int) ⊕ ((List UInt8)))) :=
  if s4 < (x3.ops.length : Int) then
    (idx x3.ops s4).bind fun x5 =>
    if (x5 == a0) then
      (idx x3.signs s4).bind fun x6 =>
      some (.inr (.inr x6))
    else
      some (.inl ((IntKind.i64.wrap (s4 + 1))))
  else
    some (.inr (.inl ((IntKind.i64.wrap (s2 + 1)))))
noncomputable def expr_sign_l1 (a0 : Int) (s2 : Int) (x3 : ExprLevel) (s4 : Int) : Option ((Int) ⊕ ((List UInt8))) := run (expr_sign_l1_step a0 s2 x3) s4
noncomputable def expr_sign_l0_step (a0 : Int) (r1 : (List ExprLevel)) (s2 : Int) : Option ((Int) ⊕ ((List UInt8))) :=
  if s2 < (r1.length : Int) then
    (idx r1 s2).bind fun x3 =>
    expr_sign_l1 a0 s2 x3 0
  else
    some (.inr [])
noncomputable def expr_sign_l0 (a0 : Int) (r1 : (List ExprLevel)) (s2 : Int) : Option ((List UInt8)) := run (expr_sign_l0_step a0 r1) s2
noncomputable def expr_sign (a0 : Int) : Option ((List UInt8)) :=
  (expr_levels).bind fun r1 =>
  expr_sign_l0 a0 r1 0
structure expr_Expr_node_Rec where
  expr_Expr_node : (List ExprNode) → Int → Option ((List UInt8))
  expr_Expr_part : (List ExprNode) → Int → Int → Option ((List UInt8))
noncomputable def expr_Expr_node_j0 (x2 : ExprNode) (r3 : Int) : Option ((Int) ⊕ ((List UInt8))) :=
  if 8 ≤ x2.Op then
    if x2.Op ≤ 13 then
      some (.inl ((IntKind.i64.wrap (r3 + 1))))
    else
      some (.inl r3)
  else
    some (.inl r3)
noncomputable def expr_Expr_node_F (R : expr_Expr_node_Rec) (a0 : List ExprNode) (a1 : Int) : Option ((List UInt8)) :=
  (idx a0 a1).bind fun x2 =>
  (expr_tight x2.Op).bind fun r3 =>
  if (x2.Op == 0) then
    (val_Value_Show x2.V).bind fun r4 =>
    some r4
  else
    if (x2.Op == 16) then
      some x2.Name
    else
      if (x2.Op == 17) then
        (cat [105, 110, 40] x2.Name).bind fun s5 =>
        (cat s5 [41]).bind fun s6 =>
        some s6
      else
        if (x2.Op == 1) then
          (R.expr_Expr_part a0 x2.L r3).bind fun r7 =>
          (cat [110, 111, 116, 32] r7).bind fun s8 =>
          some s8
        else
          if (x2.Op == 2) then
            (R.expr_Expr_part a0 x2.L r3).bind fun r9 =>
            (cat [45] r9).bind fun s10 =>
            some s10
          else
            jn (expr_Expr_node_j0 x2 r3) fun s11 =>
            (R.expr_Expr_part a0 x2.L s11).bind fun r12 =>
            (cat r12 [32]).bind fun s13 =>
            (expr_sign x2.Op).bind fun r14 =>
            (cat s13 r14).bind fun s15 =>
            (cat s15 [32]).bind fun s16 =>
            (R.expr_Expr_part a0 x2.R ((IntKind.i64.wrap (r3 + 1)))).bind fun r17 =>
            (cat s16 r17).bind fun s18 =>
            some s18
noncomputable def expr_Expr_part_F (R : expr_Expr_node_Rec) (a0 : List ExprNode) (a1 : Int) (a2 : Int) : Option ((List UInt8)) :=
  (R.expr_Expr_node a0 a1).bind fun r3 =>
  (idx a0 a1).bind fun x4 =>
  (expr_tight x4.Op).bind fun r5 =>
  if r5 < a2 then
    (cat [40] r3).bind fun s6 =>
    (cat s6 [41]).bind fun s7 =>
    some s7
  else
    some r3
noncomputable def expr_Expr_node_rec : Nat → expr_Expr_node_Rec
  | 0 => ⟨fun _ _ => none, fun _ _ _ => none⟩
  | k + 1 => ⟨expr_Expr_node_F (expr_Expr_node_rec k), expr_Expr_part_F (expr_Expr_node_rec k)⟩
noncomputable def expr_Expr_node (a0 : List ExprNode) (a1 : Int) : Option ((List UInt8)) := lim? fun k => (expr_Expr_node_rec k).expr_Expr_node a0 a1
noncomputable def expr_Expr_part (a0 : List ExprNode) (a1 : Int) (a2 : Int) : Option ((List UInt8)) := lim? fun k => (expr_Expr_node_rec k).expr_Expr_part a0 a1 a2
theorem expr_Expr_node_lm {R : Nat → expr_Expr_node_Rec} {W : expr_Expr_node_Rec} (h115 : ∀ (a0 : List ExprNode) (a1 : Int), Lm (fun k => (R k).expr_Expr_node a0 a1) (W.expr_Expr_node a0 a1)) (h141 : ∀ (a0 : List ExprNode) (a1 : Int) (a2 : Int), Lm (fun k => (R k).expr_Expr_part a0 a1 a2) (W.expr_Expr_part a0 a1 a2)) (a0 : List ExprNode) (a1 : Int) : Lm (fun k => expr_Expr_node_F (R k) a0 a1) (expr_Expr_node_F W a0 a1) := by
  simp only [expr_Expr_node_F, expr_Expr_node_j0]
  repeat' first | exact Lm.const _ | exact h115 _ _ | exact h141 _ _ _ | apply Lm.jn | apply Lm.bind | apply Lm.map | apply Lm.ite | apply Lm.run | intro _
theorem expr_Expr_part_lm {R : Nat → expr_Expr_node_Rec} {W : expr_Expr_node_Rec} (h115 : ∀ (a0 : List ExprNode) (a1 : Int), Lm (fun k => (R k).expr_Expr_node a0 a1) (W.expr_Expr_node a0 a1)) (h141 : ∀ (a0 : List ExprNode) (a1 : Int) (a2 : Int), Lm (fun k => (R k).expr_Expr_part a0 a1 a2) (W.expr_Expr_part a0 a1 a2)) (a0 : List ExprNode) (a1 : Int) (a2 : Int) : Lm (fun k => expr_Expr_part_F (R k) a0 a1 a2) (expr_Expr_part_F W a0 a1 a2) := by
  simp only [expr_Expr_part_F]
  repeat' first | exact Lm.const _ | exact h115 _ _ | exact h141 _ _ _ | apply Lm.jn | apply Lm.bind | apply Lm.map | apply Lm.ite | apply Lm.run | intro _
noncomputable def expr_Expr_node_W : expr_Expr_node_Rec := ⟨expr_Expr_node, expr_Expr_part⟩
theorem expr_Expr_node_mono : ∀ k, (∀ a0 a1 r, (expr_Expr_node_rec k).expr_Expr_node a0 a1 = some r → (expr_Expr_node_rec (k + 1)).expr_Expr_node a0 a1 = some r) ∧ (∀ a0 a1 a2 r, (expr_Expr_node_rec k).expr_Expr_part a0 a1 a2 = some r → (expr_Expr_node_rec (k + 1)).expr_Expr_part a0 a1 a2 = some r)
  | 0 => ⟨fun _ _ _ h => (by cases h), fun _ _ _ _ h => (by cases h)⟩
  | k + 1 => by
    obtain ⟨m115, m141⟩ := expr_Expr_node_mono k
    have key : ∀ (f : expr_Expr_node_Rec → Option Unit), True := fun _ => trivial
    have l115 : ∀ a0 a1, Lm (fun j => ((fun j => if j = 0 then expr_Expr_node_rec k else expr_Expr_node_rec (k + 1)) j).expr_Expr_node a0 a1) ((expr_Expr_node_rec (k + 1)).expr_Expr_node a0 a1) := fun _ _ => Lm.step (m115 _ _) (fun j => by by_cases hj : j = 0 <;> simp [hj])
    have l141 : ∀ a0 a1 a2, Lm (fun j => ((fun j => if j = 0 then expr_Expr_node_rec k else expr_Expr_node_rec (k + 1)) j).expr_Expr_part a0 a1 a2) ((expr_Expr_node_rec (k + 1)).expr_Expr_part a0 a1 a2) := fun _ _ _ => Lm.step (m141 _ _ _) (fun j => by by_cases hj : j = 0 <;> simp [hj])
    exact ⟨fun a0 a1 r h => (expr_Expr_node_lm l115 l141 a0 a1).2 0 r h, fun a0 a1 a2 r h => (expr_Expr_part_lm l115 l141 a0 a1 a2).2 0 r h⟩
theorem expr_Expr_node_lim (a0 : List ExprNode) (a1 : Int) : Lm (fun k => (expr_Expr_node_rec k).expr_Expr_node a0 a1) (expr_Expr_node a0 a1) := lim_Lm fun k => (expr_Expr_node_mono k).1 a0 a1
theorem expr_Expr_part_lim (a0 : List ExprNode) (a1 : Int) (a2 : Int) : Lm (fun k => (expr_Expr_node_rec k).expr_Expr_part a0 a1 a2) (expr_Expr_part a0 a1 a2) := lim_Lm fun k => (expr_Expr_node_mono k).2 a0 a1 a2
theorem expr_Expr_node_eq (a0 : List ExprNode) (a1 : Int) : expr_Expr_node a0 a1 = expr_Expr_node_F expr_Expr_node_W a0 a1 := Lm.uniq (expr_Expr_node_lim a0 a1) (expr_Expr_node_lm (R := expr_Expr_node_rec) (W := expr_Expr_node_W) expr_Expr_node_lim expr_Expr_part_lim a0 a1)
theorem expr_Expr_part_eq (a0 : List ExprNode) (a1 : Int) (a2 : Int) : expr_Expr_part a0 a1 a2 = expr_Expr_part_F expr_Expr_node_W a0 a1 a2 := Lm.uniq (expr_Expr_part_lim a0 a1 a2) (expr_Expr_part_lm (R := expr_Expr_node_rec) (W := expr_Expr_node_W) expr_Expr_node_lim expr_Expr_part_lim a0 a1 a2)
noncomputable def expr_Expr_Show (a0 : List ExprNode) : Option ((List UInt8)) :=
  if ((a0.length : Int) == 0) then
    some []
  else
    (expr_Expr_node a0 ((IntKind.i64.wrap ((a0.length : Int) - 1)))).bind fun r1 =>
    some r1
noncomputable def brk_Break_Show_j0 (a0 : BrkBreak) (s3 : List UInt8) : Option (((List UInt8)) ⊕ ((List UInt8))) :=
  if a0.Off then
    (cat [111, 102, 102, 32] s3).bind fun s5 =>
    some (.inl s5)
  else
    some (.inl s3)
noncomputable def brk_Break_Show (a0 : BrkBreak) : Option ((List UInt8)) :=
  (inM 4 a0.Kind).bind fun j1 =>
  (tab2[j1]?).bind fun x2 =>
  (cat x2 [32]).bind fun s3 =>
  jn (brk_Break_Show_j0 a0 s3) fun s4 =>
  if (a0.Kind == 1) then
    (cat s4 a0.Name).bind fun s6 =>
    some s6
  else
    if (a0.Kind == 2) then
      (strconv_Itoa a0.N).bind fun r7 =>
      (cat s4 r7).bind fun s8 =>
      some s8
    else
      (expr_Expr_Show a0.If).bind fun r9 =>
      (cat s4 r9).bind fun s10 =>
      some s10
noncomputable def cmd_Command_Show_l1_step (a0 : CmdCommand) (s4 : (List (List UInt8)) × Int) : Option (((List (List UInt8)) × Int) ⊕ (((List (List UInt8))) ⊕ ((List UInt8)))) :=
  if s4.2 < (a0.N.length : Int) then
    (idx a0.N s4.2).bind fun x5 =>
    (strconv_Itoa x5).bind fun r6 =>
    (app 16 s4.1 [r6]).bind fun l7 =>
    some (.inl ((l7, (IntKind.i64.wrap (s4.2 + 1)))))
  else
    some (.inr (.inl s4.1))
noncomputable def cmd_Command_Show_l1 (a0 : CmdCommand) (s4 : (List (List UInt8)) × Int) : Option (((List (List UInt8))) ⊕ ((List UInt8))) := run (cmd_Command_Show_l1_step a0) s4
noncomputable def cmd_Command_Show_j0 (a0 : CmdCommand) (x2 : List UInt8) : Option (((List (List UInt8))) ⊕ ((List UInt8))) :=
  cmd_Command_Show_l1 a0 ([x2], 0)
noncomputable def cmd_Command_Show (a0 : CmdCommand) : Option ((List UInt8)) :=
  (inM 26 a0.Kind).bind fun j1 =>
  (tab1[j1]?).bind fun x2 =>
  jn (cmd_Command_Show_j0 a0 x2) fun s3 =>
  if (a0.Kind == 23) then
    (app 16 s3 [a0.Name]).bind fun l8 =>
    (strings_Join l8 [32]).bind fun r9 =>
    some r9
  else
    if (a0.Kind == 24) then
      (brk_Break_Show a0.Break).bind fun r10 =>
      (app 16 s3 [r10]).bind fun l11 =>
      (strings_Join l11 [32]).bind fun r12 =>
      some r12
    else
      if (a0.Kind == 25) then
        (expr_Expr_Show a0.Watch).bind fun r13 =>
        (app 16 s3 [r13]).bind fun l14 =>
        (strings_Join l14 [32]).bind fun r15 =>
        some r15
      else
        (strings_Join s3 [32]).bind fun r16 =>
        some r16
noncomputable def wlaw31_anchor : Option (Bool) :=
  (cmd_Parse [114, 117, 110]).bind fun r0 =>
  (cmd_Parse [115, 116, 101, 112, 32, 32, 49]).bind fun r1 =>
  if (r0.2 == 0) then
    (cmd_Command_Show r0.1).bind fun r2 =>
    if (r2 == [114, 117, 110, 32, 53, 49, 50]) then
      some (r1.2 == 11)
    else
      some false
  else
    some false
noncomputable def wref31_Words : Option (Unit) :=
  some ()
structure wref01_Digits_Rec where
  wref01_Digits : Int → Option ((List UInt8))
noncomputable def wref01_Digits_F (R : wref01_Digits_Rec) (a0 : Int) : Option ((List UInt8)) :=
  if a0 ≤ (-10) then
    (quo .i64 a0 10).bind fun q1 =>
    (R.wref01_Digits q1).bind fun r2 =>
    (rem a0 10).bind fun q3 =>
    (R.wref01_Digits ((IntKind.i64.wrap (0 - q3)))).bind fun r4 =>
    (cat r2 r4).bind fun s5 =>
    some s5
  else
    if a0 < 0 then
      (R.wref01_Digits ((IntKind.i64.wrap (0 - a0)))).bind fun r6 =>
      (cat [45] r6).bind fun s7 =>
      some s7
    else
      if a0 < 10 then
        (str8 [(IntKind.u8.wrap ((IntKind.i64.wrap (48 + a0))))]).bind fun t8 =>
        some t8
      else
        (quo .i64 a0 10).bind fun q9 =>
        (R.wref01_Digits q9).bind fun r10 =>
        (rem a0 10).bind fun q11 =>
        (R.wref01_Digits q11).bind fun r12 =>
        (cat r10 r12).bind fun s13 =>
        some s13
noncomputable def wref01_Digits_rec : Nat → wref01_Digits_Rec
  | 0 => ⟨fun _ => none⟩
  | k + 1 => ⟨wref01_Digits_F (wref01_Digits_rec k)⟩
noncomputable def wref01_Digits (a0 : Int) : Option ((List UInt8)) := lim? fun k => (wref01_Digits_rec k).wref01_Digits a0
theorem wref01_Digits_lm {R : Nat → wref01_Digits_Rec} {W : wref01_Digits_Rec} (h26 : ∀ (a0 : Int), Lm (fun k => (R k).wref01_Digits a0) (W.wref01_Digits a0)) (a0 : Int) : Lm (fun k => wref01_Digits_F (R k) a0) (wref01_Digits_F W a0) := by
  simp only [wref01_Digits_F]
  repeat' first | exact Lm.const _ | exact h26 _ | apply Lm.jn | apply Lm.bind | apply Lm.map | apply Lm.ite | apply Lm.run | intro _
noncomputable def wref01_Digits_W : wref01_Digits_Rec := ⟨wref01_Digits⟩
theorem wref01_Digits_mono : ∀ k, (∀ a0 r, (wref01_Digits_rec k).wref01_Digits a0 = some r → (wref01_Digits_rec (k + 1)).wref01_Digits a0 = some r)
  | 0 => fun _ _ h => (by cases h)
  | k + 1 => by
    obtain m26 := wref01_Digits_mono k
    have key : ∀ (f : wref01_Digits_Rec → Option Unit), True := fun _ => trivial
    have l26 : ∀ a0, Lm (fun j => ((fun j => if j = 0 then wref01_Digits_rec k else wref01_Digits_rec (k + 1)) j).wref01_Digits a0) ((wref01_Digits_rec (k + 1)).wref01_Digits a0) := fun _ => Lm.step (m26 _) (fun j => by by_cases hj : j = 0 <;> simp [hj])
    exact fun a0 r h => (wref01_Digits_lm l26 a0).2 0 r h
theorem wref01_Digits_lim (a0 : Int) : Lm (fun k => (wref01_Digits_rec k).wref01_Digits a0) (wref01_Digits a0) := lim_Lm fun k => (wref01_Digits_mono k) a0
theorem wref01_Digits_eq (a0 : Int) : wref01_Digits a0 = wref01_Digits_F wref01_Digits_W a0 := Lm.uniq (wref01_Digits_lim a0) (wref01_Digits_lm (R := wref01_Digits_rec) (W := wref01_Digits_W) wref01_Digits_lim a0)
noncomputable def wlaw31_CmdNumbers_j0 (a0 : Int) : Option ((Int × Int) ⊕ (Bool)) :=
  if (a0 == 10) then
    some (.inl (1, 512))
  else
    if (a0 == 11) then
      some (.inl (1, 512))
    else
      if (a0 == 12) then
        some (.inl (1, 512))
      else
        if (a0 == 13) then
          some (.inl (1, 512))
        else
          if (a0 == 15) then
            some (.inl (1, 1048576))
          else
            if (a0 == 16) then
              some (.inl (0, 7))
            else
              if (a0 == 20) then
                some (.inl (0, 7))
              else
                if (a0 == 17) then
                  some (.inl (0, 15))
                else
                  if (a0 == 18) then
                    some (.inl (0, 15))
                  else
                    if (a0 == 19) then
                      some (.inl (0, 15))
                    else
                      some (.inl (0, 512))
noncomputable def wlaw31_CmdNumbers (a0 : Int) (a1 : Int) : Option (Bool) :=
  (wlaw31_anchor).bind fun r2 =>
  if r2 then
    if a0 < 10 then
      some true
    else
      if 20 < a0 then
        some true
      else
        if a1 < 0 then
          some true
        else
          if 999999999 < a1 then
            some true
          else
            jn (wlaw31_CmdNumbers_j0 a0) fun s3 =>
            (wref31_Words).bind fun r4 =>
            (idx tabF25 a0).bind fun x5 =>
            (cat x5 [32]).bind fun s6 =>
            (wref01_Digits a1).bind fun r7 =>
            (cat s6 r7).bind fun s8 =>
            (cmd_Parse s8).bind fun r9 =>
            if a1 < s3.1 then
              if (r9.2 == 10) then
                some (r9.1.Kind == 0)
              else
                some false
            else
              if s3.2 < a1 then
                if (r9.2 == 10) then
                  some (r9.1.Kind == 0)
                else
                  some false
              else
                if (r9.2 == 0) then
                  if (r9.1.Kind == a0) then
                    if ((r9.1.N.length : Int) == 1) then
                      (idx r9.1.N 0).bind fun x10 =>
                      some (x10 == a1)
                    else
                      some false
                  else
                    some false
                else
                  some false
  else
    some false
noncomputable def wref31_Split_l0_step (a0 : List UInt8) (s1 : (List (List UInt8)) × Int × Int) : Option (((List (List UInt8)) × Int × Int) ⊕ ((List (List UInt8)))) :=
  if s1.2.2 < (a0.length : Int) then
    (idx a0 s1.2.2).bind fun c2 =>
    if ((c2.toNat : Int) == 32) then
      (sub a0 s1.2.1 s1.2.2).bind fun m3 =>
      (app 16 s1.1 [m3]).bind fun l4 =>
      some (.inl ((l4, (IntKind.i64.wrap (s1.2.2 + 1)), (IntKind.i64.wrap (s1.2.2 + 1)))))
    else
      some (.inl ((s1.1, s1.2.1, (IntKind.i64.wrap (s1.2.2 + 1)))))
  else
    (subF a0 s1.2.1).bind fun m5 =>
    (app 16 s1.1 [m5]).bind fun l6 =>
    some (.inr l6)
noncomputable def wref31_Split_l0 (a0 : List UInt8) (s1 : (List (List UInt8)) × Int × Int) : Option ((List (List UInt8))) := run (wref31_Split_l0_step a0) s1
noncomputable def wref31_Split (a0 : List UInt8) : Option ((List (List UInt8))) :=
  wref31_Split_l0 a0 ((([] : List (List UInt8)), 0, 0))
noncomputable def wref02_letter (a0 : Int) : Option (Bool) :=
  if 97 ≤ a0 then
    some ((decide (a0 ≤ 122)))
  else
    some false
noncomputable def wref02_inner (a0 : Int) : Option (Bool) :=
  (wref02_letter a0).bind fun r1 =>
  if r1 then
    some true
  else
    if 48 ≤ a0 then
      if a0 ≤ 57 then
        some true
      else
        some (a0 == 95)
    else
      some (a0 == 95)
noncomputable def wref02_word_l0_step (a0 : List UInt8) (a1 : Int) (s2 : Int) : Option ((Int) ⊕ (Int)) :=
  if (IntKind.i64.wrap (a1 + s2)) < (a0.length : Int) then
    (idx a0 ((IntKind.i64.wrap (a1 + s2)))).bind fun c3 =>
    (wref02_inner (c3.toNat : Int)).bind fun r4 =>
    if r4 then
      some (.inl ((IntKind.i64.wrap (s2 + 1))))
    else
      some (.inr s2)
  else
    some (.inr s2)
noncomputable def wref02_word_l0 (a0 : List UInt8) (a1 : Int) (s2 : Int) : Option (Int) := run (wref02_word_l0_step a0 a1) s2
noncomputable def wref02_word (a0 : List UInt8) (a1 : Int) : Option (Int) :=
  wref02_word_l0 a0 a1 0
noncomputable def wref02_Means_l0_step (a0 : List UInt8) (s1 : Int) : Option ((Int) ⊕ (Bool)) :=
  if (IntKind.i64.wrap ((IntKind.i64.wrap (s1 + (a0.length : Int))) + 2)) ≤ 134 then
    (sub ([32, 99, 104, 97, 114, 116, 32, 118, 97, 114, 32, 115, 116, 97, 116, 101, 32, 112, 97, 114, 97, 108, 108, 101, 108, 32, 102, 105, 110, 97, 108, 32, 100, 101, 101, 112, 32, 115, 104, 97, 108, 108, 111, 119, 32, 101, 110, 116, 101, 114, 32, 101, 120, 105, 116, 32, 111, 110, 32, 97, 117, 116, 111, 32, 101, 110, 100, 32, 105, 102, 32, 103, 111, 32, 105, 110, 110, 101, 114, 32, 100, 111, 32, 115, 101, 116, 32, 114, 97, 105, 115, 101, 32, 115, 101, 110, 100, 32, 99, 97, 110, 99, 101, 108, 32, 108, 111, 103, 32, 116, 114, 117, 101, 32, 102, 97, 108, 115, 101, 32, 110, 111, 116, 32, 97, 110, 100, 32, 111, 114, 32, 105, 110, 32] : List UInt8) s1 ((IntKind.i64.wrap ((IntKind.i64.wrap (s1 + (a0.length : Int))) + 2)))).bind fun m2 =>
    (cat [32] a0).bind fun s3 =>
    (cat s3 [32]).bind fun s4 =>
    if (m2 == s4) then
      if (a0 == []) then
        some (.inr false)
      else
        (wref02_word a0 0).bind fun r5 =>
        some (.inr ((r5 == (a0.length : Int))))
    else
      some (.inl ((IntKind.i64.wrap (s1 + 1))))
  else
    some (.inr false)
noncomputable def wref02_Means_l0 (a0 : List UInt8) (s1 : Int) : Option (Bool) := run (wref02_Means_l0_step a0) s1
noncomputable def wref02_Means (a0 : List UInt8) : Option (Bool) :=
  wref02_Means_l0 a0 0
noncomputable def cmd_Is_l1_step (a1 : List Int) (r2 : (List UInt8) × (List UInt8) × Bool) (s4 : Int) : Option ((Int) ⊕ ((Unit) ⊕ (Bool))) :=
  if s4 < (a1.length : Int) then
    (idx a1 s4).bind fun x5 =>
    if 1 ≤ x5 then
      if x5 ≤ 25 then
        (inM 26 x5).bind fun j6 =>
        (tab1[j6]?).bind fun x7 =>
        if (x7 == r2.1) then
          some (.inr (.inr true))
        else
          some (.inl ((IntKind.i64.wrap (s4 + 1))))
      else
        some (.inl ((IntKind.i64.wrap (s4 + 1))))
    else
      some (.inl ((IntKind.i64.wrap (s4 + 1))))
  else
    some (.inr (.inl ()))
noncomputable def cmd_Is_l1 (a1 : List Int) (r2 : (List UInt8) × (List UInt8) × Bool) (s4 : Int) : Option ((Unit) ⊕ (Bool)) := run (cmd_Is_l1_step a1 r2) s4
noncomputable def cmd_Is_j0 (a1 : List Int) (r2 : (List UInt8) × (List UInt8) × Bool) : Option ((Unit) ⊕ (Bool)) :=
  cmd_Is_l1 a1 r2 0
noncomputable def cmd_Is (a0 : List UInt8) (a1 : List Int) : Option (Bool) :=
  (strings_Cut a0 [32]).bind fun r2 =>
  jn (cmd_Is_j0 a1 r2) fun s3 =>
  (tok_Means r2.1).bind fun r8 =>
  if r8 then
    some (((a1.length : Int) == 0))
  else
    some false
noncomputable def wlaw31_CmdIs_l1_step (a1 : List Int) (x4 : List UInt8) (s7 : Bool × Int) : Option ((Bool × Int) ⊕ ((Bool) ⊕ (Bool))) :=
  if s7.2 < (a1.length : Int) then
    (idx a1 s7.2).bind fun x8 =>
    if s7.1 then
      some (.inl ((true, (IntKind.i64.wrap (s7.2 + 1)))))
    else
      if 1 ≤ x8 then
        if x8 < 26 then
          (inM 26 x8).bind fun j9 =>
          (([[], [108, 111, 97, 100], [105, 109, 112, 111, 114, 116], [101, 120, 112, 111, 114, 116], [115, 104, 111, 119], [98, 114, 101, 97, 107, 115], [119, 97, 116, 99, 104, 101, 115], [98, 114, 97, 110, 99, 104, 101, 115], [99, 111, 118, 101, 114], [108, 105, 110, 116], [115, 116, 101, 112], [98, 97, 99, 107], [114, 117, 110], [114, 98, 97, 99, 107], [106, 117, 109, 112], [116, 105, 99, 107], [98, 114, 97, 110, 99, 104], [117, 110, 98, 114, 101, 97, 107], [101, 110, 97, 98, 108, 101], [100, 105, 115, 97, 98, 108, 101], [117, 110, 119, 97, 116, 99, 104], [100, 105, 102, 102], [99, 97, 112, 115], [115, 101, 110, 100], [98, 114, 101, 97, 107], [119, 97, 116, 99, 104]])[j9]?).bind fun x10 =>
          some (.inl (((x10 == x4), (IntKind.i64.wrap (s7.2 + 1)))))
        else
          some (.inl ((false, (IntKind.i64.wrap (s7.2 + 1)))))
      else
        some (.inl ((false, (IntKind.i64.wrap (s7.2 + 1)))))
  else
    some (.inr (.inl s7.1))
noncomputable def wlaw31_CmdIs_l1 (a1 : List Int) (x4 : List UInt8) (s7 : Bool × Int) : Option ((Bool) ⊕ (Bool)) := run (wlaw31_CmdIs_l1_step a1 x4) s7
noncomputable def wlaw31_CmdIs_j0 (a1 : List Int) (x4 : List UInt8) : Option ((Bool) ⊕ (Bool)) :=
  wlaw31_CmdIs_l1 a1 x4 (false, 0)
noncomputable def wlaw31_CmdIs (a0 : List UInt8) (a1 : List Int) : Option (Bool) :=
  (wlaw31_anchor).bind fun r2 =>
  if r2 then
    if 800 < (a0.length : Int) then
      some true
    else
      if 50 < (a1.length : Int) then
        some true
      else
        (wref31_Split a0).bind fun r3 =>
        (idx r3 0).bind fun x4 =>
        (wref31_Words).bind fun r5 =>
        jn (wlaw31_CmdIs_j0 a1 x4) fun s6 =>
        if ((a1.length : Int) == 0) then
          (wref02_Means x4).bind fun r11 =>
          (cmd_Is a0 a1).bind fun r12 =>
          some (r12 == r11)
        else
          (cmd_Is a0 a1).bind fun r13 =>
          some (r13 == s6)
  else
    some false
end Go.Proofs.YtilmjbljkkbakaaGreatDoor
