/-
  DERIVED. GIVEN WITH THE SEED: THE CARDS: each row of YtilmjbljkkbakaaGreatDoorRows.lean that lists a variable, with what it lists TIED to the program's text (the seventh form; the later family's looks); each row that meets fmt, with fmt's text TOLD by the authors' own Lean function (tested against real Go, not proved from fmt's source: count such statements apart). THE CARD IS WHAT COUNTS. Prove the row's statement (the work); the ties are given (YtilmjbljkkbakaaGreatDoorTie.lean); close each card by the builder's one call (the guide's Derived/Test/ToyasCard.lean, 'card_holds'). Laid BY PROGRAM, IN A SANDBOX (cutbox-door.mjs). By AI agents, Wed Nov 11 2026. No macro, syntax, notation, axiom, sorry.
-/
import Derived.Test.YtilmjbljkkbakaaGreatDoorRows
import GoSem.ClaimSeven
namespace Go.Proofs.YtilmjbljkkbakaaGreatDoor
namespace Rows

/-- THE TIED CARD OF 'whirligiglaw07.LineStates'. -/
def lineStatesCard : Claim7 := { stood := { row := lineStatesRow, standIns := [], harness := (true, "13bbdcaa9aacfc6ac35173c3f05797ad1c3abd8f0526754e0a132abfee0fd8a6"), looks := false }, kinds := [], alts := [], laidByText := true, laidKinds := [.data, .data, .data, .data, .data], laidTests := true, laidLooks := .later }
def LineStatesCardSaid : Prop := Claim7.holds Tryz.pinned (.plain (OpenSpec.ofChange lineStatesSpec)) lineStatesCard

/-- THE TIED CARD OF 'whirligiglaw08.ChartRemarks'. -/
def chartRemarksCard : Claim7 := { stood := { row := chartRemarksRow, standIns := [], harness := (true, "13bbdcaa9aacfc6ac35173c3f05797ad1c3abd8f0526754e0a132abfee0fd8a6"), looks := false }, kinds := [], alts := [], laidByText := true, laidKinds := [.data, .data, .data, .pinned], laidTests := true, laidLooks := .later }
def ChartRemarksCardSaid : Prop := Claim7.holds Tryz.pinned (.plain (OpenSpec.ofChange chartRemarksSpec)) chartRemarksCard

/-- THE TIED CARD OF 'whirligiglaw08.ChartFinds'. -/
def chartFindsCard : Claim7 := { stood := { row := chartFindsRow, standIns := [], harness := (true, "13bbdcaa9aacfc6ac35173c3f05797ad1c3abd8f0526754e0a132abfee0fd8a6"), looks := false }, kinds := [], alts := [], laidByText := true, laidKinds := [.data, .data, .data, .pinned], laidTests := true, laidLooks := .later }
def ChartFindsCardSaid : Prop := Claim7.holds Tryz.pinned (.plain (OpenSpec.ofChange chartFindsSpec)) chartFindsCard

/-- THE TIED CARD OF 'whirligiglaw31.CmdNumbers'. -/
def cmdNumbersCard : Claim7 := { stood := { row := cmdNumbersRow, standIns := [], harness := (true, "13bbdcaa9aacfc6ac35173c3f05797ad1c3abd8f0526754e0a132abfee0fd8a6"), looks := false }, kinds := [], alts := [], laidByText := true, laidKinds := [.data, .data, .data, .data, .data, .data, .data, .pinned], laidTests := true, laidLooks := .later }
def CmdNumbersCardSaid : Prop := Claim7.holds Tryz.pinned (.plain (OpenSpec.ofChange cmdNumbersSpec)) cmdNumbersCard

/-- THE TIED CARD OF 'whirligiglaw31.CmdIs'. -/
def cmdIsCard : Claim7 := { stood := { row := cmdIsRow, standIns := [], harness := (true, "13bbdcaa9aacfc6ac35173c3f05797ad1c3abd8f0526754e0a132abfee0fd8a6"), looks := false }, kinds := [], alts := [], laidByText := true, laidKinds := [.data, .data, .data, .data, .data, .data, .data, .pinned], laidTests := true, laidLooks := .later }
def CmdIsCardSaid : Prop := Claim7.holds Tryz.pinned (.plain (OpenSpec.ofChange cmdIsSpec)) cmdIsCard

/-- THE SECOND FORM's CARD OF 'whirligiglaw07.LineStates'. -/
def lineStatesUptoCard : Claim7 := { stood := { row := lineStatesUptoRow, standIns := [], harness := (true, "13bbdcaa9aacfc6ac35173c3f05797ad1c3abd8f0526754e0a132abfee0fd8a6"), looks := false }, kinds := [], alts := [], laidByText := true, laidKinds := [.data, .data, .data, .data, .data], laidTests := true, laidLooks := .later }
def LineStatesUptoCardSaid : Prop := Claim7.holds Tryz.pinned (.plain (OpenSpec.upto lineStatesSpec)) lineStatesUptoCard

/-- THE SECOND FORM's CARD OF 'whirligiglaw08.ChartRemarks'. -/
def chartRemarksUptoCard : Claim7 := { stood := { row := chartRemarksUptoRow, standIns := [], harness := (true, "13bbdcaa9aacfc6ac35173c3f05797ad1c3abd8f0526754e0a132abfee0fd8a6"), looks := false }, kinds := [], alts := [], laidByText := true, laidKinds := [.data, .data, .data, .pinned], laidTests := true, laidLooks := .later }
def ChartRemarksUptoCardSaid : Prop := Claim7.holds Tryz.pinned (.plain (OpenSpec.upto chartRemarksSpec)) chartRemarksUptoCard

/-- THE SECOND FORM's CARD OF 'whirligiglaw08.ChartFinds'. -/
def chartFindsUptoCard : Claim7 := { stood := { row := chartFindsUptoRow, standIns := [], harness := (true, "13bbdcaa9aacfc6ac35173c3f05797ad1c3abd8f0526754e0a132abfee0fd8a6"), looks := false }, kinds := [], alts := [], laidByText := true, laidKinds := [.data, .data, .data, .pinned], laidTests := true, laidLooks := .later }
def ChartFindsUptoCardSaid : Prop := Claim7.holds Tryz.pinned (.plain (OpenSpec.upto chartFindsSpec)) chartFindsUptoCard

/-- THE SECOND FORM's CARD OF 'whirligiglaw31.CmdNumbers'. -/
def cmdNumbersUptoCard : Claim7 := { stood := { row := cmdNumbersUptoRow, standIns := [], harness := (true, "13bbdcaa9aacfc6ac35173c3f05797ad1c3abd8f0526754e0a132abfee0fd8a6"), looks := false }, kinds := [], alts := [], laidByText := true, laidKinds := [.data, .data, .data, .data, .data, .data, .data, .pinned], laidTests := true, laidLooks := .later }
def CmdNumbersUptoCardSaid : Prop := Claim7.holds Tryz.pinned (.plain (OpenSpec.upto cmdNumbersSpec)) cmdNumbersUptoCard

/-- THE SECOND FORM's CARD OF 'whirligiglaw31.CmdIs'. -/
def cmdIsUptoCard : Claim7 := { stood := { row := cmdIsUptoRow, standIns := [], harness := (true, "13bbdcaa9aacfc6ac35173c3f05797ad1c3abd8f0526754e0a132abfee0fd8a6"), looks := false }, kinds := [], alts := [], laidByText := true, laidKinds := [.data, .data, .data, .data, .data, .data, .data, .pinned], laidTests := true, laidLooks := .later }
def CmdIsUptoCardSaid : Prop := Claim7.holds Tryz.pinned (.plain (OpenSpec.upto cmdIsSpec)) cmdIsUptoCard
end Rows
end Go.Proofs.YtilmjbljkkbakaaGreatDoor
