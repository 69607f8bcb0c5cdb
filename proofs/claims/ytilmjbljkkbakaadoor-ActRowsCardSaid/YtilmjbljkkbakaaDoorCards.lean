/-
  DERIVED. GIVEN WITH THE SEED: THE CARDS: each row of YtilmjbljkkbakaaDoorRows.lean that lists a variable, with what it lists TIED to the program's text (the seventh form; the later family's looks); each row that meets fmt, with fmt's text TOLD by the authors' own Lean function (tested against real Go, not proved from fmt's source: count such statements apart). THE CARD IS WHAT COUNTS. Prove the row's statement (the work); the ties are given (YtilmjbljkkbakaaDoorTie.lean); close each card by the builder's one call (the guide's Derived/Test/ToyasCard.lean, 'card_holds'). Laid BY PROGRAM, IN A SANDBOX (cutbox-door.mjs). By AI agents, Wed Nov 11 2026. No macro, syntax, notation, axiom, sorry.
-/
import Derived.Test.YtilmjbljkkbakaaDoorRows
import GoSem.ClaimSeven
namespace Go.Proofs.YtilmjbljkkbakaaDoor
namespace Rows

/-- THE TIED CARD OF 'whirligiglaw03.ExprAhead'. -/
def exprAheadCard : Claim7 := { stood := { row := exprAheadRow, standIns := [], harness := (true, "188241ac4e7205a1da57a8a22dfb363258b3d5e8340c4617cafb2d09284149f0"), looks := false }, kinds := [], alts := [], laidByText := true, laidKinds := [.data, .data, .data, .data], laidTests := true, laidLooks := .later }
def ExprAheadCardSaid : Prop := Claim7.holds Tryd.pinned (.plain (OpenSpec.ofChange exprAheadSpec)) exprAheadCard

/-- THE TIED CARD OF 'whirligiglaw06.ActRows'. -/
def actRowsCard : Claim7 := { stood := { row := actRowsRow, standIns := [], harness := (true, "188241ac4e7205a1da57a8a22dfb363258b3d5e8340c4617cafb2d09284149f0"), looks := false }, kinds := [], alts := [], laidByText := true, laidKinds := [.data, .data, .data, .data], laidTests := true, laidLooks := .later }
def ActRowsCardSaid : Prop := Claim7.holds Tryd.pinned (.plain (OpenSpec.ofChange actRowsSpec)) actRowsCard

/-- THE SECOND FORM's CARD OF 'whirligiglaw03.ExprAhead'. -/
def exprAheadUptoCard : Claim7 := { stood := { row := exprAheadUptoRow, standIns := [], harness := (true, "188241ac4e7205a1da57a8a22dfb363258b3d5e8340c4617cafb2d09284149f0"), looks := false }, kinds := [], alts := [], laidByText := true, laidKinds := [.data, .data, .data, .data], laidTests := true, laidLooks := .later }
def ExprAheadUptoCardSaid : Prop := Claim7.holds Tryd.pinned (.plain (OpenSpec.upto exprAheadSpec)) exprAheadUptoCard

/-- THE SECOND FORM's CARD OF 'whirligiglaw06.ActRows'. -/
def actRowsUptoCard : Claim7 := { stood := { row := actRowsUptoRow, standIns := [], harness := (true, "188241ac4e7205a1da57a8a22dfb363258b3d5e8340c4617cafb2d09284149f0"), looks := false }, kinds := [], alts := [], laidByText := true, laidKinds := [.data, .data, .data, .data], laidTests := true, laidLooks := .later }
def ActRowsUptoCardSaid : Prop := Claim7.holds Tryd.pinned (.plain (OpenSpec.upto actRowsSpec)) actRowsUptoCard
end Rows
end Go.Proofs.YtilmjbljkkbakaaDoor
