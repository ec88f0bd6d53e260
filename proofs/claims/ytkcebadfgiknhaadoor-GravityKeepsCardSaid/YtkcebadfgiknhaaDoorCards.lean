/-
  DERIVED. GIVEN WITH THE SEED: THE CARDS: each row of YtkcebadfgiknhaaDoorRows.lean that lists a variable, with what it lists TIED to the program's text (the seventh form; the later family's looks); each row that meets fmt, with fmt's text TOLD by the authors' own Lean function (tested against real Go, not proved from fmt's source: count such statements apart). THE CARD IS WHAT COUNTS. Prove the row's statement (the work); the ties are given (YtkcebadfgiknhaaDoorTie.lean); close each card by the builder's one call (the guide's Derived/Test/ToyasCard.lean, 'card_holds'). Laid BY PROGRAM, IN A SANDBOX (cutbox-door.mjs). By AI agents, Wed Nov 11 2026. No macro, syntax, notation, axiom, sorry.
-/
import Derived.Test.YtkcebadfgiknhaaDoorRows
import GoSem.ClaimSeven
namespace Go.Proofs.YtkcebadfgiknhaaDoor
namespace Rows

/-- THE TIED CARD OF 'glazierlaw16.GravityMoves'. -/
def gravityMovesCard : Claim7 := { stood := { row := gravityMovesRow, standIns := [], harness := (true, "3010b521429e31a8502664bd9e7953d0877e431db8d40da22ad28cb32c9c9312"), looks := false }, kinds := [], alts := [], laidByText := true, laidKinds := [.data, .data], laidTests := true, laidLooks := .later }
def GravityMovesCardSaid : Prop := Claim7.holds Tryd.pinned (.plain (OpenSpec.ofChange gravityMovesSpec)) gravityMovesCard

/-- THE TIED CARD OF 'glazierlaw16.GravityStays'. -/
def gravityStaysCard : Claim7 := { stood := { row := gravityStaysRow, standIns := [], harness := (true, "3010b521429e31a8502664bd9e7953d0877e431db8d40da22ad28cb32c9c9312"), looks := false }, kinds := [], alts := [], laidByText := true, laidKinds := [.data, .data], laidTests := true, laidLooks := .later }
def GravityStaysCardSaid : Prop := Claim7.holds Tryd.pinned (.plain (OpenSpec.ofChange gravityStaysSpec)) gravityStaysCard

/-- THE TIED CARD OF 'glazierlaw16.GravityEdges'. -/
def gravityEdgesCard : Claim7 := { stood := { row := gravityEdgesRow, standIns := [], harness := (true, "3010b521429e31a8502664bd9e7953d0877e431db8d40da22ad28cb32c9c9312"), looks := false }, kinds := [], alts := [], laidByText := true, laidKinds := [.data, .data], laidTests := true, laidLooks := .later }
def GravityEdgesCardSaid : Prop := Claim7.holds Tryd.pinned (.plain (OpenSpec.ofChange gravityEdgesSpec)) gravityEdgesCard

/-- THE TIED CARD OF 'glazierlaw16.GravityTurns'. -/
def gravityTurnsCard : Claim7 := { stood := { row := gravityTurnsRow, standIns := [], harness := (true, "3010b521429e31a8502664bd9e7953d0877e431db8d40da22ad28cb32c9c9312"), looks := false }, kinds := [], alts := [], laidByText := true, laidKinds := [.data, .data], laidTests := true, laidLooks := .later }
def GravityTurnsCardSaid : Prop := Claim7.holds Tryd.pinned (.plain (OpenSpec.ofChange gravityTurnsSpec)) gravityTurnsCard

/-- THE TIED CARD OF 'glazierlaw16.GravityKeeps'. -/
def gravityKeepsCard : Claim7 := { stood := { row := gravityKeepsRow, standIns := [], harness := (true, "3010b521429e31a8502664bd9e7953d0877e431db8d40da22ad28cb32c9c9312"), looks := false }, kinds := [], alts := [], laidByText := true, laidKinds := [.data, .data], laidTests := true, laidLooks := .later }
def GravityKeepsCardSaid : Prop := Claim7.holds Tryd.pinned (.plain (OpenSpec.ofChange gravityKeepsSpec)) gravityKeepsCard

/-- THE TIED CARD OF 'glazierlaw16.GravityNames'. -/
def gravityNamesCard : Claim7 := { stood := { row := gravityNamesRow, standIns := [], harness := (true, "3010b521429e31a8502664bd9e7953d0877e431db8d40da22ad28cb32c9c9312"), looks := false }, kinds := [], alts := [], laidByText := true, laidKinds := [.data, .data], laidTests := true, laidLooks := .later }
def GravityNamesCardSaid : Prop := Claim7.holds Tryd.pinned (.plain (OpenSpec.ofChange gravityNamesSpec)) gravityNamesCard

/-- THE SECOND FORM's CARD OF 'glazierlaw16.GravityMoves'. -/
def gravityMovesUptoCard : Claim7 := { stood := { row := gravityMovesUptoRow, standIns := [], harness := (true, "3010b521429e31a8502664bd9e7953d0877e431db8d40da22ad28cb32c9c9312"), looks := false }, kinds := [], alts := [], laidByText := true, laidKinds := [.data, .data], laidTests := true, laidLooks := .later }
def GravityMovesUptoCardSaid : Prop := Claim7.holds Tryd.pinned (.plain (OpenSpec.upto gravityMovesSpec)) gravityMovesUptoCard

/-- THE SECOND FORM's CARD OF 'glazierlaw16.GravityStays'. -/
def gravityStaysUptoCard : Claim7 := { stood := { row := gravityStaysUptoRow, standIns := [], harness := (true, "3010b521429e31a8502664bd9e7953d0877e431db8d40da22ad28cb32c9c9312"), looks := false }, kinds := [], alts := [], laidByText := true, laidKinds := [.data, .data], laidTests := true, laidLooks := .later }
def GravityStaysUptoCardSaid : Prop := Claim7.holds Tryd.pinned (.plain (OpenSpec.upto gravityStaysSpec)) gravityStaysUptoCard

/-- THE SECOND FORM's CARD OF 'glazierlaw16.GravityEdges'. -/
def gravityEdgesUptoCard : Claim7 := { stood := { row := gravityEdgesUptoRow, standIns := [], harness := (true, "3010b521429e31a8502664bd9e7953d0877e431db8d40da22ad28cb32c9c9312"), looks := false }, kinds := [], alts := [], laidByText := true, laidKinds := [.data, .data], laidTests := true, laidLooks := .later }
def GravityEdgesUptoCardSaid : Prop := Claim7.holds Tryd.pinned (.plain (OpenSpec.upto gravityEdgesSpec)) gravityEdgesUptoCard

/-- THE SECOND FORM's CARD OF 'glazierlaw16.GravityTurns'. -/
def gravityTurnsUptoCard : Claim7 := { stood := { row := gravityTurnsUptoRow, standIns := [], harness := (true, "3010b521429e31a8502664bd9e7953d0877e431db8d40da22ad28cb32c9c9312"), looks := false }, kinds := [], alts := [], laidByText := true, laidKinds := [.data, .data], laidTests := true, laidLooks := .later }
def GravityTurnsUptoCardSaid : Prop := Claim7.holds Tryd.pinned (.plain (OpenSpec.upto gravityTurnsSpec)) gravityTurnsUptoCard

/-- THE SECOND FORM's CARD OF 'glazierlaw16.GravityKeeps'. -/
def gravityKeepsUptoCard : Claim7 := { stood := { row := gravityKeepsUptoRow, standIns := [], harness := (true, "3010b521429e31a8502664bd9e7953d0877e431db8d40da22ad28cb32c9c9312"), looks := false }, kinds := [], alts := [], laidByText := true, laidKinds := [.data, .data], laidTests := true, laidLooks := .later }
def GravityKeepsUptoCardSaid : Prop := Claim7.holds Tryd.pinned (.plain (OpenSpec.upto gravityKeepsSpec)) gravityKeepsUptoCard

/-- THE SECOND FORM's CARD OF 'glazierlaw16.GravityNames'. -/
def gravityNamesUptoCard : Claim7 := { stood := { row := gravityNamesUptoRow, standIns := [], harness := (true, "3010b521429e31a8502664bd9e7953d0877e431db8d40da22ad28cb32c9c9312"), looks := false }, kinds := [], alts := [], laidByText := true, laidKinds := [.data, .data], laidTests := true, laidLooks := .later }
def GravityNamesUptoCardSaid : Prop := Claim7.holds Tryd.pinned (.plain (OpenSpec.upto gravityNamesSpec)) gravityNamesUptoCard
end Rows
end Go.Proofs.YtkcebadfgiknhaaDoor
