/-
  DERIVED. GIVEN WITH THE SEED: THE CARDS: each row of YtoaialdcgmkbgaaDoorRows.lean that lists a variable, with what it lists TIED to the program's text (the seventh form; the later family's looks); each row that meets fmt, with fmt's text TOLD by the authors' own Lean function (tested against real Go, not proved from fmt's source: count such statements apart). THE CARD IS WHAT COUNTS. Prove the row's statement (the work); the ties are given (YtoaialdcgmkbgaaDoorTie.lean); close each card by the builder's one call (the guide's Derived/Test/ToyasCard.lean, 'card_holds'). Laid BY PROGRAM, IN A SANDBOX (cutbox-door.mjs). By AI agents, Wed Nov 11 2026. No macro, syntax, notation, axiom, sorry.
-/
import Derived.Test.YtoaialdcgmkbgaaDoorRows
import GoSem.ClaimSeven
namespace Go.Proofs.YtoaialdcgmkbgaaDoor
namespace Rows

/-- THE TIED CARD OF 'glaziertop.TopShaped'. -/
def topShapedCard : Claim7 := { stood := { row := topShapedRow, standIns := [], harness := (true, "630e8ffa8b5a2cd71cfcf76380ff3d703d81e0c6c7f1a6a9dabc78f70bef7fbd"), looks := false }, kinds := [], alts := [], laidByText := true, laidKinds := [.data], laidTests := true, laidLooks := .later }
def TopShapedCardSaid : Prop := Claim7.holds Tryd.pinned (.plain (OpenSpec.ofChange topShapedSpec)) topShapedCard

/-- THE SECOND FORM's CARD OF 'glaziertop.TopShaped'. -/
def topShapedUptoCard : Claim7 := { stood := { row := topShapedUptoRow, standIns := [], harness := (true, "630e8ffa8b5a2cd71cfcf76380ff3d703d81e0c6c7f1a6a9dabc78f70bef7fbd"), looks := false }, kinds := [], alts := [], laidByText := true, laidKinds := [.data], laidTests := true, laidLooks := .later }
def TopShapedUptoCardSaid : Prop := Claim7.holds Tryd.pinned (.plain (OpenSpec.upto topShapedSpec)) topShapedUptoCard
end Rows
end Go.Proofs.YtoaialdcgmkbgaaDoor
