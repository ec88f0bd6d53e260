/-
  DERIVED. GIVEN WITH THE SEED: THE CARDS: each row of YtlmhekbbagpnjaaDoorRows.lean that lists a variable, with what it lists TIED to the program's text (the seventh form; the later family's looks); each row that meets fmt, with fmt's text TOLD by the authors' own Lean function (tested against real Go, not proved from fmt's source: count such statements apart). THE CARD IS WHAT COUNTS. Prove the row's statement (the work); the ties are given (YtlmhekbbagpnjaaDoorTie.lean); close each card by the builder's one call (the guide's Derived/Test/ToyasCard.lean, 'card_holds'). Laid BY PROGRAM, IN A SANDBOX (cutbox-door.mjs). By AI agents, Wed Nov 11 2026. No macro, syntax, notation, axiom, sorry.
-/
import Derived.Test.YtlmhekbbagpnjaaDoorRows
import GoSem.ClaimSeven
namespace Go.Proofs.YtlmhekbbagpnjaaDoor
namespace Rows

/-- THE TIED CARD OF 'glazierlaw63.ScriptParses'. -/
def scriptParsesCard : Claim7 := { stood := { row := scriptParsesRow, standIns := [], harness := (true, "36271fbcba777df0017dfe7dfdf478f157f09cd12fd0972fafe297c4b8048f2b"), looks := true }, kinds := [], alts := [], laidByText := true, laidKinds := [.data, .data, .data, .data, .sentinel, .sentinel, .data, .pinned], laidTests := true, laidLooks := .later }
def ScriptParsesCardSaid : Prop := Claim7.holds Tryd.pinned (.plain (OpenSpec.ofChange scriptParsesSpec)) scriptParsesCard

/-- THE TIED CARD OF 'glazierlaw63.ScriptPrints'. -/
def scriptPrintsCard : Claim7 := { stood := { row := scriptPrintsRow, standIns := [], harness := (true, "36271fbcba777df0017dfe7dfdf478f157f09cd12fd0972fafe297c4b8048f2b"), looks := true }, kinds := [], alts := [], laidByText := true, laidKinds := [.data, .data, .data, .data, .sentinel, .sentinel, .data, .pinned], laidTests := true, laidLooks := .later }
def ScriptPrintsCardSaid : Prop := Claim7.holds Tryd.pinned (.plain (OpenSpec.ofChange scriptPrintsSpec)) scriptPrintsCard

/-- THE TIED CARD OF 'glazierlaw63.ScriptBack'. -/
def scriptBackCard : Claim7 := { stood := { row := scriptBackRow, standIns := [], harness := (true, "36271fbcba777df0017dfe7dfdf478f157f09cd12fd0972fafe297c4b8048f2b"), looks := true }, kinds := [], alts := [], laidByText := true, laidKinds := [.data, .data, .data, .data, .sentinel, .sentinel, .data, .pinned], laidTests := true, laidLooks := .later }
def ScriptBackCardSaid : Prop := Claim7.holds Tryd.pinned (.plain (OpenSpec.ofChange scriptBackSpec)) scriptBackCard

/-- THE TIED CARD OF 'glazierlaw63.ScriptComments'. -/
def scriptCommentsCard : Claim7 := { stood := { row := scriptCommentsRow, standIns := [], harness := (true, "36271fbcba777df0017dfe7dfdf478f157f09cd12fd0972fafe297c4b8048f2b"), looks := true }, kinds := [], alts := [], laidByText := true, laidKinds := [.data, .data, .data, .data, .sentinel, .sentinel, .data, .pinned], laidTests := true, laidLooks := .later }
def ScriptCommentsCardSaid : Prop := Claim7.holds Tryd.pinned (.plain (OpenSpec.ofChange scriptCommentsSpec)) scriptCommentsCard

/-- THE TIED CARD OF 'glazierlaw63.ScriptNames'. -/
def scriptNamesCard : Claim7 := { stood := { row := scriptNamesRow, standIns := [], harness := (true, "36271fbcba777df0017dfe7dfdf478f157f09cd12fd0972fafe297c4b8048f2b"), looks := true }, kinds := [], alts := [], laidByText := true, laidKinds := [.data, .data, .data, .data, .sentinel, .sentinel, .data, .pinned], laidTests := true, laidLooks := .later }
def ScriptNamesCardSaid : Prop := Claim7.holds Tryd.pinned (.plain (OpenSpec.ofChange scriptNamesSpec)) scriptNamesCard

/-- THE TIED CARD OF 'glazierlaw63.ScriptJoins'. -/
def scriptJoinsCard : Claim7 := { stood := { row := scriptJoinsRow, standIns := [], harness := (true, "36271fbcba777df0017dfe7dfdf478f157f09cd12fd0972fafe297c4b8048f2b"), looks := true }, kinds := [], alts := [], laidByText := true, laidKinds := [.data, .data, .data, .data, .sentinel, .sentinel, .data, .pinned], laidTests := true, laidLooks := .later }
def ScriptJoinsCardSaid : Prop := Claim7.holds Tryd.pinned (.plain (OpenSpec.ofChange scriptJoinsSpec)) scriptJoinsCard

/-- THE SECOND FORM's CARD OF 'glazierlaw63.ScriptParses'. -/
def scriptParsesUptoCard : Claim7 := { stood := { row := scriptParsesUptoRow, standIns := [], harness := (true, "36271fbcba777df0017dfe7dfdf478f157f09cd12fd0972fafe297c4b8048f2b"), looks := true }, kinds := [], alts := [], laidByText := true, laidKinds := [.data, .data, .data, .data, .sentinel, .sentinel, .data, .pinned], laidTests := true, laidLooks := .later }
def ScriptParsesUptoCardSaid : Prop := Claim7.holds Tryd.pinned (.plain (OpenSpec.upto scriptParsesSpec)) scriptParsesUptoCard

/-- THE SECOND FORM's CARD OF 'glazierlaw63.ScriptPrints'. -/
def scriptPrintsUptoCard : Claim7 := { stood := { row := scriptPrintsUptoRow, standIns := [], harness := (true, "36271fbcba777df0017dfe7dfdf478f157f09cd12fd0972fafe297c4b8048f2b"), looks := true }, kinds := [], alts := [], laidByText := true, laidKinds := [.data, .data, .data, .data, .sentinel, .sentinel, .data, .pinned], laidTests := true, laidLooks := .later }
def ScriptPrintsUptoCardSaid : Prop := Claim7.holds Tryd.pinned (.plain (OpenSpec.upto scriptPrintsSpec)) scriptPrintsUptoCard

/-- THE SECOND FORM's CARD OF 'glazierlaw63.ScriptBack'. -/
def scriptBackUptoCard : Claim7 := { stood := { row := scriptBackUptoRow, standIns := [], harness := (true, "36271fbcba777df0017dfe7dfdf478f157f09cd12fd0972fafe297c4b8048f2b"), looks := true }, kinds := [], alts := [], laidByText := true, laidKinds := [.data, .data, .data, .data, .sentinel, .sentinel, .data, .pinned], laidTests := true, laidLooks := .later }
def ScriptBackUptoCardSaid : Prop := Claim7.holds Tryd.pinned (.plain (OpenSpec.upto scriptBackSpec)) scriptBackUptoCard

/-- THE SECOND FORM's CARD OF 'glazierlaw63.ScriptComments'. -/
def scriptCommentsUptoCard : Claim7 := { stood := { row := scriptCommentsUptoRow, standIns := [], harness := (true, "36271fbcba777df0017dfe7dfdf478f157f09cd12fd0972fafe297c4b8048f2b"), looks := true }, kinds := [], alts := [], laidByText := true, laidKinds := [.data, .data, .data, .data, .sentinel, .sentinel, .data, .pinned], laidTests := true, laidLooks := .later }
def ScriptCommentsUptoCardSaid : Prop := Claim7.holds Tryd.pinned (.plain (OpenSpec.upto scriptCommentsSpec)) scriptCommentsUptoCard

/-- THE SECOND FORM's CARD OF 'glazierlaw63.ScriptNames'. -/
def scriptNamesUptoCard : Claim7 := { stood := { row := scriptNamesUptoRow, standIns := [], harness := (true, "36271fbcba777df0017dfe7dfdf478f157f09cd12fd0972fafe297c4b8048f2b"), looks := true }, kinds := [], alts := [], laidByText := true, laidKinds := [.data, .data, .data, .data, .sentinel, .sentinel, .data, .pinned], laidTests := true, laidLooks := .later }
def ScriptNamesUptoCardSaid : Prop := Claim7.holds Tryd.pinned (.plain (OpenSpec.upto scriptNamesSpec)) scriptNamesUptoCard

/-- THE SECOND FORM's CARD OF 'glazierlaw63.ScriptJoins'. -/
def scriptJoinsUptoCard : Claim7 := { stood := { row := scriptJoinsUptoRow, standIns := [], harness := (true, "36271fbcba777df0017dfe7dfdf478f157f09cd12fd0972fafe297c4b8048f2b"), looks := true }, kinds := [], alts := [], laidByText := true, laidKinds := [.data, .data, .data, .data, .sentinel, .sentinel, .data, .pinned], laidTests := true, laidLooks := .later }
def ScriptJoinsUptoCardSaid : Prop := Claim7.holds Tryd.pinned (.plain (OpenSpec.upto scriptJoinsSpec)) scriptJoinsUptoCard
end Rows
end Go.Proofs.YtlmhekbbagpnjaaDoor
