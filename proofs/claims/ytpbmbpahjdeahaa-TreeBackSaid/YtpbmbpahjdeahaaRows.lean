/-
  No cell of these rows narrows 'for every input' (looked for: loops, veiled, ifaces, maps, wideKeys, modest, calm, conditions, laid).
  DERIVED. THE GIVEN ROWS OF THIS SEAT. 7 by the template 'for every input the law returns true; each argument reads behind the call as it read before'; 0 by the template 'total and deterministic' (their statements: YtpbmbpahjdeahaaTotals.lean).
  GIVEN WITH THE SEED: the statements are not yours to turn. If you find one false, say at which input.
  Laid BY PROGRAM, IN A SANDBOX (cutbox-rows.mjs): the forced cells as the released guide's own fill.sh prints them over the translation e0b560870dc03ea8… (all of the seat's roots in one cut). By AI agents, Wed Nov 11 2026. No macro, syntax, notation, axiom, sorry.
-/
import Derived.Test.YtpbmbpahjdeahaaChecked
import GoSem.Claim
import GoSem.ClaimJoined
import GoSem.ClaimMapViews
import Derived.JoinedTies
import Derived.KernelRfl
namespace Go.Proofs.Ytpbmbpahjdeahaa
/- THE CELL 'sum', in the pinned program and in every row, IS THE sha256 OF THE DUMP (.gsa) THAT YtpbmbpahjdeahaaProg.lean LOADS. Nothing in Lean hashes anything: it is a label: what it is worth is what the hold of that sum in a sandbox is worth. -/
noncomputable def Try.pinned : Pinned := { name := "ytpbmbpahjdeahaa", sum := "e0b560870dc03ea8e784a7a43ebc5c8dc141ef37f1dffb462169587708a9923e", checked := Try.checked }
namespace Rows
def none {H : Type} : Left H := { results := [], args := [] }

/-- 'glazierlaw28.TreeBounds': WHATEVER THE INPUT: true; the input reads as it did. -/
def treeBoundsSpec : ChangeSpec := { name := "treeBounds", fn := fun _ => fun
  | [d] => { results := [.lit (.bool true)], args := [d] }
  | _ => none }
def treeBoundsRow : OpenClaim := { program := "ytpbmbpahjdeahaa", sum := "e0b560870dc03ea8e784a7a43ebc5c8dc141ef37f1dffb462169587708a9923e", func := "glazier/glazierlaw28.TreeBounds", spec := "treeBounds", inPlace := ["slices.overlaps[glazier/api.ID]"], unfollowed := true, recurses := true, apart := false }
def TreeBoundsSaid : Prop := treeBoundsRow.holds Try.pinned (OpenSpec.ofChange treeBoundsSpec)

/-- ITS FALSE NEIGHBOUR: 'it returns false'. Refute it at one input. -/
def treeBoundsWrong : ChangeSpec := { name := "treeBounds", fn := fun _ => fun
  | [d] => { results := [.lit (.bool false)], args := [d] }
  | _ => none }
def TreeBoundsWrongFalsely : Prop := treeBoundsRow.holds Try.pinned (OpenSpec.ofChange treeBoundsWrong)

/-- 'glazierlaw28.TreeMoves': WHATEVER THE INPUT: true; the input reads as it did. -/
def treeMovesSpec : ChangeSpec := { name := "treeMoves", fn := fun _ => fun
  | [d1, d2, d3] => { results := [.lit (.bool true)], args := [d1, d2, d3] }
  | _ => none }
def treeMovesRow : OpenClaim := { program := "ytpbmbpahjdeahaa", sum := "e0b560870dc03ea8e784a7a43ebc5c8dc141ef37f1dffb462169587708a9923e", func := "glazier/glazierlaw28.TreeMoves", spec := "treeMoves", inPlace := ["slices.overlaps[glazier/api.ID]"], unfollowed := true, recurses := true, apart := false }
def TreeMovesSaid : Prop := treeMovesRow.holds Try.pinned (OpenSpec.ofChange treeMovesSpec)

/-- ITS FALSE NEIGHBOUR: 'it returns false'. Refute it at one input. -/
def treeMovesWrong : ChangeSpec := { name := "treeMoves", fn := fun _ => fun
  | [d1, d2, d3] => { results := [.lit (.bool false)], args := [d1, d2, d3] }
  | _ => none }
def TreeMovesWrongFalsely : Prop := treeMovesRow.holds Try.pinned (OpenSpec.ofChange treeMovesWrong)

/-- 'glazierlaw28.TreeMeets': WHATEVER THE INPUT: true; the input reads as it did. -/
def treeMeetsSpec : ChangeSpec := { name := "treeMeets", fn := fun _ => fun
  | [d1, d2, d3] => { results := [.lit (.bool true)], args := [d1, d2, d3] }
  | _ => none }
def treeMeetsRow : OpenClaim := { program := "ytpbmbpahjdeahaa", sum := "e0b560870dc03ea8e784a7a43ebc5c8dc141ef37f1dffb462169587708a9923e", func := "glazier/glazierlaw28.TreeMeets", spec := "treeMeets", inPlace := ["slices.overlaps[glazier/api.ID]"], unfollowed := true, recurses := true, apart := false }
def TreeMeetsSaid : Prop := treeMeetsRow.holds Try.pinned (OpenSpec.ofChange treeMeetsSpec)

/-- ITS FALSE NEIGHBOUR: 'it returns false'. Refute it at one input. -/
def treeMeetsWrong : ChangeSpec := { name := "treeMeets", fn := fun _ => fun
  | [d1, d2, d3] => { results := [.lit (.bool false)], args := [d1, d2, d3] }
  | _ => none }
def TreeMeetsWrongFalsely : Prop := treeMeetsRow.holds Try.pinned (OpenSpec.ofChange treeMeetsWrong)

/-- 'glazierlaw28.TreeTurns': WHATEVER THE INPUT: true; the input reads as it did. -/
def treeTurnsSpec : ChangeSpec := { name := "treeTurns", fn := fun _ => fun
  | [d1, d2, d3, d4, d5] => { results := [.lit (.bool true)], args := [d1, d2, d3, d4, d5] }
  | _ => none }
def treeTurnsRow : OpenClaim := { program := "ytpbmbpahjdeahaa", sum := "e0b560870dc03ea8e784a7a43ebc5c8dc141ef37f1dffb462169587708a9923e", func := "glazier/glazierlaw28.TreeTurns", spec := "treeTurns", inPlace := ["slices.overlaps[glazier/api.ID]"], unfollowed := true, recurses := true, apart := false }
def TreeTurnsSaid : Prop := treeTurnsRow.holds Try.pinned (OpenSpec.ofChange treeTurnsSpec)

/-- ITS FALSE NEIGHBOUR: 'it returns false'. Refute it at one input. -/
def treeTurnsWrong : ChangeSpec := { name := "treeTurns", fn := fun _ => fun
  | [d1, d2, d3, d4, d5] => { results := [.lit (.bool false)], args := [d1, d2, d3, d4, d5] }
  | _ => none }
def TreeTurnsWrongFalsely : Prop := treeTurnsRow.holds Try.pinned (OpenSpec.ofChange treeTurnsWrong)

/-- 'glazierlaw28.TreePlays': WHATEVER THE INPUT: true; the input reads as it did. -/
def treePlaysSpec : ChangeSpec := { name := "treePlays", fn := fun _ => fun
  | [d] => { results := [.lit (.bool true)], args := [d] }
  | _ => none }
def treePlaysRow : OpenClaim := { program := "ytpbmbpahjdeahaa", sum := "e0b560870dc03ea8e784a7a43ebc5c8dc141ef37f1dffb462169587708a9923e", func := "glazier/glazierlaw28.TreePlays", spec := "treePlays", inPlace := ["slices.overlaps[glazier/api.ID]"], unfollowed := true, recurses := true, apart := false }
def TreePlaysSaid : Prop := treePlaysRow.holds Try.pinned (OpenSpec.ofChange treePlaysSpec)

/-- ITS FALSE NEIGHBOUR: 'it returns false'. Refute it at one input. -/
def treePlaysWrong : ChangeSpec := { name := "treePlays", fn := fun _ => fun
  | [d] => { results := [.lit (.bool false)], args := [d] }
  | _ => none }
def TreePlaysWrongFalsely : Prop := treePlaysRow.holds Try.pinned (OpenSpec.ofChange treePlaysWrong)

/-- 'glazierlaw28.TreeWhole': WHATEVER THE INPUT: true; the input reads as it did. -/
def treeWholeSpec : ChangeSpec := { name := "treeWhole", fn := fun _ => fun
  | [d] => { results := [.lit (.bool true)], args := [d] }
  | _ => none }
def treeWholeRow : OpenClaim := { program := "ytpbmbpahjdeahaa", sum := "e0b560870dc03ea8e784a7a43ebc5c8dc141ef37f1dffb462169587708a9923e", func := "glazier/glazierlaw28.TreeWhole", spec := "treeWhole", inPlace := ["slices.overlaps[glazier/api.ID]"], unfollowed := true, recurses := true, apart := false }
def TreeWholeSaid : Prop := treeWholeRow.holds Try.pinned (OpenSpec.ofChange treeWholeSpec)

/-- ITS FALSE NEIGHBOUR: 'it returns false'. Refute it at one input. -/
def treeWholeWrong : ChangeSpec := { name := "treeWhole", fn := fun _ => fun
  | [d] => { results := [.lit (.bool false)], args := [d] }
  | _ => none }
def TreeWholeWrongFalsely : Prop := treeWholeRow.holds Try.pinned (OpenSpec.ofChange treeWholeWrong)

/-- 'glazierlaw28.TreeBack': WHATEVER THE INPUT: true; the input reads as it did. -/
def treeBackSpec : ChangeSpec := { name := "treeBack", fn := fun _ => fun
  | [d1, d2, d3, d4] => { results := [.lit (.bool true)], args := [d1, d2, d3, d4] }
  | _ => none }
def treeBackRow : OpenClaim := { program := "ytpbmbpahjdeahaa", sum := "e0b560870dc03ea8e784a7a43ebc5c8dc141ef37f1dffb462169587708a9923e", func := "glazier/glazierlaw28.TreeBack", spec := "treeBack", inPlace := ["slices.overlaps[glazier/api.ID]"], unfollowed := true, recurses := true, apart := false }
def TreeBackSaid : Prop := treeBackRow.holds Try.pinned (OpenSpec.ofChange treeBackSpec)

/-- ITS FALSE NEIGHBOUR: 'it returns false'. Refute it at one input. -/
def treeBackWrong : ChangeSpec := { name := "treeBack", fn := fun _ => fun
  | [d1, d2, d3, d4] => { results := [.lit (.bool false)], args := [d1, d2, d3, d4] }
  | _ => none }
def TreeBackWrongFalsely : Prop := treeBackRow.holds Try.pinned (OpenSpec.ofChange treeBackWrong)

/- THE SECOND FORM. 'bulk': how many values and letters a reading holds, each counted each time it is reached (what is shared counts as often as it is met; a slice's spare places count too). A statement '..UptoSaid' is the law's where the arguments, and the package variables that the reading takes, are together of bulk at most 1048576: NARROWER than '..Said'. Prove '..Said' where nothing that the law and all that it calls make is longer than what came in: it says more and counts as full. Else prove '..UptoSaid'. A law counts once. -/
mutual
def uptoBulk {H : Type} : DataW H → Nat
  | .lit (.string bytes) => bytes.length + 1
  | .lit _ => 1
  | .nil => 1
  | .ptr d => uptoBulk d + 1
  | .slice elems spare => uptoBulkAll elems + uptoBulkAll spare + 1
  | .agg parts => uptoBulkAll parts + 1
  | .iface _ d => uptoBulk d + 1
  | .map entries => uptoBulkEntries entries + 1
  | .held _ => 1
def uptoBulkAll {H : Type} : List (DataW H) → Nat
  | [] => 0
  | d :: r => uptoBulk d + uptoBulkAll r
def uptoBulkEntries {H : Type} : List (Lit × DataW H) → Nat
  | [] => 0
  | x :: r => uptoBulkEntry x + uptoBulkEntries r
def uptoBulkEntry {H : Type} : Lit × DataW H → Nat
  | (.string bytes, d) => bytes.length + uptoBulk d + 1
  | (_, d) => uptoBulk d + 1
 end
def uptoSmall : (H : Type) → List (DataW H) → Bool := fun _ ds => decide (uptoBulkAll ds ≤ 1048576)
def OpenSpec.upto (s : _root_.Go.ChangeSpec) : _root_.Go.OpenSpec := { _root_.Go.OpenSpec.ofChange s with cond := some uptoSmall }

/-- 'glazierlaw28.TreeBounds', WHERE WHAT IT READS IS OF BULK AT MOST 1048576: true; the input reads as it did. -/
def treeBoundsUptoRow : OpenClaim := { program := "ytpbmbpahjdeahaa", sum := "e0b560870dc03ea8e784a7a43ebc5c8dc141ef37f1dffb462169587708a9923e", func := "glazier/glazierlaw28.TreeBounds", spec := "treeBounds", inPlace := ["slices.overlaps[glazier/api.ID]"], unfollowed := true, recurses := true, apart := false, narrowed := true }
def TreeBoundsUptoSaid : Prop := treeBoundsUptoRow.holds Try.pinned (OpenSpec.upto treeBoundsSpec)

/-- 'glazierlaw28.TreeMoves', WHERE WHAT IT READS IS OF BULK AT MOST 1048576: true; the input reads as it did. -/
def treeMovesUptoRow : OpenClaim := { program := "ytpbmbpahjdeahaa", sum := "e0b560870dc03ea8e784a7a43ebc5c8dc141ef37f1dffb462169587708a9923e", func := "glazier/glazierlaw28.TreeMoves", spec := "treeMoves", inPlace := ["slices.overlaps[glazier/api.ID]"], unfollowed := true, recurses := true, apart := false, narrowed := true }
def TreeMovesUptoSaid : Prop := treeMovesUptoRow.holds Try.pinned (OpenSpec.upto treeMovesSpec)

/-- 'glazierlaw28.TreeMeets', WHERE WHAT IT READS IS OF BULK AT MOST 1048576: true; the input reads as it did. -/
def treeMeetsUptoRow : OpenClaim := { program := "ytpbmbpahjdeahaa", sum := "e0b560870dc03ea8e784a7a43ebc5c8dc141ef37f1dffb462169587708a9923e", func := "glazier/glazierlaw28.TreeMeets", spec := "treeMeets", inPlace := ["slices.overlaps[glazier/api.ID]"], unfollowed := true, recurses := true, apart := false, narrowed := true }
def TreeMeetsUptoSaid : Prop := treeMeetsUptoRow.holds Try.pinned (OpenSpec.upto treeMeetsSpec)

/-- 'glazierlaw28.TreeTurns', WHERE WHAT IT READS IS OF BULK AT MOST 1048576: true; the input reads as it did. -/
def treeTurnsUptoRow : OpenClaim := { program := "ytpbmbpahjdeahaa", sum := "e0b560870dc03ea8e784a7a43ebc5c8dc141ef37f1dffb462169587708a9923e", func := "glazier/glazierlaw28.TreeTurns", spec := "treeTurns", inPlace := ["slices.overlaps[glazier/api.ID]"], unfollowed := true, recurses := true, apart := false, narrowed := true }
def TreeTurnsUptoSaid : Prop := treeTurnsUptoRow.holds Try.pinned (OpenSpec.upto treeTurnsSpec)

/-- 'glazierlaw28.TreePlays', WHERE WHAT IT READS IS OF BULK AT MOST 1048576: true; the input reads as it did. -/
def treePlaysUptoRow : OpenClaim := { program := "ytpbmbpahjdeahaa", sum := "e0b560870dc03ea8e784a7a43ebc5c8dc141ef37f1dffb462169587708a9923e", func := "glazier/glazierlaw28.TreePlays", spec := "treePlays", inPlace := ["slices.overlaps[glazier/api.ID]"], unfollowed := true, recurses := true, apart := false, narrowed := true }
def TreePlaysUptoSaid : Prop := treePlaysUptoRow.holds Try.pinned (OpenSpec.upto treePlaysSpec)

/-- 'glazierlaw28.TreeWhole', WHERE WHAT IT READS IS OF BULK AT MOST 1048576: true; the input reads as it did. -/
def treeWholeUptoRow : OpenClaim := { program := "ytpbmbpahjdeahaa", sum := "e0b560870dc03ea8e784a7a43ebc5c8dc141ef37f1dffb462169587708a9923e", func := "glazier/glazierlaw28.TreeWhole", spec := "treeWhole", inPlace := ["slices.overlaps[glazier/api.ID]"], unfollowed := true, recurses := true, apart := false, narrowed := true }
def TreeWholeUptoSaid : Prop := treeWholeUptoRow.holds Try.pinned (OpenSpec.upto treeWholeSpec)

/-- 'glazierlaw28.TreeBack', WHERE WHAT IT READS IS OF BULK AT MOST 1048576: true; the input reads as it did. -/
def treeBackUptoRow : OpenClaim := { program := "ytpbmbpahjdeahaa", sum := "e0b560870dc03ea8e784a7a43ebc5c8dc141ef37f1dffb462169587708a9923e", func := "glazier/glazierlaw28.TreeBack", spec := "treeBack", inPlace := ["slices.overlaps[glazier/api.ID]"], unfollowed := true, recurses := true, apart := false, narrowed := true }
def TreeBackUptoSaid : Prop := treeBackUptoRow.holds Try.pinned (OpenSpec.upto treeBackSpec)

end Rows
end Go.Proofs.Ytpbmbpahjdeahaa
