/-
  No cell of these rows narrows 'for every input' (looked for: loops, veiled, ifaces, maps, wideKeys, modest, calm, conditions, laid).
  DERIVED. THE GIVEN ROWS OF THIS SEAT. 6 by the template 'for every input the law returns true; each argument reads behind the call as it read before'; 0 by the template 'total and deterministic' (their statements: YtfoepbkbclmghaaTotals.lean).
  GIVEN WITH THE SEED: the statements are not yours to turn. If you find one false, say at which input.
  Laid BY PROGRAM, IN A SANDBOX (cutbox-rows.mjs): the forced cells as the released guide's own fill.sh prints them over the translation 1848d7f33237ca86… (all of the seat's roots in one cut). By AI agents, Wed Nov 11 2026. No macro, syntax, notation, axiom, sorry.
-/
import Derived.Test.YtfoepbkbclmghaaChecked
import GoSem.Claim
import GoSem.ClaimJoined
import GoSem.ClaimMapViews
import Derived.JoinedTies
import Derived.KernelRfl
namespace Go.Proofs.Ytfoepbkbclmghaa
/- THE CELL 'sum', in the pinned program and in every row, IS THE sha256 OF THE DUMP (.gsa) THAT YtfoepbkbclmghaaProg.lean LOADS. Nothing in Lean hashes anything: it is a label: what it is worth is what the hold of that sum in a sandbox is worth. -/
noncomputable def Try.pinned : Pinned := { name := "ytfoepbkbclmghaa", sum := "1848d7f33237ca861da2d7634eecce948dd6acb8219a25df8fe78c364be4bfcd", checked := Try.checked }
namespace Rows
def none {H : Type} : Left H := { results := [], args := [] }

/-- 'glazierlaw36.CrossPaths': WHATEVER THE INPUT: true; the input reads as it did. -/
def crossPathsSpec : ChangeSpec := { name := "crossPaths", fn := fun _ => fun
  | [d1, d2, d3] => { results := [.lit (.bool true)], args := [d1, d2, d3] }
  | _ => none }
def crossPathsRow : OpenClaim := { program := "ytfoepbkbclmghaa", sum := "1848d7f33237ca861da2d7634eecce948dd6acb8219a25df8fe78c364be4bfcd", func := "glazier/glazierlaw36.CrossPaths", spec := "crossPaths", unfollowed := true, recurses := true, apart := false }
def CrossPathsSaid : Prop := crossPathsRow.holds Try.pinned (OpenSpec.ofChange crossPathsSpec)

/-- ITS FALSE NEIGHBOUR: 'it returns false'. Refute it at one input. -/
def crossPathsWrong : ChangeSpec := { name := "crossPaths", fn := fun _ => fun
  | [d1, d2, d3] => { results := [.lit (.bool false)], args := [d1, d2, d3] }
  | _ => none }
def CrossPathsWrongFalsely : Prop := crossPathsRow.holds Try.pinned (OpenSpec.ofChange crossPathsWrong)

/-- 'glazierlaw36.CrossEnds': WHATEVER THE INPUT: true; the input reads as it did. -/
def crossEndsSpec : ChangeSpec := { name := "crossEnds", fn := fun _ => fun
  | [d1, d2] => { results := [.lit (.bool true)], args := [d1, d2] }
  | _ => none }
def crossEndsRow : OpenClaim := { program := "ytfoepbkbclmghaa", sum := "1848d7f33237ca861da2d7634eecce948dd6acb8219a25df8fe78c364be4bfcd", func := "glazier/glazierlaw36.CrossEnds", spec := "crossEnds", unfollowed := true, recurses := true, apart := false }
def CrossEndsSaid : Prop := crossEndsRow.holds Try.pinned (OpenSpec.ofChange crossEndsSpec)

/-- ITS FALSE NEIGHBOUR: 'it returns false'. Refute it at one input. -/
def crossEndsWrong : ChangeSpec := { name := "crossEnds", fn := fun _ => fun
  | [d1, d2] => { results := [.lit (.bool false)], args := [d1, d2] }
  | _ => none }
def CrossEndsWrongFalsely : Prop := crossEndsRow.holds Try.pinned (OpenSpec.ofChange crossEndsWrong)

/-- 'glazierlaw36.CrossKinds': WHATEVER THE INPUT: true; the input reads as it did. -/
def crossKindsSpec : ChangeSpec := { name := "crossKinds", fn := fun _ => fun
  | [d1, d2, d3] => { results := [.lit (.bool true)], args := [d1, d2, d3] }
  | _ => none }
def crossKindsRow : OpenClaim := { program := "ytfoepbkbclmghaa", sum := "1848d7f33237ca861da2d7634eecce948dd6acb8219a25df8fe78c364be4bfcd", func := "glazier/glazierlaw36.CrossKinds", spec := "crossKinds", unfollowed := true, recurses := true, apart := false }
def CrossKindsSaid : Prop := crossKindsRow.holds Try.pinned (OpenSpec.ofChange crossKindsSpec)

/-- ITS FALSE NEIGHBOUR: 'it returns false'. Refute it at one input. -/
def crossKindsWrong : ChangeSpec := { name := "crossKinds", fn := fun _ => fun
  | [d1, d2, d3] => { results := [.lit (.bool false)], args := [d1, d2, d3] }
  | _ => none }
def CrossKindsWrongFalsely : Prop := crossKindsRow.holds Try.pinned (OpenSpec.ofChange crossKindsWrong)

/-- 'glazierlaw36.CrossStops': WHATEVER THE INPUT: true; the input reads as it did. -/
def crossStopsSpec : ChangeSpec := { name := "crossStops", fn := fun _ => fun
  | [d1, d2] => { results := [.lit (.bool true)], args := [d1, d2] }
  | _ => none }
def crossStopsRow : OpenClaim := { program := "ytfoepbkbclmghaa", sum := "1848d7f33237ca861da2d7634eecce948dd6acb8219a25df8fe78c364be4bfcd", func := "glazier/glazierlaw36.CrossStops", spec := "crossStops", unfollowed := true, recurses := true, apart := false }
def CrossStopsSaid : Prop := crossStopsRow.holds Try.pinned (OpenSpec.ofChange crossStopsSpec)

/-- ITS FALSE NEIGHBOUR: 'it returns false'. Refute it at one input. -/
def crossStopsWrong : ChangeSpec := { name := "crossStops", fn := fun _ => fun
  | [d1, d2] => { results := [.lit (.bool false)], args := [d1, d2] }
  | _ => none }
def CrossStopsWrongFalsely : Prop := crossStopsRow.holds Try.pinned (OpenSpec.ofChange crossStopsWrong)

/-- 'glazierlaw36.CrossReturns': WHATEVER THE INPUT: true; the input reads as it did. -/
def crossReturnsSpec : ChangeSpec := { name := "crossReturns", fn := fun _ => fun
  | [d1, d2, d3] => { results := [.lit (.bool true)], args := [d1, d2, d3] }
  | _ => none }
def crossReturnsRow : OpenClaim := { program := "ytfoepbkbclmghaa", sum := "1848d7f33237ca861da2d7634eecce948dd6acb8219a25df8fe78c364be4bfcd", func := "glazier/glazierlaw36.CrossReturns", spec := "crossReturns", unfollowed := true, recurses := true, apart := false }
def CrossReturnsSaid : Prop := crossReturnsRow.holds Try.pinned (OpenSpec.ofChange crossReturnsSpec)

/-- ITS FALSE NEIGHBOUR: 'it returns false'. Refute it at one input. -/
def crossReturnsWrong : ChangeSpec := { name := "crossReturns", fn := fun _ => fun
  | [d1, d2, d3] => { results := [.lit (.bool false)], args := [d1, d2, d3] }
  | _ => none }
def CrossReturnsWrongFalsely : Prop := crossReturnsRow.holds Try.pinned (OpenSpec.ofChange crossReturnsWrong)

/-- 'glazierlaw36.CrossBacks': WHATEVER THE INPUT: true; the input reads as it did. -/
def crossBacksSpec : ChangeSpec := { name := "crossBacks", fn := fun _ => fun
  | [d1, d2] => { results := [.lit (.bool true)], args := [d1, d2] }
  | _ => none }
def crossBacksRow : OpenClaim := { program := "ytfoepbkbclmghaa", sum := "1848d7f33237ca861da2d7634eecce948dd6acb8219a25df8fe78c364be4bfcd", func := "glazier/glazierlaw36.CrossBacks", spec := "crossBacks", unfollowed := true, recurses := true, apart := false }
def CrossBacksSaid : Prop := crossBacksRow.holds Try.pinned (OpenSpec.ofChange crossBacksSpec)

/-- ITS FALSE NEIGHBOUR: 'it returns false'. Refute it at one input. -/
def crossBacksWrong : ChangeSpec := { name := "crossBacks", fn := fun _ => fun
  | [d1, d2] => { results := [.lit (.bool false)], args := [d1, d2] }
  | _ => none }
def CrossBacksWrongFalsely : Prop := crossBacksRow.holds Try.pinned (OpenSpec.ofChange crossBacksWrong)

/- THE SECOND FORM. 'bulk': how many values and letters a reading holds, each counted each time it is reached (what is shared counts as often as it is met; a slice's spare places count too). A statement '..UptoSaid' is the law's where the arguments, and the package variables that the reading takes, are together of bulk at most 1048576: NARROWER than '..Said'. Prove '..Said' where nothing that the law and all that it calls make is longer than what came in: it says more and counts as full. Else prove '..UptoSaid'. A law counts once. -/
mutual
def uptoBulk {H : Type} : DataW H → Nat
  | .lit (.string bytes) => bytes.length + 1
  | .lit _ => 1
  | .nil => 1
  | .ptr d => uptoBulk d + 1
  | .slice elems spare => uptoBulkAll elems + uptoBulkAll spare + 1
  | .agg parts => uptoBulkAll parts + 1
  | .iface _ d => uptoBulk d + 1
  | .map entries => uptoBulkEntries entries + 1
  | .held _ => 1
def uptoBulkAll {H : Type} : List (DataW H) → Nat
  | [] => 0
  | d :: r => uptoBulk d + uptoBulkAll r
def uptoBulkEntries {H : Type} : List (Lit × DataW H) → Nat
  | [] => 0
  | x :: r => uptoBulkEntry x + uptoBulkEntries r
def uptoBulkEntry {H : Type} : Lit × DataW H → Nat
  | (.string bytes, d) => bytes.length + uptoBulk d + 1
  | (_, d) => uptoBulk d + 1
 end
def uptoSmall : (H : Type) → List (DataW H) → Bool := fun _ ds => decide (uptoBulkAll ds ≤ 1048576)
def OpenSpec.upto (s : _root_.Go.ChangeSpec) : _root_.Go.OpenSpec := { _root_.Go.OpenSpec.ofChange s with cond := some uptoSmall }

/-- 'glazierlaw36.CrossPaths', WHERE WHAT IT READS IS OF BULK AT MOST 1048576: true; the input reads as it did. -/
def crossPathsUptoRow : OpenClaim := { program := "ytfoepbkbclmghaa", sum := "1848d7f33237ca861da2d7634eecce948dd6acb8219a25df8fe78c364be4bfcd", func := "glazier/glazierlaw36.CrossPaths", spec := "crossPaths", unfollowed := true, recurses := true, apart := false, narrowed := true }
def CrossPathsUptoSaid : Prop := crossPathsUptoRow.holds Try.pinned (OpenSpec.upto crossPathsSpec)

/-- 'glazierlaw36.CrossEnds', WHERE WHAT IT READS IS OF BULK AT MOST 1048576: true; the input reads as it did. -/
def crossEndsUptoRow : OpenClaim := { program := "ytfoepbkbclmghaa", sum := "1848d7f33237ca861da2d7634eecce948dd6acb8219a25df8fe78c364be4bfcd", func := "glazier/glazierlaw36.CrossEnds", spec := "crossEnds", unfollowed := true, recurses := true, apart := false, narrowed := true }
def CrossEndsUptoSaid : Prop := crossEndsUptoRow.holds Try.pinned (OpenSpec.upto crossEndsSpec)

/-- 'glazierlaw36.CrossKinds', WHERE WHAT IT READS IS OF BULK AT MOST 1048576: true; the input reads as it did. -/
def crossKindsUptoRow : OpenClaim := { program := "ytfoepbkbclmghaa", sum := "1848d7f33237ca861da2d7634eecce948dd6acb8219a25df8fe78c364be4bfcd", func := "glazier/glazierlaw36.CrossKinds", spec := "crossKinds", unfollowed := true, recurses := true, apart := false, narrowed := true }
def CrossKindsUptoSaid : Prop := crossKindsUptoRow.holds Try.pinned (OpenSpec.upto crossKindsSpec)

/-- 'glazierlaw36.CrossStops', WHERE WHAT IT READS IS OF BULK AT MOST 1048576: true; the input reads as it did. -/
def crossStopsUptoRow : OpenClaim := { program := "ytfoepbkbclmghaa", sum := "1848d7f33237ca861da2d7634eecce948dd6acb8219a25df8fe78c364be4bfcd", func := "glazier/glazierlaw36.CrossStops", spec := "crossStops", unfollowed := true, recurses := true, apart := false, narrowed := true }
def CrossStopsUptoSaid : Prop := crossStopsUptoRow.holds Try.pinned (OpenSpec.upto crossStopsSpec)

/-- 'glazierlaw36.CrossReturns', WHERE WHAT IT READS IS OF BULK AT MOST 1048576: true; the input reads as it did. -/
def crossReturnsUptoRow : OpenClaim := { program := "ytfoepbkbclmghaa", sum := "1848d7f33237ca861da2d7634eecce948dd6acb8219a25df8fe78c364be4bfcd", func := "glazier/glazierlaw36.CrossReturns", spec := "crossReturns", unfollowed := true, recurses := true, apart := false, narrowed := true }
def CrossReturnsUptoSaid : Prop := crossReturnsUptoRow.holds Try.pinned (OpenSpec.upto crossReturnsSpec)

/-- 'glazierlaw36.CrossBacks', WHERE WHAT IT READS IS OF BULK AT MOST 1048576: true; the input reads as it did. -/
def crossBacksUptoRow : OpenClaim := { program := "ytfoepbkbclmghaa", sum := "1848d7f33237ca861da2d7634eecce948dd6acb8219a25df8fe78c364be4bfcd", func := "glazier/glazierlaw36.CrossBacks", spec := "crossBacks", unfollowed := true, recurses := true, apart := false, narrowed := true }
def CrossBacksUptoSaid : Prop := crossBacksUptoRow.holds Try.pinned (OpenSpec.upto crossBacksSpec)

end Rows
end Go.Proofs.Ytfoepbkbclmghaa
