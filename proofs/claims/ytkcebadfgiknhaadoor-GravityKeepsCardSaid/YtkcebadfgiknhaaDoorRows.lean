/-
  NARROWER THAN 'FOR EVERY INPUT', by the rows' own cells (each row's printed sentence says how): GravityMoves: laid · GravityStays: laid · GravityEdges: laid · GravityTurns: laid · GravityKeeps: laid · GravityNames: laid.
  DERIVED. THE GIVEN ROWS OF THIS SEAT. 6 by the template 'for every input the law returns true; each argument reads behind the call as it read before'; 0 by the template 'total and deterministic' (their statements: YtkcebadfgiknhaaDoorTotals.lean).
  GIVEN WITH THE SEED: the statements are not yours to turn. If you find one false, say at which input.
  Laid BY PROGRAM, IN A SANDBOX (cutbox-rows.mjs): the forced cells as the released guide's own fill.sh prints them over the translation 2ec7665d0ebf8e25… (all of the seat's roots in one cut). By AI agents, Wed Nov 11 2026. No macro, syntax, notation, axiom, sorry.
-/
import Derived.Test.YtkcebadfgiknhaaDoorChecked
import GoSem.Claim
import GoSem.ClaimJoined
import GoSem.ClaimMapViews
import Derived.JoinedTies
import Derived.KernelRfl
namespace Go.Proofs.YtkcebadfgiknhaaDoor
/- THE CELL 'sum', in the pinned program and in every row, IS THE sha256 OF THE DUMP (.gsa) THAT YtkcebadfgiknhaaDoorProg.lean LOADS. Nothing in Lean hashes anything: it is a label: what it is worth is what the hold of that sum in a sandbox is worth. -/
noncomputable def Tryd.pinned : Pinned := { name := "ytkcebadfgiknhaadoor", sum := "2ec7665d0ebf8e251cd1a9717f408c80a069c5bfed4eac91f89a563146665ff4", checked := Tryd.checked }
namespace Rows
def none {H : Type} : Left H := { results := [], args := [] }

/- WHAT THE LISTED PACKAGE-LEVEL VARIABLES READ AS WHEN THE CALL BEGINS. Each datum BY PROGRAM (the guide's laid-datum.mjs) off the statement by which the dump's own 'gosem.cut.vars' lays the variable. In a bare row this is a premise. The card (YtkcebadfgiknhaaDoorCards.lean) ties it to the program's text. -/
def laid_glazier_gravity_names {H : Type} : DataW H := .agg [.lit (.string [102, 111, 114, 103, 101, 116]), .lit (.string [110, 111, 114, 116, 104, 45, 119, 101, 115, 116]), .lit (.string [110, 111, 114, 116, 104]), .lit (.string [110, 111, 114, 116, 104, 45, 101, 97, 115, 116]), .lit (.string [119, 101, 115, 116]), .lit (.string [99, 101, 110, 116, 101, 114]), .lit (.string [101, 97, 115, 116]), .lit (.string [115, 111, 117, 116, 104, 45, 119, 101, 115, 116]), .lit (.string [115, 111, 117, 116, 104]), .lit (.string [115, 111, 117, 116, 104, 45, 101, 97, 115, 116]), .lit (.string [115, 116, 97, 116, 105, 99])]
def laid_glazier_gravity_halves {H : Type} : DataW H := .agg [.agg [.lit (.int .i64 0), .lit (.int .i64 0)], .agg [.lit (.int .i64 0), .lit (.int .i64 0)], .agg [.lit (.int .i64 1), .lit (.int .i64 0)], .agg [.lit (.int .i64 2), .lit (.int .i64 0)], .agg [.lit (.int .i64 0), .lit (.int .i64 1)], .agg [.lit (.int .i64 1), .lit (.int .i64 1)], .agg [.lit (.int .i64 2), .lit (.int .i64 1)], .agg [.lit (.int .i64 0), .lit (.int .i64 2)], .agg [.lit (.int .i64 1), .lit (.int .i64 2)], .agg [.lit (.int .i64 2), .lit (.int .i64 2)]]

/-- 'glazierlaw16.GravityMoves': WHATEVER THE INPUT: true; the input reads as it did. -/
def gravityMovesSpec : ChangeSpec := { name := "gravityMoves", fn := fun _ => fun
  | [d1, d2, d3] => { results := [.lit (.bool true)], args := [d1, d2, d3] }
  | _ => none }
def gravityMovesRow : OpenClaim := { program := "ytkcebadfgiknhaadoor", sum := "2ec7665d0ebf8e251cd1a9717f408c80a069c5bfed4eac91f89a563146665ff4", func := "glazier/glazierlaw16.GravityMoves", spec := "gravityMoves", named := ["glazier/gravity.halves", "glazier/gravity.names"], apart := false, laid := [("glazier/gravity.names", laid_glazier_gravity_names), ("glazier/gravity.halves", laid_glazier_gravity_halves)] }
def GravityMovesSaid : Prop := gravityMovesRow.holds Tryd.pinned (OpenSpec.ofChange gravityMovesSpec)

/-- ITS FALSE NEIGHBOUR: 'it returns false'. Refute it at one input. -/
def gravityMovesWrong : ChangeSpec := { name := "gravityMoves", fn := fun _ => fun
  | [d1, d2, d3] => { results := [.lit (.bool false)], args := [d1, d2, d3] }
  | _ => none }
def GravityMovesWrongFalsely : Prop := gravityMovesRow.holds Tryd.pinned (OpenSpec.ofChange gravityMovesWrong)

/-- 'glazierlaw16.GravityStays': WHATEVER THE INPUT: true; the input reads as it did. -/
def gravityStaysSpec : ChangeSpec := { name := "gravityStays", fn := fun _ => fun
  | [d1, d2, d3] => { results := [.lit (.bool true)], args := [d1, d2, d3] }
  | _ => none }
def gravityStaysRow : OpenClaim := { program := "ytkcebadfgiknhaadoor", sum := "2ec7665d0ebf8e251cd1a9717f408c80a069c5bfed4eac91f89a563146665ff4", func := "glazier/glazierlaw16.GravityStays", spec := "gravityStays", named := ["glazier/gravity.halves", "glazier/gravity.names"], apart := false, laid := [("glazier/gravity.names", laid_glazier_gravity_names), ("glazier/gravity.halves", laid_glazier_gravity_halves)] }
def GravityStaysSaid : Prop := gravityStaysRow.holds Tryd.pinned (OpenSpec.ofChange gravityStaysSpec)

/-- ITS FALSE NEIGHBOUR: 'it returns false'. Refute it at one input. -/
def gravityStaysWrong : ChangeSpec := { name := "gravityStays", fn := fun _ => fun
  | [d1, d2, d3] => { results := [.lit (.bool false)], args := [d1, d2, d3] }
  | _ => none }
def GravityStaysWrongFalsely : Prop := gravityStaysRow.holds Tryd.pinned (OpenSpec.ofChange gravityStaysWrong)

/-- 'glazierlaw16.GravityEdges': WHATEVER THE INPUT: true; the input reads as it did. -/
def gravityEdgesSpec : ChangeSpec := { name := "gravityEdges", fn := fun _ => fun
  | [d1, d2] => { results := [.lit (.bool true)], args := [d1, d2] }
  | _ => none }
def gravityEdgesRow : OpenClaim := { program := "ytkcebadfgiknhaadoor", sum := "2ec7665d0ebf8e251cd1a9717f408c80a069c5bfed4eac91f89a563146665ff4", func := "glazier/glazierlaw16.GravityEdges", spec := "gravityEdges", named := ["glazier/gravity.halves", "glazier/gravity.names"], apart := false, laid := [("glazier/gravity.names", laid_glazier_gravity_names), ("glazier/gravity.halves", laid_glazier_gravity_halves)] }
def GravityEdgesSaid : Prop := gravityEdgesRow.holds Tryd.pinned (OpenSpec.ofChange gravityEdgesSpec)

/-- ITS FALSE NEIGHBOUR: 'it returns false'. Refute it at one input. -/
def gravityEdgesWrong : ChangeSpec := { name := "gravityEdges", fn := fun _ => fun
  | [d1, d2] => { results := [.lit (.bool false)], args := [d1, d2] }
  | _ => none }
def GravityEdgesWrongFalsely : Prop := gravityEdgesRow.holds Tryd.pinned (OpenSpec.ofChange gravityEdgesWrong)

/-- 'glazierlaw16.GravityTurns': WHATEVER THE INPUT: true; the input reads as it did. -/
def gravityTurnsSpec : ChangeSpec := { name := "gravityTurns", fn := fun _ => fun
  | [d1, d2, d3] => { results := [.lit (.bool true)], args := [d1, d2, d3] }
  | _ => none }
def gravityTurnsRow : OpenClaim := { program := "ytkcebadfgiknhaadoor", sum := "2ec7665d0ebf8e251cd1a9717f408c80a069c5bfed4eac91f89a563146665ff4", func := "glazier/glazierlaw16.GravityTurns", spec := "gravityTurns", named := ["glazier/gravity.halves", "glazier/gravity.names"], apart := false, laid := [("glazier/gravity.names", laid_glazier_gravity_names), ("glazier/gravity.halves", laid_glazier_gravity_halves)] }
def GravityTurnsSaid : Prop := gravityTurnsRow.holds Tryd.pinned (OpenSpec.ofChange gravityTurnsSpec)

/-- ITS FALSE NEIGHBOUR: 'it returns false'. Refute it at one input. -/
def gravityTurnsWrong : ChangeSpec := { name := "gravityTurns", fn := fun _ => fun
  | [d1, d2, d3] => { results := [.lit (.bool false)], args := [d1, d2, d3] }
  | _ => none }
def GravityTurnsWrongFalsely : Prop := gravityTurnsRow.holds Tryd.pinned (OpenSpec.ofChange gravityTurnsWrong)

/-- 'glazierlaw16.GravityKeeps': WHATEVER THE INPUT: true; the input reads as it did. -/
def gravityKeepsSpec : ChangeSpec := { name := "gravityKeeps", fn := fun _ => fun
  | [d1, d2, d3, d4, d5] => { results := [.lit (.bool true)], args := [d1, d2, d3, d4, d5] }
  | _ => none }
def gravityKeepsRow : OpenClaim := { program := "ytkcebadfgiknhaadoor", sum := "2ec7665d0ebf8e251cd1a9717f408c80a069c5bfed4eac91f89a563146665ff4", func := "glazier/glazierlaw16.GravityKeeps", spec := "gravityKeeps", named := ["glazier/gravity.halves", "glazier/gravity.names"], apart := false, laid := [("glazier/gravity.names", laid_glazier_gravity_names), ("glazier/gravity.halves", laid_glazier_gravity_halves)] }
def GravityKeepsSaid : Prop := gravityKeepsRow.holds Tryd.pinned (OpenSpec.ofChange gravityKeepsSpec)

/-- ITS FALSE NEIGHBOUR: 'it returns false'. Refute it at one input. -/
def gravityKeepsWrong : ChangeSpec := { name := "gravityKeeps", fn := fun _ => fun
  | [d1, d2, d3, d4, d5] => { results := [.lit (.bool false)], args := [d1, d2, d3, d4, d5] }
  | _ => none }
def GravityKeepsWrongFalsely : Prop := gravityKeepsRow.holds Tryd.pinned (OpenSpec.ofChange gravityKeepsWrong)

/-- 'glazierlaw16.GravityNames': WHATEVER THE INPUT: true; the input reads as it did. -/
def gravityNamesSpec : ChangeSpec := { name := "gravityNames", fn := fun _ => fun
  | [d1, d2] => { results := [.lit (.bool true)], args := [d1, d2] }
  | _ => none }
def gravityNamesRow : OpenClaim := { program := "ytkcebadfgiknhaadoor", sum := "2ec7665d0ebf8e251cd1a9717f408c80a069c5bfed4eac91f89a563146665ff4", func := "glazier/glazierlaw16.GravityNames", spec := "gravityNames", named := ["glazier/gravity.halves", "glazier/gravity.names"], apart := false, laid := [("glazier/gravity.names", laid_glazier_gravity_names), ("glazier/gravity.halves", laid_glazier_gravity_halves)] }
def GravityNamesSaid : Prop := gravityNamesRow.holds Tryd.pinned (OpenSpec.ofChange gravityNamesSpec)

/-- ITS FALSE NEIGHBOUR: 'it returns false'. Refute it at one input. -/
def gravityNamesWrong : ChangeSpec := { name := "gravityNames", fn := fun _ => fun
  | [d1, d2] => { results := [.lit (.bool false)], args := [d1, d2] }
  | _ => none }
def GravityNamesWrongFalsely : Prop := gravityNamesRow.holds Tryd.pinned (OpenSpec.ofChange gravityNamesWrong)

/- THE SECOND FORM. 'bulk': how many values and letters a reading holds, each counted each time it is reached (what is shared counts as often as it is met; a slice's spare places count too). A statement '..UptoSaid' is the law's where the arguments, and the package variables that the reading takes, are together of bulk at most 1048576: NARROWER than '..Said'. Prove '..Said' where nothing that the law and all that it calls make is longer than what came in: it says more and counts as full. Else prove '..UptoSaid'. A law counts once. -/
mutual
def uptoBulk {H : Type} : DataW H → Nat
  | .lit (.string bytes) => bytes.length + 1
  | .lit _ => 1
  | .nil => 1
  | .ptr d => uptoBulk d + 1
  | .slice elems spare => uptoBulkAll elems + uptoBulkAll spare + 1
  | .agg parts => uptoBulkAll parts + 1
  | .iface _ d => uptoBulk d + 1
  | .map entries => uptoBulkEntries entries + 1
  | .held _ => 1
def uptoBulkAll {H : Type} : List (DataW H) → Nat
  | [] => 0
  | d :: r => uptoBulk d + uptoBulkAll r
def uptoBulkEntries {H : Type} : List (Lit × DataW H) → Nat
  | [] => 0
  | x :: r => uptoBulkEntry x + uptoBulkEntries r
def uptoBulkEntry {H : Type} : Lit × DataW H → Nat
  | (.string bytes, d) => bytes.length + uptoBulk d + 1
  | (_, d) => uptoBulk d + 1
 end
def uptoSmall : (H : Type) → List (DataW H) → Bool := fun _ ds => decide (uptoBulkAll ds ≤ 1048576)
def OpenSpec.upto (s : _root_.Go.ChangeSpec) : _root_.Go.OpenSpec := { _root_.Go.OpenSpec.ofChange s with cond := some uptoSmall }

/-- 'glazierlaw16.GravityMoves', WHERE WHAT IT READS IS OF BULK AT MOST 1048576: true; the input reads as it did. -/
def gravityMovesUptoRow : OpenClaim := { program := "ytkcebadfgiknhaadoor", sum := "2ec7665d0ebf8e251cd1a9717f408c80a069c5bfed4eac91f89a563146665ff4", func := "glazier/glazierlaw16.GravityMoves", spec := "gravityMoves", named := ["glazier/gravity.halves", "glazier/gravity.names"], apart := false, laid := [("glazier/gravity.names", laid_glazier_gravity_names), ("glazier/gravity.halves", laid_glazier_gravity_halves)], narrowed := true }
def GravityMovesUptoSaid : Prop := gravityMovesUptoRow.holds Tryd.pinned (OpenSpec.upto gravityMovesSpec)

/-- 'glazierlaw16.GravityStays', WHERE WHAT IT READS IS OF BULK AT MOST 1048576: true; the input reads as it did. -/
def gravityStaysUptoRow : OpenClaim := { program := "ytkcebadfgiknhaadoor", sum := "2ec7665d0ebf8e251cd1a9717f408c80a069c5bfed4eac91f89a563146665ff4", func := "glazier/glazierlaw16.GravityStays", spec := "gravityStays", named := ["glazier/gravity.halves", "glazier/gravity.names"], apart := false, laid := [("glazier/gravity.names", laid_glazier_gravity_names), ("glazier/gravity.halves", laid_glazier_gravity_halves)], narrowed := true }
def GravityStaysUptoSaid : Prop := gravityStaysUptoRow.holds Tryd.pinned (OpenSpec.upto gravityStaysSpec)

/-- 'glazierlaw16.GravityEdges', WHERE WHAT IT READS IS OF BULK AT MOST 1048576: true; the input reads as it did. -/
def gravityEdgesUptoRow : OpenClaim := { program := "ytkcebadfgiknhaadoor", sum := "2ec7665d0ebf8e251cd1a9717f408c80a069c5bfed4eac91f89a563146665ff4", func := "glazier/glazierlaw16.GravityEdges", spec := "gravityEdges", named := ["glazier/gravity.halves", "glazier/gravity.names"], apart := false, laid := [("glazier/gravity.names", laid_glazier_gravity_names), ("glazier/gravity.halves", laid_glazier_gravity_halves)], narrowed := true }
def GravityEdgesUptoSaid : Prop := gravityEdgesUptoRow.holds Tryd.pinned (OpenSpec.upto gravityEdgesSpec)

/-- 'glazierlaw16.GravityTurns', WHERE WHAT IT READS IS OF BULK AT MOST 1048576: true; the input reads as it did. -/
def gravityTurnsUptoRow : OpenClaim := { program := "ytkcebadfgiknhaadoor", sum := "2ec7665d0ebf8e251cd1a9717f408c80a069c5bfed4eac91f89a563146665ff4", func := "glazier/glazierlaw16.GravityTurns", spec := "gravityTurns", named := ["glazier/gravity.halves", "glazier/gravity.names"], apart := false, laid := [("glazier/gravity.names", laid_glazier_gravity_names), ("glazier/gravity.halves", laid_glazier_gravity_halves)], narrowed := true }
def GravityTurnsUptoSaid : Prop := gravityTurnsUptoRow.holds Tryd.pinned (OpenSpec.upto gravityTurnsSpec)

/-- 'glazierlaw16.GravityKeeps', WHERE WHAT IT READS IS OF BULK AT MOST 1048576: true; the input reads as it did. -/
def gravityKeepsUptoRow : OpenClaim := { program := "ytkcebadfgiknhaadoor", sum := "2ec7665d0ebf8e251cd1a9717f408c80a069c5bfed4eac91f89a563146665ff4", func := "glazier/glazierlaw16.GravityKeeps", spec := "gravityKeeps", named := ["glazier/gravity.halves", "glazier/gravity.names"], apart := false, laid := [("glazier/gravity.names", laid_glazier_gravity_names), ("glazier/gravity.halves", laid_glazier_gravity_halves)], narrowed := true }
def GravityKeepsUptoSaid : Prop := gravityKeepsUptoRow.holds Tryd.pinned (OpenSpec.upto gravityKeepsSpec)

/-- 'glazierlaw16.GravityNames', WHERE WHAT IT READS IS OF BULK AT MOST 1048576: true; the input reads as it did. -/
def gravityNamesUptoRow : OpenClaim := { program := "ytkcebadfgiknhaadoor", sum := "2ec7665d0ebf8e251cd1a9717f408c80a069c5bfed4eac91f89a563146665ff4", func := "glazier/glazierlaw16.GravityNames", spec := "gravityNames", named := ["glazier/gravity.halves", "glazier/gravity.names"], apart := false, laid := [("glazier/gravity.names", laid_glazier_gravity_names), ("glazier/gravity.halves", laid_glazier_gravity_halves)], narrowed := true }
def GravityNamesUptoSaid : Prop := gravityNamesUptoRow.holds Tryd.pinned (OpenSpec.upto gravityNamesSpec)

end Rows
end Go.Proofs.YtkcebadfgiknhaaDoor
