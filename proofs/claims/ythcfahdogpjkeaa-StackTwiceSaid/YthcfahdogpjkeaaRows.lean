/-
  No cell of these rows narrows 'for every input' (looked for: loops, veiled, ifaces, maps, wideKeys, modest, calm, conditions, laid).
  DERIVED. THE GIVEN ROWS OF THIS SEAT. 6 by the template 'for every input the law returns true; each argument reads behind the call as it read before'; 0 by the template 'total and deterministic' (their statements: YthcfahdogpjkeaaTotals.lean).
  GIVEN WITH THE SEED: the statements are not yours to turn. If you find one false, say at which input.
  Laid BY PROGRAM, IN A SANDBOX (cutbox-rows.mjs): the forced cells as the released guide's own fill.sh prints them over the translation 69a2766fd1689ad9… (all of the seat's roots in one cut). By AI agents, Wed Nov 11 2026. No macro, syntax, notation, axiom, sorry.
-/
import Derived.Test.YthcfahdogpjkeaaChecked
import GoSem.Claim
import GoSem.ClaimJoined
import GoSem.ClaimMapViews
import Derived.JoinedTies
import Derived.KernelRfl
namespace Go.Proofs.Ythcfahdogpjkeaa
/- THE CELL 'sum', in the pinned program and in every row, IS THE sha256 OF THE DUMP (.gsa) THAT YthcfahdogpjkeaaProg.lean LOADS. Nothing in Lean hashes anything: it is a label: what it is worth is what the hold of that sum in a sandbox is worth. -/
noncomputable def Try.pinned : Pinned := { name := "ythcfahdogpjkeaa", sum := "69a2766fd1689ad9ae1c8afcff684ca77bb080791bed1a96d4c936fa5e2e1c58", checked := Try.checked }
namespace Rows
def none {H : Type} : Left H := { results := [], args := [] }

/-- 'glazierlaw29.StackRestacks': WHATEVER THE INPUT: true; the input reads as it did. -/
def stackRestacksSpec : ChangeSpec := { name := "stackRestacks", fn := fun _ => fun
  | [d1, d2, d3] => { results := [.lit (.bool true)], args := [d1, d2, d3] }
  | _ => none }
def stackRestacksRow : OpenClaim := { program := "ythcfahdogpjkeaa", sum := "69a2766fd1689ad9ae1c8afcff684ca77bb080791bed1a96d4c936fa5e2e1c58", func := "glazier/glazierlaw29.StackRestacks", spec := "stackRestacks", inPlace := ["slices.overlaps[glazier/api.ID]"], unfollowed := true, recurses := true, apart := false }
def StackRestacksSaid : Prop := stackRestacksRow.holds Try.pinned (OpenSpec.ofChange stackRestacksSpec)

/-- ITS FALSE NEIGHBOUR: 'it returns false'. Refute it at one input. -/
def stackRestacksWrong : ChangeSpec := { name := "stackRestacks", fn := fun _ => fun
  | [d1, d2, d3] => { results := [.lit (.bool false)], args := [d1, d2, d3] }
  | _ => none }
def StackRestacksWrongFalsely : Prop := stackRestacksRow.holds Try.pinned (OpenSpec.ofChange stackRestacksWrong)

/-- 'glazierlaw29.StackHides': WHATEVER THE INPUT: true; the input reads as it did. -/
def stackHidesSpec : ChangeSpec := { name := "stackHides", fn := fun _ => fun
  | [d1, d2] => { results := [.lit (.bool true)], args := [d1, d2] }
  | _ => none }
def stackHidesRow : OpenClaim := { program := "ythcfahdogpjkeaa", sum := "69a2766fd1689ad9ae1c8afcff684ca77bb080791bed1a96d4c936fa5e2e1c58", func := "glazier/glazierlaw29.StackHides", spec := "stackHides", inPlace := ["slices.overlaps[glazier/api.ID]"], unfollowed := true, recurses := true, apart := false }
def StackHidesSaid : Prop := stackHidesRow.holds Try.pinned (OpenSpec.ofChange stackHidesSpec)

/-- ITS FALSE NEIGHBOUR: 'it returns false'. Refute it at one input. -/
def stackHidesWrong : ChangeSpec := { name := "stackHides", fn := fun _ => fun
  | [d1, d2] => { results := [.lit (.bool false)], args := [d1, d2] }
  | _ => none }
def StackHidesWrongFalsely : Prop := stackHidesRow.holds Try.pinned (OpenSpec.ofChange stackHidesWrong)

/-- 'glazierlaw29.StackFrees': WHATEVER THE INPUT: true; the input reads as it did. -/
def stackFreesSpec : ChangeSpec := { name := "stackFrees", fn := fun _ => fun
  | [d1, d2] => { results := [.lit (.bool true)], args := [d1, d2] }
  | _ => none }
def stackFreesRow : OpenClaim := { program := "ythcfahdogpjkeaa", sum := "69a2766fd1689ad9ae1c8afcff684ca77bb080791bed1a96d4c936fa5e2e1c58", func := "glazier/glazierlaw29.StackFrees", spec := "stackFrees", inPlace := ["slices.overlaps[glazier/api.ID]"], unfollowed := true, recurses := true, apart := false }
def StackFreesSaid : Prop := stackFreesRow.holds Try.pinned (OpenSpec.ofChange stackFreesSpec)

/-- ITS FALSE NEIGHBOUR: 'it returns false'. Refute it at one input. -/
def stackFreesWrong : ChangeSpec := { name := "stackFrees", fn := fun _ => fun
  | [d1, d2] => { results := [.lit (.bool false)], args := [d1, d2] }
  | _ => none }
def StackFreesWrongFalsely : Prop := stackFreesRow.holds Try.pinned (OpenSpec.ofChange stackFreesWrong)

/-- 'glazierlaw29.StackTwice': WHATEVER THE INPUT: true; the input reads as it did. -/
def stackTwiceSpec : ChangeSpec := { name := "stackTwice", fn := fun _ => fun
  | [d1, d2, d3] => { results := [.lit (.bool true)], args := [d1, d2, d3] }
  | _ => none }
def stackTwiceRow : OpenClaim := { program := "ythcfahdogpjkeaa", sum := "69a2766fd1689ad9ae1c8afcff684ca77bb080791bed1a96d4c936fa5e2e1c58", func := "glazier/glazierlaw29.StackTwice", spec := "stackTwice", inPlace := ["slices.overlaps[glazier/api.ID]"], unfollowed := true, recurses := true, apart := false }
def StackTwiceSaid : Prop := stackTwiceRow.holds Try.pinned (OpenSpec.ofChange stackTwiceSpec)

/-- ITS FALSE NEIGHBOUR: 'it returns false'. Refute it at one input. -/
def stackTwiceWrong : ChangeSpec := { name := "stackTwice", fn := fun _ => fun
  | [d1, d2, d3] => { results := [.lit (.bool false)], args := [d1, d2, d3] }
  | _ => none }
def StackTwiceWrongFalsely : Prop := stackTwiceRow.holds Try.pinned (OpenSpec.ofChange stackTwiceWrong)

/-- 'glazierlaw29.StackOthers': WHATEVER THE INPUT: true; the input reads as it did. -/
def stackOthersSpec : ChangeSpec := { name := "stackOthers", fn := fun _ => fun
  | [d1, d2] => { results := [.lit (.bool true)], args := [d1, d2] }
  | _ => none }
def stackOthersRow : OpenClaim := { program := "ythcfahdogpjkeaa", sum := "69a2766fd1689ad9ae1c8afcff684ca77bb080791bed1a96d4c936fa5e2e1c58", func := "glazier/glazierlaw29.StackOthers", spec := "stackOthers", inPlace := ["slices.overlaps[glazier/api.ID]"], unfollowed := true, recurses := true, apart := false }
def StackOthersSaid : Prop := stackOthersRow.holds Try.pinned (OpenSpec.ofChange stackOthersSpec)

/-- ITS FALSE NEIGHBOUR: 'it returns false'. Refute it at one input. -/
def stackOthersWrong : ChangeSpec := { name := "stackOthers", fn := fun _ => fun
  | [d1, d2] => { results := [.lit (.bool false)], args := [d1, d2] }
  | _ => none }
def StackOthersWrongFalsely : Prop := stackOthersRow.holds Try.pinned (OpenSpec.ofChange stackOthersWrong)

/-- 'glazierlaw29.StackCirculates': WHATEVER THE INPUT: true; the input reads as it did. -/
def stackCirculatesSpec : ChangeSpec := { name := "stackCirculates", fn := fun _ => fun
  | [d1, d2] => { results := [.lit (.bool true)], args := [d1, d2] }
  | _ => none }
def stackCirculatesRow : OpenClaim := { program := "ythcfahdogpjkeaa", sum := "69a2766fd1689ad9ae1c8afcff684ca77bb080791bed1a96d4c936fa5e2e1c58", func := "glazier/glazierlaw29.StackCirculates", spec := "stackCirculates", inPlace := ["slices.overlaps[glazier/api.ID]"], unfollowed := true, recurses := true, apart := false }
def StackCirculatesSaid : Prop := stackCirculatesRow.holds Try.pinned (OpenSpec.ofChange stackCirculatesSpec)

/-- ITS FALSE NEIGHBOUR: 'it returns false'. Refute it at one input. -/
def stackCirculatesWrong : ChangeSpec := { name := "stackCirculates", fn := fun _ => fun
  | [d1, d2] => { results := [.lit (.bool false)], args := [d1, d2] }
  | _ => none }
def StackCirculatesWrongFalsely : Prop := stackCirculatesRow.holds Try.pinned (OpenSpec.ofChange stackCirculatesWrong)

/- THE SECOND FORM. 'bulk': how many values and letters a reading holds, each counted each time it is reached (what is shared counts as often as it is met; a slice's spare places count too). A statement '..UptoSaid' is the law's where the arguments, and the package variables that the reading takes, are together of bulk at most 1048576: NARROWER than '..Said'. Prove '..Said' where nothing that the law and all that it calls make is longer than what came in: it says more and counts as full. Else prove '..UptoSaid'. A law counts once. -/
mutual
def uptoBulk {H : Type} : DataW H → Nat
  | .lit (.string bytes) => bytes.length + 1
  | .lit _ => 1
  | .nil => 1
  | .ptr d => uptoBulk d + 1
  | .slice elems spare => uptoBulkAll elems + uptoBulkAll spare + 1
  | .agg parts => uptoBulkAll parts + 1
  | .iface _ d => uptoBulk d + 1
  | .map entries => uptoBulkEntries entries + 1
  | .held _ => 1
def uptoBulkAll {H : Type} : List (DataW H) → Nat
  | [] => 0
  | d :: r => uptoBulk d + uptoBulkAll r
def uptoBulkEntries {H : Type} : List (Lit × DataW H) → Nat
  | [] => 0
  | x :: r => uptoBulkEntry x + uptoBulkEntries r
def uptoBulkEntry {H : Type} : Lit × DataW H → Nat
  | (.string bytes, d) => bytes.length + uptoBulk d + 1
  | (_, d) => uptoBulk d + 1
 end
def uptoSmall : (H : Type) → List (DataW H) → Bool := fun _ ds => decide (uptoBulkAll ds ≤ 1048576)
def OpenSpec.upto (s : _root_.Go.ChangeSpec) : _root_.Go.OpenSpec := { _root_.Go.OpenSpec.ofChange s with cond := some uptoSmall }

/-- 'glazierlaw29.StackRestacks', WHERE WHAT IT READS IS OF BULK AT MOST 1048576: true; the input reads as it did. -/
def stackRestacksUptoRow : OpenClaim := { program := "ythcfahdogpjkeaa", sum := "69a2766fd1689ad9ae1c8afcff684ca77bb080791bed1a96d4c936fa5e2e1c58", func := "glazier/glazierlaw29.StackRestacks", spec := "stackRestacks", inPlace := ["slices.overlaps[glazier/api.ID]"], unfollowed := true, recurses := true, apart := false, narrowed := true }
def StackRestacksUptoSaid : Prop := stackRestacksUptoRow.holds Try.pinned (OpenSpec.upto stackRestacksSpec)

/-- 'glazierlaw29.StackHides', WHERE WHAT IT READS IS OF BULK AT MOST 1048576: true; the input reads as it did. -/
def stackHidesUptoRow : OpenClaim := { program := "ythcfahdogpjkeaa", sum := "69a2766fd1689ad9ae1c8afcff684ca77bb080791bed1a96d4c936fa5e2e1c58", func := "glazier/glazierlaw29.StackHides", spec := "stackHides", inPlace := ["slices.overlaps[glazier/api.ID]"], unfollowed := true, recurses := true, apart := false, narrowed := true }
def StackHidesUptoSaid : Prop := stackHidesUptoRow.holds Try.pinned (OpenSpec.upto stackHidesSpec)

/-- 'glazierlaw29.StackFrees', WHERE WHAT IT READS IS OF BULK AT MOST 1048576: true; the input reads as it did. -/
def stackFreesUptoRow : OpenClaim := { program := "ythcfahdogpjkeaa", sum := "69a2766fd1689ad9ae1c8afcff684ca77bb080791bed1a96d4c936fa5e2e1c58", func := "glazier/glazierlaw29.StackFrees", spec := "stackFrees", inPlace := ["slices.overlaps[glazier/api.ID]"], unfollowed := true, recurses := true, apart := false, narrowed := true }
def StackFreesUptoSaid : Prop := stackFreesUptoRow.holds Try.pinned (OpenSpec.upto stackFreesSpec)

/-- 'glazierlaw29.StackTwice', WHERE WHAT IT READS IS OF BULK AT MOST 1048576: true; the input reads as it did. -/
def stackTwiceUptoRow : OpenClaim := { program := "ythcfahdogpjkeaa", sum := "69a2766fd1689ad9ae1c8afcff684ca77bb080791bed1a96d4c936fa5e2e1c58", func := "glazier/glazierlaw29.StackTwice", spec := "stackTwice", inPlace := ["slices.overlaps[glazier/api.ID]"], unfollowed := true, recurses := true, apart := false, narrowed := true }
def StackTwiceUptoSaid : Prop := stackTwiceUptoRow.holds Try.pinned (OpenSpec.upto stackTwiceSpec)

/-- 'glazierlaw29.StackOthers', WHERE WHAT IT READS IS OF BULK AT MOST 1048576: true; the input reads as it did. -/
def stackOthersUptoRow : OpenClaim := { program := "ythcfahdogpjkeaa", sum := "69a2766fd1689ad9ae1c8afcff684ca77bb080791bed1a96d4c936fa5e2e1c58", func := "glazier/glazierlaw29.StackOthers", spec := "stackOthers", inPlace := ["slices.overlaps[glazier/api.ID]"], unfollowed := true, recurses := true, apart := false, narrowed := true }
def StackOthersUptoSaid : Prop := stackOthersUptoRow.holds Try.pinned (OpenSpec.upto stackOthersSpec)

/-- 'glazierlaw29.StackCirculates', WHERE WHAT IT READS IS OF BULK AT MOST 1048576: true; the input reads as it did. -/
def stackCirculatesUptoRow : OpenClaim := { program := "ythcfahdogpjkeaa", sum := "69a2766fd1689ad9ae1c8afcff684ca77bb080791bed1a96d4c936fa5e2e1c58", func := "glazier/glazierlaw29.StackCirculates", spec := "stackCirculates", inPlace := ["slices.overlaps[glazier/api.ID]"], unfollowed := true, recurses := true, apart := false, narrowed := true }
def StackCirculatesUptoSaid : Prop := stackCirculatesUptoRow.holds Try.pinned (OpenSpec.upto stackCirculatesSpec)

end Rows
end Go.Proofs.Ythcfahdogpjkeaa
