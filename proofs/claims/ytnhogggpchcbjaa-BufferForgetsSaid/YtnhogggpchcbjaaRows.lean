/-
  No cell of these rows narrows 'for every input' (looked for: loops, veiled, ifaces, maps, wideKeys, modest, calm, conditions, laid).
  DERIVED. THE GIVEN ROWS OF THIS SEAT. 7 by the template 'for every input the law returns true; each argument reads behind the call as it read before'; 0 by the template 'total and deterministic' (their statements: YtnhogggpchcbjaaTotals.lean).
  GIVEN WITH THE SEED: the statements are not yours to turn. If you find one false, say at which input.
  Laid BY PROGRAM, IN A SANDBOX (cutbox-rows.mjs): the forced cells as the released guide's own fill.sh prints them over the translation e9db1b9a29d7f4e3… (all of the seat's roots in one cut). By AI agents, Wed Nov 11 2026. No macro, syntax, notation, axiom, sorry.
-/
import Derived.Test.YtnhogggpchcbjaaChecked
import GoSem.Claim
import GoSem.ClaimJoined
import GoSem.ClaimMapViews
import Derived.JoinedTies
import Derived.KernelRfl
namespace Go.Proofs.Ytnhogggpchcbjaa
/- THE CELL 'sum', in the pinned program and in every row, IS THE sha256 OF THE DUMP (.gsa) THAT YtnhogggpchcbjaaProg.lean LOADS. Nothing in Lean hashes anything: it is a label: what it is worth is what the hold of that sum in a sandbox is worth. -/
noncomputable def Try.pinned : Pinned := { name := "ytnhogggpchcbjaa", sum := "e9db1b9a29d7f4e36e14f338e239ec23bc1bcc7da84eca75340d98d18e2bf0b3", checked := Try.checked }
namespace Rows
def none {H : Type} : Left H := { results := [], args := [] }

/-- 'glazierlaw54.BufferNew': WHATEVER THE INPUT: true; the input reads as it did. -/
def bufferNewSpec : ChangeSpec := { name := "bufferNew", fn := fun _ => fun
  | [d] => { results := [.lit (.bool true)], args := [d] }
  | _ => none }
def bufferNewRow : OpenClaim := { program := "ytnhogggpchcbjaa", sum := "e9db1b9a29d7f4e36e14f338e239ec23bc1bcc7da84eca75340d98d18e2bf0b3", func := "glazier/glazierlaw54.BufferNew", spec := "bufferNew", inPlace := ["internal/bytealg.CountString", "internal/bytealg.IndexByteString", "internal/bytealg.IndexString"], named := ["internal/bytealg.MaxLen"], apart := false }
def BufferNewSaid : Prop := bufferNewRow.holds Try.pinned (OpenSpec.ofChange bufferNewSpec)

/-- ITS FALSE NEIGHBOUR: 'it returns false'. Refute it at one input. -/
def bufferNewWrong : ChangeSpec := { name := "bufferNew", fn := fun _ => fun
  | [d] => { results := [.lit (.bool false)], args := [d] }
  | _ => none }
def BufferNewWrongFalsely : Prop := bufferNewRow.holds Try.pinned (OpenSpec.ofChange bufferNewWrong)

/-- 'glazierlaw54.BufferUndoes': WHATEVER THE INPUT: true; the input reads as it did. -/
def bufferUndoesSpec : ChangeSpec := { name := "bufferUndoes", fn := fun _ => fun
  | [d1, d2] => { results := [.lit (.bool true)], args := [d1, d2] }
  | _ => none }
def bufferUndoesRow : OpenClaim := { program := "ytnhogggpchcbjaa", sum := "e9db1b9a29d7f4e36e14f338e239ec23bc1bcc7da84eca75340d98d18e2bf0b3", func := "glazier/glazierlaw54.BufferUndoes", spec := "bufferUndoes", inPlace := ["internal/bytealg.CountString", "internal/bytealg.IndexByteString", "internal/bytealg.IndexString"], named := ["internal/bytealg.MaxLen"], apart := false }
def BufferUndoesSaid : Prop := bufferUndoesRow.holds Try.pinned (OpenSpec.ofChange bufferUndoesSpec)

/-- ITS FALSE NEIGHBOUR: 'it returns false'. Refute it at one input. -/
def bufferUndoesWrong : ChangeSpec := { name := "bufferUndoes", fn := fun _ => fun
  | [d1, d2] => { results := [.lit (.bool false)], args := [d1, d2] }
  | _ => none }
def BufferUndoesWrongFalsely : Prop := bufferUndoesRow.holds Try.pinned (OpenSpec.ofChange bufferUndoesWrong)

/-- 'glazierlaw54.BufferTakes': WHATEVER THE INPUT: true; the input reads as it did. -/
def bufferTakesSpec : ChangeSpec := { name := "bufferTakes", fn := fun _ => fun
  | [d1, d2, d3] => { results := [.lit (.bool true)], args := [d1, d2, d3] }
  | _ => none }
def bufferTakesRow : OpenClaim := { program := "ytnhogggpchcbjaa", sum := "e9db1b9a29d7f4e36e14f338e239ec23bc1bcc7da84eca75340d98d18e2bf0b3", func := "glazier/glazierlaw54.BufferTakes", spec := "bufferTakes", inPlace := ["internal/bytealg.CountString", "internal/bytealg.IndexByteString", "internal/bytealg.IndexString"], named := ["internal/bytealg.MaxLen"], apart := false }
def BufferTakesSaid : Prop := bufferTakesRow.holds Try.pinned (OpenSpec.ofChange bufferTakesSpec)

/-- ITS FALSE NEIGHBOUR: 'it returns false'. Refute it at one input. -/
def bufferTakesWrong : ChangeSpec := { name := "bufferTakes", fn := fun _ => fun
  | [d1, d2, d3] => { results := [.lit (.bool false)], args := [d1, d2, d3] }
  | _ => none }
def BufferTakesWrongFalsely : Prop := bufferTakesRow.holds Try.pinned (OpenSpec.ofChange bufferTakesWrong)

/-- 'glazierlaw54.BufferPlays': WHATEVER THE INPUT: true; the input reads as it did. -/
def bufferPlaysSpec : ChangeSpec := { name := "bufferPlays", fn := fun _ => fun
  | [d1, d2] => { results := [.lit (.bool true)], args := [d1, d2] }
  | _ => none }
def bufferPlaysRow : OpenClaim := { program := "ytnhogggpchcbjaa", sum := "e9db1b9a29d7f4e36e14f338e239ec23bc1bcc7da84eca75340d98d18e2bf0b3", func := "glazier/glazierlaw54.BufferPlays", spec := "bufferPlays", inPlace := ["internal/bytealg.CountString", "internal/bytealg.IndexByteString", "internal/bytealg.IndexString"], named := ["internal/bytealg.MaxLen"], apart := false }
def BufferPlaysSaid : Prop := bufferPlaysRow.holds Try.pinned (OpenSpec.ofChange bufferPlaysSpec)

/-- ITS FALSE NEIGHBOUR: 'it returns false'. Refute it at one input. -/
def bufferPlaysWrong : ChangeSpec := { name := "bufferPlays", fn := fun _ => fun
  | [d1, d2] => { results := [.lit (.bool false)], args := [d1, d2] }
  | _ => none }
def BufferPlaysWrongFalsely : Prop := bufferPlaysRow.holds Try.pinned (OpenSpec.ofChange bufferPlaysWrong)

/-- 'glazierlaw54.BufferLines': WHATEVER THE INPUT: true; the input reads as it did. -/
def bufferLinesSpec : ChangeSpec := { name := "bufferLines", fn := fun _ => fun
  | [d1, d2, d3, d4, d5] => { results := [.lit (.bool true)], args := [d1, d2, d3, d4, d5] }
  | _ => none }
def bufferLinesRow : OpenClaim := { program := "ytnhogggpchcbjaa", sum := "e9db1b9a29d7f4e36e14f338e239ec23bc1bcc7da84eca75340d98d18e2bf0b3", func := "glazier/glazierlaw54.BufferLines", spec := "bufferLines", inPlace := ["internal/bytealg.CountString", "internal/bytealg.IndexByteString", "internal/bytealg.IndexString"], named := ["internal/bytealg.MaxLen"], apart := false }
def BufferLinesSaid : Prop := bufferLinesRow.holds Try.pinned (OpenSpec.ofChange bufferLinesSpec)

/-- ITS FALSE NEIGHBOUR: 'it returns false'. Refute it at one input. -/
def bufferLinesWrong : ChangeSpec := { name := "bufferLines", fn := fun _ => fun
  | [d1, d2, d3, d4, d5] => { results := [.lit (.bool false)], args := [d1, d2, d3, d4, d5] }
  | _ => none }
def BufferLinesWrongFalsely : Prop := bufferLinesRow.holds Try.pinned (OpenSpec.ofChange bufferLinesWrong)

/-- 'glazierlaw54.BufferSpots': WHATEVER THE INPUT: true; the input reads as it did. -/
def bufferSpotsSpec : ChangeSpec := { name := "bufferSpots", fn := fun _ => fun
  | [d1, d2] => { results := [.lit (.bool true)], args := [d1, d2] }
  | _ => none }
def bufferSpotsRow : OpenClaim := { program := "ytnhogggpchcbjaa", sum := "e9db1b9a29d7f4e36e14f338e239ec23bc1bcc7da84eca75340d98d18e2bf0b3", func := "glazier/glazierlaw54.BufferSpots", spec := "bufferSpots", inPlace := ["internal/bytealg.CountString", "internal/bytealg.IndexByteString", "internal/bytealg.IndexString", "internal/abi.NoEscape", "internal/bytealg.MakeNoZero"], named := ["internal/bytealg.MaxLen"], apart := false }
def BufferSpotsSaid : Prop := bufferSpotsRow.holds Try.pinned (OpenSpec.ofChange bufferSpotsSpec)

/-- ITS FALSE NEIGHBOUR: 'it returns false'. Refute it at one input. -/
def bufferSpotsWrong : ChangeSpec := { name := "bufferSpots", fn := fun _ => fun
  | [d1, d2] => { results := [.lit (.bool false)], args := [d1, d2] }
  | _ => none }
def BufferSpotsWrongFalsely : Prop := bufferSpotsRow.holds Try.pinned (OpenSpec.ofChange bufferSpotsWrong)

/-- 'glazierlaw54.BufferForgets': WHATEVER THE INPUT: true; the input reads as it did. -/
def bufferForgetsSpec : ChangeSpec := { name := "bufferForgets", fn := fun _ => fun
  | [] => { results := [.lit (.bool true)], args := [] }
  | _ => none }
def bufferForgetsRow : OpenClaim := { program := "ytnhogggpchcbjaa", sum := "e9db1b9a29d7f4e36e14f338e239ec23bc1bcc7da84eca75340d98d18e2bf0b3", func := "glazier/glazierlaw54.BufferForgets", spec := "bufferForgets", inPlace := ["internal/abi.NoEscape", "internal/bytealg.MakeNoZero", "internal/bytealg.CountString", "internal/bytealg.IndexByteString", "internal/bytealg.IndexString"], named := ["internal/bytealg.MaxLen"], apart := false }
def BufferForgetsSaid : Prop := bufferForgetsRow.holds Try.pinned (OpenSpec.ofChange bufferForgetsSpec)

/-- ITS FALSE NEIGHBOUR: 'it returns false'. Refute it at one input. -/
def bufferForgetsWrong : ChangeSpec := { name := "bufferForgets", fn := fun _ => fun
  | [] => { results := [.lit (.bool false)], args := [] }
  | _ => none }
def BufferForgetsWrongFalsely : Prop := bufferForgetsRow.holds Try.pinned (OpenSpec.ofChange bufferForgetsWrong)

/- THE SECOND FORM. 'bulk': how many values and letters a reading holds, each counted each time it is reached (what is shared counts as often as it is met; a slice's spare places count too). A statement '..UptoSaid' is the law's where the arguments, and the package variables that the reading takes, are together of bulk at most 1048576: NARROWER than '..Said'. Prove '..Said' where nothing that the law and all that it calls make is longer than what came in: it says more and counts as full. Else prove '..UptoSaid'. A law counts once. -/
mutual
def uptoBulk {H : Type} : DataW H → Nat
  | .lit (.string bytes) => bytes.length + 1
  | .lit _ => 1
  | .nil => 1
  | .ptr d => uptoBulk d + 1
  | .slice elems spare => uptoBulkAll elems + uptoBulkAll spare + 1
  | .agg parts => uptoBulkAll parts + 1
  | .iface _ d => uptoBulk d + 1
  | .map entries => uptoBulkEntries entries + 1
  | .held _ => 1
def uptoBulkAll {H : Type} : List (DataW H) → Nat
  | [] => 0
  | d :: r => uptoBulk d + uptoBulkAll r
def uptoBulkEntries {H : Type} : List (Lit × DataW H) → Nat
  | [] => 0
  | x :: r => uptoBulkEntry x + uptoBulkEntries r
def uptoBulkEntry {H : Type} : Lit × DataW H → Nat
  | (.string bytes, d) => bytes.length + uptoBulk d + 1
  | (_, d) => uptoBulk d + 1
 end
def uptoSmall : (H : Type) → List (DataW H) → Bool := fun _ ds => decide (uptoBulkAll ds ≤ 1048576)
def OpenSpec.upto (s : _root_.Go.ChangeSpec) : _root_.Go.OpenSpec := { _root_.Go.OpenSpec.ofChange s with cond := some uptoSmall }

/-- 'glazierlaw54.BufferNew', WHERE WHAT IT READS IS OF BULK AT MOST 1048576: true; the input reads as it did. -/
def bufferNewUptoRow : OpenClaim := { program := "ytnhogggpchcbjaa", sum := "e9db1b9a29d7f4e36e14f338e239ec23bc1bcc7da84eca75340d98d18e2bf0b3", func := "glazier/glazierlaw54.BufferNew", spec := "bufferNew", inPlace := ["internal/bytealg.CountString", "internal/bytealg.IndexByteString", "internal/bytealg.IndexString"], named := ["internal/bytealg.MaxLen"], apart := false, narrowed := true }
def BufferNewUptoSaid : Prop := bufferNewUptoRow.holds Try.pinned (OpenSpec.upto bufferNewSpec)

/-- 'glazierlaw54.BufferUndoes', WHERE WHAT IT READS IS OF BULK AT MOST 1048576: true; the input reads as it did. -/
def bufferUndoesUptoRow : OpenClaim := { program := "ytnhogggpchcbjaa", sum := "e9db1b9a29d7f4e36e14f338e239ec23bc1bcc7da84eca75340d98d18e2bf0b3", func := "glazier/glazierlaw54.BufferUndoes", spec := "bufferUndoes", inPlace := ["internal/bytealg.CountString", "internal/bytealg.IndexByteString", "internal/bytealg.IndexString"], named := ["internal/bytealg.MaxLen"], apart := false, narrowed := true }
def BufferUndoesUptoSaid : Prop := bufferUndoesUptoRow.holds Try.pinned (OpenSpec.upto bufferUndoesSpec)

/-- 'glazierlaw54.BufferTakes', WHERE WHAT IT READS IS OF BULK AT MOST 1048576: true; the input reads as it did. -/
def bufferTakesUptoRow : OpenClaim := { program := "ytnhogggpchcbjaa", sum := "e9db1b9a29d7f4e36e14f338e239ec23bc1bcc7da84eca75340d98d18e2bf0b3", func := "glazier/glazierlaw54.BufferTakes", spec := "bufferTakes", inPlace := ["internal/bytealg.CountString", "internal/bytealg.IndexByteString", "internal/bytealg.IndexString"], named := ["internal/bytealg.MaxLen"], apart := false, narrowed := true }
def BufferTakesUptoSaid : Prop := bufferTakesUptoRow.holds Try.pinned (OpenSpec.upto bufferTakesSpec)

/-- 'glazierlaw54.BufferPlays', WHERE WHAT IT READS IS OF BULK AT MOST 1048576: true; the input reads as it did. -/
def bufferPlaysUptoRow : OpenClaim := { program := "ytnhogggpchcbjaa", sum := "e9db1b9a29d7f4e36e14f338e239ec23bc1bcc7da84eca75340d98d18e2bf0b3", func := "glazier/glazierlaw54.BufferPlays", spec := "bufferPlays", inPlace := ["internal/bytealg.CountString", "internal/bytealg.IndexByteString", "internal/bytealg.IndexString"], named := ["internal/bytealg.MaxLen"], apart := false, narrowed := true }
def BufferPlaysUptoSaid : Prop := bufferPlaysUptoRow.holds Try.pinned (OpenSpec.upto bufferPlaysSpec)

/-- 'glazierlaw54.BufferLines', WHERE WHAT IT READS IS OF BULK AT MOST 1048576: true; the input reads as it did. -/
def bufferLinesUptoRow : OpenClaim := { program := "ytnhogggpchcbjaa", sum := "e9db1b9a29d7f4e36e14f338e239ec23bc1bcc7da84eca75340d98d18e2bf0b3", func := "glazier/glazierlaw54.BufferLines", spec := "bufferLines", inPlace := ["internal/bytealg.CountString", "internal/bytealg.IndexByteString", "internal/bytealg.IndexString"], named := ["internal/bytealg.MaxLen"], apart := false, narrowed := true }
def BufferLinesUptoSaid : Prop := bufferLinesUptoRow.holds Try.pinned (OpenSpec.upto bufferLinesSpec)

/-- 'glazierlaw54.BufferSpots', WHERE WHAT IT READS IS OF BULK AT MOST 1048576: true; the input reads as it did. -/
def bufferSpotsUptoRow : OpenClaim := { program := "ytnhogggpchcbjaa", sum := "e9db1b9a29d7f4e36e14f338e239ec23bc1bcc7da84eca75340d98d18e2bf0b3", func := "glazier/glazierlaw54.BufferSpots", spec := "bufferSpots", inPlace := ["internal/bytealg.CountString", "internal/bytealg.IndexByteString", "internal/bytealg.IndexString", "internal/abi.NoEscape", "internal/bytealg.MakeNoZero"], named := ["internal/bytealg.MaxLen"], apart := false, narrowed := true }
def BufferSpotsUptoSaid : Prop := bufferSpotsUptoRow.holds Try.pinned (OpenSpec.upto bufferSpotsSpec)

/-- 'glazierlaw54.BufferForgets', WHERE WHAT IT READS IS OF BULK AT MOST 1048576: true; the input reads as it did. -/
def bufferForgetsUptoRow : OpenClaim := { program := "ytnhogggpchcbjaa", sum := "e9db1b9a29d7f4e36e14f338e239ec23bc1bcc7da84eca75340d98d18e2bf0b3", func := "glazier/glazierlaw54.BufferForgets", spec := "bufferForgets", inPlace := ["internal/abi.NoEscape", "internal/bytealg.MakeNoZero", "internal/bytealg.CountString", "internal/bytealg.IndexByteString", "internal/bytealg.IndexString"], named := ["internal/bytealg.MaxLen"], apart := false, narrowed := true }
def BufferForgetsUptoSaid : Prop := bufferForgetsUptoRow.holds Try.pinned (OpenSpec.upto bufferForgetsSpec)

end Rows
end Go.Proofs.Ytnhogggpchcbjaa
