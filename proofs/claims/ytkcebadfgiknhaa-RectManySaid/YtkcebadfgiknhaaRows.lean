/-
  No cell of these rows narrows 'for every input' (looked for: loops, veiled, ifaces, maps, wideKeys, modest, calm, conditions, laid).
  DERIVED. THE GIVEN ROWS OF THIS SEAT. 6 by the template 'for every input the law returns true; each argument reads behind the call as it read before'; 0 by the template 'total and deterministic' (their statements: YtkcebadfgiknhaaTotals.lean).
  GIVEN WITH THE SEED: the statements are not yours to turn. If you find one false, say at which input.
  Laid BY PROGRAM, IN A SANDBOX (cutbox-rows.mjs): the forced cells as the released guide's own fill.sh prints them over the translation 40b68b67c73df0bc… (all of the seat's roots in one cut). By AI agents, Wed Nov 11 2026. No macro, syntax, notation, axiom, sorry.
-/
import Derived.Test.YtkcebadfgiknhaaChecked
import GoSem.Claim
import GoSem.ClaimJoined
import GoSem.ClaimMapViews
import Derived.JoinedTies
import Derived.KernelRfl
namespace Go.Proofs.Ytkcebadfgiknhaa
/- THE CELL 'sum', in the pinned program and in every row, IS THE sha256 OF THE DUMP (.gsa) THAT YtkcebadfgiknhaaProg.lean LOADS. Nothing in Lean hashes anything: it is a label: what it is worth is what the hold of that sum in a sandbox is worth. -/
noncomputable def Try.pinned : Pinned := { name := "ytkcebadfgiknhaa", sum := "40b68b67c73df0bc8d26e0fad3f79069573e581349575f7d77e6b0fbcf55fe3e", checked := Try.checked }
namespace Rows
def none {H : Type} : Left H := { results := [], args := [] }

/-- 'glazierlaw12.RectAreas': WHATEVER THE INPUT: true; the input reads as it did. -/
def rectAreasSpec : ChangeSpec := { name := "rectAreas", fn := fun _ => fun
  | [d1, d2] => { results := [.lit (.bool true)], args := [d1, d2] }
  | _ => none }
def rectAreasRow : OpenClaim := { program := "ytkcebadfgiknhaa", sum := "40b68b67c73df0bc8d26e0fad3f79069573e581349575f7d77e6b0fbcf55fe3e", func := "glazier/glazierlaw12.RectAreas", spec := "rectAreas", apart := false }
def RectAreasSaid : Prop := rectAreasRow.holds Try.pinned (OpenSpec.ofChange rectAreasSpec)

/-- ITS FALSE NEIGHBOUR: 'it returns false'. Refute it at one input. -/
def rectAreasWrong : ChangeSpec := { name := "rectAreas", fn := fun _ => fun
  | [d1, d2] => { results := [.lit (.bool false)], args := [d1, d2] }
  | _ => none }
def RectAreasWrongFalsely : Prop := rectAreasRow.holds Try.pinned (OpenSpec.ofChange rectAreasWrong)

/-- 'glazierlaw12.RectMany': WHATEVER THE INPUT: true; the input reads as it did. -/
def rectManySpec : ChangeSpec := { name := "rectMany", fn := fun _ => fun
  | [d1, d2] => { results := [.lit (.bool true)], args := [d1, d2] }
  | _ => none }
def rectManyRow : OpenClaim := { program := "ytkcebadfgiknhaa", sum := "40b68b67c73df0bc8d26e0fad3f79069573e581349575f7d77e6b0fbcf55fe3e", func := "glazier/glazierlaw12.RectMany", spec := "rectMany", apart := false }
def RectManySaid : Prop := rectManyRow.holds Try.pinned (OpenSpec.ofChange rectManySpec)

/-- ITS FALSE NEIGHBOUR: 'it returns false'. Refute it at one input. -/
def rectManyWrong : ChangeSpec := { name := "rectMany", fn := fun _ => fun
  | [d1, d2] => { results := [.lit (.bool false)], args := [d1, d2] }
  | _ => none }
def RectManyWrongFalsely : Prop := rectManyRow.holds Try.pinned (OpenSpec.ofChange rectManyWrong)

/-- 'glazierlaw12.RectPlaces': WHATEVER THE INPUT: true; the input reads as it did. -/
def rectPlacesSpec : ChangeSpec := { name := "rectPlaces", fn := fun _ => fun
  | [d1, d2, d3, d4] => { results := [.lit (.bool true)], args := [d1, d2, d3, d4] }
  | _ => none }
def rectPlacesRow : OpenClaim := { program := "ytkcebadfgiknhaa", sum := "40b68b67c73df0bc8d26e0fad3f79069573e581349575f7d77e6b0fbcf55fe3e", func := "glazier/glazierlaw12.RectPlaces", spec := "rectPlaces", apart := false }
def RectPlacesSaid : Prop := rectPlacesRow.holds Try.pinned (OpenSpec.ofChange rectPlacesSpec)

/-- ITS FALSE NEIGHBOUR: 'it returns false'. Refute it at one input. -/
def rectPlacesWrong : ChangeSpec := { name := "rectPlaces", fn := fun _ => fun
  | [d1, d2, d3, d4] => { results := [.lit (.bool false)], args := [d1, d2, d3, d4] }
  | _ => none }
def RectPlacesWrongFalsely : Prop := rectPlacesRow.holds Try.pinned (OpenSpec.ofChange rectPlacesWrong)

/-- 'glazierlaw12.RectTells': WHATEVER THE INPUT: true; the input reads as it did. -/
def rectTellsSpec : ChangeSpec := { name := "rectTells", fn := fun _ => fun
  | [d1, d2, d3, d4] => { results := [.lit (.bool true)], args := [d1, d2, d3, d4] }
  | _ => none }
def rectTellsRow : OpenClaim := { program := "ytkcebadfgiknhaa", sum := "40b68b67c73df0bc8d26e0fad3f79069573e581349575f7d77e6b0fbcf55fe3e", func := "glazier/glazierlaw12.RectTells", spec := "rectTells", apart := false }
def RectTellsSaid : Prop := rectTellsRow.holds Try.pinned (OpenSpec.ofChange rectTellsSpec)

/-- ITS FALSE NEIGHBOUR: 'it returns false'. Refute it at one input. -/
def rectTellsWrong : ChangeSpec := { name := "rectTells", fn := fun _ => fun
  | [d1, d2, d3, d4] => { results := [.lit (.bool false)], args := [d1, d2, d3, d4] }
  | _ => none }
def RectTellsWrongFalsely : Prop := rectTellsRow.holds Try.pinned (OpenSpec.ofChange rectTellsWrong)

/-- 'glazierlaw12.RectMoves': WHATEVER THE INPUT: true; the input reads as it did. -/
def rectMovesSpec : ChangeSpec := { name := "rectMoves", fn := fun _ => fun
  | [d1, d2, d3, d4] => { results := [.lit (.bool true)], args := [d1, d2, d3, d4] }
  | _ => none }
def rectMovesRow : OpenClaim := { program := "ytkcebadfgiknhaa", sum := "40b68b67c73df0bc8d26e0fad3f79069573e581349575f7d77e6b0fbcf55fe3e", func := "glazier/glazierlaw12.RectMoves", spec := "rectMoves", apart := false }
def RectMovesSaid : Prop := rectMovesRow.holds Try.pinned (OpenSpec.ofChange rectMovesSpec)

/-- ITS FALSE NEIGHBOUR: 'it returns false'. Refute it at one input. -/
def rectMovesWrong : ChangeSpec := { name := "rectMoves", fn := fun _ => fun
  | [d1, d2, d3, d4] => { results := [.lit (.bool false)], args := [d1, d2, d3, d4] }
  | _ => none }
def RectMovesWrongFalsely : Prop := rectMovesRow.holds Try.pinned (OpenSpec.ofChange rectMovesWrong)

/-- 'glazierlaw12.RectThere': WHATEVER THE INPUT: true; the input reads as it did. -/
def rectThereSpec : ChangeSpec := { name := "rectThere", fn := fun _ => fun
  | [d1, d2, d3, d4, d5] => { results := [.lit (.bool true)], args := [d1, d2, d3, d4, d5] }
  | _ => none }
def rectThereRow : OpenClaim := { program := "ytkcebadfgiknhaa", sum := "40b68b67c73df0bc8d26e0fad3f79069573e581349575f7d77e6b0fbcf55fe3e", func := "glazier/glazierlaw12.RectThere", spec := "rectThere", apart := false }
def RectThereSaid : Prop := rectThereRow.holds Try.pinned (OpenSpec.ofChange rectThereSpec)

/-- ITS FALSE NEIGHBOUR: 'it returns false'. Refute it at one input. -/
def rectThereWrong : ChangeSpec := { name := "rectThere", fn := fun _ => fun
  | [d1, d2, d3, d4, d5] => { results := [.lit (.bool false)], args := [d1, d2, d3, d4, d5] }
  | _ => none }
def RectThereWrongFalsely : Prop := rectThereRow.holds Try.pinned (OpenSpec.ofChange rectThereWrong)

/- THE SECOND FORM. 'bulk': how many values and letters a reading holds, each counted each time it is reached (what is shared counts as often as it is met; a slice's spare places count too). A statement '..UptoSaid' is the law's where the arguments, and the package variables that the reading takes, are together of bulk at most 1048576: NARROWER than '..Said'. Prove '..Said' where nothing that the law and all that it calls make is longer than what came in: it says more and counts as full. Else prove '..UptoSaid'. A law counts once. -/
mutual
def uptoBulk {H : Type} : DataW H → Nat
  | .lit (.string bytes) => bytes.length + 1
  | .lit _ => 1
  | .nil => 1
  | .ptr d => uptoBulk d + 1
  | .slice elems spare => uptoBulkAll elems + uptoBulkAll spare + 1
  | .agg parts => uptoBulkAll parts + 1
  | .iface _ d => uptoBulk d + 1
  | .map entries => uptoBulkEntries entries + 1
  | .held _ => 1
def uptoBulkAll {H : Type} : List (DataW H) → Nat
  | [] => 0
  | d :: r => uptoBulk d + uptoBulkAll r
def uptoBulkEntries {H : Type} : List (Lit × DataW H) → Nat
  | [] => 0
  | x :: r => uptoBulkEntry x + uptoBulkEntries r
def uptoBulkEntry {H : Type} : Lit × DataW H → Nat
  | (.string bytes, d) => bytes.length + uptoBulk d + 1
  | (_, d) => uptoBulk d + 1
 end
def uptoSmall : (H : Type) → List (DataW H) → Bool := fun _ ds => decide (uptoBulkAll ds ≤ 1048576)
def OpenSpec.upto (s : _root_.Go.ChangeSpec) : _root_.Go.OpenSpec := { _root_.Go.OpenSpec.ofChange s with cond := some uptoSmall }

/-- 'glazierlaw12.RectAreas', WHERE WHAT IT READS IS OF BULK AT MOST 1048576: true; the input reads as it did. -/
def rectAreasUptoRow : OpenClaim := { program := "ytkcebadfgiknhaa", sum := "40b68b67c73df0bc8d26e0fad3f79069573e581349575f7d77e6b0fbcf55fe3e", func := "glazier/glazierlaw12.RectAreas", spec := "rectAreas", apart := false, narrowed := true }
def RectAreasUptoSaid : Prop := rectAreasUptoRow.holds Try.pinned (OpenSpec.upto rectAreasSpec)

/-- 'glazierlaw12.RectMany', WHERE WHAT IT READS IS OF BULK AT MOST 1048576: true; the input reads as it did. -/
def rectManyUptoRow : OpenClaim := { program := "ytkcebadfgiknhaa", sum := "40b68b67c73df0bc8d26e0fad3f79069573e581349575f7d77e6b0fbcf55fe3e", func := "glazier/glazierlaw12.RectMany", spec := "rectMany", apart := false, narrowed := true }
def RectManyUptoSaid : Prop := rectManyUptoRow.holds Try.pinned (OpenSpec.upto rectManySpec)

/-- 'glazierlaw12.RectPlaces', WHERE WHAT IT READS IS OF BULK AT MOST 1048576: true; the input reads as it did. -/
def rectPlacesUptoRow : OpenClaim := { program := "ytkcebadfgiknhaa", sum := "40b68b67c73df0bc8d26e0fad3f79069573e581349575f7d77e6b0fbcf55fe3e", func := "glazier/glazierlaw12.RectPlaces", spec := "rectPlaces", apart := false, narrowed := true }
def RectPlacesUptoSaid : Prop := rectPlacesUptoRow.holds Try.pinned (OpenSpec.upto rectPlacesSpec)

/-- 'glazierlaw12.RectTells', WHERE WHAT IT READS IS OF BULK AT MOST 1048576: true; the input reads as it did. -/
def rectTellsUptoRow : OpenClaim := { program := "ytkcebadfgiknhaa", sum := "40b68b67c73df0bc8d26e0fad3f79069573e581349575f7d77e6b0fbcf55fe3e", func := "glazier/glazierlaw12.RectTells", spec := "rectTells", apart := false, narrowed := true }
def RectTellsUptoSaid : Prop := rectTellsUptoRow.holds Try.pinned (OpenSpec.upto rectTellsSpec)

/-- 'glazierlaw12.RectMoves', WHERE WHAT IT READS IS OF BULK AT MOST 1048576: true; the input reads as it did. -/
def rectMovesUptoRow : OpenClaim := { program := "ytkcebadfgiknhaa", sum := "40b68b67c73df0bc8d26e0fad3f79069573e581349575f7d77e6b0fbcf55fe3e", func := "glazier/glazierlaw12.RectMoves", spec := "rectMoves", apart := false, narrowed := true }
def RectMovesUptoSaid : Prop := rectMovesUptoRow.holds Try.pinned (OpenSpec.upto rectMovesSpec)

/-- 'glazierlaw12.RectThere', WHERE WHAT IT READS IS OF BULK AT MOST 1048576: true; the input reads as it did. -/
def rectThereUptoRow : OpenClaim := { program := "ytkcebadfgiknhaa", sum := "40b68b67c73df0bc8d26e0fad3f79069573e581349575f7d77e6b0fbcf55fe3e", func := "glazier/glazierlaw12.RectThere", spec := "rectThere", apart := false, narrowed := true }
def RectThereUptoSaid : Prop := rectThereUptoRow.holds Try.pinned (OpenSpec.upto rectThereSpec)

end Rows
end Go.Proofs.Ytkcebadfgiknhaa
