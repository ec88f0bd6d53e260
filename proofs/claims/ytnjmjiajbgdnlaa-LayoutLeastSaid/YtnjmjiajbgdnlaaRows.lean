/-
  No cell of these rows narrows 'for every input' (looked for: loops, veiled, ifaces, maps, wideKeys, modest, calm, conditions, laid).
  DERIVED. THE GIVEN ROWS OF THIS SEAT. 6 by the template 'for every input the law returns true; each argument reads behind the call as it read before'; 0 by the template 'total and deterministic' (their statements: YtnjmjiajbgdnlaaTotals.lean).
  GIVEN WITH THE SEED: the statements are not yours to turn. If you find one false, say at which input.
  Laid BY PROGRAM, IN A SANDBOX (cutbox-rows.mjs): the forced cells as the released guide's own fill.sh prints them over the translation 3229a48153857841… (all of the seat's roots in one cut). By AI agents, Wed Nov 11 2026. No macro, syntax, notation, axiom, sorry.
-/
import Derived.Test.YtnjmjiajbgdnlaaChecked
import GoSem.Claim
import GoSem.ClaimJoined
import GoSem.ClaimMapViews
import Derived.JoinedTies
import Derived.KernelRfl
namespace Go.Proofs.Ytnjmjiajbgdnlaa
/- THE CELL 'sum', in the pinned program and in every row, IS THE sha256 OF THE DUMP (.gsa) THAT YtnjmjiajbgdnlaaProg.lean LOADS. Nothing in Lean hashes anything: it is a label: what it is worth is what the hold of that sum in a sandbox is worth. -/
noncomputable def Try.pinned : Pinned := { name := "ytnjmjiajbgdnlaa", sum := "3229a4815385784181592a5c9a795635535dc4afa8f29da54d3d07d7558738a5", checked := Try.checked }
namespace Rows
def none {H : Type} : Left H := { results := [], args := [] }

/-- 'glazierlaw52.LayoutSplits': WHATEVER THE INPUT: true; the input reads as it did. -/
def layoutSplitsSpec : ChangeSpec := { name := "layoutSplits", fn := fun _ => fun
  | [d1, d2, d3] => { results := [.lit (.bool true)], args := [d1, d2, d3] }
  | _ => none }
def layoutSplitsRow : OpenClaim := { program := "ytnjmjiajbgdnlaa", sum := "3229a4815385784181592a5c9a795635535dc4afa8f29da54d3d07d7558738a5", func := "glazier/glazierlaw52.LayoutSplits", spec := "layoutSplits", unfollowed := true, recurses := true, apart := false }
def LayoutSplitsSaid : Prop := layoutSplitsRow.holds Try.pinned (OpenSpec.ofChange layoutSplitsSpec)

/-- ITS FALSE NEIGHBOUR: 'it returns false'. Refute it at one input. -/
def layoutSplitsWrong : ChangeSpec := { name := "layoutSplits", fn := fun _ => fun
  | [d1, d2, d3] => { results := [.lit (.bool false)], args := [d1, d2, d3] }
  | _ => none }
def LayoutSplitsWrongFalsely : Prop := layoutSplitsRow.holds Try.pinned (OpenSpec.ofChange layoutSplitsWrong)

/-- 'glazierlaw52.LayoutSums': WHATEVER THE INPUT: true; the input reads as it did. -/
def layoutSumsSpec : ChangeSpec := { name := "layoutSums", fn := fun _ => fun
  | [d1, d2, d3, d4] => { results := [.lit (.bool true)], args := [d1, d2, d3, d4] }
  | _ => none }
def layoutSumsRow : OpenClaim := { program := "ytnjmjiajbgdnlaa", sum := "3229a4815385784181592a5c9a795635535dc4afa8f29da54d3d07d7558738a5", func := "glazier/glazierlaw52.LayoutSums", spec := "layoutSums", unfollowed := true, recurses := true, apart := false }
def LayoutSumsSaid : Prop := layoutSumsRow.holds Try.pinned (OpenSpec.ofChange layoutSumsSpec)

/-- ITS FALSE NEIGHBOUR: 'it returns false'. Refute it at one input. -/
def layoutSumsWrong : ChangeSpec := { name := "layoutSums", fn := fun _ => fun
  | [d1, d2, d3, d4] => { results := [.lit (.bool false)], args := [d1, d2, d3, d4] }
  | _ => none }
def LayoutSumsWrongFalsely : Prop := layoutSumsRow.holds Try.pinned (OpenSpec.ofChange layoutSumsWrong)

/-- 'glazierlaw52.LayoutTiles': WHATEVER THE INPUT: true; the input reads as it did. -/
def layoutTilesSpec : ChangeSpec := { name := "layoutTiles", fn := fun _ => fun
  | [d1, d2, d3, d4] => { results := [.lit (.bool true)], args := [d1, d2, d3, d4] }
  | _ => none }
def layoutTilesRow : OpenClaim := { program := "ytnjmjiajbgdnlaa", sum := "3229a4815385784181592a5c9a795635535dc4afa8f29da54d3d07d7558738a5", func := "glazier/glazierlaw52.LayoutTiles", spec := "layoutTiles", unfollowed := true, recurses := true, apart := false }
def LayoutTilesSaid : Prop := layoutTilesRow.holds Try.pinned (OpenSpec.ofChange layoutTilesSpec)

/-- ITS FALSE NEIGHBOUR: 'it returns false'. Refute it at one input. -/
def layoutTilesWrong : ChangeSpec := { name := "layoutTiles", fn := fun _ => fun
  | [d1, d2, d3, d4] => { results := [.lit (.bool false)], args := [d1, d2, d3, d4] }
  | _ => none }
def LayoutTilesWrongFalsely : Prop := layoutTilesRow.holds Try.pinned (OpenSpec.ofChange layoutTilesWrong)

/-- 'glazierlaw52.LayoutMoves': WHATEVER THE INPUT: true; the input reads as it did. -/
def layoutMovesSpec : ChangeSpec := { name := "layoutMoves", fn := fun _ => fun
  | [d1, d2, d3, d4] => { results := [.lit (.bool true)], args := [d1, d2, d3, d4] }
  | _ => none }
def layoutMovesRow : OpenClaim := { program := "ytnjmjiajbgdnlaa", sum := "3229a4815385784181592a5c9a795635535dc4afa8f29da54d3d07d7558738a5", func := "glazier/glazierlaw52.LayoutMoves", spec := "layoutMoves", unfollowed := true, recurses := true, apart := false }
def LayoutMovesSaid : Prop := layoutMovesRow.holds Try.pinned (OpenSpec.ofChange layoutMovesSpec)

/-- ITS FALSE NEIGHBOUR: 'it returns false'. Refute it at one input. -/
def layoutMovesWrong : ChangeSpec := { name := "layoutMoves", fn := fun _ => fun
  | [d1, d2, d3, d4] => { results := [.lit (.bool false)], args := [d1, d2, d3, d4] }
  | _ => none }
def LayoutMovesWrongFalsely : Prop := layoutMovesRow.holds Try.pinned (OpenSpec.ofChange layoutMovesWrong)

/-- 'glazierlaw52.LayoutLeast': WHATEVER THE INPUT: true; the input reads as it did. -/
def layoutLeastSpec : ChangeSpec := { name := "layoutLeast", fn := fun _ => fun
  | [d1, d2] => { results := [.lit (.bool true)], args := [d1, d2] }
  | _ => none }
def layoutLeastRow : OpenClaim := { program := "ytnjmjiajbgdnlaa", sum := "3229a4815385784181592a5c9a795635535dc4afa8f29da54d3d07d7558738a5", func := "glazier/glazierlaw52.LayoutLeast", spec := "layoutLeast", unfollowed := true, recurses := true, apart := false }
def LayoutLeastSaid : Prop := layoutLeastRow.holds Try.pinned (OpenSpec.ofChange layoutLeastSpec)

/-- ITS FALSE NEIGHBOUR: 'it returns false'. Refute it at one input. -/
def layoutLeastWrong : ChangeSpec := { name := "layoutLeast", fn := fun _ => fun
  | [d1, d2] => { results := [.lit (.bool false)], args := [d1, d2] }
  | _ => none }
def LayoutLeastWrongFalsely : Prop := layoutLeastRow.holds Try.pinned (OpenSpec.ofChange layoutLeastWrong)

/-- 'glazierlaw52.LayoutAt': WHATEVER THE INPUT: true; the input reads as it did. -/
def layoutAtSpec : ChangeSpec := { name := "layoutAt", fn := fun _ => fun
  | [d1, d2, d3] => { results := [.lit (.bool true)], args := [d1, d2, d3] }
  | _ => none }
def layoutAtRow : OpenClaim := { program := "ytnjmjiajbgdnlaa", sum := "3229a4815385784181592a5c9a795635535dc4afa8f29da54d3d07d7558738a5", func := "glazier/glazierlaw52.LayoutAt", spec := "layoutAt", unfollowed := true, recurses := true, apart := false }
def LayoutAtSaid : Prop := layoutAtRow.holds Try.pinned (OpenSpec.ofChange layoutAtSpec)

/-- ITS FALSE NEIGHBOUR: 'it returns false'. Refute it at one input. -/
def layoutAtWrong : ChangeSpec := { name := "layoutAt", fn := fun _ => fun
  | [d1, d2, d3] => { results := [.lit (.bool false)], args := [d1, d2, d3] }
  | _ => none }
def LayoutAtWrongFalsely : Prop := layoutAtRow.holds Try.pinned (OpenSpec.ofChange layoutAtWrong)

/- THE SECOND FORM. 'bulk': how many values and letters a reading holds, each counted each time it is reached (what is shared counts as often as it is met; a slice's spare places count too). A statement '..UptoSaid' is the law's where the arguments, and the package variables that the reading takes, are together of bulk at most 1048576: NARROWER than '..Said'. Prove '..Said' where nothing that the law and all that it calls make is longer than what came in: it says more and counts as full. Else prove '..UptoSaid'. A law counts once. -/
mutual
def uptoBulk {H : Type} : DataW H → Nat
  | .lit (.string bytes) => bytes.length + 1
  | .lit _ => 1
  | .nil => 1
  | .ptr d => uptoBulk d + 1
  | .slice elems spare => uptoBulkAll elems + uptoBulkAll spare + 1
  | .agg parts => uptoBulkAll parts + 1
  | .iface _ d => uptoBulk d + 1
  | .map entries => uptoBulkEntries entries + 1
  | .held _ => 1
def uptoBulkAll {H : Type} : List (DataW H) → Nat
  | [] => 0
  | d :: r => uptoBulk d + uptoBulkAll r
def uptoBulkEntries {H : Type} : List (Lit × DataW H) → Nat
  | [] => 0
  | x :: r => uptoBulkEntry x + uptoBulkEntries r
def uptoBulkEntry {H : Type} : Lit × DataW H → Nat
  | (.string bytes, d) => bytes.length + uptoBulk d + 1
  | (_, d) => uptoBulk d + 1
 end
def uptoSmall : (H : Type) → List (DataW H) → Bool := fun _ ds => decide (uptoBulkAll ds ≤ 1048576)
def OpenSpec.upto (s : _root_.Go.ChangeSpec) : _root_.Go.OpenSpec := { _root_.Go.OpenSpec.ofChange s with cond := some uptoSmall }

/-- 'glazierlaw52.LayoutSplits', WHERE WHAT IT READS IS OF BULK AT MOST 1048576: true; the input reads as it did. -/
def layoutSplitsUptoRow : OpenClaim := { program := "ytnjmjiajbgdnlaa", sum := "3229a4815385784181592a5c9a795635535dc4afa8f29da54d3d07d7558738a5", func := "glazier/glazierlaw52.LayoutSplits", spec := "layoutSplits", unfollowed := true, recurses := true, apart := false, narrowed := true }
def LayoutSplitsUptoSaid : Prop := layoutSplitsUptoRow.holds Try.pinned (OpenSpec.upto layoutSplitsSpec)

/-- 'glazierlaw52.LayoutSums', WHERE WHAT IT READS IS OF BULK AT MOST 1048576: true; the input reads as it did. -/
def layoutSumsUptoRow : OpenClaim := { program := "ytnjmjiajbgdnlaa", sum := "3229a4815385784181592a5c9a795635535dc4afa8f29da54d3d07d7558738a5", func := "glazier/glazierlaw52.LayoutSums", spec := "layoutSums", unfollowed := true, recurses := true, apart := false, narrowed := true }
def LayoutSumsUptoSaid : Prop := layoutSumsUptoRow.holds Try.pinned (OpenSpec.upto layoutSumsSpec)

/-- 'glazierlaw52.LayoutTiles', WHERE WHAT IT READS IS OF BULK AT MOST 1048576: true; the input reads as it did. -/
def layoutTilesUptoRow : OpenClaim := { program := "ytnjmjiajbgdnlaa", sum := "3229a4815385784181592a5c9a795635535dc4afa8f29da54d3d07d7558738a5", func := "glazier/glazierlaw52.LayoutTiles", spec := "layoutTiles", unfollowed := true, recurses := true, apart := false, narrowed := true }
def LayoutTilesUptoSaid : Prop := layoutTilesUptoRow.holds Try.pinned (OpenSpec.upto layoutTilesSpec)

/-- 'glazierlaw52.LayoutMoves', WHERE WHAT IT READS IS OF BULK AT MOST 1048576: true; the input reads as it did. -/
def layoutMovesUptoRow : OpenClaim := { program := "ytnjmjiajbgdnlaa", sum := "3229a4815385784181592a5c9a795635535dc4afa8f29da54d3d07d7558738a5", func := "glazier/glazierlaw52.LayoutMoves", spec := "layoutMoves", unfollowed := true, recurses := true, apart := false, narrowed := true }
def LayoutMovesUptoSaid : Prop := layoutMovesUptoRow.holds Try.pinned (OpenSpec.upto layoutMovesSpec)

/-- 'glazierlaw52.LayoutLeast', WHERE WHAT IT READS IS OF BULK AT MOST 1048576: true; the input reads as it did. -/
def layoutLeastUptoRow : OpenClaim := { program := "ytnjmjiajbgdnlaa", sum := "3229a4815385784181592a5c9a795635535dc4afa8f29da54d3d07d7558738a5", func := "glazier/glazierlaw52.LayoutLeast", spec := "layoutLeast", unfollowed := true, recurses := true, apart := false, narrowed := true }
def LayoutLeastUptoSaid : Prop := layoutLeastUptoRow.holds Try.pinned (OpenSpec.upto layoutLeastSpec)

/-- 'glazierlaw52.LayoutAt', WHERE WHAT IT READS IS OF BULK AT MOST 1048576: true; the input reads as it did. -/
def layoutAtUptoRow : OpenClaim := { program := "ytnjmjiajbgdnlaa", sum := "3229a4815385784181592a5c9a795635535dc4afa8f29da54d3d07d7558738a5", func := "glazier/glazierlaw52.LayoutAt", spec := "layoutAt", unfollowed := true, recurses := true, apart := false, narrowed := true }
def LayoutAtUptoSaid : Prop := layoutAtUptoRow.holds Try.pinned (OpenSpec.upto layoutAtSpec)

end Rows
end Go.Proofs.Ytnjmjiajbgdnlaa
