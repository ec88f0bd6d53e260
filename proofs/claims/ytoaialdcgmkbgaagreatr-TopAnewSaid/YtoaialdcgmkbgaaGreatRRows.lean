/-
  No cell of these rows narrows 'for every input' (looked for: loops, veiled, ifaces, maps, wideKeys, modest, calm, conditions, laid).
  DERIVED. THE GIVEN ROWS OF THIS SEAT. 4 by the template 'for every input the law returns true; each argument reads behind the call as it read before'; 0 by the template 'total and deterministic' (their statements: YtoaialdcgmkbgaaGreatRTotals.lean).
  GIVEN WITH THE SEED: the statements are not yours to turn. If you find one false, say at which input.
  Laid BY PROGRAM, IN A SANDBOX (cutbox-rows.mjs): the forced cells as the released guide's own fill.sh prints them over the translation 8c02203f37ecaab7… (all of the seat's roots in one cut). By AI agents, Wed Nov 11 2026. No macro, syntax, notation, axiom, sorry.
-/
import Derived.Test.YtoaialdcgmkbgaaGreatRChecked
import GoSem.Claim
import GoSem.ClaimJoined
import GoSem.ClaimMapViews
import Derived.JoinedTies
import Derived.KernelRfl
namespace Go.Proofs.YtoaialdcgmkbgaaGreatR
/- THE CELL 'sum', in the pinned program and in every row, IS THE sha256 OF THE DUMP (.gsa) THAT YtoaialdcgmkbgaaGreatRProg.lean LOADS. Nothing in Lean hashes anything: it is a label: what it is worth is what the hold of that sum in a sandbox is worth. -/
noncomputable def Tryz.pinned : Pinned := { name := "ytoaialdcgmkbgaagreatr", sum := "8c02203f37ecaab7e82f42a694fb7cf07daf4fa8154f06f3f00060d3f6a6dcab", checked := Tryz.checked }
namespace Rows
def none {H : Type} : Left H := { results := [], args := [] }

/-- 'glaziertop.TopSpare': WHATEVER THE INPUT: true; the input reads as it did. -/
def topSpareSpec : ChangeSpec := { name := "topSpare", fn := fun _ => fun
  | [d1, d2, d3] => { results := [.lit (.bool true)], args := [d1, d2, d3] }
  | _ => none }
def topSpareRow : OpenClaim := { program := "ytoaialdcgmkbgaagreatr", sum := "8c02203f37ecaab7e82f42a694fb7cf07daf4fa8154f06f3f00060d3f6a6dcab", func := "glazier/glaziertop.TopSpare", spec := "topSpare", unfollowed := true, recurses := true, apart := false }
def TopSpareSaid : Prop := topSpareRow.holds Tryz.pinned (OpenSpec.ofChange topSpareSpec)

/-- ITS FALSE NEIGHBOUR: 'it returns false'. Refute it at one input. -/
def topSpareWrong : ChangeSpec := { name := "topSpare", fn := fun _ => fun
  | [d1, d2, d3] => { results := [.lit (.bool false)], args := [d1, d2, d3] }
  | _ => none }
def TopSpareWrongFalsely : Prop := topSpareRow.holds Tryz.pinned (OpenSpec.ofChange topSpareWrong)

/-- 'glaziertop.TopEdges': WHATEVER THE INPUT: true; the input reads as it did. -/
def topEdgesSpec : ChangeSpec := { name := "topEdges", fn := fun _ => fun
  | [d1, d2, d3] => { results := [.lit (.bool true)], args := [d1, d2, d3] }
  | _ => none }
def topEdgesRow : OpenClaim := { program := "ytoaialdcgmkbgaagreatr", sum := "8c02203f37ecaab7e82f42a694fb7cf07daf4fa8154f06f3f00060d3f6a6dcab", func := "glazier/glaziertop.TopEdges", spec := "topEdges", unfollowed := true, recurses := true, apart := false }
def TopEdgesSaid : Prop := topEdgesRow.holds Tryz.pinned (OpenSpec.ofChange topEdgesSpec)

/-- ITS FALSE NEIGHBOUR: 'it returns false'. Refute it at one input. -/
def topEdgesWrong : ChangeSpec := { name := "topEdges", fn := fun _ => fun
  | [d1, d2, d3] => { results := [.lit (.bool false)], args := [d1, d2, d3] }
  | _ => none }
def TopEdgesWrongFalsely : Prop := topEdgesRow.holds Tryz.pinned (OpenSpec.ofChange topEdgesWrong)

/-- 'glaziertop.TopParts': WHATEVER THE INPUT: true; the input reads as it did. -/
def topPartsSpec : ChangeSpec := { name := "topParts", fn := fun _ => fun
  | [d] => { results := [.lit (.bool true)], args := [d] }
  | _ => none }
def topPartsRow : OpenClaim := { program := "ytoaialdcgmkbgaagreatr", sum := "8c02203f37ecaab7e82f42a694fb7cf07daf4fa8154f06f3f00060d3f6a6dcab", func := "glazier/glaziertop.TopParts", spec := "topParts", inPlace := ["maps.clone"], unfollowed := true, recurses := true, apart := false }
def TopPartsSaid : Prop := topPartsRow.holds Tryz.pinned (OpenSpec.ofChange topPartsSpec)

/-- ITS FALSE NEIGHBOUR: 'it returns false'. Refute it at one input. -/
def topPartsWrong : ChangeSpec := { name := "topParts", fn := fun _ => fun
  | [d] => { results := [.lit (.bool false)], args := [d] }
  | _ => none }
def TopPartsWrongFalsely : Prop := topPartsRow.holds Tryz.pinned (OpenSpec.ofChange topPartsWrong)

/-- 'glaziertop.TopAnew': WHATEVER THE INPUT: true; the input reads as it did. -/
def topAnewSpec : ChangeSpec := { name := "topAnew", fn := fun _ => fun
  | [d1, d2] => { results := [.lit (.bool true)], args := [d1, d2] }
  | _ => none }
def topAnewRow : OpenClaim := { program := "ytoaialdcgmkbgaagreatr", sum := "8c02203f37ecaab7e82f42a694fb7cf07daf4fa8154f06f3f00060d3f6a6dcab", func := "glazier/glaziertop.TopAnew", spec := "topAnew", inPlace := ["maps.clone"], unfollowed := true, recurses := true, apart := false }
def TopAnewSaid : Prop := topAnewRow.holds Tryz.pinned (OpenSpec.ofChange topAnewSpec)

/-- ITS FALSE NEIGHBOUR: 'it returns false'. Refute it at one input. -/
def topAnewWrong : ChangeSpec := { name := "topAnew", fn := fun _ => fun
  | [d1, d2] => { results := [.lit (.bool false)], args := [d1, d2] }
  | _ => none }
def TopAnewWrongFalsely : Prop := topAnewRow.holds Tryz.pinned (OpenSpec.ofChange topAnewWrong)

/- THE SECOND FORM. 'bulk': how many values and letters a reading holds, each counted each time it is reached (what is shared counts as often as it is met; a slice's spare places count too). A statement '..UptoSaid' is the law's where the arguments, and the package variables that the reading takes, are together of bulk at most 1048576: NARROWER than '..Said'. Prove '..Said' where nothing that the law and all that it calls make is longer than what came in: it says more and counts as full. Else prove '..UptoSaid'. A law counts once. -/
mutual
def uptoBulk {H : Type} : DataW H → Nat
  | .lit (.string bytes) => bytes.length + 1
  | .lit _ => 1
  | .nil => 1
  | .ptr d => uptoBulk d + 1
  | .slice elems spare => uptoBulkAll elems + uptoBulkAll spare + 1
  | .agg parts => uptoBulkAll parts + 1
  | .iface _ d => uptoBulk d + 1
  | .map entries => uptoBulkEntries entries + 1
  | .held _ => 1
def uptoBulkAll {H : Type} : List (DataW H) → Nat
  | [] => 0
  | d :: r => uptoBulk d + uptoBulkAll r
def uptoBulkEntries {H : Type} : List (Lit × DataW H) → Nat
  | [] => 0
  | x :: r => uptoBulkEntry x + uptoBulkEntries r
def uptoBulkEntry {H : Type} : Lit × DataW H → Nat
  | (.string bytes, d) => bytes.length + uptoBulk d + 1
  | (_, d) => uptoBulk d + 1
 end
def uptoSmall : (H : Type) → List (DataW H) → Bool := fun _ ds => decide (uptoBulkAll ds ≤ 1048576)
def OpenSpec.upto (s : _root_.Go.ChangeSpec) : _root_.Go.OpenSpec := { _root_.Go.OpenSpec.ofChange s with cond := some uptoSmall }

/-- 'glaziertop.TopSpare', WHERE WHAT IT READS IS OF BULK AT MOST 1048576: true; the input reads as it did. -/
def topSpareUptoRow : OpenClaim := { program := "ytoaialdcgmkbgaagreatr", sum := "8c02203f37ecaab7e82f42a694fb7cf07daf4fa8154f06f3f00060d3f6a6dcab", func := "glazier/glaziertop.TopSpare", spec := "topSpare", unfollowed := true, recurses := true, apart := false, narrowed := true }
def TopSpareUptoSaid : Prop := topSpareUptoRow.holds Tryz.pinned (OpenSpec.upto topSpareSpec)

/-- 'glaziertop.TopEdges', WHERE WHAT IT READS IS OF BULK AT MOST 1048576: true; the input reads as it did. -/
def topEdgesUptoRow : OpenClaim := { program := "ytoaialdcgmkbgaagreatr", sum := "8c02203f37ecaab7e82f42a694fb7cf07daf4fa8154f06f3f00060d3f6a6dcab", func := "glazier/glaziertop.TopEdges", spec := "topEdges", unfollowed := true, recurses := true, apart := false, narrowed := true }
def TopEdgesUptoSaid : Prop := topEdgesUptoRow.holds Tryz.pinned (OpenSpec.upto topEdgesSpec)

/-- 'glaziertop.TopParts', WHERE WHAT IT READS IS OF BULK AT MOST 1048576: true; the input reads as it did. -/
def topPartsUptoRow : OpenClaim := { program := "ytoaialdcgmkbgaagreatr", sum := "8c02203f37ecaab7e82f42a694fb7cf07daf4fa8154f06f3f00060d3f6a6dcab", func := "glazier/glaziertop.TopParts", spec := "topParts", inPlace := ["maps.clone"], unfollowed := true, recurses := true, apart := false, narrowed := true }
def TopPartsUptoSaid : Prop := topPartsUptoRow.holds Tryz.pinned (OpenSpec.upto topPartsSpec)

/-- 'glaziertop.TopAnew', WHERE WHAT IT READS IS OF BULK AT MOST 1048576: true; the input reads as it did. -/
def topAnewUptoRow : OpenClaim := { program := "ytoaialdcgmkbgaagreatr", sum := "8c02203f37ecaab7e82f42a694fb7cf07daf4fa8154f06f3f00060d3f6a6dcab", func := "glazier/glaziertop.TopAnew", spec := "topAnew", inPlace := ["maps.clone"], unfollowed := true, recurses := true, apart := false, narrowed := true }
def TopAnewUptoSaid : Prop := topAnewUptoRow.holds Tryz.pinned (OpenSpec.upto topAnewSpec)

end Rows
end Go.Proofs.YtoaialdcgmkbgaaGreatR
