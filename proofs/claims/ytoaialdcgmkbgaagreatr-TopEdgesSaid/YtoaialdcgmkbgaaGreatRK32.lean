import Derived.Test.YtoaialdcgmkbgaaGreatRK31
import Derived.Test.YtoaialdcgmkbgaaGreatRRB

set_option linter.all false
set_option maxRecDepth 100000
namespace Go.Proofs.YtoaialdcgmkbgaaGreatR
open Go.AM
theorem sh_two {n : Nat} {d : D} (h : Sh Tryz.prog (n + 2) 68 d) : ∃ q : Int × Int, ((0 ≤ q.1 ∧ q.1 ≤ 255) ∧ 0 ≤ q.2 ∧ q.2 ≤ 255) ∧ d = u2D q := by
 obtain ⟨c, h1, h2⟩ := h
 rw [ShC, Tryz.underlying68] at h1
 simp only [Jp, yO, Tryz.underlying68] at h2
 obtain ⟨_, _, rfl, g1, _, _, rfl, g2, rfl⟩ := h1
 obtain ⟨x, rfl, hx⟩ := shC_int (n := n) (k := .u8) (by kernel_rfl) g1
 obtain ⟨y, rfl, hy⟩ := shC_int (n := n) (k := .u8) (by kernel_rfl) g2
 exact ⟨(x, y), ⟨hx, hy⟩, h2⟩
theorem cells68 : Tryz.prog.cellsOf 68 = 2 := by kernel_rfl
theorem topEdges_law {dl : List D} (h : ShL Tryz.prog 8 [67, 68, 5] dl) : Sp Tryz.prog gtab 4 dl (.bool true) := by
 obtain ⟨d1, _, rfl, h1, d2, _, rfl, h2, d3, _, rfl, h3, rfl⟩ := h
 obtain ⟨f, rfl, hf⟩ := sh_int (k := .u8) (by kernel_rfl) h3
 obtain ⟨q, hq, rfl⟩ := sh_two h2
 obtain ⟨l, rfl, _, hl⟩ := sh_slice (g := u2D) (Q := fun q => (0 ≤ q.1 ∧ q.1 ≤ 255) ∧ 0 ≤ q.2 ∧ q.2 ≤ 255) Tryz.underlying67 h1 fun r hr => sh_two hr
 rw [cells68]
 exact sp_TopEdges hl hq.1 hq.2 hf
end Go.Proofs.YtoaialdcgmkbgaaGreatR

