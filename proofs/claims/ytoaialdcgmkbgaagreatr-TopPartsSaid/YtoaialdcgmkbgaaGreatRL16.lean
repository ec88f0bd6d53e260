import Derived.Test.YtoaialdcgmkbgaaGreatRL15
import Derived.Test.YtoaialdcgmkbgaaGreatRRB

set_option linter.all false
set_option maxRecDepth 100000
namespace Go.Proofs.YtoaialdcgmkbgaaGreatR
open Go.AM
theorem sh_pane {n : Nat} {d : D} (h : Sh Tryz.prog (n + 2) 179 d) : ∃ p : Pn, pnOk p /\ d = pnD p := by
 obtain ⟨c, h1, h2⟩ := h
 rw [ShC, Tryz.underlying179] at h1
 simp only [J8, Je, Tryz.underlying179] at h2
 obtain ⟨_, _, rfl, g1, _, _, rfl, g2, _, _, rfl, g3, _, _, rfl, g4, _, _, rfl, g5, _, _, rfl, g6, rfl⟩ := h1
 obtain ⟨a, rfl, ha⟩ := vd (n := n) (k := .i8) (by kernel_rfl) g1
 obtain ⟨b, rfl, hb⟩ := vd (n := n) (k := .i8) (by kernel_rfl) g2
 obtain ⟨c, rfl, hc⟩ := vd (n := n) (k := .i8) (by kernel_rfl) g3
 obtain ⟨e, rfl, he⟩ := vd (n := n) (k := .i8) (by kernel_rfl) g4
 obtain ⟨f, rfl, hf⟩ := vd (n := n) (k := .i8) (by kernel_rfl) g5
 obtain ⟨g, rfl, hg⟩ := vd (n := n) (k := .i8) (by kernel_rfl) g6
 exact ⟨⟨a, b, c, e, f, g⟩, ⟨ha, hb, hc, he, hf, hg⟩, h2⟩
theorem sh_four {n : Nat} {d : D} (h : Sh Tryz.prog (n + 2) 180 d) : ∃ p : Sh4, s4ok p /\ d = s4D p := by
 obtain ⟨c, h1, h2⟩ := h
 rw [ShC, Tryz.underlying180] at h1
 simp only [J8, Je, Tryz.underlying180] at h2
 obtain ⟨_, _, rfl, g1, _, _, rfl, g2, _, _, rfl, g3, _, _, rfl, g4, rfl⟩ := h1
 obtain ⟨a, rfl, ha⟩ := vd (n := n) (k := .u8) (by kernel_rfl) g1
 obtain ⟨b, rfl, hb⟩ := vd (n := n) (k := .u8) (by kernel_rfl) g2
 obtain ⟨c, rfl, hc⟩ := vd (n := n) (k := .u8) (by kernel_rfl) g3
 obtain ⟨e, rfl, he⟩ := vd (n := n) (k := .u8) (by kernel_rfl) g4
 exact ⟨(a, b, c, e), ⟨ha, hb, hc, he⟩, h2⟩
theorem jV1 : Tryz.prog.cellsOf 179 = 6 := by kernel_rfl
theorem jV0 : Tryz.prog.cellsOf 180 = 4 := by kernel_rfl
theorem topParts_law {dl : List D} (h : ShL Tryz.prog 8 [82] dl) : Sp Tryz.prog gtab 5 dl (.bool true) := by
 obtain ⟨d1, _, rfl, h1, rfl⟩ := h
 obtain ⟨c, rfl, hc⟩ := sh_fs (ts := [5, 5, 79, 80]) (by kernel_rfl) h1
 obtain ⟨_, _, rfl, g1, _, _, rfl, g2, _, _, rfl, g3, _, _, rfl, g4, rfl⟩ := hc
 obtain ⟨W, rfl, hW⟩ := vd (k := .u8) (by kernel_rfl) g1
 obtain ⟨H, rfl, hH⟩ := vd (k := .u8) (by kernel_rfl) g2
 obtain ⟨ps, rfl, _, hps⟩ := je6 (g := pnD) (Q := pnOk) Tryz.underlying79 g3 fun r hr => sh_pane hr
 obtain ⟨qs, rfl, _, hqs⟩ := je6 (g := s4D) (Q := s4ok) Tryz.underlying80 g4 fun r hr => sh_four hr
 rw [jV1, jV0]
 exact jq2 hW hH hps hqs
end Go.Proofs.YtoaialdcgmkbgaaGreatR
