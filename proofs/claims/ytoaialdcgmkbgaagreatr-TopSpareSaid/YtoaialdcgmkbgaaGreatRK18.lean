import Derived.Test.YtoaialdcgmkbgaaGreatRK15
import Derived.Test.YtoaialdcgmkbgaaGreatRRB

set_option linter.all false
set_option maxRecDepth 100000
namespace Go.Proofs.YtoaialdcgmkbgaaGreatR
open Go.AM
theorem sh_small {n : Nat} {d : D} (h : Sh Tryz.prog (n + 2) 28 d) : ∃ q : Q4, q4ok q ∧ d = q4D q := by
  obtain ⟨c, rfl, hc⟩ := sh_fs (ts := [26, 26, 5, 5]) (by kernel_rfl) h
  obtain ⟨_, _, rfl, h0, _, _, rfl, h1, _, _, rfl, h2, _, _, rfl, h3, rfl⟩ := hc
  obtain ⟨x, rfl, hx⟩ := zb (k := .i8) (by kernel_rfl) h0
  obtain ⟨y, rfl, hy⟩ := zb (k := .i8) (by kernel_rfl) h1
  obtain ⟨w, rfl, hw⟩ := zb (k := .u8) (by kernel_rfl) h2
  obtain ⟨v, rfl, hv⟩ := zb (k := .u8) (by kernel_rfl) h3
  exact ⟨(x, y, w, v), ⟨hx, hy, hw, hv⟩, rfl⟩
theorem cells28 : Tryz.prog.cellsOf 28 = 4 := by kernel_rfl
theorem cells5 : Tryz.prog.cellsOf 5 = 1 := by kernel_rfl
theorem shC_smalls {n : Nat} {c : List D} (h : ShC Tryz.prog (n + 3) 25 c) : ∃ qs : List Q4, c = [.ls 4 (qs.map q4D)] ∧ ∀ q ∈ qs, q4ok q := by
  obtain ⟨l, rfl, _, hl⟩ := shC_slice (g := q4D) (Q := q4ok) Tryz.underlying25 h fun r hr => sh_small hr
  exact ⟨l, by rw [cells28], hl⟩
theorem shC_plane {n : Nat} {c : List D} (h : ShC Tryz.prog (n + 3) 24 c) : ∃ (W H : Int) (ps : List Int), c = [.int .u8 W, .int .u8 H, .ls 1 (ps.map (.int .u8 ·))] ∧ (0 ≤ W ∧ W ≤ 255) ∧ (0 ≤ H ∧ H ≤ 255) ∧ ∀ p ∈ ps, 0 ≤ p ∧ p ≤ 255 := by
  have hc := shC_fs (ts := [5, 5, 22]) (by kernel_rfl) h
  obtain ⟨_, _, rfl, h0, _, _, rfl, h1, _, _, rfl, h2, rfl⟩ := hc
  obtain ⟨x, rfl, hx⟩ := zb (k := .u8) (by kernel_rfl) h0
  obtain ⟨y, rfl, hy⟩ := zb (k := .u8) (by kernel_rfl) h1
  obtain ⟨l, rfl, _, hl⟩ := shC_slice (g := fun n : Int => D.int .u8 n) (Q := fun n => 0 ≤ n ∧ n ≤ 255) Tryz.underlying22 h2 fun r hr => by
    obtain ⟨m, rfl, hm⟩ := sh_int (k := .u8) (by kernel_rfl) hr
    exact ⟨m, hm, rfl⟩
  exact ⟨x, y, l, by rw [cells5]; rfl, hx, hy, hl⟩
theorem topSpare_law {dl : List D} (h : ShL Tryz.prog 8 [32, 26, 26] dl) : Sp Tryz.prog gtab 3 dl (.bool true) := by
  obtain ⟨d1, _, rfl, h1, d2, _, rfl, h2, d3, _, rfl, h3, rfl⟩ := h
  obtain ⟨dx, rfl, hdx⟩ := sh_int (k := .i8) (by kernel_rfl) h2
  obtain ⟨dy, rfl, hdy⟩ := sh_int (k := .i8) (by kernel_rfl) h3
  obtain ⟨c, rfl, hc⟩ := sh_fs (ts := [24, 24, 25, 25, 28, 26, 26, 30]) (by kernel_rfl) h1
  obtain ⟨_, _, rfl, g1, _, _, rfl, g2, _, _, rfl, g3, _, _, rfl, g4, _, _, rfl, g5, _, _, rfl, g6, _, _, rfl, g7, _, _, rfl, g8, rfl⟩ := hc
  obtain ⟨sw, sh, sp, rfl, _, _, _⟩ := shC_plane g1
  obtain ⟨dw, dh, ps, rfl, hdw, hdh, hps⟩ := shC_plane g2
  obtain ⟨fq, rfl, hfq⟩ := shC_smalls g3
  obtain ⟨cq, rfl, hcq⟩ := shC_smalls g4
  obtain ⟨_, _, rfl, s0, _, _, rfl, s1, _, _, rfl, s2, _, _, rfl, s3, rfl⟩ := shC_fs (ts := [26, 26, 5, 5]) (by kernel_rfl) g5
  obtain ⟨sx, rfl, hsx⟩ := zb (k := .i8) (by kernel_rfl) s0
  obtain ⟨sy, rfl, hsy⟩ := zb (k := .i8) (by kernel_rfl) s1
  obtain ⟨sW, rfl, hsW⟩ := zb (k := .u8) (by kernel_rfl) s2
  obtain ⟨sH, rfl, hsH⟩ := zb (k := .u8) (by kernel_rfl) s3
  obtain ⟨x, rfl, hx⟩ := zb (k := .i8) (by kernel_rfl) g6
  obtain ⟨y, rfl, hy⟩ := zb (k := .i8) (by kernel_rfl) g7
  obtain ⟨_, _, rfl, p0, _, _, rfl, p1, _, _, rfl, p2, _, _, rfl, p3, _, _, rfl, p4, _, _, rfl, p5, rfl⟩ := shC_fs (ts := [5, 5, 26, 26, 4, 25]) (by kernel_rfl) g8
  obtain ⟨pf, rfl, _⟩ := zb (k := .u8) (by kernel_rfl) p0
  obtain ⟨pp, rfl, _⟩ := zb (k := .u8) (by kernel_rfl) p1
  obtain ⟨px, rfl, _⟩ := zb (k := .i8) (by kernel_rfl) p2
  obtain ⟨py, rfl, _⟩ := zb (k := .i8) (by kernel_rfl) p3
  obtain ⟨pc, rfl⟩ := shC_bool Tryz.underlying4 p4
  obtain ⟨pl, rfl, _⟩ := shC_smalls p5
  exact sp_TopSpare hdw hdh hps hfq hcq ⟨hsx, hsy, hsW, hsH⟩ hx hy
end Go.Proofs.YtoaialdcgmkbgaaGreatR

