/- Chapter 16: the laws, from their arguments. -/
import Derived.Test.YtkcebadfgiknhaaDoorG5
import Derived.Test.YtkcebadfgiknhaaDoorRBd
set_option linter.all false
namespace Go.Proofs.YtkcebadfgiknhaaDoor
open Go.AM

theorem sh_rect {n : Nat} {d : D} (h : Sh Tryd.prog (n + 2) 23 d) : ∃ r : Rc, r.In ∧ d = rD r := by
  obtain ⟨c, rfl, hc⟩ := sh_fs (ts := [3, 3, 3, 3]) (by kernel_rfl) h
  obtain ⟨_, _, rfl, h0, _, _, rfl, h1, _, _, rfl, h2, _, _, rfl, h3, rfl⟩ := hc
  obtain ⟨x, rfl, hx⟩ := shC_int (k := .i64) (by kernel_rfl) h0
  obtain ⟨y, rfl, hy⟩ := shC_int (k := .i64) (by kernel_rfl) h1
  obtain ⟨w, rfl, hw⟩ := shC_int (k := .i64) (by kernel_rfl) h2
  obtain ⟨g, rfl, hg⟩ := shC_int (k := .i64) (by kernel_rfl) h3
  exact ⟨⟨x, y, w, g⟩, ⟨hx, hy, hw, hg⟩, rfl⟩

theorem gravityMoves_law {dl : List D} (h : ShL Tryd.prog 8 [3, 23, 23] dl) : Sp Tryd.prog gtab 3 dl (.bool true) := by
  obtain ⟨d1, _, rfl, h1, d2, _, rfl, h2, d3, _, rfl, h3, rfl⟩ := h
  obtain ⟨g, rfl, _⟩ := sh_int Tryd.underlying3 h1
  obtain ⟨r, hr, rfl⟩ := sh_rect h2
  obtain ⟨s, hs, rfl⟩ := sh_rect h3
  exact sp_law16_GravityMoves hr hs
theorem gravityStays_law {dl : List D} (h : ShL Tryd.prog 8 [3, 23, 23] dl) : Sp Tryd.prog gtab 4 dl (.bool true) := by
  obtain ⟨d1, _, rfl, h1, d2, _, rfl, h2, d3, _, rfl, h3, rfl⟩ := h
  obtain ⟨g, rfl, _⟩ := sh_int Tryd.underlying3 h1
  obtain ⟨r, hr, rfl⟩ := sh_rect h2
  obtain ⟨s, hs, rfl⟩ := sh_rect h3
  exact sp_law16_GravityStays hr hs
theorem gravityTurns_law {dl : List D} (h : ShL Tryd.prog 8 [3, 23, 23] dl) : Sp Tryd.prog gtab 6 dl (.bool true) := by
  obtain ⟨d1, _, rfl, h1, d2, _, rfl, h2, d3, _, rfl, h3, rfl⟩ := h
  obtain ⟨g, rfl, _⟩ := sh_int Tryd.underlying3 h1
  obtain ⟨r, hr, rfl⟩ := sh_rect h2
  obtain ⟨s, hs, rfl⟩ := sh_rect h3
  exact sp_law16_GravityTurns hr hs
theorem gravityEdges_law {dl : List D} (h : ShL Tryd.prog 8 [23, 23] dl) : Sp Tryd.prog gtab 5 dl (.bool true) := by
  obtain ⟨d2, _, rfl, h2, d3, _, rfl, h3, rfl⟩ := h
  obtain ⟨r, hr, rfl⟩ := sh_rect h2
  obtain ⟨s, hs, rfl⟩ := sh_rect h3
  exact sp_law16_GravityEdges hr hs
theorem gravityKeeps_law {dl : List D} (h : ShL Tryd.prog 8 [3, 23, 23, 34, 34] dl) : Sp Tryd.prog gtab 7 dl (.bool true) := by
  obtain ⟨d1, _, rfl, h1, d2, _, rfl, h2, d3, _, rfl, h3, d4, _, rfl, h4, d5, _, rfl, h5, rfl⟩ := h
  obtain ⟨g, rfl, _⟩ := sh_int Tryd.underlying3 h1
  obtain ⟨r, hr, rfl⟩ := sh_rect h2
  obtain ⟨s, hs, rfl⟩ := sh_rect h3
  obtain ⟨x, rfl, hx⟩ := sh_int (k := .i16) (by kernel_rfl) h4
  obtain ⟨y, rfl, hy⟩ := sh_int (k := .i16) (by kernel_rfl) h5
  exact sp_law16_GravityKeeps hr hs hx hy
theorem gravityNames_law {dl : List D} (h : ShL Tryd.prog 8 [3, 9] dl) : Sp Tryd.prog gtab 8 dl (.bool true) := by
  obtain ⟨d2, _, rfl, h2, d3, _, rfl, h3, rfl⟩ := h
  obtain ⟨g, rfl, _⟩ := sh_int Tryd.underlying3 h2
  obtain ⟨s, rfl, _⟩ := sh_str (by kernel_rfl) h3
  exact sp_law16_GravityNames
end Go.Proofs.YtkcebadfgiknhaaDoor
