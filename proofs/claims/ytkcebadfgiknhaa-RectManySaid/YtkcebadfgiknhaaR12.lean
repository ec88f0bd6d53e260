/- RectMoves: from its arguments. -/
import Derived.Test.YtkcebadfgiknhaaR11
import Derived.Test.YtkcebadfgiknhaaRB
set_option linter.all false
namespace Go.Proofs.Ytkcebadfgiknhaa
open Go.AM

theorem sh_rect {n : Nat} {d : D} (h : Sh Try.prog (n + 2) 23 d) : ∃ r : Rc, r.In ∧ d = rD r := by
  obtain ⟨c, rfl, hc⟩ := sh_fs (ts := [3, 3, 3, 3]) (by kernel_rfl) h
  obtain ⟨_, _, rfl, h0, _, _, rfl, h1, _, _, rfl, h2, _, _, rfl, h3, rfl⟩ := hc
  obtain ⟨x, rfl, hx⟩ := shC_int (k := .i64) (by kernel_rfl) h0
  obtain ⟨y, rfl, hy⟩ := shC_int (k := .i64) (by kernel_rfl) h1
  obtain ⟨w, rfl, hw⟩ := shC_int (k := .i64) (by kernel_rfl) h2
  obtain ⟨g, rfl, hg⟩ := shC_int (k := .i64) (by kernel_rfl) h3
  exact ⟨⟨x, y, w, g⟩, ⟨hx, hy, hw, hg⟩, rfl⟩

theorem rectMoves_law {dl : List D} (h : ShL Try.prog 8 [27, 23, 3, 3] dl) : Sp Try.prog gtab 7 dl (.bool true) := by
  obtain ⟨d1, _, rfl, h1, d2, _, rfl, h2, d3, _, rfl, h3, d4, _, rfl, h4, rfl⟩ := h
  obtain ⟨r, hr, rfl⟩ := sh_rect h2
  obtain ⟨dx, rfl, _⟩ := sh_int Try.underlying3 h3
  obtain ⟨dy, rfl, _⟩ := sh_int Try.underlying3 h4
  obtain ⟨l, rfl, hlen, hl⟩ := sh_slice (g := rD) (Q := Rc.In) Try.underlying27 h1 fun r hr => sh_rect hr
  exact sp_law12_RectMoves hl hr
end Go.Proofs.Ytkcebadfgiknhaa
