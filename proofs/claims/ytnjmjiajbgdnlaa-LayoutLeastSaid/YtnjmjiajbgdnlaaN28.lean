
/- Chapter 52: the other laws, from their arguments. -/
import Derived.Test.YtnjmjiajbgdnlaaN27
import Derived.Test.YtnjmjiajbgdnlaaN13
set_option linter.all false
namespace Go.Proofs.Ytnjmjiajbgdnlaa
open Go.AM

theorem sh_node {n : Nat} {d : D} (h : Sh Try.prog (n + 3) 41 d) : ∃ nd : Nd, d = nD nd := by
  obtain ⟨c, rfl, hc⟩ := sh_fs (ts := [4, 3, 3, 3, 3, 22]) (by kernel_rfl) h
  obtain ⟨_, _, rfl, h0, _, _, rfl, h1, _, _, rfl, h2, _, _, rfl, h3, _, _, rfl, h4, _, _, rfl, h5, rfl⟩ := hc
  obtain ⟨b, rfl⟩ := shC_bool Try.boolUnd h0
  obtain ⟨x, rfl, hx⟩ := shC_int (k := .i64) (by kernel_rfl) h1
  obtain ⟨y, rfl, hy⟩ := shC_int (k := .i64) (by kernel_rfl) h2
  obtain ⟨w, rfl, hw⟩ := shC_int (k := .i64) (by kernel_rfl) h3
  obtain ⟨g, rfl, hg⟩ := shC_int (k := .i64) (by kernel_rfl) h4
  obtain ⟨l, rfl, hl, _⟩ := shC_slice (g := fun x => D.int .i64 x) (Q := fits .i64) Try.underlying22 h5 fun r hr => by
    obtain ⟨m, rfl, hm⟩ := sh_int Try.underlying3 hr
    exact ⟨m, hm, rfl⟩
  exact ⟨⟨b, x, y, w, g, l⟩, rfl⟩
theorem sh_nodes {n : Nat} {d : D} (h : Sh Try.prog (n + 4) 34 d) : ∃ L : List Nd, d = .ls 6 (lD L) := by
  obtain ⟨l, rfl, hl, hq⟩ := sh_slice (g := nD) (Q := fun _ => True) Try.underlying34 h fun r hr => by obtain ⟨nd, rfl⟩ := sh_node hr; exact ⟨nd, trivial, rfl⟩
  exact ⟨l, rfl⟩

theorem layoutMoves_law {dl : List D} (h : ShL Try.prog 8 [33, 34, 47, 47] dl) : Sp Try.prog gtab 6 dl (.bool true) := by
  obtain ⟨d0, _, rfl, h0, d1, _, rfl, h1, d2, _, rfl, h2, d3, _, rfl, h3, rfl⟩ := h
  obtain ⟨r, hr, rfl⟩ := sh_rect h0
  obtain ⟨L, rfl⟩ := sh_nodes h1
  obtain ⟨x, rfl, hx⟩ := sh_int Try.underlying47 h2
  obtain ⟨y, rfl, hy⟩ := sh_int Try.underlying47 h3
  exact sp_law52_LayoutMoves hr hx hy
theorem layoutTiles_law {dl : List D} (h : ShL Try.prog 8 [33, 34, 35, 35] dl) : Sp Try.prog gtab 5 dl (.bool true) := by
  obtain ⟨d0, _, rfl, h0, d1, _, rfl, h1, d2, _, rfl, h2, d3, _, rfl, h3, rfl⟩ := h
  obtain ⟨r, hr, rfl⟩ := sh_rect h0
  obtain ⟨L, rfl⟩ := sh_nodes h1
  obtain ⟨x, rfl, hx⟩ := sh_int Try.underlying35 h2
  obtain ⟨y, rfl, hy⟩ := sh_int Try.underlying35 h3
  exact sp_law52_LayoutTiles hr hx hy
theorem layoutLeast_law {dl : List D} (h : ShL Try.prog 8 [34, 5] dl) : Sp Try.prog gtab 7 dl (.bool true) := by
  obtain ⟨d1, _, rfl, h1, d2, _, rfl, h2, rfl⟩ := h
  obtain ⟨L, rfl⟩ := sh_nodes h1
  obtain ⟨x, rfl, hx⟩ := sh_int Try.underlying5 h2
  exact sp_law52_LayoutLeast hx
end Go.Proofs.Ytnjmjiajbgdnlaa
