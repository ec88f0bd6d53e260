
/- Chapter 52: the laws, from their arguments. -/
import Derived.Test.YtnjmjiajbgdnlaaN12
import Derived.Test.YtnjmjiajbgdnlaaRB
set_option linter.all false
namespace Go.Proofs.Ytnjmjiajbgdnlaa
open Go.AM

theorem sh_rect {n : Nat} {d : D} (h : Sh Try.prog (n + 2) 33 d) : ∃ r : Rc, r.In ∧ d = rD r := by
  obtain ⟨c, rfl, hc⟩ := sh_fs (ts := [3, 3, 3, 3]) (by kernel_rfl) h
  obtain ⟨_, _, rfl, h0, _, _, rfl, h1, _, _, rfl, h2, _, _, rfl, h3, rfl⟩ := hc
  obtain ⟨x, rfl, hx⟩ := shC_int (k := .i64) (by kernel_rfl) h0
  obtain ⟨y, rfl, hy⟩ := shC_int (k := .i64) (by kernel_rfl) h1
  obtain ⟨w, rfl, hw⟩ := shC_int (k := .i64) (by kernel_rfl) h2
  obtain ⟨g, rfl, hg⟩ := shC_int (k := .i64) (by kernel_rfl) h3
  exact ⟨⟨x, y, w, g⟩, ⟨hx, hy, hw, hg⟩, rfl⟩
theorem sh_ints {n : Nat} {d : D} (h : Sh Try.prog (n + 2) 22 d) : ∃ l : List Int, d = .ls 1 (iD l) ∧ l.length ≤ maxLen ∧ ∀ x ∈ l, fits .i64 x :=
  sh_slice (g := fun x => .int .i64 x) (Q := fits .i64) Try.underlying22 h fun r hr => by
    obtain ⟨m, rfl, hm⟩ := sh_int Try.underlying3 hr
    exact ⟨m, hm, rfl⟩

theorem layoutSplits_law {dl : List D} (h : ShL Try.prog 8 [3, 22, 22] dl) : Sp Try.prog gtab 3 dl (.bool true) := by
  obtain ⟨d1, _, rfl, h1, d2, _, rfl, h2, d3, _, rfl, h3, rfl⟩ := h
  obtain ⟨t, rfl, ht⟩ := sh_int Try.underlying3 h1
  obtain ⟨a, rfl, _⟩ := sh_ints h2
  obtain ⟨b, rfl, _⟩ := sh_ints h3
  exact sp_law52_LayoutSplits ht
theorem layoutAt_law {dl : List D} (h : ShL Try.prog 8 [37, 3, 3] dl) : Sp Try.prog gtab 8 dl (.bool true) := by
  obtain ⟨d1, _, rfl, h1, d2, _, rfl, h2, d3, _, rfl, h3, rfl⟩ := h
  obtain ⟨x, rfl, _⟩ := sh_int Try.underlying3 h2
  obtain ⟨y, rfl, _⟩ := sh_int Try.underlying3 h3
  obtain ⟨l, rfl, hlen, hl⟩ := sh_slice (g := rD) (Q := Rc.In) Try.underlying37 h1 fun r hr => sh_rect hr
  exact sp_law52_LayoutAt hl
end Go.Proofs.Ytnjmjiajbgdnlaa
