
/- Chapter 52: LayoutSums, from its arguments. -/
import Derived.Test.YtnjmjiajbgdnlaaN15
import Derived.Test.YtnjmjiajbgdnlaaN13
set_option linter.all false
namespace Go.Proofs.Ytnjmjiajbgdnlaa
open Go.AM

theorem layoutSums_law {dl : List D} (h : ShL Try.prog 8 [3, 3, 22, 22] dl) : Sp Try.prog gtab 4 dl (.bool true) := by
  obtain ⟨d0, _, rfl, h0, d1, _, rfl, h1, d2, _, rfl, h2, d3, _, rfl, h3, rfl⟩ := h
  obtain ⟨t, rfl, ht⟩ := sh_int Try.underlying3 h0
  obtain ⟨m, rfl, hm⟩ := sh_int Try.underlying3 h1
  obtain ⟨a, rfl, _⟩ := sh_ints h2
  obtain ⟨b, rfl, _⟩ := sh_ints h3
  exact sp_law52_LayoutSums ht hm
end Go.Proofs.Ytnjmjiajbgdnlaa
