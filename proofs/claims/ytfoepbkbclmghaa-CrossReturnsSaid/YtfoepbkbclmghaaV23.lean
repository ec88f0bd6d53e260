
/- Chapter 36: the laws, from their arguments. -/
import Derived.Test.YtfoepbkbclmghaaV22
import Derived.Test.YtfoepbkbclmghaaV18
set_option linter.all false
namespace Go.Proofs.Ytfoepbkbclmghaa
open Go.AM

theorem crossKinds_law {dl : List D} (h : ShL Try.prog 8 [22, 5, 5] dl) : Sp Try.prog gtab 5 dl (.bool true) := by
  obtain ⟨d0, _, rfl, h0, d1, _, rfl, h1, d2, _, rfl, h2, rfl⟩ := h
  obtain ⟨l, rfl, hl⟩ := sh_bytes h0
  obtain ⟨f, rfl, hf⟩ := sh_int Try.underlying5 h1
  obtain ⟨g, rfl, hg⟩ := sh_int Try.underlying5 h2
  exact sp_law36_CrossKinds hl hf.1 hf.2 hg.1 hg.2
theorem crossStops_law {dl : List D} (h : ShL Try.prog 8 [22, 5] dl) : Sp Try.prog gtab 6 dl (.bool true) := by
  obtain ⟨d0, _, rfl, h0, d1, _, rfl, h1, rfl⟩ := h
  obtain ⟨l, rfl, hl⟩ := sh_bytes h0
  obtain ⟨f, rfl, hf⟩ := sh_int Try.underlying5 h1
  exact sp_law36_CrossStops hl hf.1 hf.2
theorem crossReturns_law {dl : List D} (h : ShL Try.prog 8 [22, 24, 24] dl) : Sp Try.prog gtab 7 dl (.bool true) := by
  obtain ⟨d0, _, rfl, h0, d1, _, rfl, h1, d2, _, rfl, h2, rfl⟩ := h
  obtain ⟨l, rfl, hl⟩ := sh_bytes h0
  obtain ⟨f, rfl, _⟩ := sh_int Try.underlying24 h1
  obtain ⟨g, rfl, _⟩ := sh_int Try.underlying24 h2
  exact sp_law36_CrossReturns hl f g
end Go.Proofs.Ytfoepbkbclmghaa
