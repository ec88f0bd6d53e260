
/- Chapter 36: CrossEnds, from its arguments. -/
import Derived.Test.YtfoepbkbclmghaaV25
import Derived.Test.YtfoepbkbclmghaaV18
set_option linter.all false
namespace Go.Proofs.Ytfoepbkbclmghaa
open Go.AM

theorem crossEnds_law {dl : List D} (h : ShL Try.prog 8 [22, 22] dl) : Sp Try.prog gtab 4 dl (.bool true) := by
  obtain ⟨d0, _, rfl, h0, d1, _, rfl, h1, rfl⟩ := h
  obtain ⟨l, rfl, hl⟩ := sh_bytes h0
  obtain ⟨m, rfl, hm⟩ := sh_bytes h1
  exact sp_law36_CrossEnds hl hm
end Go.Proofs.Ytfoepbkbclmghaa
