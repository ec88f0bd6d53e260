/- RectMany: from its arguments. -/
import Derived.Test.YtkcebadfgiknhaaR15
import Derived.Test.YtkcebadfgiknhaaR12
set_option linter.all false
namespace Go.Proofs.Ytkcebadfgiknhaa
open Go.AM

theorem rectMany_law {dl : List D} (h : ShL Try.prog 8 [27, 5] dl) : Sp Try.prog gtab 4 dl (.bool true) := by
  obtain ⟨d1, _, rfl, h1, d2, _, rfl, h2, rfl⟩ := h
  obtain ⟨cut, rfl, hc⟩ := sh_int Try.underlying5 h2
  obtain ⟨l, rfl, hlen, hl⟩ := sh_slice (g := rD) (Q := Rc.In) Try.underlying27 h1 fun r hr => sh_rect hr
  exact sp_law12_RectMany hl hc
end Go.Proofs.Ytkcebadfgiknhaa
