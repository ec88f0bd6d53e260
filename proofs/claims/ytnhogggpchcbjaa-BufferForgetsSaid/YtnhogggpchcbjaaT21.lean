
/- Chapter 54: the laws, from their arguments. -/
import Derived.Test.YtnhogggpchcbjaaT20
import Derived.Test.YtnhogggpchcbjaaT16
import Derived.Test.YtnhogggpchcbjaaT17
import Derived.Test.YtnhogggpchcbjaaRB
set_option linter.all false
namespace Go.Proofs.Ytnhogggpchcbjaa
open Go.AM

theorem bufferSpots_law {dl : List D} (h : ShL Try.prog 8 [9, 46] dl) : Sp Try.prog gtab 8 dl (.bool true) := by
  obtain ⟨d0, _, rfl, h0, d1, _, rfl, h1, rfl⟩ := h
  obtain ⟨s, rfl, hs⟩ := sh_string h0
  obtain ⟨b, rfl, hb⟩ := sh_int Try.underlying46 h1
  exact sp_law54_BufferSpots hs hb
theorem bufferForgets_law {dl : List D} (h : ShL Try.prog 8 [] dl) : Sp Try.prog gtab 9 dl (.bool true) := by
  obtain rfl := h
  exact sp_law54_BufferForgets
end Go.Proofs.Ytnhogggpchcbjaa
