
/- Chapter 29: StackFrees, from its arguments. -/
import Derived.Test.YthcfahdogpjkeaaX23
import Derived.Test.YthcfahdogpjkeaaX18
set_option linter.all false
set_option maxRecDepth 100000
namespace Go.Proofs.Ythcfahdogpjkeaa
open Go.AM

theorem stackFrees_law {dl : List D} (h : ShL Try.prog 8 [24, 5] dl) : Sp Try.prog gtab 5 dl (.bool true) := by
  obtain ⟨d0, _, rfl, h0, d1, _, rfl, h1, rfl⟩ := h
  obtain ⟨ats, deep, hin, hd, hlen, rfl⟩ := sh_scene h0
  obtain ⟨m, rfl, hm⟩ := sh_int Try.underlying5 h1
  exact sp_law29_StackFrees hin hd hm
end Go.Proofs.Ythcfahdogpjkeaa
