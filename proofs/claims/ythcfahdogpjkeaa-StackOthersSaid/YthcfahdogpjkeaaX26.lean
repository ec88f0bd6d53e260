
/- Chapter 29: StackOthers, from its arguments. -/
import Derived.Test.YthcfahdogpjkeaaX21
import Derived.Test.YthcfahdogpjkeaaX18
set_option linter.all false
set_option maxRecDepth 100000
namespace Go.Proofs.Ythcfahdogpjkeaa
open Go.AM

theorem stackOthers_law {dl : List D} (h : ShL Try.prog 8 [24, 5] dl) : Sp Try.prog gtab 7 dl (.bool true) := by
  obtain ⟨d0, _, rfl, h0, d1, _, rfl, h1, rfl⟩ := h
  obtain ⟨ats, deep, hin, hd, hlen, rfl⟩ := sh_scene h0
  obtain ⟨m, rfl, hm⟩ := sh_int Try.underlying5 h1
  exact sp_law29_StackOthers hin hd hm
end Go.Proofs.Ythcfahdogpjkeaa
