
/- Chapter 29: StackCirculates, from its arguments. -/
import Derived.Test.YthcfahdogpjkeaaX22
import Derived.Test.YthcfahdogpjkeaaX18
set_option linter.all false
set_option maxRecDepth 100000
namespace Go.Proofs.Ythcfahdogpjkeaa
open Go.AM

theorem stackCirculates_law {dl : List D} (h : ShL Try.prog 8 [24, 4] dl) : Sp Try.prog gtab 8 dl (.bool true) := by
  obtain ⟨d0, _, rfl, h0, d1, _, rfl, h1, rfl⟩ := h
  obtain ⟨ats, deep, hin, hd, hlen, rfl⟩ := sh_scene h0
  obtain ⟨m, rfl⟩ := sh_bool Try.underlying4 h1
  exact sp_law29_StackCirculates hin hd m
end Go.Proofs.Ythcfahdogpjkeaa
