
/- Chapter 29: StackTwice, from its arguments. -/
import Derived.Test.YthcfahdogpjkeaaX24
import Derived.Test.YthcfahdogpjkeaaX18
set_option linter.all false
set_option maxRecDepth 100000
namespace Go.Proofs.Ythcfahdogpjkeaa
open Go.AM

theorem stackTwice_law {dl : List D} (h : ShL Try.prog 8 [24, 25, 4] dl) : Sp Try.prog gtab 6 dl (.bool true) := by
  obtain ⟨d0, _, rfl, h0, d1, _, rfl, h1, d2, _, rfl, h2, rfl⟩ := h
  obtain ⟨ats, deep, hin, hd, hlen, rfl⟩ := sh_scene h0
  obtain ⟨a, b, ha, hb, rfl⟩ := sh_two h1
  obtain ⟨m, rfl⟩ := sh_bool Try.underlying4 h2
  exact sp_law29_StackTwice hin hd ha hb m
end Go.Proofs.Ythcfahdogpjkeaa
