
/- Chapter 29: StackHides, from its arguments. -/
import Derived.Test.YthcfahdogpjkeaaX20
import Derived.Test.YthcfahdogpjkeaaX18
set_option linter.all false
set_option maxRecDepth 100000
namespace Go.Proofs.Ythcfahdogpjkeaa
open Go.AM

theorem stackHides_law {dl : List D} (h : ShL Try.prog 8 [24, 25] dl) : Sp Try.prog gtab 4 dl (.bool true) := by
  obtain ⟨d0, _, rfl, h0, d1, _, rfl, h1, rfl⟩ := h
  obtain ⟨ats, deep, hin, hd, hlen, rfl⟩ := sh_scene h0
  obtain ⟨a, b, ha, hb, rfl⟩ := sh_two h1
  exact sp_law29_StackHides hin hd ha hb
end Go.Proofs.Ythcfahdogpjkeaa
