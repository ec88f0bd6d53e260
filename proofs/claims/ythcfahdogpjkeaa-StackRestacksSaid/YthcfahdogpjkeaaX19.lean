
/- Chapter 29: StackRestacks, from its arguments. -/
import Derived.Test.YthcfahdogpjkeaaX17
import Derived.Test.YthcfahdogpjkeaaX18
set_option linter.all false
namespace Go.Proofs.Ythcfahdogpjkeaa
open Go.AM

theorem stackRestacks_law {dl : List D} (h : ShL Try.prog 8 [24, 25, 3] dl) : Sp Try.prog gtab 3 dl (.bool true) := by
  obtain ⟨d0, _, rfl, h0, d1, _, rfl, h1, d2, _, rfl, h2, rfl⟩ := h
  obtain ⟨ats, deep, hin, hd, hlen, rfl⟩ := sh_scene h0
  obtain ⟨a, b, ha, hb, rfl⟩ := sh_two h1
  obtain ⟨m, rfl, hm⟩ := sh_int Try.underlying3 h2
  exact sp_law29_StackRestacks hin hd ha hb hm
end Go.Proofs.Ythcfahdogpjkeaa
