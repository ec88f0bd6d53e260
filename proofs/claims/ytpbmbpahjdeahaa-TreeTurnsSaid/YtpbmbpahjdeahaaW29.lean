
/- Chapter 28: TreeTurns, from its arguments. -/
import Derived.Test.YtpbmbpahjdeahaaW28
import Derived.Test.YtpbmbpahjdeahaaW23
set_option linter.all false
namespace Go.Proofs.Ytpbmbpahjdeahaa
open Go.AM

theorem treeTurns_law {dl : List D} (h : ShL Try.prog 8 [36, 28, 28, 28, 28] dl) : Sp Try.prog gtab 6 dl (.bool true) := by
  obtain ⟨d0, _, rfl, h0, d1, _, rfl, h1, d2, _, rfl, h2, d3, _, rfl, h3, d4, _, rfl, h4, rfl⟩ := h
  obtain ⟨l, rfl, hl⟩ := sh_acts8 h0
  obtain ⟨f, rfl, hf⟩ := sh_int Try.underlying28 h1
  obtain ⟨g, rfl, hg⟩ := sh_int Try.underlying28 h2
  obtain ⟨p, rfl, _⟩ := sh_int Try.underlying28 h3
  obtain ⟨q, rfl, _⟩ := sh_int Try.underlying28 h4
  exact sp_law28_TreeTurns hl hf hg p q
end Go.Proofs.Ytpbmbpahjdeahaa
