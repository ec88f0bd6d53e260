
/- Chapter 28: TreeBack, from its arguments. -/
import Derived.Test.YtpbmbpahjdeahaaW36
import Derived.Test.YtpbmbpahjdeahaaW23
set_option linter.all false
namespace Go.Proofs.Ytpbmbpahjdeahaa
open Go.AM

theorem treeBack_law {dl : List D} (h : ShL Try.prog 8 [36, 28, 28, 5] dl) : Sp Try.prog gtab 9 dl (.bool true) := by
  obtain ⟨d0, _, rfl, h0, d1, _, rfl, h1, d2, _, rfl, h2, d3, _, rfl, h3, rfl⟩ := h
  obtain ⟨l, rfl, hl⟩ := sh_acts8 h0
  obtain ⟨f, rfl, hf⟩ := sh_int Try.underlying28 h1
  obtain ⟨g, rfl, _⟩ := sh_int Try.underlying28 h2
  obtain ⟨a, rfl, ha⟩ := sh_int Try.underlying5 h3
  exact sp_law28_TreeBack hl hf ha
end Go.Proofs.Ytpbmbpahjdeahaa
