
/- Chapter 28: TreeWhole, from its argument. -/
import Derived.Test.YtpbmbpahjdeahaaW31
import Derived.Test.YtpbmbpahjdeahaaW23
set_option linter.all false
namespace Go.Proofs.Ytpbmbpahjdeahaa
open Go.AM

theorem treeWhole_law {dl : List D} (h : ShL Try.prog 8 [36] dl) : Sp Try.prog gtab 8 dl (.bool true) := by
  obtain ⟨d0, _, rfl, h0, rfl⟩ := h
  obtain ⟨l, rfl, hl⟩ := sh_acts8 h0
  exact sp_law28_TreeWhole hl
end Go.Proofs.Ytpbmbpahjdeahaa
