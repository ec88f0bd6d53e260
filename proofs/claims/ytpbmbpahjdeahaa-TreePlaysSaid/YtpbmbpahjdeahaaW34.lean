
/- Chapter 28: TreePlays, from its argument. -/
import Derived.Test.YtpbmbpahjdeahaaW33
import Derived.Test.YtpbmbpahjdeahaaW23
set_option linter.all false
namespace Go.Proofs.Ytpbmbpahjdeahaa
open Go.AM

theorem treePlays_law {dl : List D} (h : ShL Try.prog 8 [36] dl) : Sp Try.prog gtab 7 dl (.bool true) := by
  obtain ⟨d0, _, rfl, h0, rfl⟩ := h
  obtain ⟨l, rfl, hl⟩ := sh_acts8 h0
  exact sp_law28_TreePlays hl
end Go.Proofs.Ytpbmbpahjdeahaa
