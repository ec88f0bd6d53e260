
/- Chapter 28: TreeMoves, from its arguments. -/
import Derived.Test.YtpbmbpahjdeahaaW24
import Derived.Test.YtpbmbpahjdeahaaW23
set_option linter.all false
namespace Go.Proofs.Ytpbmbpahjdeahaa
open Go.AM

theorem treeMoves_law {dl : List D} (h : ShL Try.prog 8 [36, 28, 28] dl) : Sp Try.prog gtab 4 dl (.bool true) := by
  obtain ⟨d0, _, rfl, h0, d1, _, rfl, h1, d2, _, rfl, h2, rfl⟩ := h
  obtain ⟨l, rfl, hl⟩ := sh_acts8 h0
  obtain ⟨f, rfl, _⟩ := sh_int Try.underlying28 h1
  obtain ⟨g, rfl, _⟩ := sh_int Try.underlying28 h2
  exact sp_law28_TreeMoves hl f g
end Go.Proofs.Ytpbmbpahjdeahaa
