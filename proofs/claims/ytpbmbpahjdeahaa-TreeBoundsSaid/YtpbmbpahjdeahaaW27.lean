
/- Chapter 28: TreeBounds, from its argument. -/
import Derived.Test.YtpbmbpahjdeahaaW26
import Derived.Test.YtpbmbpahjdeahaaW23
set_option linter.all false
namespace Go.Proofs.Ytpbmbpahjdeahaa
open Go.AM

theorem sh_bool {n : Nat} {d : D} (h : Sh Try.prog (n + 1) 4 d) : ∃ b : Bool, d = .bool b := by
  obtain ⟨c, hc, hr⟩ := h
  obtain ⟨b, rfl⟩ := shC_bool Try.underlying4 hc
  unfold rowIs at hr
  rw [show isAgg' Try.prog 4 = false by kernel_rfl] at hr
  simp at hr
  exact ⟨b, hr.symm⟩
theorem treeBounds_law {dl : List D} (h : ShL Try.prog 8 [4] dl) : Sp Try.prog gtab 3 dl (.bool true) := by
  obtain ⟨d0, _, rfl, h0, rfl⟩ := h
  obtain ⟨b, rfl⟩ := sh_bool h0
  exact sp_law28_TreeBounds b
end Go.Proofs.Ytpbmbpahjdeahaa
