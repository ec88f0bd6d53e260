
/- TreeBounds: the row. -/
import Derived.Test.YtpbmbpahjdeahaaW27
import Derived.Test.YtpbmbpahjdeahaaRB
set_option linter.all false
namespace Go.Proofs.Ytpbmbpahjdeahaa
open Go.ChangeShapes Go.WideShapes Go.ChangeAt Go.RowKit Go.Joins Go.AM

theorem treeBounds_lifted (os : Os) (started : os.Started) (H : Type) (enc : TypeId × Value → H) :
    ReturnsInHanded {} Try.checked os 3 .any (Rows.treeBoundsSpec.pre6 enc Try.prog Try.f3 Rows.treeBoundsRow.domain false) (Rows.treeBoundsSpec.post enc Try.prog Try.f3 false true false false) := by
  refine returnsInHanded_of_change (C := Try.checked) Try.own started (by kernel_rfl) Try.func3
    (ChangeSpec.witness6 (enc := enc) (C := Try.checked) false ⟨#[], #[.bool false], []⟩ 8 (by kernel_rfl) (by kernel_rfl) (by kernel_rfl) (by kernel_rfl)) ?_
  intro W base args ds gs before hval0 hW hcnd _
  refine law_mid (n := 8) (gt := gtab) Try.laidOut (by kernel_rfl) (by kernel_rfl) rfl (by kernel_rfl) (Try.boolUnd) hval0 hW (fun h => ?_) (globNone _) (fun dl hdl => treeBounds_law (by rw [Try.params3] at hdl; exact hdl))
  rw [show Try.f3.params.size = 1 by kernel_rfl] at h
  match ds, h with
  | [_], _ => rfl

theorem treeBounds_holds : Rows.TreeBoundsSaid :=
  OpenClaim.holds_of_wide 3 Try.f3 rfl rfl rfl rfl rfl rfl rfl ⟨rfl, rfl, rfl, rfl, rfl⟩ rfl rfl rfl rfl rfl (by kernel_rfl) Try.func3 (by kernel_rfl)
    (of_decide_eq_true (by kernel_rfl)) (by unfold Func.isWrapper; first | (rw [if_pos (by decide +kernel)]; kernel_rfl) | (rw [if_neg (by decide +kernel)]; exact ⟨rfl, rfl⟩))
    (fun os started H enc _ => treeBounds_lifted os started H enc)

#print axioms treeBounds_holds
end Go.Proofs.Ytpbmbpahjdeahaa
