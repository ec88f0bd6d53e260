
/- BufferForgets: the row. -/
import Derived.Test.YtnhogggpchcbjaaT21
import Derived.Test.YtnhogggpchcbjaaRB
set_option linter.all false
namespace Go.Proofs.Ytnhogggpchcbjaa
open Go.ChangeShapes Go.WideShapes Go.ChangeAt Go.RowKit Go.Joins Go.AM

theorem bufferForgets_lifted (os : Os) (started : os.Started) (H : Type) (enc : TypeId × Value → H) :
    ReturnsInHanded {} Try.checked os 9 .any (Rows.bufferForgetsSpec.pre6 enc Try.prog Try.f9 Rows.bufferForgetsRow.domain false) (Rows.bufferForgetsSpec.post enc Try.prog Try.f9 false true false false) := by
  refine returnsInHanded_of_change (C := Try.checked) Try.own started (by kernel_rfl) Try.func9
    (ChangeSpec.witness6 (enc := enc) (C := Try.checked) false ⟨#[], #[], []⟩ 8 (by kernel_rfl) (by kernel_rfl) (by kernel_rfl) (by kernel_rfl)) ?_
  intro W base args ds gs before hval0 hW hcnd _
  refine law_mid (n := 8) (gt := gtab) Try.laidOut (by kernel_rfl) (by kernel_rfl) rfl (by kernel_rfl) (Try.boolUnd) hval0 hW (fun h => ?_) (globNone _) (fun dl hdl => bufferForgets_law (by rw [Try.params9] at hdl; exact hdl))
  rw [show Try.f9.params.size = 0 by kernel_rfl] at h
  match ds, h with
  | [], _ => rfl

theorem bufferForgets_holds : Rows.BufferForgetsSaid :=
  OpenClaim.holds_of_wide 9 Try.f9 rfl rfl rfl rfl rfl rfl rfl ⟨rfl, rfl, rfl, rfl, rfl⟩ rfl rfl rfl rfl rfl (by kernel_rfl) Try.func9 (by kernel_rfl)
    (of_decide_eq_true (by kernel_rfl)) (by unfold Func.isWrapper; first | (rw [if_pos (by decide +kernel)]; kernel_rfl) | (rw [if_neg (by decide +kernel)]; exact ⟨rfl, rfl⟩))
    (fun os started H enc _ => bufferForgets_lifted os started H enc)

#print axioms bufferForgets_holds
end Go.Proofs.Ytnhogggpchcbjaa
