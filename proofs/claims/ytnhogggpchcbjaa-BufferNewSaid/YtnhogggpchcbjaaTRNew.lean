
/- BufferNew: the row. -/
import Derived.Test.YtnhogggpchcbjaaT20
import Derived.Test.YtnhogggpchcbjaaRB
set_option linter.all false
namespace Go.Proofs.Ytnhogggpchcbjaa
open Go.ChangeShapes Go.WideShapes Go.ChangeAt Go.RowKit Go.Joins Go.AM

theorem bufferNew_lifted (os : Os) (started : os.Started) (H : Type) (enc : TypeId × Value → H) :
    ReturnsInHanded {} Try.checked os 3 .any (Rows.bufferNewSpec.pre6 enc Try.prog Try.f3 Rows.bufferNewRow.domain false) (Rows.bufferNewSpec.post enc Try.prog Try.f3 false true false false) := by
  refine returnsInHanded_of_change (C := Try.checked) Try.own started (by kernel_rfl) Try.func3
    (ChangeSpec.witness6 (enc := enc) (C := Try.checked) false ⟨#[], #[.string .empty], []⟩ 8 (by kernel_rfl) (by kernel_rfl) (by kernel_rfl) (by kernel_rfl)) ?_
  intro W base args ds gs before hval0 hW hcnd _
  refine law_mid (n := 8) (gt := gtab) Try.laidOut (by kernel_rfl) (by kernel_rfl) rfl (by kernel_rfl) (Try.boolUnd) hval0 hW (fun h => ?_) (globNone _) (fun dl hdl => bufferNew_law (by rw [Try.params3] at hdl; exact hdl))
  rw [show Try.f3.params.size = 1 by kernel_rfl] at h
  match ds, h with
  | [_], _ => rfl

theorem bufferNew_holds : Rows.BufferNewSaid :=
  OpenClaim.holds_of_wide 3 Try.f3 rfl rfl rfl rfl rfl rfl rfl ⟨rfl, rfl, rfl, rfl, rfl⟩ rfl rfl rfl rfl rfl (by kernel_rfl) Try.func3 (by kernel_rfl)
    (of_decide_eq_true (by kernel_rfl)) (by unfold Func.isWrapper; first | (rw [if_pos (by decide +kernel)]; kernel_rfl) | (rw [if_neg (by decide +kernel)]; exact ⟨rfl, rfl⟩))
    (fun os started H enc _ => bufferNew_lifted os started H enc)

#print axioms bufferNew_holds
end Go.Proofs.Ytnhogggpchcbjaa
