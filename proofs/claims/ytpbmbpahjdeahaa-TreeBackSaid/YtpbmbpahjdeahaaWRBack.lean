
/- TreeBack: the row. -/
import Derived.Test.YtpbmbpahjdeahaaW37
import Derived.Test.YtpbmbpahjdeahaaRB
set_option linter.all false
namespace Go.Proofs.Ytpbmbpahjdeahaa
open Go.ChangeShapes Go.WideShapes Go.ChangeAt Go.RowKit Go.Joins Go.AM

theorem treeBack_lifted (os : Os) (started : os.Started) (H : Type) (enc : TypeId × Value → H) :
    ReturnsInHanded {} Try.checked os 9 .any (Rows.treeBackSpec.pre6 enc Try.prog Try.f9 Rows.treeBackRow.domain false) (Rows.treeBackSpec.post enc Try.prog Try.f9 false true false false) := by
  refine returnsInHanded_of_change (C := Try.checked) Try.own started (by kernel_rfl) Try.func9
    (ChangeSpec.witness6 (enc := enc) (C := Try.checked) false ⟨#[], #[.slice none 0 0, .int .u32 0, .int .u32 0, .int .u8 0], []⟩ 8 (by kernel_rfl) (by kernel_rfl) (by kernel_rfl) (by kernel_rfl)) ?_
  intro W base args ds gs before hval0 hW hcnd _
  refine law_mid (n := 8) (gt := gtab) Try.laidOut (by kernel_rfl) (by kernel_rfl) rfl (by kernel_rfl) (Try.boolUnd) hval0 hW (fun h => ?_) (globNone _) (fun dl hdl => treeBack_law (by rw [Try.params9] at hdl; exact hdl))
  rw [show Try.f9.params.size = 4 by kernel_rfl] at h
  match ds, h with
  | [_, _, _, _], _ => rfl

theorem treeBack_holds : Rows.TreeBackSaid :=
  OpenClaim.holds_of_wide 9 Try.f9 rfl rfl rfl rfl rfl rfl rfl ⟨rfl, rfl, rfl, rfl, rfl⟩ rfl rfl rfl rfl rfl (by kernel_rfl) Try.func9 (by kernel_rfl)
    (of_decide_eq_true (by kernel_rfl)) (by unfold Func.isWrapper; first | (rw [if_pos (by decide +kernel)]; kernel_rfl) | (rw [if_neg (by decide +kernel)]; exact ⟨rfl, rfl⟩))
    (fun os started H enc _ => treeBack_lifted os started H enc)

#print axioms treeBack_holds
end Go.Proofs.Ytpbmbpahjdeahaa
