
/- TreeWhole: the row. -/
import Derived.Test.YtpbmbpahjdeahaaW32
import Derived.Test.YtpbmbpahjdeahaaRB
set_option linter.all false
namespace Go.Proofs.Ytpbmbpahjdeahaa
open Go.ChangeShapes Go.WideShapes Go.ChangeAt Go.RowKit Go.Joins Go.AM

theorem treeWhole_lifted (os : Os) (started : os.Started) (H : Type) (enc : TypeId × Value → H) :
    ReturnsInHanded {} Try.checked os 8 .any (Rows.treeWholeSpec.pre6 enc Try.prog Try.f8 Rows.treeWholeRow.domain false) (Rows.treeWholeSpec.post enc Try.prog Try.f8 false true false false) := by
  refine returnsInHanded_of_change (C := Try.checked) Try.own started (by kernel_rfl) Try.func8
    (ChangeSpec.witness6 (enc := enc) (C := Try.checked) false ⟨#[], #[.slice none 0 0], []⟩ 8 (by kernel_rfl) (by kernel_rfl) (by kernel_rfl) (by kernel_rfl)) ?_
  intro W base args ds gs before hval0 hW hcnd _
  refine law_mid (n := 8) (gt := gtab) Try.laidOut (by kernel_rfl) (by kernel_rfl) rfl (by kernel_rfl) (Try.boolUnd) hval0 hW (fun h => ?_) (globNone _) (fun dl hdl => treeWhole_law (by rw [Try.params8] at hdl; exact hdl))
  rw [show Try.f8.params.size = 1 by kernel_rfl] at h
  match ds, h with
  | [_], _ => rfl

theorem treeWhole_holds : Rows.TreeWholeSaid :=
  OpenClaim.holds_of_wide 8 Try.f8 rfl rfl rfl rfl rfl rfl rfl ⟨rfl, rfl, rfl, rfl, rfl⟩ rfl rfl rfl rfl rfl (by kernel_rfl) Try.func8 (by kernel_rfl)
    (of_decide_eq_true (by kernel_rfl)) (by unfold Func.isWrapper; first | (rw [if_pos (by decide +kernel)]; kernel_rfl) | (rw [if_neg (by decide +kernel)]; exact ⟨rfl, rfl⟩))
    (fun os started H enc _ => treeWhole_lifted os started H enc)

#print axioms treeWhole_holds
end Go.Proofs.Ytpbmbpahjdeahaa
