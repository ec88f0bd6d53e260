/- TopAnew: the row. -/
import Derived.Test.YtoaialdcgmkbgaaGreatRN14
import Derived.Test.YtoaialdcgmkbgaaGreatRRB

set_option linter.all false
set_option maxRecDepth 100000
namespace Go.Proofs.YtoaialdcgmkbgaaGreatR
open Go.ChangeShapes Go.WideShapes Go.ChangeAt Go.RowKit Go.Joins Go.AM
theorem topAnew_lifted (os : Os) (started : os.Started) (H : Type) (enc : TypeId × Value -> H) :
  ReturnsInHanded {} Tryz.checked os 6 .any (Rows.topAnewSpec.pre6 enc Tryz.prog Tryz.f6 Rows.topAnewRow.domain false) (Rows.topAnewSpec.post enc Tryz.prog Tryz.f6 false true false false) := by
 refine returnsInHanded_of_change (C := Tryz.checked) Tryz.own started (by kernel_rfl) Tryz.func6
  (ChangeSpec.witness6 (enc := enc) (C := Tryz.checked) false ⟨#[], #[.slice none 0 0, .slice none 0 0], []⟩ 8 (by kernel_rfl) (by kernel_rfl) (by kernel_rfl) (by kernel_rfl)) ?_
 intro W base args ds gs before hval0 hW hcnd _
 refine kJ1 (n := 8) (gt := zM) Tryz.laidOut (by kernel_rfl) (by kernel_rfl) rfl (by kernel_rfl) (Tryz.boolUnd) hval0 hW (fun h => ?_) (kz5 _) (fun dl hdl => topAnew_law (by rw [Tryz.params6] at hdl; exact hdl))
 rw [show Tryz.f6.params.size = 2 by kernel_rfl] at h
 match ds, h with
 | [_, _], _ => rfl
theorem topAnew_holds : Rows.TopAnewSaid :=
 OpenClaim.holds_of_wide 6 Tryz.f6 rfl rfl rfl rfl rfl rfl rfl ⟨rfl, rfl, rfl, rfl, rfl⟩ rfl rfl rfl rfl rfl (by kernel_rfl) Tryz.func6 (by kernel_rfl)
  (of_decide_eq_true (by kernel_rfl)) (by unfold Func.isWrapper; first | (rw [if_pos (by decide +kernel)]; kernel_rfl) | (rw [if_neg (by decide +kernel)]; exact ⟨rfl, rfl⟩))
  (fun os started H enc _ => topAnew_lifted os started H enc)
#print axioms topAnew_holds
end Go.Proofs.YtoaialdcgmkbgaaGreatR
