/- TopParts: the row. -/
import Derived.Test.YtoaialdcgmkbgaaGreatRL16
import Derived.Test.YtoaialdcgmkbgaaGreatRRB

set_option linter.all false
set_option maxRecDepth 100000
namespace Go.Proofs.YtoaialdcgmkbgaaGreatR
open Go.ChangeShapes Go.WideShapes Go.ChangeAt Go.RowKit Go.Joins Go.AM
theorem topParts_lifted (os : Os) (started : os.Started) (H : Type) (enc : TypeId × Value -> H) :
  ReturnsInHanded {} Tryz.checked os 5 .any (Rows.topPartsSpec.pre6 enc Tryz.prog Tryz.f5 Rows.topPartsRow.domain false) (Rows.topPartsSpec.post enc Tryz.prog Tryz.f5 false true false false) := by
 refine returnsInHanded_of_change (C := Tryz.checked) Tryz.own started (by kernel_rfl) Tryz.func5
  (ChangeSpec.witness6 (enc := enc) (C := Tryz.checked) false ⟨#[], #[.agg #[.int .u8 0, .int .u8 0, .slice none 0 0, .slice none 0 0]], []⟩ 8 (by kernel_rfl) (by kernel_rfl) (by kernel_rfl) (by kernel_rfl)) ?_
 intro W base args ds gs before hval0 hW hcnd _
 refine law_mid (n := 8) (gt := gtab) Tryz.laidOut (by kernel_rfl) (by kernel_rfl) rfl (by kernel_rfl) (Tryz.boolUnd) hval0 hW (fun h => ?_) (jT5 _) (fun dl hdl => topParts_law (by rw [Tryz.params5] at hdl; exact hdl))
 rw [show Tryz.f5.params.size = 1 by kernel_rfl] at h
 match ds, h with
 | [_], _ => rfl
theorem topParts_holds : Rows.TopPartsSaid :=
 OpenClaim.holds_of_wide 5 Tryz.f5 rfl rfl rfl rfl rfl rfl rfl ⟨rfl, rfl, rfl, rfl, rfl⟩ rfl rfl rfl rfl rfl (by kernel_rfl) Tryz.func5 (by kernel_rfl)
  (of_decide_eq_true (by kernel_rfl)) (by unfold Func.isWrapper; first | (rw [if_pos (by decide +kernel)]; kernel_rfl) | (rw [if_neg (by decide +kernel)]; exact ⟨rfl, rfl⟩))
  (fun os started H enc _ => topParts_lifted os started H enc)
#print axioms topParts_holds
end Go.Proofs.YtoaialdcgmkbgaaGreatR
