/- TopEdges: the row. -/
import Derived.Test.YtoaialdcgmkbgaaGreatRK32

set_option linter.all false
set_option maxRecDepth 100000
namespace Go.Proofs.YtoaialdcgmkbgaaGreatR
open Go.ChangeShapes Go.WideShapes Go.ChangeAt Go.RowKit Go.Joins Go.AM
theorem topEdges_lifted (os : Os) (started : os.Started) (H : Type) (enc : TypeId × Value → H) :
  ReturnsInHanded {} Tryz.checked os 4 .any (Rows.topEdgesSpec.pre6 enc Tryz.prog Tryz.f4 Rows.topEdgesRow.domain false) (Rows.topEdgesSpec.post enc Tryz.prog Tryz.f4 false true false false) := by
 refine returnsInHanded_of_change (C := Tryz.checked) Tryz.own started (by kernel_rfl) Tryz.func4
  (ChangeSpec.witness6 (enc := enc) (C := Tryz.checked) false ⟨#[], #[.slice none 0 0, .agg #[.int .u8 0, .int .u8 0], .int .u8 0], []⟩ 8 (by kernel_rfl) (by kernel_rfl) (by kernel_rfl) (by kernel_rfl)) ?_
 intro W base args ds gs before hval0 hW hcnd _
 refine law_mid (n := 8) (gt := gtab) Tryz.laidOut (by kernel_rfl) (by kernel_rfl) rfl (by kernel_rfl) (Tryz.boolUnd) hval0 hW (fun h => ?_) (globNone _) (fun dl hdl => topEdges_law (by rw [Tryz.params4] at hdl; exact hdl))
 rw [show Tryz.f4.params.size = 3 by kernel_rfl] at h
 match ds, h with
 | [_, _, _], _ => rfl
theorem topEdges_holds : Rows.TopEdgesSaid :=
 OpenClaim.holds_of_wide 4 Tryz.f4 rfl rfl rfl rfl rfl rfl rfl ⟨rfl, rfl, rfl, rfl, rfl⟩ rfl rfl rfl rfl rfl (by kernel_rfl) Tryz.func4 (by kernel_rfl)
  (of_decide_eq_true (by kernel_rfl)) (by unfold Func.isWrapper; first | (rw [if_pos (by decide +kernel)]; kernel_rfl) | (rw [if_neg (by decide +kernel)]; exact ⟨rfl, rfl⟩))
  (fun os started H enc _ => topEdges_lifted os started H enc)
#print axioms topEdges_holds
end Go.Proofs.YtoaialdcgmkbgaaGreatR

