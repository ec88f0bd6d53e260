
/- StackCirculates: the row. -/
import Derived.Test.YthcfahdogpjkeaaX27
import Derived.Test.YthcfahdogpjkeaaRB
set_option linter.all false
set_option maxRecDepth 100000
namespace Go.Proofs.Ythcfahdogpjkeaa
open Go.ChangeShapes Go.WideShapes Go.ChangeAt Go.RowKit Go.Joins Go.AM

theorem stackCirculates_lifted (os : Os) (started : os.Started) (H : Type) (enc : TypeId × Value → H) :
    ReturnsInHanded {} Try.checked os 8 .any (Rows.stackCirculatesSpec.pre6 enc Try.prog Try.f8 Rows.stackCirculatesRow.domain false) (Rows.stackCirculatesSpec.post enc Try.prog Try.f8 false true false false) := by
  refine returnsInHanded_of_change (C := Try.checked) Try.own started (by kernel_rfl) Try.func8
    (ChangeSpec.witness6 (enc := enc) (C := Try.checked) false ⟨#[], #[.agg #[.slice none 0 0, .int .u8 0], .bool false], []⟩ 8 (by kernel_rfl) (by kernel_rfl) (by kernel_rfl) (by kernel_rfl)) ?_
  intro W base args ds gs before hval0 hW hcnd _
  refine law_mid (n := 8) (gt := gtab) Try.laidOut (by kernel_rfl) (by kernel_rfl) rfl (by kernel_rfl) (Try.boolUnd) hval0 hW (fun h => ?_) (globNone _) (fun dl hdl => stackCirculates_law (by rw [Try.params8] at hdl; exact hdl))
  rw [show Try.f8.params.size = 2 by kernel_rfl] at h
  match ds, h with
  | [_, _], _ => rfl

theorem stackCirculates_holds : Rows.StackCirculatesSaid :=
  OpenClaim.holds_of_wide 8 Try.f8 rfl rfl rfl rfl rfl rfl rfl ⟨rfl, rfl, rfl, rfl, rfl⟩ rfl rfl rfl rfl rfl (by kernel_rfl) Try.func8 (by kernel_rfl)
    (of_decide_eq_true (by kernel_rfl)) (by unfold Func.isWrapper; first | (rw [if_pos (by decide +kernel)]; kernel_rfl) | (rw [if_neg (by decide +kernel)]; exact ⟨rfl, rfl⟩))
    (fun os started H enc _ => stackCirculates_lifted os started H enc)

#print axioms stackCirculates_holds
end Go.Proofs.Ythcfahdogpjkeaa
