
/- StackTwice: the row. -/
import Derived.Test.YthcfahdogpjkeaaX29
import Derived.Test.YthcfahdogpjkeaaRB
set_option linter.all false
set_option maxRecDepth 100000
namespace Go.Proofs.Ythcfahdogpjkeaa
open Go.ChangeShapes Go.WideShapes Go.ChangeAt Go.RowKit Go.Joins Go.AM

theorem stackTwice_lifted (os : Os) (started : os.Started) (H : Type) (enc : TypeId × Value → H) :
    ReturnsInHanded {} Try.checked os 6 .any (Rows.stackTwiceSpec.pre6 enc Try.prog Try.f6 Rows.stackTwiceRow.domain false) (Rows.stackTwiceSpec.post enc Try.prog Try.f6 false true false false) := by
  refine returnsInHanded_of_change (C := Try.checked) Try.own started (by kernel_rfl) Try.func6
    (ChangeSpec.witness6 (enc := enc) (C := Try.checked) false ⟨#[], #[.agg #[.slice none 0 0, .int .u8 0], .agg #[.int .u8 0, .int .u8 0], .bool false], []⟩ 8 (by kernel_rfl) (by kernel_rfl) (by kernel_rfl) (by kernel_rfl)) ?_
  intro W base args ds gs before hval0 hW hcnd _
  refine law_mid (n := 8) (gt := gtab) Try.laidOut (by kernel_rfl) (by kernel_rfl) rfl (by kernel_rfl) (Try.boolUnd) hval0 hW (fun h => ?_) (globNone _) (fun dl hdl => stackTwice_law (by rw [Try.params6] at hdl; exact hdl))
  rw [show Try.f6.params.size = 3 by kernel_rfl] at h
  match ds, h with
  | [_, _, _], _ => rfl

theorem stackTwice_holds : Rows.StackTwiceSaid :=
  OpenClaim.holds_of_wide 6 Try.f6 rfl rfl rfl rfl rfl rfl rfl ⟨rfl, rfl, rfl, rfl, rfl⟩ rfl rfl rfl rfl rfl (by kernel_rfl) Try.func6 (by kernel_rfl)
    (of_decide_eq_true (by kernel_rfl)) (by unfold Func.isWrapper; first | (rw [if_pos (by decide +kernel)]; kernel_rfl) | (rw [if_neg (by decide +kernel)]; exact ⟨rfl, rfl⟩))
    (fun os started H enc _ => stackTwice_lifted os started H enc)

#print axioms stackTwice_holds
end Go.Proofs.Ythcfahdogpjkeaa
