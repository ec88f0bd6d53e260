
/- TreePlays: the row. -/
import Derived.Test.YtpbmbpahjdeahaaW34
import Derived.Test.YtpbmbpahjdeahaaRB
set_option linter.all false
namespace Go.Proofs.Ytpbmbpahjdeahaa
open Go.ChangeShapes Go.WideShapes Go.ChangeAt Go.RowKit Go.Joins Go.AM

theorem treePlays_lifted (os : Os) (started : os.Started) (H : Type) (enc : TypeId × Value → H) :
    ReturnsInHanded {} Try.checked os 7 .any (Rows.treePlaysSpec.pre6 enc Try.prog Try.f7 Rows.treePlaysRow.domain false) (Rows.treePlaysSpec.post enc Try.prog Try.f7 false true false false) := by
  refine returnsInHanded_of_change (C := Try.checked) Try.own started (by kernel_rfl) Try.func7
    (ChangeSpec.witness6 (enc := enc) (C := Try.checked) false ⟨#[], #[.slice none 0 0], []⟩ 8 (by kernel_rfl) (by kernel_rfl) (by kernel_rfl) (by kernel_rfl)) ?_
  intro W base args ds gs before hval0 hW hcnd _
  refine law_mid (n := 8) (gt := gtab) Try.laidOut (by kernel_rfl) (by kernel_rfl) rfl (by kernel_rfl) (Try.boolUnd) hval0 hW (fun h => ?_) (globNone _) (fun dl hdl => treePlays_law (by rw [Try.params7] at hdl; exact hdl))
  rw [show Try.f7.params.size = 1 by kernel_rfl] at h
  match ds, h with
  | [_], _ => rfl

theorem treePlays_holds : Rows.TreePlaysSaid :=
  OpenClaim.holds_of_wide 7 Try.f7 rfl rfl rfl rfl rfl rfl rfl ⟨rfl, rfl, rfl, rfl, rfl⟩ rfl rfl rfl rfl rfl (by kernel_rfl) Try.func7 (by kernel_rfl)
    (of_decide_eq_true (by kernel_rfl)) (by unfold Func.isWrapper; first | (rw [if_pos (by decide +kernel)]; kernel_rfl) | (rw [if_neg (by decide +kernel)]; exact ⟨rfl, rfl⟩))
    (fun os started H enc _ => treePlays_lifted os started H enc)

#print axioms treePlays_holds
end Go.Proofs.Ytpbmbpahjdeahaa
