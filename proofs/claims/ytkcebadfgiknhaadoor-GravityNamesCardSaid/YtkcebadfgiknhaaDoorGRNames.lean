/- GravityNames: the row, and its card. -/
import Derived.Test.YtkcebadfgiknhaaDoorG6
import Derived.Test.YtkcebadfgiknhaaDoorRBd
set_option linter.all false
namespace Go.Proofs.YtkcebadfgiknhaaDoor
open Go.ChangeShapes Go.WideShapes Go.ChangeAt Go.RowKit Go.Joins Go.AM

set_option maxRecDepth 100000 in
theorem gravityNames_lifted (os : Os) (started : os.Started) (H : Type) (enc : TypeId × Value → H) :
    ReturnsInHanded {} Tryd.checked os 8 .any (fun w args => (Rows.gravityNamesSpec.pre enc Tryd.prog Tryd.f8 Rows.gravityNamesRow.domain false w args ∧ laidMetH Tryd.prog Rows.gravityNamesRow.laid w) ∧ sizedMet enc Tryd.prog Tryd.f8 (OpenSpec.ofChange Rows.gravityNamesSpec) false w args)
      (Rows.gravityNamesSpec.post enc Tryd.prog Tryd.f8 false true false false) := by
  refine returnsInHanded_of_change_and (C := Tryd.checked) (X := fun w _ => laidMetH Tryd.prog Rows.gravityNamesRow.laid w) (fun _ _ _ hh h => h.of_heap hh) Tryd.own started (by kernel_rfl) Tryd.func8
    (ChangeSpec.witness_shaped (enc := enc) (C := Tryd.checked) (os := os) (X := fun w _ => laidMetH Tryd.prog Rows.gravityNamesRow.laid w) false (World.laidAll Tryd.prog os Rows.gravityNamesRow.laid) #[.int .i64 0, .string ⟨#[]⟩] 8 (World.laidAll_os _ _ _)
      (World.shaped_of_ZipB (by kernel_rfl) (by kernel_rfl)) (by kernel_rfl) (by kernel_rfl) (by kernel_rfl)
      (by rw [MakeChecks.laidMetH_plain _ _ _ (by kernel_rfl)]; exact laidMet_laidAll _ (by kernel_rfl) (by kernel_rfl))) ?_
  intro W base args ds gs before hval0 hW hc _ hL _
  have hg : GlobOk gtab (K0 W) := glob_of_laid (by rw [MakeChecks.laidMetH_plain _ _ _ (by kernel_rfl)] at hL; exact hL) (by kernel_rfl)
  refine law_mid (n := 8) (gt := gtab) Tryd.laidOut (by kernel_rfl) (by kernel_rfl) rfl (by kernel_rfl) (Tryd.boolUnd) hval0 hW (fun h => ?_) hg (fun dl hdl => gravityNames_law (by rw [Tryd.params8] at hdl; exact hdl))
  rw [show Tryd.f8.params.size = 2 by kernel_rfl] at h
  match ds, h with
  | [_, _], _ => rfl

theorem gravityNames_holds : Rows.GravityNamesSaid :=
  OpenClaim.holds_of_wide 8 Tryd.f8 rfl rfl rfl rfl rfl rfl rfl ⟨rfl, rfl, rfl, rfl, rfl⟩ rfl rfl rfl rfl rfl (by kernel_rfl) Tryd.func8 (by kernel_rfl)
    (of_decide_eq_true (by kernel_rfl)) (by unfold Func.isWrapper; first | (rw [if_pos (by decide +kernel)]; kernel_rfl) | (rw [if_neg (by decide +kernel)]; exact ⟨rfl, rfl⟩))
    (fun os started H enc _ => gravityNames_lifted os started H enc)

theorem gravityNames_card : Rows.GravityNamesCardSaid :=
  Claim7.holds_tied_plain_at .later [] [.data, .data] true (true, "3010b521429e31a8502664bd9e7953d0877e431db8d40da22ad28cb32c9c9312") false gravityNames_holds (fun _ h => by cases h) (by kernel_rfl) (fun _ h => by cases h) gravityNames_row_tie rfl ⟨rfl, rfl⟩ (by kernel_rfl) rfl
    (fun f fn hf hfn => by
      obtain rfl : f = 8 := Option.some.inj ((show Tryd.prog.funcNamed "glazier/glazierlaw16.GravityNames" = some 8 by kernel_rfl).symm.trans hf) |>.symm
      obtain rfl : fn = Tryd.f8 := (Option.some.inj (Tryd.func8.symm.trans hfn)).symm
      exact ⟨by kernel_rfl, fun j t ht => by
        rw [Tryd.params8] at ht
        have hm : t ∈ [3, 9] := by simpa using Array.mem_of_getElem? ht
        have hall : ([3, 9].all fun u => !Tryd.prog.wantsStandIn u) = true := by kernel_rfl
        exact (show Tryd.prog.wantsStandIn t = false by simpa using List.all_eq_true.1 hall t hm)⟩)
    (by kernel_rfl)

#print axioms gravityNames_holds
#print axioms gravityNames_card
end Go.Proofs.YtkcebadfgiknhaaDoor
