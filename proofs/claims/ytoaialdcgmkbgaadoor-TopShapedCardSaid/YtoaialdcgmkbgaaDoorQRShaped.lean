
/- TopShaped: any region within a window, told as bits, turned about and grown, is as the law says, whatever the input: the row, and its card. -/
import Derived.Test.YtoaialdcgmkbgaaDoorQ14
set_option linter.all false
set_option maxRecDepth 100000
namespace Go.Proofs.YtoaialdcgmkbgaaDoor
open Go.ChangeShapes Go.WideShapes Go.ChangeAt Go.RowKit Go.Joins Go.AM

theorem topShaped_lifted (os : Os) (started : os.Started) (H : Type) (enc : TypeId × Value → H) :
    ReturnsInHanded {} Tryd.checked os 3 .any (fun w args => (Rows.topShapedSpec.pre enc Tryd.prog Tryd.f3 Rows.topShapedRow.domain false w args ∧ laidMetH Tryd.prog Rows.topShapedRow.laid w) ∧ sizedMet enc Tryd.prog Tryd.f3 (OpenSpec.ofChange Rows.topShapedSpec) false w args)
      (Rows.topShapedSpec.post enc Tryd.prog Tryd.f3 false true false false) := by
  refine returnsInHanded_of_change_and (C := Tryd.checked) (X := fun w _ => laidMetH Tryd.prog Rows.topShapedRow.laid w) (fun _ _ _ hh h => h.of_heap hh) Tryd.own started (by kernel_rfl) Tryd.func3
    (ChangeSpec.witness_shaped (enc := enc) (C := Tryd.checked) (os := os) (X := fun w _ => laidMetH Tryd.prog Rows.topShapedRow.laid w) false (World.laidAll Tryd.prog os Rows.topShapedRow.laid) #[.slice none 0 0, .int .u8 0, .int .u8 0, .bool false] 8 (World.laidAll_os _ _ _)
      (World.shaped_of_ZipB (by kernel_rfl) (by kernel_rfl)) (by kernel_rfl) (by kernel_rfl) (by kernel_rfl)
      (by rw [MakeChecks.laidMetH_plain _ _ _ (by kernel_rfl)]; exact laidMet_laidAll _ (by kernel_rfl) (by kernel_rfl))) ?_
  intro W base args ds gs before hval0 hW hc _ hL _
  have hg : GlobOk gtab (K0 W) := glob_of_laid (by rw [MakeChecks.laidMetH_plain _ _ _ (by kernel_rfl)] at hL; exact hL) (by kernel_rfl)
  refine law_mid (n := 8) (gt := gtab) Tryd.laidOut (by kernel_rfl) (by kernel_rfl) rfl (by kernel_rfl) (Tryd.boolUnd) hval0 hW (fun h => ?_) hg (fun dl hdl => topShaped_law (by rw [Tryd.params3] at hdl; exact hdl))
  rw [show Tryd.f3.params.size = 4 by kernel_rfl] at h
  match ds, h with
  | [_, _, _, _], _ => rfl

theorem topShaped_holds : Rows.TopShapedSaid :=
  OpenClaim.holds_of_wide 3 Tryd.f3 rfl rfl rfl rfl rfl rfl rfl ⟨rfl, rfl, rfl, rfl, rfl⟩ rfl rfl rfl rfl rfl (by kernel_rfl) Tryd.func3 (by kernel_rfl)
    (of_decide_eq_true (by kernel_rfl)) (by unfold Func.isWrapper; first | (rw [if_pos (by decide +kernel)]; kernel_rfl) | (rw [if_neg (by decide +kernel)]; exact ⟨rfl, rfl⟩))
    (fun os started H enc _ => topShaped_lifted os started H enc)

theorem topShaped_card : Rows.TopShapedCardSaid :=
  Claim7.holds_tied_plain_at .later [] [.data] true (true, "630e8ffa8b5a2cd71cfcf76380ff3d703d81e0c6c7f1a6a9dabc78f70bef7fbd") false topShaped_holds (fun _ h => by cases h) (by kernel_rfl) (fun _ h => by cases h) topShaped_row_tie rfl ⟨rfl, rfl⟩ (by kernel_rfl) rfl
    (fun f fn hf hfn => by
      obtain rfl : f = 3 := Option.some.inj ((show Tryd.prog.funcNamed "glazier/glaziertop.TopShaped" = some 3 by kernel_rfl).symm.trans hf) |>.symm
      obtain rfl : fn = Tryd.f3 := (Option.some.inj (Tryd.func3.symm.trans hfn)).symm
      exact ⟨by kernel_rfl, fun j t ht => by
        rw [Tryd.params3] at ht
        have hm : t ∈ [22, 5, 5, 4] := by simpa using Array.mem_of_getElem? ht
        have hall : ([22, 5, 5, 4].all fun u => !Tryd.prog.wantsStandIn u) = true := by kernel_rfl
        exact (show Tryd.prog.wantsStandIn t = false by simpa using List.all_eq_true.1 hall t hm)⟩)
    (by kernel_rfl)

#print axioms topShaped_holds
#print axioms topShaped_card
end Go.Proofs.YtoaialdcgmkbgaaDoor
