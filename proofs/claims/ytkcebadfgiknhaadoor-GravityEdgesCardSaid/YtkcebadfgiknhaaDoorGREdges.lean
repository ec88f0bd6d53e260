/- GravityEdges: the row, and its card. -/
import Derived.Test.YtkcebadfgiknhaaDoorG6
import Derived.Test.YtkcebadfgiknhaaDoorRBd
set_option linter.all false
namespace Go.Proofs.YtkcebadfgiknhaaDoor
open Go.ChangeShapes Go.WideShapes Go.ChangeAt Go.RowKit Go.Joins Go.AM

set_option maxRecDepth 100000 in
theorem gravityEdges_lifted (os : Os) (started : os.Started) (H : Type) (enc : TypeId × Value → H) :
    ReturnsInHanded {} Tryd.checked os 5 .any (fun w args => (Rows.gravityEdgesSpec.pre enc Tryd.prog Tryd.f5 Rows.gravityEdgesRow.domain false w args ∧ laidMetH Tryd.prog Rows.gravityEdgesRow.laid w) ∧ sizedMet enc Tryd.prog Tryd.f5 (OpenSpec.ofChange Rows.gravityEdgesSpec) false w args)
      (Rows.gravityEdgesSpec.post enc Tryd.prog Tryd.f5 false true false false) := by
  refine returnsInHanded_of_change_and (C := Tryd.checked) (X := fun w _ => laidMetH Tryd.prog Rows.gravityEdgesRow.laid w) (fun _ _ _ hh h => h.of_heap hh) Tryd.own started (by kernel_rfl) Tryd.func5
    (ChangeSpec.witness_shaped (enc := enc) (C := Tryd.checked) (os := os) (X := fun w _ => laidMetH Tryd.prog Rows.gravityEdgesRow.laid w) false (World.laidAll Tryd.prog os Rows.gravityEdgesRow.laid) #[.agg #[.int .i64 0, .int .i64 0, .int .i64 0, .int .i64 0], .agg #[.int .i64 0, .int .i64 0, .int .i64 0, .int .i64 0]] 8 (World.laidAll_os _ _ _)
      (World.shaped_of_ZipB (by kernel_rfl) (by kernel_rfl)) (by kernel_rfl) (by kernel_rfl) (by kernel_rfl)
      (by rw [MakeChecks.laidMetH_plain _ _ _ (by kernel_rfl)]; exact laidMet_laidAll _ (by kernel_rfl) (by kernel_rfl))) ?_
  intro W base args ds gs before hval0 hW hc _ hL _
  have hg : GlobOk gtab (K0 W) := glob_of_laid (by rw [MakeChecks.laidMetH_plain _ _ _ (by kernel_rfl)] at hL; exact hL) (by kernel_rfl)
  refine law_mid (n := 8) (gt := gtab) Tryd.laidOut (by kernel_rfl) (by kernel_rfl) rfl (by kernel_rfl) (Tryd.boolUnd) hval0 hW (fun h => ?_) hg (fun dl hdl => gravityEdges_law (by rw [Tryd.params5] at hdl; exact hdl))
  rw [show Tryd.f5.params.size = 2 by kernel_rfl] at h
  match ds, h with
  | [_, _], _ => rfl

theorem gravityEdges_holds : Rows.GravityEdgesSaid :=
  OpenClaim.holds_of_wide 5 Tryd.f5 rfl rfl rfl rfl rfl rfl rfl ⟨rfl, rfl, rfl, rfl, rfl⟩ rfl rfl rfl rfl rfl (by kernel_rfl) Tryd.func5 (by kernel_rfl)
    (of_decide_eq_true (by kernel_rfl)) (by unfold Func.isWrapper; first | (rw [if_pos (by decide +kernel)]; kernel_rfl) | (rw [if_neg (by decide +kernel)]; exact ⟨rfl, rfl⟩))
    (fun os started H enc _ => gravityEdges_lifted os started H enc)

theorem gravityEdges_card : Rows.GravityEdgesCardSaid :=
  Claim7.holds_tied_plain_at .later [] [.data, .data] true (true, "3010b521429e31a8502664bd9e7953d0877e431db8d40da22ad28cb32c9c9312") false gravityEdges_holds (fun _ h => by cases h) (by kernel_rfl) (fun _ h => by cases h) gravityEdges_row_tie rfl ⟨rfl, rfl⟩ (by kernel_rfl) rfl
    (fun f fn hf hfn => by
      obtain rfl : f = 5 := Option.some.inj ((show Tryd.prog.funcNamed "glazier/glazierlaw16.GravityEdges" = some 5 by kernel_rfl).symm.trans hf) |>.symm
      obtain rfl : fn = Tryd.f5 := (Option.some.inj (Tryd.func5.symm.trans hfn)).symm
      exact ⟨by kernel_rfl, fun j t ht => by
        rw [Tryd.params5] at ht
        have hm : t ∈ [23, 23] := by simpa using Array.mem_of_getElem? ht
        have hall : ([23, 23].all fun u => !Tryd.prog.wantsStandIn u) = true := by kernel_rfl
        exact (show Tryd.prog.wantsStandIn t = false by simpa using List.all_eq_true.1 hall t hm)⟩)
    (by kernel_rfl)

#print axioms gravityEdges_holds
#print axioms gravityEdges_card
end Go.Proofs.YtkcebadfgiknhaaDoor
