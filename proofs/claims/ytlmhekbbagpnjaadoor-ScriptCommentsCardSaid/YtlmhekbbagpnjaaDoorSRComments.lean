
/- ScriptComments: the row, and its card. -/
import Derived.Test.YtlmhekbbagpnjaaDoorS30
import Derived.Test.YtlmhekbbagpnjaaDoorRBd
set_option linter.all false
set_option maxRecDepth 100000
namespace Go.Proofs.YtlmhekbbagpnjaaDoor
open Go.ChangeShapes Go.WideShapes Go.ChangeAt Go.RowKit Go.Joins Go.AM

theorem scriptComments_lifted (os : Os) (started : os.Started) (H : Type) (enc : TypeId × Value → H) :
    ReturnsInHanded {} Tryd.checked os 6 .any (fun w args => (Rows.scriptCommentsSpec.pre enc Tryd.prog Tryd.f6 Rows.scriptCommentsRow.domain false w args ∧ laidMetH Tryd.prog Rows.scriptCommentsRow.laid w) ∧ sizedMet enc Tryd.prog Tryd.f6 (OpenSpec.ofChange Rows.scriptCommentsSpec) false w args)
      (Rows.scriptCommentsSpec.post enc Tryd.prog Tryd.f6 false true false false) := by
  refine returnsInHanded_of_change_and (C := Tryd.checked) (X := fun w _ => laidMetH Tryd.prog Rows.scriptCommentsRow.laid w) (fun _ _ _ hh h => h.of_heap hh) Tryd.own started (by kernel_rfl) Tryd.func6
    (ChangeSpec.witness_shaped (enc := enc) (C := Tryd.checked) (os := os) (X := fun w _ => laidMetH Tryd.prog Rows.scriptCommentsRow.laid w) false (World.laidAll Tryd.prog os Rows.scriptCommentsRow.laid) #[.string ⟨#[]⟩, .string ⟨#[]⟩, .int .u8 0, .int .u8 0] 8 (World.laidAll_os _ _ _)
      (World.shaped_of_ZipB (by kernel_rfl) (by kernel_rfl)) (by kernel_rfl) (by kernel_rfl) (by kernel_rfl)
      (by rw [MakeChecks.laidMetH_plain _ _ _ (by kernel_rfl)]; exact laidMet_laidAll _ (by kernel_rfl) (by kernel_rfl))) ?_
  intro W base args ds gs before hval0 hW hc _ hL _
  have hg : GlobOk gtab (K0 W) := glob4 (by rw [MakeChecks.laidMetH_plain _ _ _ (by kernel_rfl)] at hL; exact hL) (fun x hx => by
    simp only [laid4, List.mem_cons, List.not_mem_nil, or_false] at hx
    rcases hx with rfl | rfl | rfl | rfl <;> simp [Rows.scriptCommentsRow])
  refine law_mid (n := 8) (gt := gtab) Tryd.laidOut (by kernel_rfl) (by kernel_rfl) rfl (by kernel_rfl) (Tryd.boolUnd) hval0 hW (fun h => ?_) hg (fun dl hdl => scriptComments_law (by rw [Tryd.params6] at hdl; exact hdl))
  rw [show Tryd.f6.params.size = 4 by kernel_rfl] at h
  match ds, h with
  | [_, _, _, _], _ => rfl

theorem scriptComments_holds : Rows.ScriptCommentsSaid :=
  OpenClaim.holds_of_wide 6 Tryd.f6 rfl rfl rfl rfl rfl rfl rfl ⟨rfl, rfl, rfl, rfl, rfl⟩ rfl rfl rfl rfl rfl (by kernel_rfl) Tryd.func6 (by kernel_rfl)
    (of_decide_eq_true (by kernel_rfl)) (by unfold Func.isWrapper; first | (rw [if_pos (by decide +kernel)]; kernel_rfl) | (rw [if_neg (by decide +kernel)]; exact ⟨rfl, rfl⟩))
    (fun os started H enc _ => scriptComments_lifted os started H enc)

theorem scriptComments_card : Rows.ScriptCommentsCardSaid :=
  Claim7.holds_tied_plain_at .later [] [.data, .data, .data, .data, .sentinel, .sentinel, .data, .pinned] true (true, "36271fbcba777df0017dfe7dfdf478f157f09cd12fd0972fafe297c4b8048f2b") true scriptComments_holds (fun _ h => by cases h) (by kernel_rfl) (fun _ h => by cases h) scriptComments_row_tie rfl ⟨rfl, rfl⟩ (by kernel_rfl) rfl
    (fun f fn hf hfn => by
      obtain rfl : f = 6 := Option.some.inj ((show Tryd.prog.funcNamed "glazier/glazierlaw63.ScriptComments" = some 6 by kernel_rfl).symm.trans hf) |>.symm
      obtain rfl : fn = Tryd.f6 := (Option.some.inj (Tryd.func6.symm.trans hfn)).symm
      exact ⟨by kernel_rfl, fun j t ht => by
        rw [Tryd.params6] at ht
        have hm : t ∈ [9, 9, 5, 5] := by simpa using Array.mem_of_getElem? ht
        have hall : ([9, 9, 5, 5].all fun u => !Tryd.prog.wantsStandIn u) = true := by kernel_rfl
        exact (show Tryd.prog.wantsStandIn t = false by simpa using List.all_eq_true.1 hall t hm)⟩)
    (by kernel_rfl)

#print axioms scriptComments_holds
#print axioms scriptComments_card
end Go.Proofs.YtlmhekbbagpnjaaDoor
