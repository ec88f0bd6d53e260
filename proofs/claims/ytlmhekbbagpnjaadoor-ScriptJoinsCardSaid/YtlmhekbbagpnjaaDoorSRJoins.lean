
/- ScriptJoins: the row, and its card. -/
import Derived.Test.YtlmhekbbagpnjaaDoorS35
import Derived.Test.YtlmhekbbagpnjaaDoorRBd
set_option linter.all false
set_option maxRecDepth 100000
namespace Go.Proofs.YtlmhekbbagpnjaaDoor
open Go.ChangeShapes Go.WideShapes Go.ChangeAt Go.RowKit Go.Joins Go.AM

theorem scriptJoins_lifted (os : Os) (started : os.Started) (H : Type) (enc : TypeId × Value → H) :
    ReturnsInHanded {} Tryd.checked os 8 .any (fun w args => (Rows.scriptJoinsSpec.pre enc Tryd.prog Tryd.f8 Rows.scriptJoinsRow.domain false w args ∧ laidMetH Tryd.prog Rows.scriptJoinsRow.laid w) ∧ sizedMet enc Tryd.prog Tryd.f8 (OpenSpec.ofChange Rows.scriptJoinsSpec) false w args)
      (Rows.scriptJoinsSpec.post enc Tryd.prog Tryd.f8 false true false false) := by
  refine returnsInHanded_of_change_and (C := Tryd.checked) (X := fun w _ => laidMetH Tryd.prog Rows.scriptJoinsRow.laid w) (fun _ _ _ hh h => h.of_heap hh) Tryd.own started (by kernel_rfl) Tryd.func8
    (ChangeSpec.witness_shaped (enc := enc) (C := Tryd.checked) (os := os) (X := fun w _ => laidMetH Tryd.prog Rows.scriptJoinsRow.laid w) false (World.laidAll Tryd.prog os Rows.scriptJoinsRow.laid) #[.slice none 0 0, .slice none 0 0] 8 (World.laidAll_os _ _ _)
      (World.shaped_of_ZipB (by kernel_rfl) (by kernel_rfl)) (by kernel_rfl) (by kernel_rfl) (by kernel_rfl)
      (by rw [MakeChecks.laidMetH_plain _ _ _ (by kernel_rfl)]; exact laidMet_laidAll _ (by kernel_rfl) (by kernel_rfl))) ?_
  intro W base args ds gs before hval0 hW hc hsz hL _
  have hg : GlobOk gtab (K0 W) := glob4 (by rw [MakeChecks.laidMetH_plain _ _ _ (by kernel_rfl)] at hL; exact hL) (fun x hx => by
    simp only [laid4, List.mem_cons, List.not_mem_nil, or_false] at hx
    rcases hx with rfl | rfl | rfl | rfl <;> simp [Rows.scriptJoinsRow])
  refine law_midL (n := 8) (gt := gtab) Tryd.laidOut (by kernel_rfl) (by kernel_rfl) rfl (by kernel_rfl) (Tryd.boolUnd) hval0 hW (fun h => ?_) hsz hg (fun dl hdl hlb => scriptJoins_law (by rw [Tryd.params8] at hdl; exact hdl) (by rw [Tryd.params8] at hlb; exact hlb))
  rw [show Tryd.f8.params.size = 2 by kernel_rfl] at h
  match ds, h with
  | [_, _], _ => rfl

theorem scriptJoins_holds : Rows.ScriptJoinsSaid :=
  OpenClaim.holds_of_wide 8 Tryd.f8 rfl rfl rfl rfl rfl rfl rfl ⟨rfl, rfl, rfl, rfl, rfl⟩ rfl rfl rfl rfl rfl (by kernel_rfl) Tryd.func8 (by kernel_rfl)
    (of_decide_eq_true (by kernel_rfl)) (by unfold Func.isWrapper; first | (rw [if_pos (by decide +kernel)]; kernel_rfl) | (rw [if_neg (by decide +kernel)]; exact ⟨rfl, rfl⟩))
    (fun os started H enc _ => scriptJoins_lifted os started H enc)

theorem scriptJoins_card : Rows.ScriptJoinsCardSaid :=
  Claim7.holds_tied_plain_at .later [] [.data, .data, .data, .data, .sentinel, .sentinel, .data, .pinned] true (true, "36271fbcba777df0017dfe7dfdf478f157f09cd12fd0972fafe297c4b8048f2b") true scriptJoins_holds (fun _ h => by cases h) (by kernel_rfl) (fun _ h => by cases h) scriptJoins_row_tie rfl ⟨rfl, rfl⟩ (by kernel_rfl) rfl
    (fun f fn hf hfn => by
      obtain rfl : f = 8 := Option.some.inj ((show Tryd.prog.funcNamed "glazier/glazierlaw63.ScriptJoins" = some 8 by kernel_rfl).symm.trans hf) |>.symm
      obtain rfl : fn = Tryd.f8 := (Option.some.inj (Tryd.func8.symm.trans hfn)).symm
      exact ⟨by kernel_rfl, fun j t ht => by
        rw [Tryd.params8] at ht
        have hm : t ∈ [23, 23] := by simpa using Array.mem_of_getElem? ht
        have hall : ([23, 23].all fun u => !Tryd.prog.wantsStandIn u) = true := by kernel_rfl
        exact (show Tryd.prog.wantsStandIn t = false by simpa using List.all_eq_true.1 hall t hm)⟩)
    (by kernel_rfl)

#print axioms scriptJoins_holds
#print axioms scriptJoins_card
end Go.Proofs.YtlmhekbbagpnjaaDoor
