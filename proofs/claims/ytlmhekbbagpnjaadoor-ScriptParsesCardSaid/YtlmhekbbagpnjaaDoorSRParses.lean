
/- ScriptParses: the row, and its card. -/
import Derived.Test.YtlmhekbbagpnjaaDoorS26
import Derived.Test.YtlmhekbbagpnjaaDoorRBd
set_option linter.all false
set_option maxRecDepth 100000
namespace Go.Proofs.YtlmhekbbagpnjaaDoor
open Go.ChangeShapes Go.WideShapes Go.ChangeAt Go.RowKit Go.Joins Go.AM

theorem scriptParses_lifted (os : Os) (started : os.Started) (H : Type) (enc : TypeId × Value → H) :
    ReturnsInHanded {} Tryd.checked os 3 .any (fun w args => (Rows.scriptParsesSpec.pre enc Tryd.prog Tryd.f3 Rows.scriptParsesRow.domain false w args ∧ laidMetH Tryd.prog Rows.scriptParsesRow.laid w) ∧ sizedMet enc Tryd.prog Tryd.f3 (OpenSpec.ofChange Rows.scriptParsesSpec) false w args)
      (Rows.scriptParsesSpec.post enc Tryd.prog Tryd.f3 false true false false) := by
  refine returnsInHanded_of_change_and (C := Tryd.checked) (X := fun w _ => laidMetH Tryd.prog Rows.scriptParsesRow.laid w) (fun _ _ _ hh h => h.of_heap hh) Tryd.own started (by kernel_rfl) Tryd.func3
    (ChangeSpec.witness_shaped (enc := enc) (C := Tryd.checked) (os := os) (X := fun w _ => laidMetH Tryd.prog Rows.scriptParsesRow.laid w) false (World.laidAll Tryd.prog os Rows.scriptParsesRow.laid) #[.string ⟨#[]⟩] 8 (World.laidAll_os _ _ _)
      (World.shaped_of_ZipB (by kernel_rfl) (by kernel_rfl)) (by kernel_rfl) (by kernel_rfl) (by kernel_rfl)
      (by rw [MakeChecks.laidMetH_plain _ _ _ (by kernel_rfl)]; exact laidMet_laidAll _ (by kernel_rfl) (by kernel_rfl))) ?_
  intro W base args ds gs before hval0 hW hc _ hL _
  have hg : GlobOk gtab (K0 W) := glob4 (by rw [MakeChecks.laidMetH_plain _ _ _ (by kernel_rfl)] at hL; exact hL) (fun x hx => by
    simp only [laid4, List.mem_cons, List.not_mem_nil, or_false] at hx
    rcases hx with rfl | rfl | rfl | rfl <;> simp [Rows.scriptParsesRow])
  refine law_mid (n := 8) (gt := gtab) Tryd.laidOut (by kernel_rfl) (by kernel_rfl) rfl (by kernel_rfl) (Tryd.boolUnd) hval0 hW (fun h => ?_) hg (fun dl hdl => scriptParses_law (by rw [Tryd.params3] at hdl; exact hdl))
  rw [show Tryd.f3.params.size = 1 by kernel_rfl] at h
  match ds, h with
  | [_], _ => rfl

theorem scriptParses_holds : Rows.ScriptParsesSaid :=
  OpenClaim.holds_of_wide 3 Tryd.f3 rfl rfl rfl rfl rfl rfl rfl ⟨rfl, rfl, rfl, rfl, rfl⟩ rfl rfl rfl rfl rfl (by kernel_rfl) Tryd.func3 (by kernel_rfl)
    (of_decide_eq_true (by kernel_rfl)) (by unfold Func.isWrapper; first | (rw [if_pos (by decide +kernel)]; kernel_rfl) | (rw [if_neg (by decide +kernel)]; exact ⟨rfl, rfl⟩))
    (fun os started H enc _ => scriptParses_lifted os started H enc)

theorem scriptParses_card : Rows.ScriptParsesCardSaid :=
  Claim7.holds_tied_plain_at .later [] [.data, .data, .data, .data, .sentinel, .sentinel, .data, .pinned] true (true, "36271fbcba777df0017dfe7dfdf478f157f09cd12fd0972fafe297c4b8048f2b") true scriptParses_holds (fun _ h => by cases h) (by kernel_rfl) (fun _ h => by cases h) scriptParses_row_tie rfl ⟨rfl, rfl⟩ (by kernel_rfl) rfl
    (fun f fn hf hfn => by
      obtain rfl : f = 3 := Option.some.inj ((show Tryd.prog.funcNamed "glazier/glazierlaw63.ScriptParses" = some 3 by kernel_rfl).symm.trans hf) |>.symm
      obtain rfl : fn = Tryd.f3 := (Option.some.inj (Tryd.func3.symm.trans hfn)).symm
      exact ⟨by kernel_rfl, fun j t ht => by
        rw [Tryd.params3] at ht
        have hm : t ∈ [9] := by simpa using Array.mem_of_getElem? ht
        have hall : ([9].all fun u => !Tryd.prog.wantsStandIn u) = true := by kernel_rfl
        exact (show Tryd.prog.wantsStandIn t = false by simpa using List.all_eq_true.1 hall t hm)⟩)
    (by kernel_rfl)

#print axioms scriptParses_holds
#print axioms scriptParses_card
end Go.Proofs.YtlmhekbbagpnjaaDoor
