/- RectTells: the row. -/
import Derived.Test.YtkcebadfgiknhaaR10
import Derived.Test.YtkcebadfgiknhaaRB
set_option linter.all false
namespace Go.Proofs.Ytkcebadfgiknhaa
open Go.ChangeShapes Go.WideShapes Go.ChangeAt Go.RowKit Go.Joins Go.AM

theorem rectTells_lifted (os : Os) (started : os.Started) (H : Type) (enc : TypeId × Value → H) :
    ReturnsInHanded {} Try.checked os 6 .any (Rows.rectTellsSpec.pre6 enc Try.prog Try.f6 Rows.rectTellsRow.domain false) (Rows.rectTellsSpec.post enc Try.prog Try.f6 false true false false) := by
  refine returnsInHanded_of_change (C := Try.checked) Try.own started (by kernel_rfl) Try.func6
    (ChangeSpec.witness6 (enc := enc) (C := Try.checked) false ⟨#[], #[.agg #[.int .i64 0, .int .i64 0, .int .i64 0, .int .i64 0], .agg #[.int .i64 0, .int .i64 0, .int .i64 0, .int .i64 0], .int .i64 0, .int .i64 0], []⟩ 8 (by kernel_rfl) (by kernel_rfl) (by kernel_rfl) (by kernel_rfl)) ?_
  intro W base args ds gs before hval0 hW hcnd _
  have hval : ∀ (j : Nat) t v, Try.f6.params[j]? = some t → args[j]? = some v → Value.okWide Try.prog W .any base t v := hval0
  have hW' := hW
  obtain ⟨p, q, hA0, hV, rfl, hfz, hnd⟩ := hW
  obtain ⟨al, rfl⟩ : ∃ l : List Value, args = l.toArray := ⟨args.toList, by simp⟩
  have hA : DataW.TrodAll enc Try.prog W 0 (fun _ => true) true Try.f6.params.toList al ds p := hA0
  rw [Try.params6] at hA hval
  obtain ⟨v0, vs0, d0, ds0, a0, b0, rfl, rfl, rfl, h0, hA⟩ := trodAll_cons hA
  obtain ⟨v1, vs1, d1, ds1, a1, b1, rfl, rfl, rfl, h1, hA⟩ := trodAll_cons hA
  obtain ⟨v2, vs2, d2, ds2, a2, b2, rfl, rfl, rfl, h2, hA⟩ := trodAll_cons hA
  obtain ⟨v3, vs3, d3, ds3, a3, b3, rfl, rfl, rfl, h3, hA⟩ := trodAll_cons hA
  obtain ⟨rfl, rfl, rfl⟩ := trodAll_nil hA
  obtain ⟨c0, f0, r0⟩ := open_rect (K := K0 W) (hval 0 23 v0 rfl rfl) h0
  obtain ⟨c1, f1, r1⟩ := open_rect (K := K0 W) (hval 1 23 v1 rfl rfl) h1
  obtain ⟨c2, rfl, rfl, rfl, w2⟩ := open_int Try.underlying3 (hval 2 3 v2 rfl rfl) h2
  have f2 := fits_wf w2
  have r2 : Rep (K0 W) pl0 (.int .i64 c2) (.int .i64 c2) := by simp only [Rep]
  obtain ⟨c3, rfl, rfl, rfl, w3⟩ := open_int Try.underlying3 (hval 3 3 v3 rfl rfl) h3
  have f3 := fits_wf w3
  have r3 : Rep (K0 W) pl0 (.int .i64 c3) (.int .i64 c3) := by simp only [Rep]
  refine (calls_law (sp6 (x := c2) (y := c3) f0 f1) (by simp only [RepL]; exact ⟨_, _, rfl, r0, _, _, rfl, r1, _, _, rfl, r2, _, _, rfl, r3, rfl⟩)).mono fun e W' ⟨he, hw⟩ => ?_
  subst he
  exact ⟨_, rfl, law_post Try.laidOut (by kernel_rfl) rfl (by kernel_rfl) Try.underlying4 hW' rfl hw⟩

theorem rectTells_holds : Rows.RectTellsSaid :=
  OpenClaim.holds_of_wide 6 Try.f6 rfl rfl rfl rfl rfl rfl rfl ⟨rfl, rfl, rfl, rfl, rfl⟩ rfl rfl rfl rfl rfl (by kernel_rfl) Try.func6 (by kernel_rfl)
    (of_decide_eq_true (by kernel_rfl)) (by unfold Func.isWrapper; first | (rw [if_pos (by decide +kernel)]; kernel_rfl) | (rw [if_neg (by decide +kernel)]; exact ⟨rfl, rfl⟩))
    (fun os started H enc _ => rectTells_lifted os started H enc)

#print axioms rectTells_holds
end Go.Proofs.Ytkcebadfgiknhaa
