/- RectThere: the row. -/
import Derived.Test.YtkcebadfgiknhaaR7
import Derived.Test.YtkcebadfgiknhaaRB
set_option linter.all false
namespace Go.Proofs.Ytkcebadfgiknhaa
open Go.ChangeShapes Go.WideShapes Go.ChangeAt Go.RowKit Go.Joins Go.AM

theorem rectThere_lifted (os : Os) (started : os.Started) (H : Type) (enc : TypeId × Value → H) :
    ReturnsInHanded {} Try.checked os 8 .any (Rows.rectThereSpec.pre6 enc Try.prog Try.f8 Rows.rectThereRow.domain false) (Rows.rectThereSpec.post enc Try.prog Try.f8 false true false false) := by
  refine returnsInHanded_of_change (C := Try.checked) Try.own started (by kernel_rfl) Try.func8
    (ChangeSpec.witness6 (enc := enc) (C := Try.checked) false ⟨#[], #[.agg #[.int .i64 0, .int .i64 0, .int .i64 0, .int .i64 0], .int .i16 0, .int .i16 0, .int .i32 0, .int .i32 0], []⟩ 8 (by kernel_rfl) (by kernel_rfl) (by kernel_rfl) (by kernel_rfl)) ?_
  intro W base args ds gs before hval0 hW hcnd _
  have hval : ∀ (j : Nat) t v, Try.f8.params[j]? = some t → args[j]? = some v → Value.okWide Try.prog W .any base t v := hval0
  have hW' := hW
  obtain ⟨p, q, hA0, hV, rfl, hfz, hnd⟩ := hW
  obtain ⟨al, rfl⟩ : ∃ l : List Value, args = l.toArray := ⟨args.toList, by simp⟩
  have hA : DataW.TrodAll enc Try.prog W 0 (fun _ => true) true Try.f8.params.toList al ds p := hA0
  rw [Try.params8] at hA hval
  obtain ⟨v0, vs0, d0, ds0, a0, b0, rfl, rfl, rfl, h0, hA⟩ := trodAll_cons hA
  obtain ⟨v1, vs1, d1, ds1, a1, b1, rfl, rfl, rfl, h1, hA⟩ := trodAll_cons hA
  obtain ⟨v2, vs2, d2, ds2, a2, b2, rfl, rfl, rfl, h2, hA⟩ := trodAll_cons hA
  obtain ⟨v3, vs3, d3, ds3, a3, b3, rfl, rfl, rfl, h3, hA⟩ := trodAll_cons hA
  obtain ⟨v4, vs4, d4, ds4, a4, b4, rfl, rfl, rfl, h4, hA⟩ := trodAll_cons hA
  obtain ⟨rfl, rfl, rfl⟩ := trodAll_nil hA
  obtain ⟨c0, f0, r0⟩ := open_rect (K := K0 W) (hval 0 23 v0 rfl rfl) h0
  obtain ⟨c1, rfl, rfl, rfl, w1⟩ := open_int Try.underlying42 (hval 1 42 v1 rfl rfl) h1
  have f1 := fits_wf w1
  have r1 : Rep (K0 W) pl0 (.int .i16 c1) (.int .i16 c1) := by simp only [Rep]
  obtain ⟨c2, rfl, rfl, rfl, w2⟩ := open_int Try.underlying42 (hval 2 42 v2 rfl rfl) h2
  have f2 := fits_wf w2
  have r2 : Rep (K0 W) pl0 (.int .i16 c2) (.int .i16 c2) := by simp only [Rep]
  obtain ⟨c3, rfl, rfl, rfl, w3⟩ := open_int Try.underlying21 (hval 3 21 v3 rfl rfl) h3
  have f3 := fits_wf w3
  have r3 : Rep (K0 W) pl0 (.int .i32 c3) (.int .i32 c3) := by simp only [Rep]
  obtain ⟨c4, rfl, rfl, rfl, w4⟩ := open_int Try.underlying21 (hval 4 21 v4 rfl rfl) h4
  have f4 := fits_wf w4
  have r4 : Rep (K0 W) pl0 (.int .i32 c4) (.int .i32 c4) := by simp only [Rep]
  refine (calls_law (sp8 f0 f1 f2 f3 f4) (by simp only [RepL]; exact ⟨_, _, rfl, r0, _, _, rfl, r1, _, _, rfl, r2, _, _, rfl, r3, _, _, rfl, r4, rfl⟩)).mono fun e W' ⟨he, hw⟩ => ?_
  subst he
  exact ⟨_, rfl, law_post Try.laidOut (by kernel_rfl) rfl (by kernel_rfl) Try.underlying4 hW' rfl hw⟩

theorem rectThere_holds : Rows.RectThereSaid :=
  OpenClaim.holds_of_wide 8 Try.f8 rfl rfl rfl rfl rfl rfl rfl ⟨rfl, rfl, rfl, rfl, rfl⟩ rfl rfl rfl rfl rfl (by kernel_rfl) Try.func8 (by kernel_rfl)
    (of_decide_eq_true (by kernel_rfl)) (by unfold Func.isWrapper; first | (rw [if_pos (by decide +kernel)]; kernel_rfl) | (rw [if_neg (by decide +kernel)]; exact ⟨rfl, rfl⟩))
    (fun os started H enc _ => rectThere_lifted os started H enc)

#print axioms rectThere_holds
end Go.Proofs.Ytkcebadfgiknhaa
