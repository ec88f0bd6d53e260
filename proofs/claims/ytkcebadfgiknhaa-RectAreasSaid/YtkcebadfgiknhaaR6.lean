/- RectAreas: the row. -/
import Derived.Test.YtkcebadfgiknhaaR5
import Derived.Test.YtkcebadfgiknhaaCore20
import Derived.Test.YtkcebadfgiknhaaRows
set_option linter.all false
namespace Go.Proofs.Ytkcebadfgiknhaa
open Go.ChangeShapes Go.WideShapes Go.ChangeAt Go.RowKit Go.Joins Go.AM

theorem Try.own : ownKnob Try.prog.godebug = none := by kernel_rfl
theorem Try.laidOut : laidOutB Try.prog = true := by kernel_rfl
theorem Try.cells23 : Try.prog.cellsOf 23 = 4 := by kernel_rfl

/-- A rectangle among the arguments. -/
theorem open_rect {H : Type} {enc : TypeId × Value → H} {W : World} {base b0 : Nat} {spare : Nat → Bool} {held : Bool} {r : Reach} {v : Value} {d : DataW H} {ps : List MemPlace} {K : Kn} (hv : Value.okWide Try.prog W r b0 23 v)
    (h : DataW.Trod enc Try.prog W base spare held 23 v d ps) : ∃ c : Rc, c.In ∧ Rep K pl0 (rD c) v := by
  obtain ⟨c0, c1, c2, c3, y0, y1, y2, y3, m, rfl, rfl, rfl, h0, h1, h2, h3⟩ := open_agg4 Try.underlying23 (by kernel_rfl) Try.cells23 hv h
  obtain ⟨a0, e0, rfl, w0⟩ := DataW.trod_int Try.underlying3 h0
  obtain ⟨a1, e1, rfl, w1⟩ := DataW.trod_int Try.underlying3 h1
  obtain ⟨a2, e2, rfl, w2⟩ := DataW.trod_int Try.underlying3 h2
  obtain ⟨a3, e3, rfl, w3⟩ := DataW.trod_int Try.underlying3 h3
  simp at e0 e1 e2 e3
  subst e0 e1 e2 e3
  refine ⟨⟨a0, a1, a2, a3⟩, ⟨fits_wf w0, fits_wf w1, fits_wf w2, fits_wf w3⟩, ?_⟩
  simp only [rD, Rep, RepL]
  exact ⟨[.int .i64 a0, .int .i64 a1, .int .i64 a2, .int .i64 a3], rfl, ⟨_, _, rfl, rfl, _, _, rfl, rfl, _, _, rfl, rfl, _, _, rfl, rfl, rfl⟩, by simp [Value.oneCell']⟩

theorem rectAreas_lifted (os : Os) (started : os.Started) (H : Type) (enc : TypeId × Value → H) :
    ReturnsInHanded {} Try.checked os 3 .any (Rows.rectAreasSpec.pre6 enc Try.prog Try.f3 Rows.rectAreasRow.domain false) (Rows.rectAreasSpec.post enc Try.prog Try.f3 false true false false) := by
  refine returnsInHanded_of_change (C := Try.checked) Try.own started (by kernel_rfl) Try.func3
    (ChangeSpec.witness6 (enc := enc) (C := Try.checked) false ⟨#[], #[.agg #[.int .i64 0, .int .i64 0, .int .i64 0, .int .i64 0], .agg #[.int .i64 0, .int .i64 0, .int .i64 0, .int .i64 0]], []⟩ 8 (by kernel_rfl) (by kernel_rfl) (by kernel_rfl) (by kernel_rfl)) ?_
  intro W base args ds gs before hval0 hW hcnd _
  have hval : ∀ (j : Nat) t v, Try.f3.params[j]? = some t → args[j]? = some v → Value.okWide Try.prog W .any base t v := hval0
  have hW' := hW
  obtain ⟨p, q, hA0, hV, rfl, hfz, hnd⟩ := hW
  have hA : DataW.TrodAll enc Try.prog W 0 (fun _ => true) true Try.f3.params.toList args.toList ds p := hA0
  rw [Try.params3] at hA hval
  obtain ⟨v0, v1, d0, d1, p0, p1, rfl, rfl, rfl, h0, h1⟩ := trodAll_two hA
  obtain ⟨a, ha, ra⟩ := open_rect (K := K0 W) (hval 0 23 v0 rfl rfl) h0
  obtain ⟨b, hb, rb⟩ := open_rect (K := K0 W) (hval 1 23 v1 rfl rfl) h1
  refine (calls_law (sp3 ha hb) (by simp only [RepL]; exact ⟨_, _, rfl, ra, _, _, rfl, rb, rfl⟩)).mono fun e W' ⟨he, hw⟩ => ?_
  subst he
  exact ⟨_, rfl, law_post Try.laidOut (by kernel_rfl) rfl (by kernel_rfl) Try.underlying4 hW' rfl hw⟩

theorem rectAreas_holds : Rows.RectAreasSaid :=
  OpenClaim.holds_of_wide 3 Try.f3 rfl rfl rfl rfl rfl rfl rfl ⟨rfl, rfl, rfl, rfl, rfl⟩ rfl rfl rfl rfl rfl (by kernel_rfl) Try.func3 (by kernel_rfl)
    (of_decide_eq_true (by kernel_rfl)) (by unfold Func.isWrapper; first | (rw [if_pos (by decide +kernel)]; kernel_rfl) | (rw [if_neg (by decide +kernel)]; exact ⟨rfl, rfl⟩))
    (fun os started H enc _ => rectAreas_lifted os started H enc)

#print axioms rectAreas_holds
end Go.Proofs.Ytkcebadfgiknhaa
