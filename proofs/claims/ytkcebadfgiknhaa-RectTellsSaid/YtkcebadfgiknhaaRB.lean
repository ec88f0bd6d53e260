/- The rows' common part. -/
import Derived.Test.YtkcebadfgiknhaaR5
import Derived.Test.YtkcebadfgiknhaaCore20
import Derived.Test.YtkcebadfgiknhaaRows
set_option linter.all false
namespace Go.Proofs.Ytkcebadfgiknhaa
open Go.ChangeShapes Go.WideShapes Go.ChangeAt Go.RowKit Go.Joins Go.AM

theorem Try.own : ownKnob Try.prog.godebug = none := by kernel_rfl
theorem Try.laidOut : laidOutB Try.prog = true := by kernel_rfl
theorem Try.cells23 : Try.prog.cellsOf 23 = 4 := by kernel_rfl

/-- A rectangle among the arguments. -/
theorem open_rect {H : Type} {enc : TypeId × Value → H} {W : World} {base b0 : Nat} {spare : Nat → Bool} {held : Bool} {r : Reach} {v : Value} {d : DataW H} {ps : List MemPlace} {K : Kn} (hv : Value.okWide Try.prog W r b0 23 v)
    (h : DataW.Trod enc Try.prog W base spare held 23 v d ps) : ∃ c : Rc, c.In ∧ Rep K pl0 (rD c) v := by
  obtain ⟨c0, c1, c2, c3, y0, y1, y2, y3, m, rfl, rfl, rfl, h0, h1, h2, h3⟩ := open_agg4 Try.underlying23 (by kernel_rfl) Try.cells23 hv h
  obtain ⟨a0, e0, rfl, w0⟩ := DataW.trod_int Try.underlying3 h0
  obtain ⟨a1, e1, rfl, w1⟩ := DataW.trod_int Try.underlying3 h1
  obtain ⟨a2, e2, rfl, w2⟩ := DataW.trod_int Try.underlying3 h2
  obtain ⟨a3, e3, rfl, w3⟩ := DataW.trod_int Try.underlying3 h3
  simp at e0 e1 e2 e3
  subst e0 e1 e2 e3
  refine ⟨⟨a0, a1, a2, a3⟩, ⟨fits_wf w0, fits_wf w1, fits_wf w2, fits_wf w3⟩, ?_⟩
  simp only [rD, Rep, RepL]
  exact ⟨[.int .i64 a0, .int .i64 a1, .int .i64 a2, .int .i64 a3], rfl, ⟨_, _, rfl, rfl, _, _, rfl, rfl, _, _, rfl, rfl, _, _, rfl, rfl, rfl⟩, by simp [Value.oneCell']⟩

end Go.Proofs.Ytkcebadfgiknhaa
