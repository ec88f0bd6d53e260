
/- RectThere. -/
import Derived.Test.YtnjmjiajbgdnlaaR5
set_option linter.all false
namespace Go.AM
open Go Go.Proofs

theorem has_iff {r : Rc} {x y : Int} : hasB r x y = true ↔ Vr r ∧ r.x ≤ x ∧ x < r.x + r.w ∧ r.y ≤ y ∧ y < r.y + r.h := by
  unfold hasB
  simp only [Bool.and_eq_true, decide_eq_true_eq, and_assoc]
  rcases right_vz r with h | h
  · rw [h]
    have : ¬ Vr r := fun hv => by rw [right_of (.inr hv)] at h; exact hv.ne h
    simp only [this, false_and, iff_false, Rc.o]
    omega
  · have hv : Vr r := by
      cases ho : okB r with
      | true => have := right_of (okB_iff.1 ho); rwa [this] at h
      | false => unfold rightR at h; rw [ho] at h; exact absurd rfl h.ne
    rw [right_of (.inr hv)]
    simp only [hv, true_and]

theorem shift_vz (r : Rc) (dx dy : Int) : Vz (shiftR r dx dy) := by
  unfold shiftR; split
  · exact .inl rfl
  · exact right_vz _

/-- Moved there, and right: so was it before. -/
theorem shift_of {r : Rc} {dx dy : Int} (h : Vr (shiftR r dx dy)) : Vr r ∧ shiftR r dx dy = ⟨r.x + dx, r.y + dy, r.w, r.h⟩ ∧ Vr ⟨r.x + dx, r.y + dy, r.w, r.h⟩ ∧ -2097152 ≤ dx ∧ dx ≤ 2097152 ∧ -2097152 ≤ dy ∧ dy ≤ 2097152 := by
  unfold shiftR at h ⊢
  split at h
  · exact absurd rfl h.ne
  · rename_i hc
    rw [if_neg hc]
    simp only [Bool.or_eq_true, decide_eq_true_eq, not_or, Bool.not_eq_true, empty_iff] at hc
    have : Vr ⟨r.x + dx, r.y + dy, r.w, r.h⟩ := by
      rcases okB_iff.1 (show okB ⟨r.x + dx, r.y + dy, r.w, r.h⟩ = true by
        cases ho : okB ⟨r.x + dx, r.y + dy, r.w, r.h⟩ with
        | true => rfl
        | false => unfold rightR at h; rw [ho] at h; exact absurd rfl h.ne) with h' | h'
      · rw [h'] at h; exact absurd rfl h.ne
      · exact h'
    exact ⟨hc.1.1.1.1, right_of (.inr this), this, by omega, by omega, by omega, by omega⟩

end Go.AM
