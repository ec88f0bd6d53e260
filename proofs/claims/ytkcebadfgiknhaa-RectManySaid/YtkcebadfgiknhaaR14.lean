/- The box of many, as laws. -/
import Derived.Test.YtkcebadfgiknhaaR5
set_option linter.all false
namespace Go.AM
open Go Go.Proofs

theorem step_vr {a b : Rc} (ha : Vr a) (hb : Vr b) : boxStep a b = ⟨min a.x b.x, min a.y b.y, max (a.x + a.w) (b.x + b.w) - min a.x b.x, max (a.y + a.h) (b.y + b.h) - min a.y b.y⟩ := by
  rw [box_vr ha hb]
  simp only [Vr] at ha hb
  unfold betweenR
  rw [if_neg]
  simp only [Bool.or_eq_true, decide_eq_true_eq]; omega
theorem step_o' {a : Rc} (ha : Vz a) : boxStep .o a = a := by rw [step_o, right_of ha]
theorem step_oo {a : Rc} : boxStep a .o = a := step_e (empty_true.2 (by simp [Vr, Rc.o]))
theorem step_right' {a b : Rc} : boxStep a b = boxStep a (rightR b) := by
  by_cases hb : emptyB b = true
  · rw [step_e hb, empty_right hb, step_oo]
  · have := empty_iff.1 (by simpa using hb)
    rw [right_of (.inr this)]
theorem step_vr' {a b : Rc} (ha : Vr a) (hb : Vr b) : Vr (boxStep a b) := by
  rw [step_vr ha hb]
  simp only [Vr] at *; omega
theorem step_comm {a b : Rc} (ha : Vz a) (hb : Vz b) : boxStep a b = boxStep b a := by
  rcases ha with rfl | ha
  · rw [step_o' hb, step_oo]
  · rcases hb with rfl | hb
    · rw [step_o' (.inr ha), step_oo]
    · rw [step_vr ha hb, step_vr hb ha]
      simp only [Rc.mk.injEq]; omega
theorem step_assoc {a b c : Rc} (ha : Vz a) (hb : Vz b) (hc : Vz c) : boxStep (boxStep a b) c = boxStep a (boxStep b c) := by
  rcases ha with rfl | ha
  · rw [step_o' hb, step_o' (box_vz hb)]
  · rcases hb with rfl | hb
    · rw [step_oo, step_o' hc]
    · rcases hc with rfl | hc
      · rw [step_oo, step_oo]
      · rw [step_vr (step_vr' ha hb) hc, step_vr ha (step_vr' hb hc), step_vr ha hb, step_vr hb hc]
        simp only [Rc.mk.injEq]; omega
theorem fold_step : ∀ (l : List Rc) (z : Rc), Vz z → l.foldl boxStep z = boxStep z (boxL l)
  | [], z, hz => by rw [show boxL [] = .o from rfl, step_oo]; rfl
  | x :: l, z, hz => by
    have h1 : boxL (x :: l) = boxStep (boxStep .o x) (boxL l) := by
      show (l.foldl boxStep (boxStep .o x)) = _
      exact fold_step l _ (box_vz (.inl rfl))
    rw [List.foldl_cons, fold_step l _ (box_vz hz), h1, step_o, step_right' (a := z), step_assoc hz (right_vz x) (boxL_vz l)]
theorem boxL_append (l l' : List Rc) : boxL (l ++ l') = boxStep (boxL l) (boxL l') := by
  show (l ++ l').foldl boxStep .o = _
  rw [List.foldl_append]
  exact fold_step l' _ (boxL_vz l)
theorem boxL_two (a b : Rc) (ha : Vz a) : boxL [a, b] = boxStep a b := by rw [box2, step_o' ha]
theorem boxL_reverse : ∀ l : List Rc, boxL l.reverse = boxL l
  | [] => rfl
  | x :: l => by
    rw [List.reverse_cons, boxL_append, boxL_reverse l, step_comm (boxL_vz _) (boxL_vz _), ← boxL_append]; rfl
theorem boxL_holds {l : List Rc} {r : Rc} (h : r ∈ l) : holdsB (boxL l) r = true := by
  obtain ⟨s, t, rfl⟩ := List.append_of_mem h
  rw [boxL_append, show (r :: t) = [r] ++ t from rfl, boxL_append, ← step_assoc (boxL_vz _) (boxL_vz _) (boxL_vz _), step_comm (boxL_vz s) (boxL_vz [r]), step_assoc (boxL_vz _) (boxL_vz _) (boxL_vz _)]
  have := box_holds r (boxStep (boxL s) (boxL t))
  rwa [show boxL [r, boxStep (boxL s) (boxL t)] = boxStep (boxL [r]) (boxStep (boxL s) (boxL t)) from rfl] at this
end Go.AM
