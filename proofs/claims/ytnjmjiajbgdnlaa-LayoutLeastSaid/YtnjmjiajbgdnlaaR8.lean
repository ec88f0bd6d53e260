
/- RectPlaces. -/
import Derived.Test.YtnjmjiajbgdnlaaR7
set_option linter.all false
namespace Go.AM
open Go Go.Proofs

theorem has_between {x1 y1 x2 y2 x y : Int} (h1 : -1048576 ≤ x1) (h2 : -1048576 ≤ y1) (h3 : x2 ≤ 1048576) (h4 : y2 ≤ 1048576) : hasB (betweenR x1 y1 x2 y2) x y = true ↔ x1 ≤ x ∧ x < x2 ∧ y1 ≤ y ∧ y < y2 := by
  rw [has_iff]
  by_cases h : x1 < x2 ∧ y1 < y2
  · rw [between_of h.1 h.2]
    simp only [Vr]
    omega
  · rw [between_o (by omega)]
    constructor
    · rintro ⟨h, _⟩; exact absurd rfl h.ne
    · omega

theorem has_cross (a b : Rc) (x y : Int) : hasB (crossR a b) x y = (hasB a x y && hasB b x y) := by
  rw [Bool.eq_iff_iff, Bool.and_eq_true]
  by_cases ha : Vr a
  · by_cases hb : Vr b
    · rw [cross_vr ha hb]
      have ha' := ha; have hb' := hb
      simp only [Vr] at ha' hb'
      rw [has_between (by omega) (by omega) (by omega) (by omega), has_iff, has_iff]
      simp only [ha, hb, true_and]; omega
    · have e : crossR a b = .o := by unfold crossR; rw [empty_true.2 hb]; simp
      rw [e, has_iff, has_iff, has_iff]
      simp only [hb, false_and, and_false, iff_false]
      rintro ⟨h, _⟩; exact h.ne rfl
  · have e : crossR a b = .o := by unfold crossR; rw [empty_true.2 ha]; simp
    rw [e, has_iff, has_iff, has_iff]
    simp only [ha, false_and, iff_false]
    rintro ⟨h, _⟩; exact h.ne rfl

theorem has_box (a b : Rc) (x y : Int) (h : hasB a x y = true ∨ hasB b x y = true) : hasB (boxL [a, b]) x y = true := by
  rw [box2, step_o]
  by_cases ha : Vr a
  · by_cases hb : Vr b
    · rw [right_of (.inr ha), box_vr ha hb]
      have ha' := ha; have hb' := hb
      simp only [Vr] at ha' hb'
      rw [has_between (by omega) (by omega) (by omega) (by omega)]
      rw [has_iff, has_iff] at h
      omega
    · rw [step_e (empty_true.2 hb), right_of (.inr ha)]
      rcases h with h | h
      · exact h
      · exact absurd (has_iff.1 h).1 hb
  · rw [empty_right (empty_true.2 ha)]
    rcases h with h | h
    · exact absurd (has_iff.1 h).1 ha
    · have hb := (has_iff.1 h).1
      rw [step_o, right_of (.inr hb)]; exact h

def cntL (l : List Rc) (x y : Int) : Nat := (l.filter fun r => hasB r x y).length
theorem cnt_cons (r : Rc) (l : List Rc) (x y : Int) : cntL (r :: l) x y = (if hasB r x y then 1 else 0) + cntL l x y := by
  unfold cntL; rw [List.filter_cons]; split <;> simp <;> omega

theorem cnt_filter (l : List Rc) (x y : Int) : cntL (l.filter fun r => !emptyB r) x y = cntL l x y := by
  induction l with
  | nil => rfl
  | cons r l ih =>
    rw [List.filter_cons]
    cases he : emptyB r with
    | false => simp only [Bool.not_false, if_true]; rw [cnt_cons, cnt_cons, ih]
    | true =>
      simp only [Bool.not_true, Bool.false_eq_true, if_false]
      have : hasB r x y = false := by
        rw [Bool.eq_false_iff]; intro h; exact empty_true.1 he (has_iff.1 h).1
      rw [cnt_cons, this, ih]; simp

theorem cnt_minus (a b : Rc) (x y : Int) : cntL (minusL a b) x y = if hasB a x y && !hasB b x y then 1 else 0 := by
  unfold minusL
  split
  · rename_i h
    have : hasB a x y = false := by rw [Bool.eq_false_iff]; intro h'; exact empty_true.1 h (has_iff.1 h').1
    simp [this, cntL]
  · split
    · rename_i h
      have hc := has_cross a b x y
      have : hasB (crossR a b) x y = false := by rw [Bool.eq_false_iff]; intro h'; exact empty_true.1 h (has_iff.1 h').1
      rw [this] at hc
      rw [cnt_cons]
      cases h1 : hasB a x y <;> cases h2 : hasB b x y <;> simp [h1, h2, cntL] at hc ⊢
    · rename_i h
      rw [cnt_filter]
      have hc := has_cross a b x y
      rcases meet_or a b with h' | m
      · rw [h'] at h; exact absurd empty_o h
      · generalize crossR a b = c at *
        have va := m.va; have vb := m.vb; have vc := m.vc
        have ex := m.x; have ey := m.y; have ex2 := m.x2; have ey2 := m.y2
        simp only [Vr] at va vb vc
        have e : (hasB a x y && !hasB b x y) = (hasB a x y && !hasB c x y) := by rw [hc]; cases hasB a x y <;> cases hasB b x y <;> rfl
        rw [e]
        have ia : hasB a x y = true ↔ a.x ≤ x ∧ x < a.x + a.w ∧ a.y ≤ y ∧ y < a.y + a.h := by rw [has_iff]; simp [m.va]
        have ic : hasB c x y = true ↔ c.x ≤ x ∧ x < c.x + c.w ∧ c.y ≤ y ∧ y < c.y + c.h := by rw [has_iff]; simp [m.vc]
        have i0 := @has_between a.x a.y (a.x + a.w) c.y x y (by omega) (by omega) (by omega) (by omega)
        have i1 := @has_between a.x c.y c.x (c.y + c.h) x y (by omega) (by omega) (by omega) (by omega)
        have i2 := @has_between (c.x + c.w) c.y (a.x + a.w) (c.y + c.h) x y (by omega) (by omega) (by omega) (by omega)
        have i3 := @has_between a.x (c.y + c.h) (a.x + a.w) (a.y + a.h) x y (by omega) (by omega) (by omega) (by omega)
        unfold piecesL
        rw [cnt_cons, cnt_cons, cnt_cons, cnt_cons]
        show _ + (_ + (_ + (_ + 0))) = _
        generalize hasB (betweenR a.x a.y (a.x + a.w) c.y) x y = b0 at *
        generalize hasB (betweenR a.x c.y c.x (c.y + c.h)) x y = b1 at *
        generalize hasB (betweenR (c.x + c.w) c.y (a.x + a.w) (c.y + c.h)) x y = b2 at *
        generalize hasB (betweenR a.x (c.y + c.h) (a.x + a.w) (a.y + a.h)) x y = b3 at *
        generalize hasB a x y = ba at *
        generalize hasB c x y = bc at *
        cases b0 <;> cases b1 <;> cases b2 <;> cases b3 <;> cases ba <;> cases bc <;> simp at ia ic i0 i1 i2 i3 ⊢ <;> omega

def st5 (a b : Rc) (x y : Int) (l : List Rc) (i n : Nat) : St :=
  ⟨[(2, [], .int .i64 x), (3, [], .int .i64 y), (4, [], .box 0 0), (5, [], .box 1 0), (9, [], .bool (hasB a x y)), (10, [], .bool (hasB b x y)), (11, [], .int .i64 n),
          (12, [], .ls 4 (l.map rD)), (13, [], .int .i64 i)],
    [.cells [.int .i64 a.x, .int .i64 a.y, .int .i64 a.w, .int .i64 a.h], .cells [.int .i64 b.x, .int .i64 b.y, .int .i64 b.w, .int .i64 b.h]]⟩

end Go.AM
