
/- Plain laws of rectangles. -/
import Derived.Test.YtnjmjiajbgdnlaaR3
set_option linter.all false
namespace Go.AM

theorem empty_vz {r : Rc} (h : Vz r) : emptyB r = true → r = .o := fun he => by
  have := empty_right he
  rwa [right_of h] at this
theorem empty_o : emptyB .o = true := by decide
theorem empty_true {r : Rc} : emptyB r = true ↔ ¬ Vr r := by
  rw [← empty_iff]; cases emptyB r <;> simp
theorem area_vr {r : Rc} (h : Vr r) : areaI r = r.w * r.h := by unfold areaI; rw [right_of (.inr h)]
theorem area_e {r : Rc} (h : emptyB r = true) : areaI r = 0 := by unfold areaI; rw [empty_right h]; rfl

theorem rc_ext {a b : Rc} (h1 : a.x = b.x) (h2 : a.y = b.y) (h3 : a.w = b.w) (h4 : a.h = b.h) : a = b := by cases a; cases b; simp at *; exact ⟨h1, h2, h3, h4⟩

theorem cross_comm (a b : Rc) : crossR a b = crossR b a := by
  unfold crossR
  rw [Bool.or_comm, Int.max_comm a.x, Int.max_comm a.y, Int.min_comm (a.x + a.w), Int.min_comm (a.y + a.h)]

/-- The pieces of two that meet. -/
theorem cross_vr {a b : Rc} (ha : Vr a) (hb : Vr b) : crossR a b = betweenR (max a.x b.x) (max a.y b.y) (min (a.x + a.w) (b.x + b.w)) (min (a.y + a.h) (b.y + b.h)) := by
  unfold crossR; rw [empty_iff.2 ha, empty_iff.2 hb]; rfl

theorem between_of {x y r b : Int} (h1 : x < r) (h2 : y < b) : betweenR x y r b = ⟨x, y, r - x, b - y⟩ := by
  unfold betweenR; rw [if_neg]; simp; omega
theorem between_o {x y r b : Int} (h : r ≤ x ∨ b ≤ y) : betweenR x y r b = .o := by
  unfold betweenR; rw [if_pos]; simpa using h

/-- Two that meet. -/
structure Meet (a b c : Rc) : Prop where
  va : Vr a
  vb : Vr b
  vc : Vr c
  x : c.x = max a.x b.x
  y : c.y = max a.y b.y
  x2 : c.x + c.w = min (a.x + a.w) (b.x + b.w)
  y2 : c.y + c.h = min (a.y + a.h) (b.y + b.h)

theorem meet_or (a b : Rc) : crossR a b = .o ∨ Meet a b (crossR a b) := by
  by_cases ha : Vr a
  · by_cases hb : Vr b
    · by_cases h : max a.x b.x < min (a.x + a.w) (b.x + b.w) ∧ max a.y b.y < min (a.y + a.h) (b.y + b.h)
      · right
        have e := cross_vr ha hb
        rw [between_of h.1 h.2] at e
        rw [e]
        refine ⟨ha, hb, ?_, rfl, rfl, by simp; omega, by simp; omega⟩
        simp only [Vr] at *; omega
      · left
        rw [cross_vr ha hb, between_o (by omega)]
    · left; unfold crossR; rw [empty_true.2 hb]; simp
  · left; unfold crossR; rw [empty_true.2 ha]; simp

theorem area_between {x y r b : Int} (hx : -1048576 ≤ x) (hy : -1048576 ≤ y) (hr : r ≤ 1048576) (hb : b ≤ 1048576) (h1 : x ≤ r) (h2 : y ≤ b) : areaI (betweenR x y r b) = (r - x) * (b - y) := by
  by_cases h : x < r ∧ y < b
  · rw [between_of h.1 h.2, area_vr]
    simp only [Vr]; omega
  · rw [between_o (by omega)]
    have : areaI .o = 0 := rfl
    rw [this]
    by_cases h' : x < r
    · have : b - y = 0 := by omega
      rw [this]; simp
    · have : r - x = 0 := by omega
      rw [this]; simp

def sumL (l : List Rc) (s : Int) : Int := l.foldl (fun s r => s + areaI r) s
theorem sumL_filter (l : List Rc) (s : Int) : sumL (l.filter fun r => !emptyB r) s = sumL l s := by
  induction l generalizing s with
  | nil => rfl
  | cons r l ih =>
    rw [List.filter_cons]
    by_cases h : emptyB r = true
    · rw [h]; simp only [Bool.not_true, if_false, Bool.false_eq_true]
      rw [ih]; simp [sumL, area_e h]
    · rw [Bool.not_eq_true] at h
      rw [h]; simp only [Bool.not_false, if_true]
      simp only [sumL, List.foldl_cons]
      exact ih _

theorem sum_minus (a b : Rc) : sumL (minusL a b) (areaI (crossR a b)) = areaI a := by
  unfold minusL
  split
  · rename_i h
    have : crossR a b = .o := by unfold crossR; rw [h]; rfl
    rw [this, area_e h]; rfl
  · rename_i ha
    split
    · rename_i h
      have := empty_vz (cross_vz a b) h
      rw [this]
      show 0 + areaI a = areaI a
      simp
    · rename_i h
      rcases meet_or a b with h' | m
      · rw [h'] at h; exact absurd empty_o h
      · rw [sumL_filter]
        generalize crossR a b = c at *
        have va := m.va; have vb := m.vb; have vc := m.vc
        have ex := m.x; have ey := m.y; have ex2 := m.x2; have ey2 := m.y2
        simp only [Vr] at va vb vc
        simp only [piecesL, sumL, List.foldl_cons, List.foldl_nil]
        rw [area_between (by omega) (by omega) (by omega) (by omega) (by omega) (by omega), area_between (by omega) (by omega) (by omega) (by omega) (by omega) (by omega),
          area_between (by omega) (by omega) (by omega) (by omega) (by omega) (by omega), area_between (by omega) (by omega) (by omega) (by omega) (by omega) (by omega), area_vr m.va, area_vr m.vc]
        obtain ⟨u, hu⟩ : ∃ u, u = c.x - a.x := ⟨_, rfl⟩
        obtain ⟨p, hp⟩ : ∃ p, p = c.y - a.y := ⟨_, rfl⟩
        obtain ⟨t, ht⟩ : ∃ t, t = a.x + a.w - (c.x + c.w) := ⟨_, rfl⟩
        obtain ⟨s, hs⟩ : ∃ s, s = a.y + a.h - (c.y + c.h) := ⟨_, rfl⟩
        have e1 : a.w = u + c.w + t := by omega
        have e2 : a.h = p + c.h + s := by omega
        have e3 : a.x + a.w - a.x = u + c.w + t := by omega
        have e4 : c.y + c.h - c.y = c.h := by omega
        rw [← hu, ← hp, ← ht, ← hs, e3, e4, e2]
        rw [show a.w * (p + c.h + s) = (u + c.w + t) * (p + c.h + s) by rw [e1]]
        simp only [Int.add_mul, Int.mul_add]
        omega

theorem box2 (a b : Rc) : boxL [a, b] = boxStep (boxStep .o a) b := rfl
theorem step_o (a : Rc) : boxStep .o a = rightR a := by
  unfold boxStep
  split
  · rename_i h; rw [empty_right h]
  · rename_i h
    rw [Bool.not_eq_true, empty_iff] at h
    rw [right_of (.inr h)]; rfl
theorem box_vr {a b : Rc} (ha : Vr a) (hb : Vr b) : boxStep a b = betweenR (min a.x b.x) (min a.y b.y) (max (a.x + a.w) (b.x + b.w)) (max (a.y + a.h) (b.y + b.h)) := by
  unfold boxStep
  rw [empty_iff.2 hb, if_neg (by simp), if_neg]
  rw [Rc.eq_iff]; exact ha.ne
theorem step_e {a b : Rc} (hb : emptyB b = true) : boxStep a b = a := by unfold boxStep; rw [if_pos hb]

theorem box_comm (a b : Rc) : boxL [a, b] = boxL [b, a] := by
  rw [box2, box2, step_o, step_o]
  by_cases ha : Vr a
  · by_cases hb : Vr b
    · rw [right_of (.inr ha), right_of (.inr hb), box_vr ha hb, box_vr hb ha, Int.min_comm a.x, Int.min_comm a.y, Int.max_comm (a.x + a.w), Int.max_comm (a.y + a.h)]
    · rw [empty_right (empty_true.2 hb), step_e (empty_true.2 hb), step_o]
  · rw [empty_right (empty_true.2 ha), step_e (empty_true.2 ha), step_o]

/-- Inside. -/
def Ins (a b : Rc) : Prop := a.x ≤ b.x ∧ a.y ≤ b.y ∧ b.x + b.w ≤ a.x + a.w ∧ b.y + b.h ≤ a.y + a.h

theorem holds_iff {a b : Rc} : holdsB a b = true ↔ (¬ Vr b ∨ (Vr a ∧ Vr b ∧ Ins a b)) := by
  unfold holdsB
  rw [Bool.or_eq_true, empty_true, Rc.eq_iff]
  by_cases hb : Vr b
  · have hn : (¬ Vr b) = False := by simp [hb]
    simp only [hn, false_or]
    rcases meet_or a b with h | m
    · constructor
      · intro h'; rw [h] at h'; exact absurd h'.symm hb.ne
      · rintro ⟨ha, _, hi⟩
        exfalso
        rw [cross_vr ha hb, between_of] at h
        · have hw := congrArg Rc.w h
          simp only [Vr, Ins, Rc.o] at *
          omega
        · simp only [Vr, Ins] at *; omega
        · simp only [Vr, Ins] at *; omega
    · have ex := m.x; have ey := m.y; have ex2 := m.x2; have ey2 := m.y2
      constructor
      · intro h'
        rw [h'] at ex ey ex2 ey2
        refine ⟨m.va, hb, ?_⟩
        simp only [Ins]; omega
      · rintro ⟨ha, _, hi⟩
        simp only [Vr, Ins] at *
        apply rc_ext <;> omega
  · simp [hb]

theorem minus_len (a b : Rc) : (minusL b a).length = 0 ↔ holdsB a b = true := by
  rw [holds_iff]
  unfold minusL
  split
  · rename_i h
    simp [empty_true.1 h]
  · rename_i h
    rw [Bool.not_eq_true, empty_iff] at h
    have hn : (¬ Vr b) = False := by simp [h]
    simp only [hn, false_or]
    split
    · rename_i h1
      simp only [List.length_cons, List.length_nil]
      refine ⟨fun h => by omega, ?_⟩
      rintro ⟨ha, _, hi⟩
      exfalso
      rw [cross_vr h ha, between_of, empty_true] at h1
      · apply h1; simp only [Vr, Ins] at *; omega
      · simp only [Vr, Ins] at *; omega
      · simp only [Vr, Ins] at *; omega
    · rename_i h1
      rcases meet_or b a with h' | m
      · rw [h'] at h1; exact absurd empty_o h1
      · generalize crossR b a = c at *
        have va := m.va; have vb := m.vb; have vc := m.vc
        have ex := m.x; have ey := m.y; have ex2 := m.x2; have ey2 := m.y2
        have hbe : ∀ {x y r d : Int}, -1048576 ≤ x → -1048576 ≤ y → r ≤ 1048576 → d ≤ 1048576 → (emptyB (betweenR x y r d) = true ↔ (r ≤ x ∨ d ≤ y)) := by
          intro x y r d hx hy hr hd
          rw [empty_true]
          constructor
          · intro hh
            by_cases hc : x < r ∧ y < d
            · exfalso; apply hh; rw [between_of hc.1 hc.2]; simp only [Vr]; omega
            · omega
          · intro hh; rw [between_o hh]; exact fun h => h.ne rfl
        rw [List.length_eq_zero_iff, List.filter_eq_nil_iff]
        simp only [piecesL, List.forall_mem_cons, List.not_mem_nil, false_implies, implies_true, and_true, Bool.not_eq_true', Bool.not_eq_false]
        simp only [Vr] at va vb vc
        rw [hbe (by omega) (by omega) (by omega) (by omega), hbe (by omega) (by omega) (by omega) (by omega), hbe (by omega) (by omega) (by omega) (by omega), hbe (by omega) (by omega) (by omega) (by omega)]
        simp only [Vr, Ins]
        omega

theorem holds_box {a b : Rc} (h : holdsB a b = true) : boxL [a, b] = boxL [a] := by
  show boxStep (boxStep .o a) b = boxStep .o a
  rcases holds_iff.1 h with hb | ⟨ha, hb, hi⟩
  · rw [step_e (empty_true.2 hb)]
  · rw [step_o, right_of (.inr ha), box_vr ha hb, between_of]
    · simp only [Vr, Ins] at *
      apply rc_ext <;> simp <;> omega
    · simp only [Vr, Ins] at *; omega
    · simp only [Vr, Ins] at *; omega

theorem box_holds (a b : Rc) : holdsB (boxL [a, b]) a = true := by
  rw [holds_iff]
  by_cases ha : Vr a
  · right
    rw [box2, step_o, right_of (.inr ha)]
    by_cases hb : Vr b
    · rw [box_vr ha hb, between_of]
      · simp only [Vr, Ins] at *; omega
      · simp only [Vr, Ins] at *; omega
      · simp only [Vr, Ins] at *; omega
    · rw [step_e (empty_true.2 hb)]
      exact ⟨ha, ha, by simp only [Ins]; omega⟩
  · exact .inl ha

theorem holds_cross (a b : Rc) : holdsB a (crossR a b) = true := by
  rw [holds_iff]
  rcases meet_or a b with h | m
  · left; rw [h]; exact fun h => h.ne rfl
  · right
    have ex := m.x; have ey := m.y; have ex2 := m.x2; have ey2 := m.y2
    exact ⟨m.va, m.vc, by simp only [Ins]; omega⟩

theorem minus_vz (a b : Rc) : ∀ r ∈ minusL a b, Vr r := by
  intro r hr
  unfold minusL at hr
  split at hr
  · simp at hr
  · rename_i h
    split at hr
    · simp at hr; subst hr
      rw [Bool.not_eq_true, empty_iff] at h; exact h
    · rw [List.mem_filter] at hr
      exact empty_iff.1 (by simpa using hr.2)
theorem minus_le (a b : Rc) : (minusL a b).length ≤ 4 := by
  unfold minusL
  split
  · simp
  · split
    · simp
    · exact Nat.le_trans (List.length_filter_le _ _) (by simp [piecesL])
end Go.AM
