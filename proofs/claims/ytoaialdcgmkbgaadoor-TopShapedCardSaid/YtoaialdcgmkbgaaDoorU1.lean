
/- Regions: the one list of rectangles that a set of places has. -/
import Derived.Test.YtoaialdcgmkbgaaDoorA2
set_option linter.all false
namespace Go.AM

/-- A rectangle. -/
structure Rc where
  x : Int
  y : Int
  w : Int
  h : Int
  deriving DecidableEq
def Rc.has (r : Rc) (px py : Int) : Prop := (r.x ≤ px ∧ px < r.x + r.w) ∧ r.y ≤ py ∧ py < r.y + r.h
def pts (l : List Rc) (px py : Int) : Prop := ∃ r ∈ l, r.has px py

/-- Spans of a row: each has a place, and there is a gap between two. -/
def okS : List (Int × Int) → Prop
  | [] => True
  | [s] => s.1 < s.2
  | s :: t :: l => s.1 < s.2 ∧ s.2 < t.1 ∧ okS (t :: l)
def inS (l : List (Int × Int)) (x : Int) : Prop := ∃ s ∈ l, s.1 ≤ x ∧ x < s.2
theorem okS_tail {s : Int × Int} {l : List (Int × Int)} (h : okS (s :: l)) : okS l ∧ s.1 < s.2 ∧ ∀ t ∈ l, s.2 < t.1 := by
  induction l generalizing s with
  | nil => exact ⟨trivial, h, by simp⟩
  | cons t l ih =>
    obtain ⟨h1, h2, h3⟩ := h
    obtain ⟨h4, h5, h6⟩ := ih h3
    refine ⟨h3, h1, fun u hu => ?_⟩
    rcases List.mem_cons.1 hu with rfl | hu
    · exact h2
    · have := h6 u hu; omega
theorem okS_eq : ∀ {a b : List (Int × Int)}, okS a → okS b → (∀ x, inS a x ↔ inS b x) → a = b
  | [], [], _, _, _ => rfl
  | [], s :: b, _, hb, h => by
    obtain ⟨_, h1, _⟩ := okS_tail hb
    obtain ⟨t, ht, _⟩ := (h s.1).2 ⟨s, by simp, by omega, h1⟩
    cases ht
  | s :: a, [], ha, _, h => by
    obtain ⟨_, h1, _⟩ := okS_tail ha
    obtain ⟨t, ht, _⟩ := (h s.1).1 ⟨s, by simp, by omega, h1⟩
    cases ht
  | s :: a, t :: b, ha, hb, h => by
    obtain ⟨a1, a2, a3⟩ := okS_tail ha
    obtain ⟨b1, b2, b3⟩ := okS_tail hb
    have hlow : ∀ {s : Int × Int} {a : List (Int × Int)}, (∀ t ∈ a, s.2 < t.1) → s.1 < s.2 → ∀ x, inS (s :: a) x → s.1 ≤ x := fun h1 h2 x ⟨u, hu, h3, h4⟩ => by
      rcases List.mem_cons.1 hu with rfl | hu
      · exact h3
      · have := h1 u hu; omega
    have e1 : s.1 = t.1 := by
      have h1 := hlow b3 b2 s.1 ((h s.1).1 ⟨s, by simp, by omega, a2⟩)
      have h2 := hlow a3 a2 t.1 ((h t.1).2 ⟨t, by simp, by omega, b2⟩)
      omega
    have hnot : ∀ {s : Int × Int} {a : List (Int × Int)}, (∀ t ∈ a, s.2 < t.1) → ¬ inS (s :: a) s.2 := fun h1 ⟨u, hu, h3, h4⟩ => by
      rcases List.mem_cons.1 hu with rfl | hu
      · omega
      · have := h1 u hu; omega
    have e2 : s.2 = t.2 := by
      rcases Int.lt_trichotomy s.2 t.2 with h1 | h1 | h1
      · exact absurd ((h s.2).2 ⟨t, by simp, by omega, h1⟩) (hnot a3)
      · exact h1
      · exact absurd ((h t.2).1 ⟨s, by simp, by omega, h1⟩) (hnot b3)
    have est : s = t := Prod.ext e1 e2
    subst est
    rw [okS_eq a1 b1 fun x => ?_]
    constructor
    · rintro ⟨u, hu, h1, h2⟩
      have hx : s.2 < u.1 := a3 u hu
      obtain ⟨v, hv, h3, h4⟩ := (h x).1 ⟨u, by simp [hu], h1, h2⟩
      rcases List.mem_cons.1 hv with rfl | hv
      · omega
      · exact ⟨v, hv, h3, h4⟩
    · rintro ⟨u, hu, h1, h2⟩
      have hx : s.2 < u.1 := b3 u hu
      obtain ⟨v, hv, h3, h4⟩ := (h x).2 ⟨u, by simp [hu], h1, h2⟩
      rcases List.mem_cons.1 hv with rfl | hv
      · omega
      · exact ⟨v, hv, h3, h4⟩

/-- A band. -/
structure Bnd where
  y : Int
  h : Int
  s : List (Int × Int)
def okB : List Bnd → Prop
  | [] => True
  | [b] => 0 < b.h ∧ b.s ≠ [] ∧ okS b.s
  | b :: c :: l => (0 < b.h ∧ b.s ≠ [] ∧ okS b.s) ∧ (b.y + b.h < c.y ∨ (b.y + b.h = c.y ∧ b.s ≠ c.s)) ∧ okB (c :: l)
def inB (l : List Bnd) (x y : Int) : Prop := ∃ b ∈ l, (b.y ≤ y ∧ y < b.y + b.h) ∧ inS b.s x
def flatB (l : List Bnd) : List Rc := l.flatMap fun b => b.s.map fun s => ⟨s.1, b.y, s.2 - s.1, b.h⟩
theorem flat_pts (l : List Bnd) (x y : Int) : pts (flatB l) x y ↔ inB l x y := by
  constructor
  · rintro ⟨r, hr, hh⟩
    obtain ⟨b, hb, hr⟩ := List.mem_flatMap.1 hr
    obtain ⟨s, hs, rfl⟩ := List.mem_map.1 hr
    exact ⟨b, hb, hh.2, s, hs, hh.1.1, by have := hh.1.2; dsimp only at this; omega⟩
  · rintro ⟨b, hb, hy, s, hs, h1, h2⟩
    exact ⟨⟨s.1, b.y, s.2 - s.1, b.h⟩, List.mem_flatMap.2 ⟨b, hb, List.mem_map.2 ⟨s, hs, rfl⟩⟩, ⟨h1, by dsimp only; omega⟩, hy⟩
theorem okB_tail {b : Bnd} {l : List Bnd} (h : okB (b :: l)) : okB l ∧ (0 < b.h ∧ b.s ≠ [] ∧ okS b.s) ∧ (∀ c ∈ l, b.y + b.h ≤ c.y) ∧ (∀ c r, l = c :: r → b.y + b.h = c.y → b.s ≠ c.s) := by
  induction l generalizing b with
  | nil => exact ⟨trivial, h, by simp, by simp⟩
  | cons c l ih =>
    obtain ⟨h1, h2, h3⟩ := h
    obtain ⟨h4, h5, h6, _⟩ := ih h3
    refine ⟨h3, h1, fun d hd => ?_, fun d r hd he => ?_⟩
    · rcases List.mem_cons.1 hd with rfl | hd
      · rcases h2 with h2 | h2 <;> omega
      · have := h6 d hd; rcases h2 with h2 | h2 <;> omega
    · simp only [List.cons.injEq] at hd
      obtain ⟨rfl, _⟩ := hd
      rcases h2 with h2 | h2
      · omega
      · exact h2.2
theorem okS_some {s : List (Int × Int)} (h : okS s) (hn : s ≠ []) : ∃ x, inS s x := by
  cases s with
  | nil => exact absurd rfl hn
  | cons t l => exact ⟨t.1, t, by simp, by have := (okS_tail h).2.1; omega⟩
/-- The first band's rows. -/
theorem inB_first {b : Bnd} {l : List Bnd} (h : okB (b :: l)) {x y : Int} (hy : y < b.y + b.h) : inB (b :: l) x y ↔ b.y ≤ y ∧ inS b.s x := by
  obtain ⟨_, _, h3, _⟩ := okB_tail h
  constructor
  · rintro ⟨c, hc, h1, h2⟩
    rcases List.mem_cons.1 hc with rfl | hc
    · exact ⟨h1.1, h2⟩
    · have := h3 c hc; omega
  · rintro ⟨h1, h2⟩
    exact ⟨b, by simp, ⟨h1, hy⟩, h2⟩
/-- The row below the first band is another one. -/
theorem inB_below {b : Bnd} {l : List Bnd} (h : okB (b :: l)) : ¬ ∀ x, inB (b :: l) x (b.y + b.h) ↔ inS b.s x := by
  intro hx
  obtain ⟨h1, h2, h3, h4⟩ := okB_tail h
  obtain ⟨x0, hx0⟩ := okS_some h2.2.2 h2.2.1
  cases l with
  | nil =>
    obtain ⟨c, hc, h5, _⟩ := (hx x0).2 hx0
    simp at hc; subst hc; omega
  | cons c l =>
    have hcy := h3 c (by simp)
    obtain ⟨_, c2, c3, _⟩ := okB_tail h1
    by_cases he : b.y + b.h = c.y
    · apply h4 c l rfl he
      refine okS_eq h2.2.2 c2.2.2 fun x => ?_
      rw [← hx x, he]
      have hf := inB_first h1 (x := x) (y := c.y) (by omega)
      constructor
      · rintro ⟨d, hd, h5, h6⟩
        rcases List.mem_cons.1 hd with rfl | hd
        · omega
        · exact (hf.1 ⟨d, hd, h5, h6⟩).2
      · intro h5
        obtain ⟨d, hd, h6⟩ := hf.2 ⟨by omega, h5⟩
        exact ⟨d, by simp [hd], h6⟩
    · obtain ⟨d, hd, h5, _⟩ := (hx x0).2 hx0
      rcases List.mem_cons.1 hd with rfl | hd
      · omega
      · rcases List.mem_cons.1 hd with rfl | hd
        · omega
        · have := c3 d hd; have := c2.1; omega
theorem okB_eq : ∀ {a b : List Bnd}, okB a → okB b → (∀ x y, inB a x y ↔ inB b x y) → a = b
  | [], [], _, _, _ => rfl
  | [], b :: m, _, hb, h => by
    obtain ⟨_, h2, _⟩ := okB_tail hb
    obtain ⟨x, hx⟩ := okS_some h2.2.2 h2.2.1
    obtain ⟨c, hc, _⟩ := (h x b.y).2 ⟨b, by simp, by omega, hx⟩
    cases hc
  | a :: l, [], ha, _, h => by
    obtain ⟨_, h2, _⟩ := okB_tail ha
    obtain ⟨x, hx⟩ := okS_some h2.2.2 h2.2.1
    obtain ⟨c, hc, _⟩ := (h x a.y).1 ⟨a, by simp, by omega, hx⟩
    cases hc
  | a :: l, b :: m, ha, hb, h => by
    obtain ⟨a1, a2, a3, a4⟩ := okB_tail ha
    obtain ⟨b1, b2, b3, b4⟩ := okB_tail hb
    obtain ⟨xa, hxa⟩ := okS_some a2.2.2 a2.2.1
    obtain ⟨xb, hxb⟩ := okS_some b2.2.2 b2.2.1
    have hlow : ∀ {b : Bnd} {m : List Bnd}, okB (b :: m) → ∀ x y, inB (b :: m) x y → b.y ≤ y := fun hb x y ⟨c, hc, h1, _⟩ => by
      obtain ⟨_, h2, h3, _⟩ := okB_tail hb
      rcases List.mem_cons.1 hc with rfl | hc
      · exact h1.1
      · have := h3 c hc; omega
    have ey : a.y = b.y := by
      have h1 := hlow hb xa a.y ((h xa a.y).1 ((inB_first ha (by omega)).2 ⟨by omega, hxa⟩))
      have h2 := hlow ha xb b.y ((h xb b.y).2 ((inB_first hb (by omega)).2 ⟨by omega, hxb⟩))
      omega
    have es : a.s = b.s := okS_eq a2.2.2 b2.2.2 fun x => by
      have h1 := inB_first ha (x := x) (y := a.y) (by omega)
      have h2 := inB_first hb (x := x) (y := a.y) (by omega)
      have h3 := h x a.y
      rw [h1, h2] at h3
      constructor
      · intro h4; exact (h3.1 ⟨by omega, h4⟩).2
      · intro h4; exact (h3.2 ⟨by omega, h4⟩).2
    have eh : a.h = b.h := by
      rcases Int.lt_trichotomy a.h b.h with h1 | h1 | h1
      · refine absurd (fun x => ?_) (inB_below ha)
        rw [h, inB_first hb (by omega), es]
        exact ⟨fun h => h.2, fun h => ⟨by omega, h⟩⟩
      · exact h1
      · refine absurd (fun x => ?_) (inB_below hb)
        rw [← h, inB_first ha (by omega), es]
        exact ⟨fun h => h.2, fun h => ⟨by omega, h⟩⟩
    have eab : a = b := by cases a; cases b; simp_all
    subst eab
    rw [okB_eq a1 b1 fun x y => ?_]
    constructor
    · rintro ⟨c, hc, h1, h2⟩
      have hcy := a3 c hc
      obtain ⟨d, hd, h3, h4⟩ := (h x y).1 ⟨c, by simp [hc], h1, h2⟩
      rcases List.mem_cons.1 hd with rfl | hd
      · omega
      · exact ⟨d, hd, h3, h4⟩
    · rintro ⟨c, hc, h1, h2⟩
      have hcy := b3 c hc
      obtain ⟨d, hd, h3, h4⟩ := (h x y).2 ⟨c, by simp [hc], h1, h2⟩
      rcases List.mem_cons.1 hd with rfl | hd
      · omega
      · exact ⟨d, hd, h3, h4⟩
/-- The one list. -/
def Canon (l : List Rc) : Prop := ∃ b, okB b ∧ l = flatB b
theorem canon_eq {a b : List Rc} (ha : Canon a) (hb : Canon b) (h : ∀ x y, pts a x y ↔ pts b x y) : a = b := by
  obtain ⟨p, hp, rfl⟩ := ha
  obtain ⟨q, hq, rfl⟩ := hb
  rw [okB_eq hp hq fun x y => by rw [← flat_pts, ← flat_pts]; exact h x y]
end Go.AM
