
/- Regions: made thinner, wider, turned over. -/
import Derived.Test.YtoaialdcgmkbgaaDoorU3
set_option linter.all false
namespace Go.AM

/-- What lies together lies in one span. -/
theorem span_all {l : List (Int × Int)} (h : okS l) {a : Int} : ∀ (k : Nat), (∀ d : Nat, d ≤ k → inS l (a + d)) → ∃ s ∈ l, s.1 ≤ a ∧ a + k < s.2
  | 0, hd => by
    obtain ⟨s, hs, h1, h2⟩ := hd 0 (Nat.le_refl _)
    exact ⟨s, hs, by omega, by omega⟩
  | k + 1, hd => by
    obtain ⟨s, hs, h1, h2⟩ := span_all h k fun d hk => hd d (by omega)
    obtain ⟨t, ht, h3, h4⟩ := hd (k + 1) (Nat.le_refl _)
    have key : ∀ {l : List (Int × Int)}, okS l → ∀ s ∈ l, ∀ t ∈ l, s = t ∨ s.2 < t.1 ∨ t.2 < s.1 := by
      intro l
      induction l with
      | nil => intro _ s hs; cases hs
      | cons u l ih =>
        intro h s hs t ht
        obtain ⟨h1, _, h3⟩ := okS_tail h
        rcases List.mem_cons.1 hs with rfl | hs'
        · rcases List.mem_cons.1 ht with rfl | ht'
          · exact .inl rfl
          · exact .inr (.inl (h3 t ht'))
        · rcases List.mem_cons.1 ht with rfl | ht'
          · exact .inr (.inr (h3 s hs'))
          · exact ih h1 s hs' t ht'
    rcases key h s hs t ht with rfl | h5 | h5
    · exact ⟨s, hs, h1, by omega⟩
    · omega
    · omega
theorem band_one : ∀ {l : List Bnd}, okB l → ∀ b ∈ l, ∀ c ∈ l, ∀ y, (b.y ≤ y ∧ y < b.y + b.h) → (c.y ≤ y ∧ y < c.y + c.h) → b = c
  | [], _, b, hb, _, _, _, _, _ => by cases hb
  | d :: l, h, b, hb, c, hc, y, h1, h2 => by
    obtain ⟨g1, _, g3, _⟩ := okB_tail h
    rcases List.mem_cons.1 hb with rfl | hb'
    · rcases List.mem_cons.1 hc with rfl | hc'
      · rfl
      · have := g3 c hc'; omega
    · rcases List.mem_cons.1 hc with rfl | hc'
      · have := g3 b hb'; omega
      · exact band_one g1 b hb' c hc' y h1 h2
theorem canon_thin {l : List Rc} (h : Canon l) (n : Nat) (x y : Int) : (∃ r ∈ l, (r.x + n ≤ x ∧ x < r.x + n + (r.w - 2 * n)) ∧ r.y ≤ y ∧ y < r.y + r.h) ↔ ∀ d : Int, -n ≤ d → d ≤ n → pts l (x + d) y := by
  obtain ⟨b, hb, rfl⟩ := h
  constructor
  · rintro ⟨r, hr, h1, h2⟩ d hd1 hd2
    exact ⟨r, hr, ⟨by omega, by omega⟩, h2⟩
  · intro hd
    have h0 := (flat_pts b (x + 0) y).1 (hd 0 (by omega) (by omega))
    obtain ⟨c, hc, hy, _⟩ := h0
    have hok : ∀ {l : List Bnd}, okB l → ∀ c ∈ l, okS c.s := by
      intro l
      induction l with
      | nil => intro _ c hc; cases hc
      | cons d l ih =>
        intro h c hc
        obtain ⟨g1, g2, _⟩ := okB_tail h
        rcases List.mem_cons.1 hc with rfl | hc
        · exact g2.2.2
        · exact ih g1 c hc
    obtain ⟨s, hs, h1, h2⟩ := span_all (hok hb c hc) (a := x - n) (2 * n) fun d hk => by
      obtain ⟨e, he, hy', hx⟩ := (flat_pts b (x + (d - n)) y).1 (hd (d - n) (by omega) (by omega))
      have := band_one hb c hc e he y hy hy'
      subst this
      rwa [show x - n + (d : Int) = x + (d - n) by omega]
    refine ⟨⟨s.1, c.y, s.2 - s.1, c.h⟩, List.mem_flatMap.2 ⟨c, hc, List.mem_map.2 ⟨s, hs, rfl⟩⟩, ⟨by dsimp only; omega, by dsimp only; omega⟩, hy⟩
end Go.AM
