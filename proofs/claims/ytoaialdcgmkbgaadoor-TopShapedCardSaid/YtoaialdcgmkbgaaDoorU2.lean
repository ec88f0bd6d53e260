
/- Regions: spans of a row that are joined, a band that is added below. -/
import Derived.Test.YtoaialdcgmkbgaaDoorU1
set_option linter.all false
namespace Go.AM

/-- Spans joined, from the left. -/
def joinS (s : Int × Int) : List (Int × Int) → List (Int × Int)
  | [] => [s]
  | r :: l => if r.1 ≤ s.2 then joinS (s.1, max s.2 r.2) l else s :: joinS r l
def Lefts (a : Int) : List (Int × Int) → Prop
  | [] => True
  | r :: l => (a ≤ r.1 ∧ r.1 < r.2) ∧ Lefts r.1 l
theorem Lefts.mono : ∀ {l : List (Int × Int)} {a b : Int}, b ≤ a → Lefts a l → Lefts b l
  | [], _, _, _, _ => trivial
  | r :: l, a, b, h, hl => ⟨⟨by have := hl.1.1; omega, hl.1.2⟩, hl.2⟩
theorem joinS_head : ∀ {l : List (Int × Int)} {s : Int × Int}, ∃ t m, joinS s l = t :: m ∧ t.1 = s.1
  | [], s => ⟨s, [], rfl, rfl⟩
  | r :: l, s => by
    unfold joinS
    split
    · exact joinS_head (l := l) (s := (s.1, max s.2 r.2))
    · exact ⟨s, _, rfl, rfl⟩
theorem joinS_ok : ∀ {l : List (Int × Int)} {s : Int × Int}, s.1 < s.2 → Lefts s.1 l → okS (joinS s l)
  | [], s, hs, _ => hs
  | r :: l, s, hs, hl => by
    obtain ⟨⟨h1, h2⟩, h3⟩ := hl
    unfold joinS
    split
    · exact joinS_ok (s := (s.1, max s.2 r.2)) (by dsimp only; omega) (h3.mono h1)
    · rename_i h4
      have ih := joinS_ok (s := r) h2 h3
      obtain ⟨t, m, e, he⟩ := joinS_head (l := l) (s := r)
      rw [e] at ih ⊢
      exact ⟨hs, by omega, ih⟩
theorem joinS_in : ∀ {l : List (Int × Int)} {s : Int × Int}, s.1 < s.2 → Lefts s.1 l → ∀ x, inS (joinS s l) x ↔ inS (s :: l) x
  | [], s, _, _, x => by unfold joinS; exact Iff.rfl
  | r :: l, s, hs, hl, x => by
    obtain ⟨⟨h1, h2⟩, h3⟩ := hl
    unfold joinS
    split
    · rename_i h4
      rw [joinS_in (s := (s.1, max s.2 r.2)) (by dsimp only; omega) (h3.mono h1)]
      constructor
      · rintro ⟨u, hu, h5, h6⟩
        rcases List.mem_cons.1 hu with rfl | hu
        · dsimp only at h5 h6
          by_cases h7 : x < s.2
          · exact ⟨s, by simp, h5, h7⟩
          · exact ⟨r, by simp, by omega, by omega⟩
        · exact ⟨u, by simp [hu], h5, h6⟩
      · rintro ⟨u, hu, h5, h6⟩
        rcases List.mem_cons.1 hu with rfl | hu
        · exact ⟨_, List.mem_cons_self .., h5, by dsimp only; omega⟩
        · rcases List.mem_cons.1 hu with rfl | hu
          · exact ⟨_, List.mem_cons_self .., by dsimp only; omega, by dsimp only; omega⟩
          · exact ⟨u, by simp [hu], h5, h6⟩
    · have ih := joinS_in (s := r) h2 h3 x
      constructor
      · rintro ⟨u, hu, h5, h6⟩
        rcases List.mem_cons.1 hu with rfl | hu
        · exact ⟨u, by simp, h5, h6⟩
        · obtain ⟨v, hv, h7⟩ := ih.1 ⟨u, hu, h5, h6⟩
          exact ⟨v, by simp [List.mem_cons.1 hv], h7⟩
      · rintro ⟨u, hu, h5, h6⟩
        rcases List.mem_cons.1 hu with rfl | hu
        · exact ⟨u, by simp, h5, h6⟩
        · obtain ⟨v, hv, h7⟩ := ih.2 ⟨u, hu, h5, h6⟩
          exact ⟨v, by simp [hv], h7⟩

/-- Bands from below. -/
def okR : List Bnd → Prop
  | [] => True
  | [b] => 0 < b.h ∧ b.s ≠ [] ∧ okS b.s
  | b :: c :: l => (0 < b.h ∧ b.s ≠ [] ∧ okS b.s) ∧ (c.y + c.h < b.y ∨ (c.y + c.h = b.y ∧ c.s ≠ b.s)) ∧ okR (c :: l)
theorem okR_head {b : Bnd} {l : List Bnd} (h : okR (b :: l)) : 0 < b.h ∧ b.s ≠ [] ∧ okS b.s := by
  cases l with
  | nil => exact h
  | cons c l => exact h.1
theorem okR_tail {b : Bnd} {l : List Bnd} (h : okR (b :: l)) : okR l := by
  cases l with
  | nil => trivial
  | cons c l => exact h.2.2
/-- A band more, below all; or the last one is as much higher. -/
def pushR (y h : Int) (S : List (Int × Int)) : List Bnd → List Bnd
  | [] => if S = [] then [] else [⟨y, h, S⟩]
  | b :: r => if b.y + b.h = y ∧ b.s = S then ⟨b.y, b.h + h, b.s⟩ :: r else if S = [] then b :: r else ⟨y, h, S⟩ :: b :: r
theorem pushR_ok {y h : Int} {S : List (Int × Int)} {l : List Bnd} (hl : okR l) (hh : 0 < h) (hS : okS S) (hy : ∀ b r, l = b :: r → b.y + b.h ≤ y) : okR (pushR y h S l) := by
  cases l with
  | nil =>
    rw [pushR]
    split
    · trivial
    · rename_i h1; exact ⟨hh, h1, hS⟩
  | cons b r =>
    have hb := okR_head hl
    have hby := hy b r rfl
    rw [pushR]
    split
    · rename_i h1
      cases r with
      | nil => exact ⟨by dsimp only; omega, hb.2⟩
      | cons c r => exact ⟨⟨by dsimp only; omega, hb.2⟩, hl.2.1, hl.2.2⟩
    · rename_i h1
      split
      · exact hl
      · rename_i h2
        refine ⟨⟨hh, h2, hS⟩, ?_, hl⟩
        by_cases h3 : b.y + b.h = y
        · exact .inr ⟨h3, fun e => h1 ⟨h3, e⟩⟩
        · exact .inl (by dsimp only; omega)
theorem pushR_end {y h : Int} {S : List (Int × Int)} {l : List Bnd} (hh : 0 < h) (hy : ∀ b r, l = b :: r → b.y + b.h ≤ y) : ∀ b r, pushR y h S l = b :: r → b.y + b.h ≤ y + h := by
  intro b r e
  cases l with
  | nil =>
    rw [pushR] at e
    split at e
    · cases e
    · cases e; exact Int.le_refl _
  | cons c l =>
    have hcy := hy c l rfl
    rw [pushR] at e
    split at e
    · rename_i h1; cases e; dsimp only; omega
    · split at e
      · cases e; omega
      · cases e; exact Int.le_refl _
theorem inB_cons {b : Bnd} {l : List Bnd} {x y : Int} : inB (b :: l) x y ↔ ((b.y ≤ y ∧ y < b.y + b.h) ∧ inS b.s x) ∨ inB l x y := by
  unfold inB
  constructor
  · rintro ⟨c, hc, h⟩
    rcases List.mem_cons.1 hc with rfl | hc
    · exact .inl h
    · exact .inr ⟨c, hc, h⟩
  · rintro (h | ⟨c, hc, h⟩)
    · exact ⟨b, by simp, h⟩
    · exact ⟨c, by simp [hc], h⟩
theorem inS_nil {x : Int} : ¬ inS [] x := fun ⟨_, h, _⟩ => by cases h
theorem pushR_in {y h : Int} {S : List (Int × Int)} {l : List Bnd} (hl : okR l) (hh : 0 < h) (x y' : Int) : inB (pushR y h S l) x y' ↔ inB l x y' ∨ ((y ≤ y' ∧ y' < y + h) ∧ inS S x) := by
  have hadd : ∀ m, inB (⟨y, h, S⟩ :: m) x y' ↔ inB m x y' ∨ ((y ≤ y' ∧ y' < y + h) ∧ inS S x) := fun m => by rw [inB_cons]; exact Or.comm
  have hnone : S = [] → (inB l x y' ↔ inB l x y' ∨ ((y ≤ y' ∧ y' < y + h) ∧ inS S x)) := fun e => by
    subst e
    exact ⟨.inl, fun h => h.elim id fun h => absurd h.2 inS_nil⟩
  cases l with
  | nil =>
    rw [pushR]
    split
    · rename_i h1; exact hnone h1
    · exact hadd []
  | cons b r =>
    have hb := okR_head hl
    rw [pushR]
    split
    · rename_i h1
      obtain ⟨h1, h2⟩ := h1
      rw [inB_cons, inB_cons, h2]
      dsimp only
      constructor
      · rintro (⟨h3, h4⟩ | h3)
        · by_cases h5 : y' < y
          · exact .inl (.inl ⟨⟨h3.1, by omega⟩, h4⟩)
          · exact .inr ⟨⟨by omega, by omega⟩, h4⟩
        · exact .inl (.inr h3)
      · rintro ((⟨h3, h4⟩ | h3) | ⟨h3, h4⟩)
        · exact .inl ⟨⟨h3.1, by omega⟩, h4⟩
        · exact .inr h3
        · exact .inl ⟨⟨by omega, by omega⟩, h4⟩
    · split
      · rename_i h1; exact hnone h1
      · exact hadd (b :: r)
theorem okB_snoc : ∀ {l : List Bnd} {b : Bnd}, okB l → (0 < b.h ∧ b.s ≠ [] ∧ okS b.s) → (∀ m c, l = m ++ [c] → c.y + c.h < b.y ∨ (c.y + c.h = b.y ∧ c.s ≠ b.s)) → okB (l ++ [b])
  | [], b, _, hb, _ => hb
  | [c], b, hc, hb, h => ⟨hc, h [] c rfl, hb⟩
  | c :: d :: l, b, hl, hb, h => ⟨hl.1, hl.2.1, okB_snoc (l := d :: l) hl.2.2 hb fun m e he => h (c :: m) e (by rw [he]; rfl)⟩
theorem okB_rev : ∀ {l : List Bnd}, okR l → okB l.reverse
  | [], _ => trivial
  | b :: l, h => by
    rw [List.reverse_cons]
    refine okB_snoc (okB_rev (okR_tail h)) (okR_head h) fun m c e => ?_
    cases l with
    | nil => simp at e
    | cons d l =>
      rw [List.reverse_cons] at e
      have := List.append_inj' e rfl
      simp at this
      rw [← this.2]
      exact h.2.1
theorem inB_rev {l : List Bnd} {x y : Int} : inB l.reverse x y ↔ inB l x y := by
  unfold inB; simp only [List.mem_reverse]
end Go.AM
