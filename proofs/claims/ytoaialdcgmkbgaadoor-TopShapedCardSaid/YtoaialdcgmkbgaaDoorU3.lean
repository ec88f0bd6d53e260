
/- Regions: of places; strips; turned about. -/
import Derived.Test.YtoaialdcgmkbgaaDoorU2
set_option linter.all false
namespace Go.AM

def Reg (P : Int → Int → Prop) : Prop := ∃ out, Canon out ∧ ∀ x y, pts out x y ↔ P x y
open Classical in
/-- The list of a set of places. -/
noncomputable def reg (P : Int → Int → Prop) : List Rc := if h : Reg P then h.choose else []
theorem reg_spec {P : Int → Int → Prop} (h : Reg P) : Canon (reg P) ∧ ∀ x y, pts (reg P) x y ↔ P x y := by
  unfold reg
  rw [dif_pos h]
  exact h.choose_spec
theorem reg_eq {P : Int → Int → Prop} {out : List Rc} (hc : Canon out) (hp : ∀ x y, pts out x y ↔ P x y) : reg P = out := by
  have h : Reg P := ⟨out, hc, hp⟩
  obtain ⟨h1, h2⟩ := reg_spec h
  exact canon_eq h1 hc fun x y => (h2 x y).trans (hp x y).symm
theorem reg_ext {P Q : Int → Int → Prop} (h : ∀ x y, P x y ↔ Q x y) : reg P = reg Q := by
  have e : P = Q := funext fun x => funext fun y => propext (h x y)
  rw [e]

/-- Numbers, each greater than those ahead. -/
def Ups : List Int → Prop
  | [] => True
  | [_] => True
  | a :: b :: l => a < b ∧ Ups (b :: l)
theorem Ups.tail {a : Int} {l : List Int} (h : Ups (a :: l)) : Ups l ∧ ∀ b ∈ l, a < b := by
  induction l generalizing a with
  | nil => exact ⟨trivial, by simp⟩
  | cons c l ih =>
    obtain ⟨h1, h2⟩ := h
    refine ⟨h2, fun b hb => ?_⟩
    rcases List.mem_cons.1 hb with rfl | hb
    · exact h1
    · have := (ih h2).2 b hb; omega
theorem Ups.lt : ∀ {l : List Int} {i j : Nat} (hj : j < l.length), Ups l → (hij : i < j) → l[i]'(by omega) < l[j]
  | [], _, _, hj, _, _ => by simp at hj
  | a :: l, 0, j + 1, hj, h, _ => by
    simp only [List.getElem_cons_zero, List.getElem_cons_succ]
    exact h.tail.2 _ (List.getElem_mem _)
  | a :: l, i + 1, j + 1, hj, h, hij => by
    simp only [List.getElem_cons_succ]
    exact Ups.lt (by simpa using hj) h.tail.1 (by omega)
  | a :: l, i + 1, 0, _, _, hij => by omega
  | a :: l, 0, 0, _, _, hij => by omega
/-- What begins or ends at these numbers is the same all over a strip. -/
theorem strip_const {l : List Int} (h : Ups l) {i : Nat} (hi : i + 1 < l.length) {a y : Int} (ha : a ∈ l) (h1 : l[i]'(by omega) ≤ y) (h2 : y < l[i + 1]) : a ≤ y ↔ a ≤ l[i]'(by omega) := by
  obtain ⟨j, hj, rfl⟩ := List.mem_iff_getElem.1 ha
  constructor
  · intro h3
    rcases Nat.lt_trichotomy j i with h4 | h4 | h4
    · have := h.lt (by omega : i < l.length) h4; omega
    · subst h4; exact Int.le_refl _
    · rcases Nat.lt_or_ge (i + 1) j with h5 | h5
      · have := h.lt hj h5; omega
      · have e : j = i + 1 := by omega
        subst e; omega
  · intro h3; omega
theorem strip_of : ∀ {l : List Int} {a b y : Int}, Ups l → a ∈ l → b ∈ l → a ≤ y → y < b → ∃ i, ∃ hi : i + 1 < l.length, l[i]'(by omega) ≤ y ∧ y < l[i + 1]
  | [], a, b, y, _, ha, _, _, _ => by cases ha
  | [c], a, b, y, _, ha, hb, h1, h2 => by
    simp at ha hb; omega
  | c :: d :: l, a, b, y, h, ha, hb, h1, h2 => by
    by_cases hd : y < d
    · refine ⟨0, by simp, ?_, by simpa using hd⟩
      simp only [List.getElem_cons_zero]
      rcases List.mem_cons.1 ha with rfl | ha
      · exact h1
      · have := h.tail.2 a ha; omega
    · have hb' : b ∈ d :: l := by
        rcases List.mem_cons.1 hb with rfl | hb
        · have := h.1; omega
        · exact hb
      obtain ⟨i, hi, h3, h4⟩ := strip_of (l := d :: l) (a := d) (b := b) (y := y) h.2 (by simp) hb' (by omega) h2
      exact ⟨i + 1, by simp at hi ⊢; omega, by simpa using h3, by simpa using h4⟩

/-- Turned about. -/
theorem okS_snoc : ∀ {l : List (Int × Int)} {t : Int × Int}, okS l → t.1 < t.2 → (∀ m c, l = m ++ [c] → c.2 < t.1) → okS (l ++ [t])
  | [], t, _, ht, _ => ht
  | [c], t, hc, ht, h => ⟨hc, h [] c rfl, ht⟩
  | c :: d :: l, t, hl, ht, h => ⟨hl.1, hl.2.1, okS_snoc (l := d :: l) hl.2.2 ht fun m e he => h (c :: m) e (by rw [he]; rfl)⟩
def flipS (w : Int) (l : List (Int × Int)) : List (Int × Int) := (l.map fun s => (w - s.2, w - s.1)).reverse
theorem flipS_ok {w : Int} : ∀ {l : List (Int × Int)}, okS l → okS (flipS w l)
  | [], _ => trivial
  | s :: l, h => by
    obtain ⟨h1, h2, h3⟩ := okS_tail h
    unfold flipS
    rw [List.map_cons, List.reverse_cons]
    refine okS_snoc (flipS_ok h1) (by dsimp only; omega) fun m c e => ?_
    cases l with
    | nil => simp at e
    | cons t l =>
      rw [List.map_cons, List.reverse_cons] at e
      have := List.append_inj' e rfl
      simp only [List.cons.injEq, and_true] at this
      have h4 := h3 t (by simp)
      rw [← this.2]; dsimp only; omega
theorem flipS_in {w : Int} {l : List (Int × Int)} {x : Int} : inS (flipS w l) x ↔ inS l (w - 1 - x) := by
  unfold inS flipS
  constructor
  · rintro ⟨s, hs, h1, h2⟩
    rw [List.mem_reverse] at hs
    obtain ⟨t, ht, rfl⟩ := List.mem_map.1 hs
    dsimp only at h1 h2
    exact ⟨t, ht, by omega, by omega⟩
  · rintro ⟨t, ht, h1, h2⟩
    exact ⟨(w - t.2, w - t.1), List.mem_reverse.2 (List.mem_map.2 ⟨t, ht, rfl⟩), by dsimp only; omega, by dsimp only; omega⟩
theorem flipS_inj {w : Int} {l m : List (Int × Int)} (h : flipS w l = flipS w m) : l = m := by
  unfold flipS at h
  rw [List.reverse_inj] at h
  have hinj : ∀ s t : Int × Int, (w - s.2, w - s.1) = (w - t.2, w - t.1) → s = t := fun s t e => by
    simp only [Prod.mk.injEq] at e
    exact Prod.ext (by omega) (by omega)
  induction l generalizing m with
  | nil => cases m with
    | nil => rfl
    | cons t m => simp at h
  | cons s l ih => cases m with
    | nil => simp at h
    | cons t m =>
      simp only [List.map_cons, List.cons.injEq] at h
      rw [hinj s t h.1, ih h.2]
theorem flipS_ne {w : Int} {l : List (Int × Int)} (h : l ≠ []) : flipS w l ≠ [] := by
  cases l with
  | nil => exact absurd rfl h
  | cons t l => simp [flipS]
def flipX (w : Int) (l : List Bnd) : List Bnd := l.map fun b => ⟨b.y, b.h, flipS w b.s⟩
theorem flipX_ok {w : Int} : ∀ {l : List Bnd}, okB l → okB (flipX w l)
  | [], _ => trivial
  | [b], h => ⟨h.1, flipS_ne h.2.1, flipS_ok h.2.2⟩
  | b :: c :: l, h => ⟨⟨h.1.1, flipS_ne h.1.2.1, flipS_ok h.1.2.2⟩,
      h.2.1.elim .inl fun h => .inr ⟨h.1, fun e => h.2 (flipS_inj e)⟩, flipX_ok (l := c :: l) h.2.2⟩
theorem flipX_in {w : Int} {l : List Bnd} {x y : Int} : inB (flipX w l) x y ↔ inB l (w - 1 - x) y := by
  unfold inB flipX
  constructor
  · rintro ⟨b, hb, h1, h2⟩
    obtain ⟨c, hc, rfl⟩ := List.mem_map.1 hb
    exact ⟨c, hc, h1, flipS_in.1 h2⟩
  · rintro ⟨b, hb, h1, h2⟩
    exact ⟨_, List.mem_map.2 ⟨b, hb, rfl⟩, h1, flipS_in.2 h2⟩
def flipY (h : Int) (l : List Bnd) : List Bnd := (l.map fun b => (⟨h - b.y - b.h, b.h, b.s⟩ : Bnd)).reverse
theorem flipY_ok {h : Int} : ∀ {l : List Bnd}, okB l → okB (flipY h l)
  | [], _ => trivial
  | b :: l, hb => by
    obtain ⟨h1, h2, h3, h4⟩ := okB_tail hb
    unfold flipY
    rw [List.map_cons, List.reverse_cons]
    refine okB_snoc (flipY_ok h1) h2 fun m c e => ?_
    cases l with
    | nil => simp at e
    | cons d l =>
      rw [List.map_cons, List.reverse_cons] at e
      have := List.append_inj' e rfl
      simp only [List.cons.injEq, and_true] at this
      have h5 := h3 d (by simp)
      rw [← this.2]; dsimp only
      by_cases he : b.y + b.h = d.y
      · exact .inr ⟨by omega, fun e => h4 d l rfl he e.symm⟩
      · exact .inl (by omega)
theorem flipY_in {h : Int} {l : List Bnd} {x y : Int} : inB (flipY h l) x y ↔ inB l x (h - 1 - y) := by
  unfold inB flipY
  constructor
  · rintro ⟨b, hb, h1, h2⟩
    rw [List.mem_reverse] at hb
    obtain ⟨c, hc, rfl⟩ := List.mem_map.1 hb
    dsimp only at h1 h2
    exact ⟨c, hc, ⟨by omega, by omega⟩, h2⟩
  · rintro ⟨b, hb, h1, h2⟩
    exact ⟨_, List.mem_reverse.2 (List.mem_map.2 ⟨b, hb, rfl⟩), ⟨by dsimp only; omega, by dsimp only; omega⟩, h2⟩
def area (l : List Rc) : Int := (l.map fun r => r.w * r.h).sum
theorem area_app (a b : List Rc) : area (a ++ b) = area a + area b := by simp [area]
theorem area_band (y h : Int) (s : List (Int × Int)) : area (s.map fun s => (⟨s.1, y, s.2 - s.1, h⟩ : Rc)) = (s.map fun s => (s.2 - s.1) * h).sum := by
  simp [area, Function.comp_def]
theorem area_flat_cons (b : Bnd) (l : List Bnd) : area (flatB (b :: l)) = (b.s.map fun s => (s.2 - s.1) * b.h).sum + area (flatB l) := by
  unfold flatB
  rw [List.flatMap_cons, area_app, area_band]
theorem sum_rev : ∀ (l : List Int), l.reverse.sum = l.sum
  | [] => rfl
  | a :: l => by rw [List.reverse_cons, List.sum_append, sum_rev l]; simp; omega
theorem area_flipX {w : Int} : ∀ (l : List Bnd), area (flatB (flipX w l)) = area (flatB l)
  | [] => rfl
  | b :: l => by
    show area (flatB (⟨b.y, b.h, flipS w b.s⟩ :: flipX w l)) = _
    rw [area_flat_cons, area_flat_cons, area_flipX l]
    unfold flipS
    rw [List.map_reverse, sum_rev, List.map_map]
    congr 2
    apply List.map_congr_left
    intro s _
    dsimp only [Function.comp]
    congr 1; omega
theorem area_flat_app (a b : List Bnd) : area (flatB (a ++ b)) = area (flatB a) + area (flatB b) := by
  unfold flatB; rw [List.flatMap_append, area_app]
theorem area_flipY {h : Int} : ∀ (l : List Bnd), area (flatB (flipY h l)) = area (flatB l)
  | [] => rfl
  | b :: l => by
    unfold flipY
    rw [List.map_cons, List.reverse_cons, area_flat_app]
    have := area_flipY (h := h) l
    unfold flipY at this
    rw [this, area_flat_cons, area_flat_cons]
    simp [flatB, area]; omega
/-- The area of what is turned about. -/
theorem area_turned {P : Int → Int → Prop} (h : Reg P) {n : Int} : (Reg (fun x y => P (n - 1 - x) y) ∧ area (reg fun x y => P (n - 1 - x) y) = area (reg P)) ∧ (Reg (fun x y => P x (n - 1 - y)) ∧ area (reg fun x y => P x (n - 1 - y)) = area (reg P)) := by
  obtain ⟨⟨b, hb, e⟩, hp⟩ := reg_spec h
  rw [e] at hp ⊢
  have hx : Canon (flatB (flipX n b)) ∧ ∀ x y, pts (flatB (flipX n b)) x y ↔ P (n - 1 - x) y := ⟨⟨_, flipX_ok hb, rfl⟩, fun x y => by rw [flat_pts, flipX_in, ← flat_pts, hp]⟩
  have hy : Canon (flatB (flipY n b)) ∧ ∀ x y, pts (flatB (flipY n b)) x y ↔ P x (n - 1 - y) := ⟨⟨_, flipY_ok hb, rfl⟩, fun x y => by rw [flat_pts, flipY_in, ← flat_pts, hp]⟩
  refine ⟨⟨⟨_, hx⟩, ?_⟩, ⟨_, hy⟩, ?_⟩
  · rw [reg_eq hx.1 hx.2, area_flipX]
  · rw [reg_eq hy.1 hy.2, area_flipY]
end Go.AM
