import Derived.Test.YtoaialdcgmkbgaaGreatRA2

set_option linter.all false
namespace Go.AM
structure Rc where
 x : Int
 y : Int
 w : Int
 h : Int
 deriving DecidableEq
def Rc.has (r : Rc) (px py : Int) : Prop := (r.x <= px /\ px < r.x + r.w) /\ r.y <= py /\ py < r.y + r.h
def qL (l : List Rc) (px py : Int) : Prop := ∃ r ∈ l, r.has px py
def jB6 : List (Int × Int) -> Prop
 | [] => True
 | [s] => s.1 < s.2
 | s :: t :: l => s.1 < s.2 /\ s.2 < t.1 /\ jB6 (t :: l)
def jK5 (l : List (Int × Int)) (x : Int) : Prop := ∃ s ∈ l, s.1 <= x /\ x < s.2
theorem xr {s : Int × Int} {l : List (Int × Int)} (h : jB6 (s :: l)) : jB6 l /\ s.1 < s.2 /\ ∀ t ∈ l, s.2 < t.1 := by
 induction l generalizing s with
 | nil => exact ⟨trivial, h, by simp⟩
 | cons t l ih =>
   obtain ⟨h1, h2, h3⟩ := h
   obtain ⟨h4, h5, h6⟩ := ih h3
   refine ⟨h3, h1, fun u hu => ?_⟩
   rcases List.mem_cons.1 hu with rfl | hu
   ·exact h2
   ·have := h6 u hu; omega
theorem kb7 : ∀ {a b : List (Int × Int)}, jB6 a -> jB6 b -> (∀ x, jK5 a x ↔ jK5 b x) -> a = b
 | [], [], _, _, _ => rfl
 | [], s :: b, _, hb, h => by
   obtain ⟨_, h1, _⟩ := xr hb
   obtain ⟨t, ht, _⟩ := (h s.1).2 ⟨s, by simp, by omega, h1⟩
   cases ht
 | s :: a, [], ha, _, h => by
   obtain ⟨_, h1, _⟩ := xr ha
   obtain ⟨t, ht, _⟩ := (h s.1).1 ⟨s, by simp, by omega, h1⟩
   cases ht
 | s :: a, t :: b, ha, hb, h => by
   obtain ⟨a1, a2, a3⟩ := xr ha
   obtain ⟨b1, b2, b3⟩ := xr hb
   have hlow : ∀ {s : Int × Int} {a : List (Int × Int)}, (∀ t ∈ a, s.2 < t.1) -> s.1 < s.2 -> ∀ x, jK5 (s :: a) x -> s.1 <= x := fun h1 h2 x ⟨u, hu, h3, h4⟩ => by
    rcases List.mem_cons.1 hu with rfl | hu
    ·exact h3
    ·have := h1 u hu; omega
   have e1 : s.1 = t.1 := by
    have h1 := hlow b3 b2 s.1 ((h s.1).1 ⟨s, by simp, by omega, a2⟩)
    have h2 := hlow a3 a2 t.1 ((h t.1).2 ⟨t, by simp, by omega, b2⟩)
    omega
   have hnot : ∀ {s : Int × Int} {a : List (Int × Int)}, (∀ t ∈ a, s.2 < t.1) -> ¬ jK5 (s :: a) s.2 := fun h1 ⟨u, hu, h3, h4⟩ => by
    rcases List.mem_cons.1 hu with rfl | hu
    ·omega
    ·have := h1 u hu; omega
   have e2 : s.2 = t.2 := by
    rcases Int.lt_trichotomy s.2 t.2 with h1 | h1 | h1
    ·exact absurd ((h s.2).2 ⟨t, by simp, by omega, h1⟩) (hnot a3)
    ·exact h1
    ·exact absurd ((h t.2).1 ⟨s, by simp, by omega, h1⟩) (hnot b3)
   have est : s = t := Prod.ext e1 e2
   subst est
   rw [kb7 a1 b1 fun x => ?_]
   constructor
   ·rintro ⟨u, hu, h1, h2⟩
    have hx : s.2 < u.1 := a3 u hu
    obtain ⟨v, hv, h3, h4⟩ := (h x).1 ⟨u, by simp [hu], h1, h2⟩
    rcases List.mem_cons.1 hv with rfl | hv
    ·omega
    ·exact ⟨v, hv, h3, h4⟩
   ·rintro ⟨u, hu, h1, h2⟩
    have hx : s.2 < u.1 := b3 u hu
    obtain ⟨v, hv, h3, h4⟩ := (h x).2 ⟨u, by simp [hu], h1, h2⟩
    rcases List.mem_cons.1 hv with rfl | hv
    ·omega
    ·exact ⟨v, hv, h3, h4⟩
structure Bnd where
 y : Int
 h : Int
 s : List (Int × Int)
def ki3 : List Bnd -> Prop
 | [] => True
 | [b] => 0 < b.h /\ b.s ≠ [] /\ jB6 b.s
 | b :: c :: l => (0 < b.h /\ b.s ≠ [] /\ jB6 b.s) /\ (b.y + b.h < c.y \/ (b.y + b.h = c.y /\ b.s ≠ c.s)) /\ ki3 (c :: l)
def jD0 (l : List Bnd) (x y : Int) : Prop := ∃ b ∈ l, (b.y <= y /\ y < b.y + b.h) /\ jK5 b.s x
def qG (l : List Bnd) : List Rc := l.flatMap fun b => b.s.map fun s => ⟨s.1, b.y, s.2 - s.1, b.h⟩
theorem YK (l : List Bnd) (x y : Int) : qL (qG l) x y ↔ jD0 l x y := by
 constructor
 ·rintro ⟨r, hr, hh⟩
  obtain ⟨b, hb, hr⟩ := List.mem_flatMap.1 hr
  obtain ⟨s, hs, rfl⟩ := List.mem_map.1 hr
  exact ⟨b, hb, hh.2, s, hs, hh.1.1, by have := hh.1.2; dsimp only at this; omega⟩
 ·rintro ⟨b, hb, hy, s, hs, h1, h2⟩
  exact ⟨⟨s.1, b.y, s.2 - s.1, b.h⟩, List.mem_flatMap.2 ⟨b, hb, List.mem_map.2 ⟨s, hs, rfl⟩⟩, ⟨h1, by dsimp only; omega⟩, hy⟩
theorem vy {b : Bnd} {l : List Bnd} (h : ki3 (b :: l)) : ki3 l /\ (0 < b.h /\ b.s ≠ [] /\ jB6 b.s) /\ (∀ c ∈ l, b.y + b.h <= c.y) /\ (∀ c r, l = c :: r -> b.y + b.h = c.y -> b.s ≠ c.s) := by
 induction l generalizing b with
 | nil => exact ⟨trivial, h, by simp, by simp⟩
 | cons c l ih =>
   obtain ⟨h1, h2, h3⟩ := h
   obtain ⟨h4, h5, h6, _⟩ := ih h3
   refine ⟨h3, h1, fun d hd => ?_, fun d r hd he => ?_⟩
   ·rcases List.mem_cons.1 hd with rfl | hd
    ·rcases h2 with h2 | h2 <;> omega
    ·have := h6 d hd; rcases h2 with h2 | h2 <;> omega
   ·simp only [List.cons.injEq] at hd
    obtain ⟨rfl, _⟩ := hd
    rcases h2 with h2 | h2
    ·omega
    ·exact h2.2
theorem Ke {s : List (Int × Int)} (h : jB6 s) (hn : s ≠ []) : ∃ x, jK5 s x := by
 cases s with
 | nil => exact absurd rfl hn
 | cons t l => exact ⟨t.1, t, by simp, by have := (xr h).2.1; omega⟩
theorem xN {b : Bnd} {l : List Bnd} (h : ki3 (b :: l)) {x y : Int} (hy : y < b.y + b.h) : jD0 (b :: l) x y ↔ b.y <= y /\ jK5 b.s x := by
 obtain ⟨_, _, h3, _⟩ := vy h
 constructor
 ·rintro ⟨c, hc, h1, h2⟩
  rcases List.mem_cons.1 hc with rfl | hc
  ·exact ⟨h1.1, h2⟩
  ·have := h3 c hc; omega
 ·rintro ⟨h1, h2⟩
  exact ⟨b, by simp, ⟨h1, hy⟩, h2⟩
theorem jC9 {b : Bnd} {l : List Bnd} (h : ki3 (b :: l)) : ¬ ∀ x, jD0 (b :: l) x (b.y + b.h) ↔ jK5 b.s x := by
 intro hx
 obtain ⟨h1, h2, h3, h4⟩ := vy h
 obtain ⟨x0, hx0⟩ := Ke h2.2.2 h2.2.1
 cases l with
 | nil =>
   obtain ⟨c, hc, h5, _⟩ := (hx x0).2 hx0
   simp at hc; subst hc; omega
 | cons c l =>
   have hcy := h3 c (by simp)
   obtain ⟨_, c2, c3, _⟩ := vy h1
   by_cases he : b.y + b.h = c.y
   ·apply h4 c l rfl he
    refine kb7 h2.2.2 c2.2.2 fun x => ?_
    rw [<- hx x, he]
    have hf := xN h1 (x := x) (y := c.y) (by omega)
    constructor
    ·rintro ⟨d, hd, h5, h6⟩
     rcases List.mem_cons.1 hd with rfl | hd
     ·omega
     ·exact (hf.1 ⟨d, hd, h5, h6⟩).2
    ·intro h5
     obtain ⟨d, hd, h6⟩ := hf.2 ⟨by omega, h5⟩
     exact ⟨d, by simp [hd], h6⟩
   ·obtain ⟨d, hd, h5, _⟩ := (hx x0).2 hx0
    rcases List.mem_cons.1 hd with rfl | hd
    ·omega
    ·rcases List.mem_cons.1 hd with rfl | hd
     ·omega
     ·have := c3 d hd; have := c2.1; omega
theorem kx7 : ∀ {a b : List Bnd}, ki3 a -> ki3 b -> (∀ x y, jD0 a x y ↔ jD0 b x y) -> a = b
 | [], [], _, _, _ => rfl
 | [], b :: m, _, hb, h => by
   obtain ⟨_, h2, _⟩ := vy hb
   obtain ⟨x, hx⟩ := Ke h2.2.2 h2.2.1
   obtain ⟨c, hc, _⟩ := (h x b.y).2 ⟨b, by simp, by omega, hx⟩
   cases hc
 | a :: l, [], ha, _, h => by
   obtain ⟨_, h2, _⟩ := vy ha
   obtain ⟨x, hx⟩ := Ke h2.2.2 h2.2.1
   obtain ⟨c, hc, _⟩ := (h x a.y).1 ⟨a, by simp, by omega, hx⟩
   cases hc
 | a :: l, b :: m, ha, hb, h => by
   obtain ⟨a1, a2, a3, a4⟩ := vy ha
   obtain ⟨b1, b2, b3, b4⟩ := vy hb
   obtain ⟨xa, hxa⟩ := Ke a2.2.2 a2.2.1
   obtain ⟨xb, hxb⟩ := Ke b2.2.2 b2.2.1
   have hlow : ∀ {b : Bnd} {m : List Bnd}, ki3 (b :: m) -> ∀ x y, jD0 (b :: m) x y -> b.y <= y := fun hb x y ⟨c, hc, h1, _⟩ => by
    obtain ⟨_, h2, h3, _⟩ := vy hb
    rcases List.mem_cons.1 hc with rfl | hc
    ·exact h1.1
    ·have := h3 c hc; omega
   have ey : a.y = b.y := by
    have h1 := hlow hb xa a.y ((h xa a.y).1 ((xN ha (by omega)).2 ⟨by omega, hxa⟩))
    have h2 := hlow ha xb b.y ((h xb b.y).2 ((xN hb (by omega)).2 ⟨by omega, hxb⟩))
    omega
   have es : a.s = b.s := kb7 a2.2.2 b2.2.2 fun x => by
    have h1 := xN ha (x := x) (y := a.y) (by omega)
    have h2 := xN hb (x := x) (y := a.y) (by omega)
    have h3 := h x a.y
    rw [h1, h2] at h3
    constructor
    ·intro h4; exact (h3.1 ⟨by omega, h4⟩).2
    ·intro h4; exact (h3.2 ⟨by omega, h4⟩).2
   have eh : a.h = b.h := by
    rcases Int.lt_trichotomy a.h b.h with h1 | h1 | h1
    ·refine absurd (fun x => ?_) (jC9 ha)
     rw [h, xN hb (by omega), es]
     exact ⟨fun h => h.2, fun h => ⟨by omega, h⟩⟩
    ·exact h1
    ·refine absurd (fun x => ?_) (jC9 hb)
     rw [<- h, xN ha (by omega), es]
     exact ⟨fun h => h.2, fun h => ⟨by omega, h⟩⟩
   have eab : a = b := by cases a; cases b; simp_all
   subst eab
   rw [kx7 a1 b1 fun x y => ?_]
   constructor
   ·rintro ⟨c, hc, h1, h2⟩
    have hcy := a3 c hc
    obtain ⟨d, hd, h3, h4⟩ := (h x y).1 ⟨c, by simp [hc], h1, h2⟩
    rcases List.mem_cons.1 hd with rfl | hd
    ·omega
    ·exact ⟨d, hd, h3, h4⟩
   ·rintro ⟨c, hc, h1, h2⟩
    have hcy := b3 c hc
    obtain ⟨d, hd, h3, h4⟩ := (h x y).2 ⟨c, by simp [hc], h1, h2⟩
    rcases List.mem_cons.1 hd with rfl | hd
    ·omega
    ·exact ⟨d, hd, h3, h4⟩
def Jy (l : List Rc) : Prop := ∃ b, ki3 b /\ l = qG b
theorem kB9 {a b : List Rc} (ha : Jy a) (hb : Jy b) (h : ∀ x y, qL a x y ↔ qL b x y) : a = b := by
 obtain ⟨p, hp, rfl⟩ := ha
 obtain ⟨q, hq, rfl⟩ := hb
 rw [kx7 hp hq fun x y => by rw [<- YK, <- YK]; exact h x y]

def vP (s : Int × Int) : List (Int × Int) -> List (Int × Int)
 | [] => [s]
 | r :: l => if r.1 <= s.2 then vP (s.1, max s.2 r.2) l else s :: vP r l
def Lefts (a : Int) : List (Int × Int) -> Prop
 | [] => True
 | r :: l => (a <= r.1 /\ r.1 < r.2) /\ Lefts r.1 l
theorem Lefts.mono : ∀ {l : List (Int × Int)} {a b : Int}, b <= a -> Lefts a l -> Lefts b l
 | [], _, _, _, _ => trivial
 | r :: l, a, b, h, hl => ⟨⟨by have := hl.1.1; omega, hl.1.2⟩, hl.2⟩
theorem jr8 : ∀ {l : List (Int × Int)} {s : Int × Int}, ∃ t m, vP s l = t :: m /\ t.1 = s.1
 | [], s => ⟨s, [], rfl, rfl⟩
 | r :: l, s => by
   unfold vP
   split
   ·exact jr8 (l := l) (s := (s.1, max s.2 r.2))
   ·exact ⟨s, _, rfl, rfl⟩
theorem jr6 : ∀ {l : List (Int × Int)} {s : Int × Int}, s.1 < s.2 -> Lefts s.1 l -> jB6 (vP s l)
 | [], s, hs, _ => hs
 | r :: l, s, hs, hl => by
   obtain ⟨⟨h1, h2⟩, h3⟩ := hl
   unfold vP
   split
   ·exact jr6 (s := (s.1, max s.2 r.2)) (by dsimp only; omega) (h3.mono h1)
   ·rename_i h4
    have ih := jr6 (s := r) h2 h3
    obtain ⟨t, m, e, he⟩ := jr8 (l := l) (s := r)
    rw [e] at ih |-
    exact ⟨hs, by omega, ih⟩
theorem jr7 : ∀ {l : List (Int × Int)} {s : Int × Int}, s.1 < s.2 -> Lefts s.1 l -> ∀ x, jK5 (vP s l) x ↔ jK5 (s :: l) x
 | [], s, _, _, x => by unfold vP; exact Iff.rfl
 | r :: l, s, hs, hl, x => by
   obtain ⟨⟨h1, h2⟩, h3⟩ := hl
   unfold vP
   split
   ·rename_i h4
    rw [jr7 (s := (s.1, max s.2 r.2)) (by dsimp only; omega) (h3.mono h1)]
    constructor
    ·rintro ⟨u, hu, h5, h6⟩
     rcases List.mem_cons.1 hu with rfl | hu
     ·dsimp only at h5 h6
      by_cases h7 : x < s.2
      ·exact ⟨s, by simp, h5, h7⟩
      ·exact ⟨r, by simp, by omega, by omega⟩
     ·exact ⟨u, by simp [hu], h5, h6⟩
    ·rintro ⟨u, hu, h5, h6⟩
     rcases List.mem_cons.1 hu with rfl | hu
     ·exact ⟨_, List.mem_cons_self .., h5, by dsimp only; omega⟩
     ·rcases List.mem_cons.1 hu with rfl | hu
      ·exact ⟨_, List.mem_cons_self .., by dsimp only; omega, by dsimp only; omega⟩
      ·exact ⟨u, by simp [hu], h5, h6⟩
   ·have ih := jr7 (s := r) h2 h3 x
    constructor
    ·rintro ⟨u, hu, h5, h6⟩
     rcases List.mem_cons.1 hu with rfl | hu
     ·exact ⟨u, by simp, h5, h6⟩
     ·obtain ⟨v, hv, h7⟩ := ih.1 ⟨u, hu, h5, h6⟩
      exact ⟨v, by simp [List.mem_cons.1 hv], h7⟩
    ·rintro ⟨u, hu, h5, h6⟩
     rcases List.mem_cons.1 hu with rfl | hu
     ·exact ⟨u, by simp, h5, h6⟩
     ·obtain ⟨v, hv, h7⟩ := ih.2 ⟨u, hu, h5, h6⟩
      exact ⟨v, by simp [hv], h7⟩
def kI2 : List Bnd -> Prop
 | [] => True
 | [b] => 0 < b.h /\ b.s ≠ [] /\ jB6 b.s
 | b :: c :: l => (0 < b.h /\ b.s ≠ [] /\ jB6 b.s) /\ (c.y + c.h < b.y \/ (c.y + c.h = b.y /\ c.s ≠ b.s)) /\ kI2 (c :: l)
theorem Zu {b : Bnd} {l : List Bnd} (h : kI2 (b :: l)) : 0 < b.h /\ b.s ≠ [] /\ jB6 b.s := by
 cases l with
 | nil => exact h
 | cons c l => exact h.1
theorem kx5 {b : Bnd} {l : List Bnd} (h : kI2 (b :: l)) : kI2 l := by
 cases l with
 | nil => trivial
 | cons c l => exact h.2.2
def vG (y h : Int) (S : List (Int × Int)) : List Bnd -> List Bnd
 | [] => if S = [] then [] else [⟨y, h, S⟩]
 | b :: r => if b.y + b.h = y /\ b.s = S then ⟨b.y, b.h + h, b.s⟩ :: r else if S = [] then b :: r else ⟨y, h, S⟩ :: b :: r
theorem kv3 {y h : Int} {S : List (Int × Int)} {l : List Bnd} (hl : kI2 l) (hh : 0 < h) (hS : jB6 S) (hy : ∀ b r, l = b :: r -> b.y + b.h <= y) : kI2 (vG y h S l) := by
 cases l with
 | nil =>
   rw [vG]
   split
   ·trivial
   ·rename_i h1; exact ⟨hh, h1, hS⟩
 | cons b r =>
   have hb := Zu hl
   have hby := hy b r rfl
   rw [vG]
   split
   ·rename_i h1
    cases r with
    | nil => exact ⟨by dsimp only; omega, hb.2⟩
    | cons c r => exact ⟨⟨by dsimp only; omega, hb.2⟩, hl.2.1, hl.2.2⟩
   ·rename_i h1
    split
    ·exact hl
    ·rename_i h2
     refine ⟨⟨hh, h2, hS⟩, ?_, hl⟩
     by_cases h3 : b.y + b.h = y
     ·exact .inr ⟨h3, fun e => h1 ⟨h3, e⟩⟩
     ·exact .inl (by dsimp only; omega)
theorem kn5 {y h : Int} {S : List (Int × Int)} {l : List Bnd} (hh : 0 < h) (hy : ∀ b r, l = b :: r -> b.y + b.h <= y) : ∀ b r, vG y h S l = b :: r -> b.y + b.h <= y + h := by
 intro b r e
 cases l with
 | nil =>
   rw [vG] at e
   split at e
   ·cases e
   ·cases e; exact Int.le_refl _
 | cons c l =>
   have hcy := hy c l rfl
   rw [vG] at e
   split at e
   ·rename_i h1; cases e; dsimp only; omega
   ·split at e
    ·cases e; omega
    ·cases e; exact Int.le_refl _
theorem js1 {b : Bnd} {l : List Bnd} {x y : Int} : jD0 (b :: l) x y ↔ ((b.y <= y /\ y < b.y + b.h) /\ jK5 b.s x) \/ jD0 l x y := by
 unfold jD0
 constructor
 ·rintro ⟨c, hc, h⟩
  rcases List.mem_cons.1 hc with rfl | hc
  ·exact .inl h
  ·exact .inr ⟨c, hc, h⟩
 ·rintro (h | ⟨c, hc, h⟩)
  ·exact ⟨b, by simp, h⟩
  ·exact ⟨c, by simp [hc], h⟩
theorem kJ6 {x : Int} : ¬ jK5 [] x := fun ⟨_, h, _⟩ => by cases h
theorem kv4 {y h : Int} {S : List (Int × Int)} {l : List Bnd} (hl : kI2 l) (hh : 0 < h) (x y' : Int) : jD0 (vG y h S l) x y' ↔ jD0 l x y' \/ ((y <= y' /\ y' < y + h) /\ jK5 S x) := by
 have hadd : ∀ m, jD0 (⟨y, h, S⟩ :: m) x y' ↔ jD0 m x y' \/ ((y <= y' /\ y' < y + h) /\ jK5 S x) := fun m => by rw [js1]; exact Or.comm
 have hnone : S = [] -> (jD0 l x y' ↔ jD0 l x y' \/ ((y <= y' /\ y' < y + h) /\ jK5 S x)) := fun e => by
  subst e
  exact ⟨.inl, fun h => h.elim id fun h => absurd h.2 kJ6⟩
 cases l with
 | nil =>
   rw [vG]
   split
   ·rename_i h1; exact hnone h1
   ·exact hadd []
 | cons b r =>
   have hb := Zu hl
   rw [vG]
   split
   ·rename_i h1
    obtain ⟨h1, h2⟩ := h1
    rw [js1, js1, h2]
    dsimp only
    constructor
    ·rintro (⟨h3, h4⟩ | h3)
     ·by_cases h5 : y' < y
      ·exact .inl (.inl ⟨⟨h3.1, by omega⟩, h4⟩)
      ·exact .inr ⟨⟨by omega, by omega⟩, h4⟩
     ·exact .inl (.inr h3)
    ·rintro ((⟨h3, h4⟩ | h3) | ⟨h3, h4⟩)
     ·exact .inl ⟨⟨h3.1, by omega⟩, h4⟩
     ·exact .inr h3
     ·exact .inl ⟨⟨by omega, by omega⟩, h4⟩
   ·split
    ·rename_i h1; exact hnone h1
    ·exact hadd (b :: r)
theorem jT3 : ∀ {l : List Bnd} {b : Bnd}, ki3 l -> (0 < b.h /\ b.s ≠ [] /\ jB6 b.s) -> (∀ m c, l = m ++ [c] -> c.y + c.h < b.y \/ (c.y + c.h = b.y /\ c.s ≠ b.s)) -> ki3 (l ++ [b])
 | [], b, _, hb, _ => hb
 | [c], b, hc, hb, h => ⟨hc, h [] c rfl, hb⟩
 | c :: d :: l, b, hl, hb, h => ⟨hl.1, hl.2.1, jT3 (l := d :: l) hl.2.2 hb fun m e he => h (c :: m) e (by rw [he]; rfl)⟩
theorem ki2 : ∀ {l : List Bnd}, kI2 l -> ki3 l.reverse
 | [], _ => trivial
 | b :: l, h => by
   rw [List.reverse_cons]
   refine jT3 (ki2 (kx5 h)) (Zu h) fun m c e => ?_
   cases l with
   | nil => simp at e
   | cons d l =>
     rw [List.reverse_cons] at e
     have := List.append_inj' e rfl
     simp at this
     rw [<- this.2]
     exact h.2.1
theorem kJ7 {l : List Bnd} {x y : Int} : jD0 l.reverse x y ↔ jD0 l x y := by
 unfold jD0; simp only [List.mem_reverse]
end Go.AM
