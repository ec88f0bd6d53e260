import Derived.Test.YtoaialdcgmkbgaaGreatRA2

set_option linter.all false
namespace Go.AM
structure Rc where
 x : Int
 y : Int
 w : Int
 h : Int
 deriving DecidableEq
def Rc.has (r : Rc) (px py : Int) : Prop := (r.x <= px /\ px < r.x + r.w) /\ r.y <= py /\ py < r.y + r.h
def pts (l : List Rc) (px py : Int) : Prop := ∃ r ∈ l, r.has px py
def okS : List (Int × Int) -> Prop
 | [] => True
 | [s] => s.1 < s.2
 | s :: t :: l => s.1 < s.2 /\ s.2 < t.1 /\ okS (t :: l)
def inS (l : List (Int × Int)) (x : Int) : Prop := ∃ s ∈ l, s.1 <= x /\ x < s.2
theorem xo {s : Int × Int} {l : List (Int × Int)} (h : okS (s :: l)) : okS l /\ s.1 < s.2 /\ ∀ t ∈ l, s.2 < t.1 := by
 induction l generalizing s with
 | nil => exact ⟨trivial, h, by simp⟩
 | cons t l ih =>
   obtain ⟨h1, h2, h3⟩ := h
   obtain ⟨h4, h5, h6⟩ := ih h3
   refine ⟨h3, h1, fun u hu => ?_⟩
   rcases List.mem_cons.1 hu with rfl | hu
   ·exact h2
   ·have := h6 u hu; omega
theorem jA1 : ∀ {a b : List (Int × Int)}, okS a -> okS b -> (∀ x, inS a x ↔ inS b x) -> a = b
 | [], [], _, _, _ => rfl
 | [], s :: b, _, hb, h => by
   obtain ⟨_, h1, _⟩ := xo hb
   obtain ⟨t, ht, _⟩ := (h s.1).2 ⟨s, by simp, by omega, h1⟩
   cases ht
 | s :: a, [], ha, _, h => by
   obtain ⟨_, h1, _⟩ := xo ha
   obtain ⟨t, ht, _⟩ := (h s.1).1 ⟨s, by simp, by omega, h1⟩
   cases ht
 | s :: a, t :: b, ha, hb, h => by
   obtain ⟨a1, a2, a3⟩ := xo ha
   obtain ⟨b1, b2, b3⟩ := xo hb
   have hlow : ∀ {s : Int × Int} {a : List (Int × Int)}, (∀ t ∈ a, s.2 < t.1) -> s.1 < s.2 -> ∀ x, inS (s :: a) x -> s.1 <= x := fun h1 h2 x ⟨u, hu, h3, h4⟩ => by
    rcases List.mem_cons.1 hu with rfl | hu
    ·exact h3
    ·have := h1 u hu; omega
   have e1 : s.1 = t.1 := by
    have h1 := hlow b3 b2 s.1 ((h s.1).1 ⟨s, by simp, by omega, a2⟩)
    have h2 := hlow a3 a2 t.1 ((h t.1).2 ⟨t, by simp, by omega, b2⟩)
    omega
   have hnot : ∀ {s : Int × Int} {a : List (Int × Int)}, (∀ t ∈ a, s.2 < t.1) -> ¬ inS (s :: a) s.2 := fun h1 ⟨u, hu, h3, h4⟩ => by
    rcases List.mem_cons.1 hu with rfl | hu
    ·omega
    ·have := h1 u hu; omega
   have e2 : s.2 = t.2 := by
    rcases Int.lt_trichotomy s.2 t.2 with h1 | h1 | h1
    ·exact absurd ((h s.2).2 ⟨t, by simp, by omega, h1⟩) (hnot a3)
    ·exact h1
    ·exact absurd ((h t.2).1 ⟨s, by simp, by omega, h1⟩) (hnot b3)
   have est : s = t := Prod.ext e1 e2
   subst est
   rw [jA1 a1 b1 fun x => ?_]
   constructor
   ·rintro ⟨u, hu, h1, h2⟩
    have hx : s.2 < u.1 := a3 u hu
    obtain ⟨v, hv, h3, h4⟩ := (h x).1 ⟨u, by simp [hu], h1, h2⟩
    rcases List.mem_cons.1 hv with rfl | hv
    ·omega
    ·exact ⟨v, hv, h3, h4⟩
   ·rintro ⟨u, hu, h1, h2⟩
    have hx : s.2 < u.1 := b3 u hu
    obtain ⟨v, hv, h3, h4⟩ := (h x).2 ⟨u, by simp [hu], h1, h2⟩
    rcases List.mem_cons.1 hv with rfl | hv
    ·omega
    ·exact ⟨v, hv, h3, h4⟩
structure Bnd where
 y : Int
 h : Int
 s : List (Int × Int)
def okB : List Bnd -> Prop
 | [] => True
 | [b] => 0 < b.h /\ b.s ≠ [] /\ okS b.s
 | b :: c :: l => (0 < b.h /\ b.s ≠ [] /\ okS b.s) /\ (b.y + b.h < c.y \/ (b.y + b.h = c.y /\ b.s ≠ c.s)) /\ okB (c :: l)
def inB (l : List Bnd) (x y : Int) : Prop := ∃ b ∈ l, (b.y <= y /\ y < b.y + b.h) /\ inS b.s x
def qr (l : List Bnd) : List Rc := l.flatMap fun b => b.s.map fun s => ⟨s.1, b.y, s.2 - s.1, b.h⟩
theorem ZW (l : List Bnd) (x y : Int) : pts (qr l) x y ↔ inB l x y := by
 constructor
 ·rintro ⟨r, hr, hh⟩
  obtain ⟨b, hb, hr⟩ := List.mem_flatMap.1 hr
  obtain ⟨s, hs, rfl⟩ := List.mem_map.1 hr
  exact ⟨b, hb, hh.2, s, hs, hh.1.1, by have := hh.1.2; dsimp only at this; omega⟩
 ·rintro ⟨b, hb, hy, s, hs, h1, h2⟩
  exact ⟨⟨s.1, b.y, s.2 - s.1, b.h⟩, List.mem_flatMap.2 ⟨b, hb, List.mem_map.2 ⟨s, hs, rfl⟩⟩, ⟨h1, by dsimp only; omega⟩, hy⟩
theorem z6 {b : Bnd} {l : List Bnd} (h : okB (b :: l)) : okB l /\ (0 < b.h /\ b.s ≠ [] /\ okS b.s) /\ (∀ c ∈ l, b.y + b.h <= c.y) /\ (∀ c r, l = c :: r -> b.y + b.h = c.y -> b.s ≠ c.s) := by
 induction l generalizing b with
 | nil => exact ⟨trivial, h, by simp, by simp⟩
 | cons c l ih =>
   obtain ⟨h1, h2, h3⟩ := h
   obtain ⟨h4, h5, h6, _⟩ := ih h3
   refine ⟨h3, h1, fun d hd => ?_, fun d r hd he => ?_⟩
   ·rcases List.mem_cons.1 hd with rfl | hd
    ·rcases h2 with h2 | h2 <;> omega
    ·have := h6 d hd; rcases h2 with h2 | h2 <;> omega
   ·simp only [List.cons.injEq] at hd
    obtain ⟨rfl, _⟩ := hd
    rcases h2 with h2 | h2
    ·omega
    ·exact h2.2
theorem yC {s : List (Int × Int)} (h : okS s) (hn : s ≠ []) : ∃ x, inS s x := by
 cases s with
 | nil => exact absurd rfl hn
 | cons t l => exact ⟨t.1, t, by simp, by have := (xo h).2.1; omega⟩
theorem vW {b : Bnd} {l : List Bnd} (h : okB (b :: l)) {x y : Int} (hy : y < b.y + b.h) : inB (b :: l) x y ↔ b.y <= y /\ inS b.s x := by
 obtain ⟨_, _, h3, _⟩ := z6 h
 constructor
 ·rintro ⟨c, hc, h1, h2⟩
  rcases List.mem_cons.1 hc with rfl | hc
  ·exact ⟨h1.1, h2⟩
  ·have := h3 c hc; omega
 ·rintro ⟨h1, h2⟩
  exact ⟨b, by simp, ⟨h1, hy⟩, h2⟩
theorem jg7 {b : Bnd} {l : List Bnd} (h : okB (b :: l)) : ¬ ∀ x, inB (b :: l) x (b.y + b.h) ↔ inS b.s x := by
 intro hx
 obtain ⟨h1, h2, h3, h4⟩ := z6 h
 obtain ⟨x0, hx0⟩ := yC h2.2.2 h2.2.1
 cases l with
 | nil =>
   obtain ⟨c, hc, h5, _⟩ := (hx x0).2 hx0
   simp at hc; subst hc; omega
 | cons c l =>
   have hcy := h3 c (by simp)
   obtain ⟨_, c2, c3, _⟩ := z6 h1
   by_cases he : b.y + b.h = c.y
   ·apply h4 c l rfl he
    refine jA1 h2.2.2 c2.2.2 fun x => ?_
    rw [<- hx x, he]
    have hf := vW h1 (x := x) (y := c.y) (by omega)
    constructor
    ·rintro ⟨d, hd, h5, h6⟩
     rcases List.mem_cons.1 hd with rfl | hd
     ·omega
     ·exact (hf.1 ⟨d, hd, h5, h6⟩).2
    ·intro h5
     obtain ⟨d, hd, h6⟩ := hf.2 ⟨by omega, h5⟩
     exact ⟨d, by simp [hd], h6⟩
   ·obtain ⟨d, hd, h5, _⟩ := (hx x0).2 hx0
    rcases List.mem_cons.1 hd with rfl | hd
    ·omega
    ·rcases List.mem_cons.1 hd with rfl | hd
     ·omega
     ·have := c3 d hd; have := c2.1; omega
theorem jR9 : ∀ {a b : List Bnd}, okB a -> okB b -> (∀ x y, inB a x y ↔ inB b x y) -> a = b
 | [], [], _, _, _ => rfl
 | [], b :: m, _, hb, h => by
   obtain ⟨_, h2, _⟩ := z6 hb
   obtain ⟨x, hx⟩ := yC h2.2.2 h2.2.1
   obtain ⟨c, hc, _⟩ := (h x b.y).2 ⟨b, by simp, by omega, hx⟩
   cases hc
 | a :: l, [], ha, _, h => by
   obtain ⟨_, h2, _⟩ := z6 ha
   obtain ⟨x, hx⟩ := yC h2.2.2 h2.2.1
   obtain ⟨c, hc, _⟩ := (h x a.y).1 ⟨a, by simp, by omega, hx⟩
   cases hc
 | a :: l, b :: m, ha, hb, h => by
   obtain ⟨a1, a2, a3, a4⟩ := z6 ha
   obtain ⟨b1, b2, b3, b4⟩ := z6 hb
   obtain ⟨xa, hxa⟩ := yC a2.2.2 a2.2.1
   obtain ⟨xb, hxb⟩ := yC b2.2.2 b2.2.1
   have hlow : ∀ {b : Bnd} {m : List Bnd}, okB (b :: m) -> ∀ x y, inB (b :: m) x y -> b.y <= y := fun hb x y ⟨c, hc, h1, _⟩ => by
    obtain ⟨_, h2, h3, _⟩ := z6 hb
    rcases List.mem_cons.1 hc with rfl | hc
    ·exact h1.1
    ·have := h3 c hc; omega
   have ey : a.y = b.y := by
    have h1 := hlow hb xa a.y ((h xa a.y).1 ((vW ha (by omega)).2 ⟨by omega, hxa⟩))
    have h2 := hlow ha xb b.y ((h xb b.y).2 ((vW hb (by omega)).2 ⟨by omega, hxb⟩))
    omega
   have es : a.s = b.s := jA1 a2.2.2 b2.2.2 fun x => by
    have h1 := vW ha (x := x) (y := a.y) (by omega)
    have h2 := vW hb (x := x) (y := a.y) (by omega)
    have h3 := h x a.y
    rw [h1, h2] at h3
    constructor
    ·intro h4; exact (h3.1 ⟨by omega, h4⟩).2
    ·intro h4; exact (h3.2 ⟨by omega, h4⟩).2
   have eh : a.h = b.h := by
    rcases Int.lt_trichotomy a.h b.h with h1 | h1 | h1
    ·refine absurd (fun x => ?_) (jg7 ha)
     rw [h, vW hb (by omega), es]
     exact ⟨fun h => h.2, fun h => ⟨by omega, h⟩⟩
    ·exact h1
    ·refine absurd (fun x => ?_) (jg7 hb)
     rw [<- h, vW ha (by omega), es]
     exact ⟨fun h => h.2, fun h => ⟨by omega, h⟩⟩
   have eab : a = b := by cases a; cases b; simp_all
   subst eab
   rw [jR9 a1 b1 fun x y => ?_]
   constructor
   ·rintro ⟨c, hc, h1, h2⟩
    have hcy := a3 c hc
    obtain ⟨d, hd, h3, h4⟩ := (h x y).1 ⟨c, by simp [hc], h1, h2⟩
    rcases List.mem_cons.1 hd with rfl | hd
    ·omega
    ·exact ⟨d, hd, h3, h4⟩
   ·rintro ⟨c, hc, h1, h2⟩
    have hcy := b3 c hc
    obtain ⟨d, hd, h3, h4⟩ := (h x y).2 ⟨c, by simp [hc], h1, h2⟩
    rcases List.mem_cons.1 hd with rfl | hd
    ·omega
    ·exact ⟨d, hd, h3, h4⟩
def JF (l : List Rc) : Prop := ∃ b, okB b /\ l = qr b
theorem jV4 {a b : List Rc} (ha : JF a) (hb : JF b) (h : ∀ x y, pts a x y ↔ pts b x y) : a = b := by
 obtain ⟨p, hp, rfl⟩ := ha
 obtain ⟨q, hq, rfl⟩ := hb
 rw [jR9 hp hq fun x y => by rw [<- ZW, <- ZW]; exact h x y]

def z7 (s : Int × Int) : List (Int × Int) -> List (Int × Int)
 | [] => [s]
 | r :: l => if r.1 <= s.2 then z7 (s.1, max s.2 r.2) l else s :: z7 r l
def Lefts (a : Int) : List (Int × Int) -> Prop
 | [] => True
 | r :: l => (a <= r.1 /\ r.1 < r.2) /\ Lefts r.1 l
theorem Lefts.mono : ∀ {l : List (Int × Int)} {a b : Int}, b <= a -> Lefts a l -> Lefts b l
 | [], _, _, _, _ => trivial
 | r :: l, a, b, h, hl => ⟨⟨by have := hl.1.1; omega, hl.1.2⟩, hl.2⟩
theorem YP : ∀ {l : List (Int × Int)} {s : Int × Int}, ∃ t m, z7 s l = t :: m /\ t.1 = s.1
 | [], s => ⟨s, [], rfl, rfl⟩
 | r :: l, s => by
   unfold z7
   split
   ·exact YP (l := l) (s := (s.1, max s.2 r.2))
   ·exact ⟨s, _, rfl, rfl⟩
theorem YN : ∀ {l : List (Int × Int)} {s : Int × Int}, s.1 < s.2 -> Lefts s.1 l -> okS (z7 s l)
 | [], s, hs, _ => hs
 | r :: l, s, hs, hl => by
   obtain ⟨⟨h1, h2⟩, h3⟩ := hl
   unfold z7
   split
   ·exact YN (s := (s.1, max s.2 r.2)) (by dsimp only; omega) (h3.mono h1)
   ·rename_i h4
    have ih := YN (s := r) h2 h3
    obtain ⟨t, m, e, he⟩ := YP (l := l) (s := r)
    rw [e] at ih |-
    exact ⟨hs, by omega, ih⟩
theorem YO : ∀ {l : List (Int × Int)} {s : Int × Int}, s.1 < s.2 -> Lefts s.1 l -> ∀ x, inS (z7 s l) x ↔ inS (s :: l) x
 | [], s, _, _, x => by unfold z7; exact Iff.rfl
 | r :: l, s, hs, hl, x => by
   obtain ⟨⟨h1, h2⟩, h3⟩ := hl
   unfold z7
   split
   ·rename_i h4
    rw [YO (s := (s.1, max s.2 r.2)) (by dsimp only; omega) (h3.mono h1)]
    constructor
    ·rintro ⟨u, hu, h5, h6⟩
     rcases List.mem_cons.1 hu with rfl | hu
     ·dsimp only at h5 h6
      by_cases h7 : x < s.2
      ·exact ⟨s, by simp, h5, h7⟩
      ·exact ⟨r, by simp, by omega, by omega⟩
     ·exact ⟨u, by simp [hu], h5, h6⟩
    ·rintro ⟨u, hu, h5, h6⟩
     rcases List.mem_cons.1 hu with rfl | hu
     ·exact ⟨_, List.mem_cons_self .., h5, by dsimp only; omega⟩
     ·rcases List.mem_cons.1 hu with rfl | hu
      ·exact ⟨_, List.mem_cons_self .., by dsimp only; omega, by dsimp only; omega⟩
      ·exact ⟨u, by simp [hu], h5, h6⟩
   ·have ih := YO (s := r) h2 h3 x
    constructor
    ·rintro ⟨u, hu, h5, h6⟩
     rcases List.mem_cons.1 hu with rfl | hu
     ·exact ⟨u, by simp, h5, h6⟩
     ·obtain ⟨v, hv, h7⟩ := ih.1 ⟨u, hu, h5, h6⟩
      exact ⟨v, by simp [List.mem_cons.1 hv], h7⟩
    ·rintro ⟨u, hu, h5, h6⟩
     rcases List.mem_cons.1 hu with rfl | hu
     ·exact ⟨u, by simp, h5, h6⟩
     ·obtain ⟨v, hv, h7⟩ := ih.2 ⟨u, hu, h5, h6⟩
      exact ⟨v, by simp [hv], h7⟩
def okR : List Bnd -> Prop
 | [] => True
 | [b] => 0 < b.h /\ b.s ≠ [] /\ okS b.s
 | b :: c :: l => (0 < b.h /\ b.s ≠ [] /\ okS b.s) /\ (c.y + c.h < b.y \/ (c.y + c.h = b.y /\ c.s ≠ b.s)) /\ okR (c :: l)
theorem Km {b : Bnd} {l : List Bnd} (h : okR (b :: l)) : 0 < b.h /\ b.s ≠ [] /\ okS b.s := by
 cases l with
 | nil => exact h
 | cons c l => exact h.1
theorem jR8 {b : Bnd} {l : List Bnd} (h : okR (b :: l)) : okR l := by
 cases l with
 | nil => trivial
 | cons c l => exact h.2.2
def zW (y h : Int) (S : List (Int × Int)) : List Bnd -> List Bnd
 | [] => if S = [] then [] else [⟨y, h, S⟩]
 | b :: r => if b.y + b.h = y /\ b.s = S then ⟨b.y, b.h + h, b.s⟩ :: r else if S = [] then b :: r else ⟨y, h, S⟩ :: b :: r
theorem jP7 {y h : Int} {S : List (Int × Int)} {l : List Bnd} (hl : okR l) (hh : 0 < h) (hS : okS S) (hy : ∀ b r, l = b :: r -> b.y + b.h <= y) : okR (zW y h S l) := by
 cases l with
 | nil =>
   rw [zW]
   split
   ·trivial
   ·rename_i h1; exact ⟨hh, h1, hS⟩
 | cons b r =>
   have hb := Km hl
   have hby := hy b r rfl
   rw [zW]
   split
   ·rename_i h1
    cases r with
    | nil => exact ⟨by dsimp only; omega, hb.2⟩
    | cons c r => exact ⟨⟨by dsimp only; omega, hb.2⟩, hl.2.1, hl.2.2⟩
   ·rename_i h1
    split
    ·exact hl
    ·rename_i h2
     refine ⟨⟨hh, h2, hS⟩, ?_, hl⟩
     by_cases h3 : b.y + b.h = y
     ·exact .inr ⟨h3, fun e => h1 ⟨h3, e⟩⟩
     ·exact .inl (by dsimp only; omega)
theorem jJ7 {y h : Int} {S : List (Int × Int)} {l : List Bnd} (hh : 0 < h) (hy : ∀ b r, l = b :: r -> b.y + b.h <= y) : ∀ b r, zW y h S l = b :: r -> b.y + b.h <= y + h := by
 intro b r e
 cases l with
 | nil =>
   rw [zW] at e
   split at e
   ·cases e
   ·cases e; exact Int.le_refl _
 | cons c l =>
   have hcy := hy c l rfl
   rw [zW] at e
   split at e
   ·rename_i h1; cases e; dsimp only; omega
   ·split at e
    ·cases e; omega
    ·cases e; exact Int.le_refl _
theorem YT {b : Bnd} {l : List Bnd} {x y : Int} : inB (b :: l) x y ↔ ((b.y <= y /\ y < b.y + b.h) /\ inS b.s x) \/ inB l x y := by
 unfold inB
 constructor
 ·rintro ⟨c, hc, h⟩
  rcases List.mem_cons.1 hc with rfl | hc
  ·exact .inl h
  ·exact .inr ⟨c, hc, h⟩
 ·rintro (h | ⟨c, hc, h⟩)
  ·exact ⟨b, by simp, h⟩
  ·exact ⟨c, by simp [hc], h⟩
theorem inS_nil {x : Int} : ¬ inS [] x := fun ⟨_, h, _⟩ => by cases h
theorem jP8 {y h : Int} {S : List (Int × Int)} {l : List Bnd} (hl : okR l) (hh : 0 < h) (x y' : Int) : inB (zW y h S l) x y' ↔ inB l x y' \/ ((y <= y' /\ y' < y + h) /\ inS S x) := by
 have hadd : ∀ m, inB (⟨y, h, S⟩ :: m) x y' ↔ inB m x y' \/ ((y <= y' /\ y' < y + h) /\ inS S x) := fun m => by rw [YT]; exact Or.comm
 have hnone : S = [] -> (inB l x y' ↔ inB l x y' \/ ((y <= y' /\ y' < y + h) /\ inS S x)) := fun e => by
  subst e
  exact ⟨.inl, fun h => h.elim id fun h => absurd h.2 inS_nil⟩
 cases l with
 | nil =>
   rw [zW]
   split
   ·rename_i h1; exact hnone h1
   ·exact hadd []
 | cons b r =>
   have hb := Km hl
   rw [zW]
   split
   ·rename_i h1
    obtain ⟨h1, h2⟩ := h1
    rw [YT, YT, h2]
    dsimp only
    constructor
    ·rintro (⟨h3, h4⟩ | h3)
     ·by_cases h5 : y' < y
      ·exact .inl (.inl ⟨⟨h3.1, by omega⟩, h4⟩)
      ·exact .inr ⟨⟨by omega, by omega⟩, h4⟩
     ·exact .inl (.inr h3)
    ·rintro ((⟨h3, h4⟩ | h3) | ⟨h3, h4⟩)
     ·exact .inl ⟨⟨h3.1, by omega⟩, h4⟩
     ·exact .inr h3
     ·exact .inl ⟨⟨by omega, by omega⟩, h4⟩
   ·split
    ·rename_i h1; exact hnone h1
    ·exact hadd (b :: r)
theorem jt8 : ∀ {l : List Bnd} {b : Bnd}, okB l -> (0 < b.h /\ b.s ≠ [] /\ okS b.s) -> (∀ m c, l = m ++ [c] -> c.y + c.h < b.y \/ (c.y + c.h = b.y /\ c.s ≠ b.s)) -> okB (l ++ [b])
 | [], b, _, hb, _ => hb
 | [c], b, hc, hb, h => ⟨hc, h [] c rfl, hb⟩
 | c :: d :: l, b, hl, hb, h => ⟨hl.1, hl.2.1, jt8 (l := d :: l) hl.2.2 hb fun m e he => h (c :: m) e (by rw [he]; rfl)⟩
theorem jF5 : ∀ {l : List Bnd}, okR l -> okB l.reverse
 | [], _ => trivial
 | b :: l, h => by
   rw [List.reverse_cons]
   refine jt8 (jF5 (jR8 h)) (Km h) fun m c e => ?_
   cases l with
   | nil => simp at e
   | cons d l =>
     rw [List.reverse_cons] at e
     have := List.append_inj' e rfl
     simp at this
     rw [<- this.2]
     exact h.2.1
theorem inB_rev {l : List Bnd} {x y : Int} : inB l.reverse x y ↔ inB l x y := by
 unfold inB; simp only [List.mem_reverse]
end Go.AM
