import Derived.Test.YtoaialdcgmkbgaaGreatRU3
import Derived.Lib.SlicesCompact

set_option linter.all false
namespace Go.AM
theorem Zw {l : List Int} {n : Int} : n ∈ Lib.compact l ↔ n ∈ l := by
 unfold Lib.compact Lib.compactUpTo
 constructor
 ·intro h
  obtain ⟨j, hj, rfl⟩ := List.mem_map.1 h
  have hjl := List.mem_range.1 (List.mem_filter.1 hj).1
  simp [getElem!_pos, hjl]
 ·intro h
  obtain ⟨j, hj, rfl⟩ := List.mem_iff_getElem.1 h
  clear h
  induction j with
  | zero =>
    refine List.mem_map.2 ⟨0, List.mem_filter.2 ⟨List.mem_range.2 hj, by simp [Lib.keeps]⟩, by simp [getElem!_pos, hj]⟩
  | succ j ih =>
    have hj' : j < l.length := by omega
    by_cases he : l[j + 1] = l[j]
    ·rw [he]; exact ih hj'
    ·refine List.mem_map.2 ⟨j + 1, List.mem_filter.2 ⟨List.mem_range.2 hj, ?_⟩, by simp [getElem!_pos, hj]⟩
     simp [Lib.keeps, getElem!_pos, hj, hj', he]
theorem jf8 : ∀ {l : List Int}, l.Pairwise (· < ·) -> Ups l
 | [], _ => trivial
 | [_], _ => trivial
 | a :: b :: l, h => by
   obtain ⟨h1, h2⟩ := List.pairwise_cons.1 h
   exact ⟨h1 b (by simp), jf8 h2⟩
theorem QX {l : List Int} (h : l.Pairwise (· <= ·)) : Ups (Lib.compact l) := by
 refine jf8 ?_
 unfold Lib.compact Lib.compactUpTo
 rw [List.pairwise_map]
 have h1 : (List.range l.length).Pairwise (· < ·) := List.pairwise_lt_range
 refine (h1.filter _).imp_of_mem ?_
 intro i j hi hj hij
 have hjl : j < l.length := List.mem_range.1 (List.mem_filter.1 hj).1
 have hk := (List.mem_filter.1 hj).2
 have hil : i < l.length := by omega
 have hj1 : j - 1 < l.length := by omega
 have hne : ¬ l[j] = l[j - 1] := by
  simpa [Lib.keeps, getElem!_pos, hjl, hj1, show ¬ j = 0 by omega] using hk
 have hle : ∀ {a b : Nat} (ha : a < l.length) (hb : b < l.length), a <= b -> l[a] <= l[b] := fun {a b} ha hb hab => by
  rcases Nat.lt_or_ge a b with h2 | h2
  ·exact List.pairwise_iff_getElem.1 h a b ha hb h2
  ·have : a = b := by omega
   subst this; exact Int.le_refl _
 have e1 := hle hil hj1 (by omega)
 have e2 := hle hj1 hjl (by omega)
 simp [getElem!_pos, hjl, hil]
 omega
theorem jn2 (l : List Int) : (l.mergeSort fun x y => decide (x <= y)).Pairwise (· <= ·) := by
 have := List.pairwise_mergeSort (le := fun (x y : Int) => decide (x <= y)) (fun a b c h1 h2 => by simp only [decide_eq_true_eq] at *; omega) (fun a b => by simp only [Bool.or_eq_true, decide_eq_true_eq]; omega) l
 exact this.imp fun h => by simpa using h
theorem kf5 : ∀ {l : List Int} {a c : Int}, Ups l -> (∀ n ∈ l, a <= n /\ n <= c) -> (l.length : Int) <= max (c - a + 1) 0
 | [], a, c, _, _ => by simp; omega
 | n :: l, a, c, h, hb => by
   have hn := hb n (by simp)
   have ih := kf5 (l := l) (a := n + 1) (c := c) h.tail.1 fun m hm => ⟨by have := h.tail.2 m hm; omega, (hb m (by simp [hm])).2⟩
   simp only [List.length_cons]
   omega
theorem jI8 : ∀ {l : List (Int × Int)} {a c : Int}, jB6 l -> (∀ s ∈ l, a <= s.1 /\ s.2 <= c) -> 2 * (l.length : Int) <= max (c - a + 1) 0
 | [], a, c, _, _ => by simp; omega
 | s :: l, a, c, h, hb => by
   obtain ⟨h1, h2, h3⟩ := xr h
   have hs := hb s (by simp)
   have ih := jI8 (l := l) (a := s.2 + 1) (c := c) h1 fun t ht => ⟨by have := h3 t ht; omega, (hb t (by simp [ht])).2⟩
   simp only [List.length_cons]
   omega
theorem vD {l : List Int} (h : Ups l) {i : Nat} {y b a : Int} (hy : l[i]? = some y) (hb : l[i + 1]? = some b) (ha : a ∈ l) : (y < a -> b <= a) /\ (a < b -> a <= y) /\ y < b := by
 obtain ⟨h1, h2⟩ := List.getElem?_eq_some_iff.1 hy
 obtain ⟨h3, h4⟩ := List.getElem?_eq_some_iff.1 hb
 obtain ⟨j, hj, rfl⟩ := List.mem_iff_getElem.1 ha
 have hyb : y < b := by rw [<- h2, <- h4]; exact h.lt h3 (by omega)
 refine ⟨fun h5 => ?_, fun h5 => ?_, hyb⟩
 ·rcases Nat.lt_trichotomy j (i + 1) with h6 | h6 | h6
  ·rcases Nat.lt_or_ge j i with h7 | h7
   ·have := h.lt h1 h7; omega
   ·have : j = i := by omega
    subst this; omega
  ·subst h6; omega
  ·have := h.lt hj h6; omega
 ·rcases Nat.lt_trichotomy j i with h6 | h6 | h6
  ·have := h.lt h1 h6; omega
  ·subst h6; omega
  ·rcases Nat.lt_or_ge (i + 1) j with h7 | h7
   ·have := h.lt hj h7; omega
   ·have : j = i + 1 := by omega
    subst this; omega
theorem ja9 {l : List (Int × Int)} {s : Int × Int} (hs : s ∈ l) (h : jB6 l) : s.1 < s.2 := by
 induction l with
 | nil => cases hs
 | cons t l ih =>
   obtain ⟨h1, h2, _⟩ := xr h
   rcases List.mem_cons.1 hs with rfl | hs
   ·exact h2
   ·exact ih hs h1
end Go.AM
