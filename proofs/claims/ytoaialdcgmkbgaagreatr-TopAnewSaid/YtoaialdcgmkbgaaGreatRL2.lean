import Derived.Test.YtoaialdcgmkbgaaGreatRV2
import Derived.Test.YtoaialdcgmkbgaaGreatRL1

set_option linter.all false
namespace Go.AM
open Go Go.Proofs
def kQ (k : Nat) : Int := if k = 0 then 1 else 1048576 + k
theorem vE {a b : Nat} : kQ a = kQ b ↔ a = b := by
 unfold kQ
 by_cases h1 : a = 0 <;> by_cases h2 : b = 0 <;> simp [h1, h2] <;> omega
theorem YH {a : Nat} : kQ a = 1 ↔ a = 0 := by
 unfold kQ
 by_cases h1 : a = 0 <;> simp [h1]; omega
structure PW (par : Nat -> Nat) : Prop where
 lt : ∀ k, 1 <= k -> par k < k
 z : par 0 = 0
theorem PW.le {par : Nat -> Nat} (h : PW par) (k : Nat) : par k <= k := by
 by_cases hk : k = 0
 ·subst hk; rw [h.z]; exact Nat.le_refl _
 ·exact Nat.le_of_lt (h.lt k (by omega))
def xz (par : Nat -> Nat) : Nat -> Nat -> List Nat
 | 0, _ => []
 | n + 1, k => xz par n k ++ if par (n + 1) = k then [n + 1] else []
theorem Z5 {par : Nat -> Nat} {k j : Nat} : ∀ {n : Nat}, j ∈ xz par n k ↔ (1 <= j /\ j <= n) /\ par j = k
 | 0 => by simp [xz]; omega
 | n + 1 => by
   simp only [xz, List.mem_append, Z5 (n := n)]
   by_cases h : par (n + 1) = k
   ·simp only [h, if_true, List.mem_singleton]
    constructor
    ·rintro (h1 | rfl)
     ·exact ⟨⟨h1.1.1, by omega⟩, h1.2⟩
     ·exact ⟨⟨by omega, Nat.le_refl _⟩, h⟩
    ·rintro ⟨⟨h1, h2⟩, h3⟩
     by_cases he : j = n + 1
     ·exact .inr he
     ·exact .inl ⟨⟨h1, by omega⟩, h3⟩
   ·simp only [h, if_false, List.not_mem_nil, or_false]
    constructor
    ·rintro h1; exact ⟨⟨h1.1.1, by omega⟩, h1.2⟩
    ·rintro ⟨⟨h1, h2⟩, h3⟩
     by_cases he : j = n + 1
     ·exact absurd (he ▸ h3) h
     ·exact ⟨⟨h1, by omega⟩, h3⟩
theorem YD {par : Nat -> Nat} {k : Nat} : ∀ {n : Nat}, (xz par n k).Nodup
 | 0 => by simp [xz]
 | n + 1 => by
   simp only [xz]
   by_cases h : par (n + 1) = k
   ·simp only [h, if_true]
    rw [List.nodup_append]
    refine ⟨YD, by simp, fun a ha b hb he => ?_⟩
    simp at hb; subst hb; subst he
    have := (Z5.1 ha).1.2; omega
   ·simp only [h, if_false, List.append_nil]; exact YD
theorem jC6 {par : Nat -> Nat} {k : Nat} : ∀ {n : Nat}, (xz par n k).length <= n
 | 0 => by simp [xz]
 | n + 1 => by
   simp only [xz, List.length_append]
   have := jC6 (par := par) (k := k) (n := n)
   split <;> simp <;> omega
def jk0 (par : Nat -> Nat) : Nat -> TT
 | 0 => ⟨[], []⟩
 | n + 1 => Xe (jk0 par n) (kQ (n + 1)) (kQ (par (n + 1)))
theorem jC5 {t : TT} {id p x : Int} : kP (Xe t id p) x = if p = x then kP t p ++ [id] else kP t x := by
 unfold kP Xe
 dsimp only
 rw [jr5]
 split <;> simp [kP]
theorem Zv {par : Nat -> Nat} {k : Nat} : ∀ {n : Nat}, kP (jk0 par n) (kQ k) = (xz par n k).map kQ
 | 0 => rfl
 | n + 1 => by
   simp only [jk0, xz, jC5, vE]
   by_cases h : par (n + 1) = k
   ·simp only [h, if_true, List.map_append, List.map_cons, List.map_nil]
    rw [Zv]
   ·simp only [h, if_false, List.append_nil]; exact Zv
theorem jJ5 {par : Nat -> Nat} {k : Nat} : ∀ {n : Nat}, lk (jk0 par n).up (kQ k) = if 1 <= k /\ k <= n then some (kQ (par k)) else none
 | 0 => by rw [if_neg (by omega)]; rfl
 | n + 1 => by
   simp only [jk0, Xe, jr5, vE, jJ5 (n := n)]
   by_cases h : n + 1 = k
   ·subst h; simp
   ·simp only [h, if_false]
    by_cases h2 : 1 <= k /\ k <= n
    ·rw [if_pos h2, if_pos ⟨h2.1, by omega⟩]
    ·rw [if_neg h2, if_neg (by omega)]
theorem jc2 {par : Nat -> Nat} : ∀ {n : Nat}, (jk0 par n).up.length = n
 | 0 => rfl
 | n + 1 => by
   simp only [jk0, Xe]
   rw [qA (by rw [jJ5, if_neg (by omega)])]
   simp [jc2 (n := n)]
theorem kc0 {par : Nat -> Nat} : ∀ {n : Nat} {x : Int}, (kP (jk0 par n) x).length <= n
 | 0, _ => Nat.le_refl _
 | n + 1, x => by
   simp only [jk0, jC5]
   split
   ·have := kc0 (par := par) (n := n) (x := kQ (par (n + 1))); simp; omega
   ·have := kc0 (par := par) (n := n) (x := x); omega
theorem jJ6 {par : Nat -> Nat} : ∀ {n : Nat}, zC (jk0 par n).kids /\ zC (jk0 par n).up
 | 0 => ⟨by simp [jk0, zC], by simp [jk0, zC]⟩
 | n + 1 => ⟨jH8 jJ6.1, jH8 jJ6.2⟩
theorem ky1 {par : Nat -> Nat} {n : Nat} (hn : n <= 63) : (jk0 par n).Ok :=
 ⟨jJ6.1, jJ6.2, fun id => Nat.le_trans kc0 (by omega), by rw [jc2]; exact hn⟩
theorem jl7 {par : Nat -> Nat} {n k : Nat} : jc8 (jk0 par n) (kQ k) = decide (k <= n) := by
 unfold jc8
 rw [jJ5]
 by_cases h0 : k = 0
 ·subst h0; simp [kQ]
 ·have h1 : kQ k ≠ 1 := fun h => h0 (YH.1 h)
  by_cases h2 : k <= n
  ·rw [if_pos ⟨by omega, h2⟩]; simp [h2]
  ·rw [if_neg (by omega)]; simp [h2, h1]
theorem KC {k : Nat} (h : k <= 1000) : JN (kQ k) = 0 := by
 unfold JN clP kQ kz0
 by_cases h0 : k = 0
 ·subst h0; rfl
 ·simp only [h0, if_false]
  have e1 : ((1048576 : Int) + k) / 1048576 = 1 := by omega
  have e2 : ((1048576 : Int) + k) % 1048576 = k := by omega
  have e3 : ¬ ((1048576 : Int) + k = 0) := by omega
  have e4 : ¬ ((1048576 : Int) + k = 1) := by omega
  have e5 : ¬ ((k : Int) = 0) := by omega
  rw [e1, e2, if_neg e3, if_neg e4]
  simp [e5, h0]
theorem kI6 {par : Nat -> Nat} (hp : PW par) {n : Nat} (hn : n <= 60) : VA (jk0 par n) (kQ (n + 1)) (kQ (par (n + 1))) = 0 /\ ke8 (jk0 par n) (kQ (n + 1)) (kQ (par (n + 1))) = jk0 par (n + 1) := by
 have h1 : VA (jk0 par n) (kQ (n + 1)) (kQ (par (n + 1))) = 0 := by
  have := hp.lt (n + 1) (by omega)
  unfold VA
  rw [KC (by omega), jl7, jl7, jc2]
  rw [if_neg (by omega), if_neg (by simp), if_neg (by simp; omega), if_neg (by omega)]
 refine ⟨h1, ?_⟩
 unfold ke8
 rw [if_pos h1]; rfl
/-! ### Ways up -/
def Zt (par : Nat -> Nat) : Nat -> Nat -> List Nat
 | 0, _ => []
 | f + 1, k => k :: if k = 0 then [] else Zt par f (par k)
theorem jB2 {par : Nat -> Nat} : ∀ {f k : Nat}, (Zt par f k).length <= f
 | 0, _ => Nat.le_refl _
 | f + 1, k => by
   simp only [Zt, List.length_cons]
   split
   ·simp
   ·have := jB2 (par := par) (f := f) (k := par k); omega
theorem jT6 {par : Nat -> Nat} (hp : PW par) {n : Nat} : ∀ {f k : Nat}, k < f -> k <= n -> jX7 (jk0 par n) (kQ k) ((Zt par f k).map kQ)
 | 0, _, h, _ => by omega
 | f + 1, k, h, hk => by
   simp only [Zt, List.map_cons, jX7]
   refine ⟨trivial, ?_⟩
   by_cases h0 : k = 0
   ·subst h0; simp [kQ]
   ·rw [if_neg fun e => h0 (YH.1 e), if_neg h0]
    have := hp.lt k (by omega)
    exact ⟨_, by rw [jJ5, if_pos ⟨by omega, hk⟩], jT6 hp (by omega) (by omega)⟩
def jj9 (par : Nat -> Nat) (X : Nat -> Int) : Nat -> Nat -> Int
 | 0, _ => 0
 | f + 1, k => if k = 0 then 0 else X k + jj9 par X f (par k)
theorem jB4 {par : Nat -> Nat} (hp : PW par) {X : Nat -> Int} : ∀ {f g k : Nat}, k < f -> k < g -> jj9 par X f k = jj9 par X g k
 | 0, _, _, h, _ => by omega
 | _, 0, _, _, h => by omega
 | f + 1, g + 1, k, h1, h2 => by
   simp only [jj9]
   by_cases h0 : k = 0
   ·simp [h0]
   ·simp only [h0, if_false]
    have := hp.lt k (by omega)
    rw [jB4 hp (f := f) (g := g) (by omega) (by omega)]
def kM2 (par : Nat -> Nat) (X : Nat -> Int) (k : Nat) : Int := jj9 par X (k + 1) k
theorem jS6 {par : Nat -> Nat} {X : Nat -> Int} : kM2 par X 0 = 0 := by simp [kM2, jj9]
theorem jS7 {par : Nat -> Nat} (hp : PW par) {X : Nat -> Int} {k : Nat} (h : 1 <= k) : kM2 par X k = kM2 par X (par k) + X k := by
 unfold kM2
 rw [jj9, if_neg (by omega), jB4 hp (f := k) (g := par k + 1) (hp.lt k h) (by omega)]
 omega
theorem kb6 {par : Nat -> Nat} (hp : PW par) {X : Nat -> Int} {B : Int} (hB : 0 <= B) (hX : ∀ k, 1 <= k -> -B <= X k /\ X k <= B) : ∀ {f k : Nat}, k < f -> -(B * k) <= jj9 par X f k /\ jj9 par X f k <= B * k
 | 0, _, h => by omega
 | f + 1, k, h => by
   simp only [jj9]
   by_cases h0 : k = 0
   ·simp [h0]
   ·simp only [h0, if_false]
    have h1 := hp.lt k (by omega)
    have h2 := kb6 hp hB hX (f := f) (k := par k) (by omega)
    have h3 := hX k (by omega)
    have h4 : B * (par k : Int) <= B * ((k : Int) - 1) := Int.mul_le_mul_of_nonneg_left (by omega) hB
    have h5 : B * ((k : Int) - 1) = B * k - B := by rw [Int.mul_sub, Int.mul_one]
    omega
/-! ### What is below -/
theorem kM8 {par : Nat -> Nat} (hp : PW par) {N : Nat} : ∀ {m k : Nat}, N < m + k -> Hg (kP (jk0 par N)) m (kQ k) \/ N < k
 | 0, k, h => .inr (by omega)
 | m + 1, k, h => by
   by_cases hk : N < k
   ·exact .inr hk
   ·refine .inl ?_
    simp only [Hg]
    intro x hx
    rw [Zv] at hx
    obtain ⟨j, hj, rfl⟩ := List.mem_map.1 hx
    obtain ⟨⟨h1, h2⟩, h3⟩ := Z5.1 hj
    have := hp.lt j h1
    rcases kM8 hp (N := N) (m := m) (k := j) (by omega) with h | h
    ·exact h
    ·omega
theorem kL9 {par : Nat -> Nat} (hp : PW par) {N : Nat} {on : Nat -> Bool} {sh : Nat -> PS} : Tr ⟨xz par N, on, sh⟩ N par :=
 ⟨hp.le, fun k j h => by obtain ⟨⟨h1, h2⟩, h3⟩ := Z5.1 h; exact ⟨h3, h3 ▸ hp.lt j h1, h2⟩, fun k => YD⟩
theorem jE2 {par : Nat -> Nat} {N : Nat} {on : Nat -> Bool} {sh : Nat -> PS} : ∀ {m k : Nat}, qS (kP (jk0 par N)) m (kQ k) = (yM ⟨xz par N, on, sh⟩ m k).map kQ
 | 0, _ => rfl
 | m + 1, k => by
   simp only [qS, yM, List.map_cons, Zv, List.map_flatMap, List.flatMap_map]
   congr 1
   have : (fun j => qS (kP (jk0 par N)) m (kQ j)) = fun j => (yM ⟨xz par N, on, sh⟩ m j).map kQ := funext fun j => jE2
   rw [this]
theorem jr0 : ∀ {N : Nat} {l : List Nat}, l.Nodup -> (∀ i ∈ l, i <= N) -> l.length <= N + 1
 | 0, [], _, _ => by simp
 | 0, [a], _, _ => by simp
 | 0, a :: b :: l, hn, hl => by
   have h1 := hl a (by simp)
   have h2 := hl b (by simp)
   simp at hn; omega
 | N + 1, l, hn, hl => by
   by_cases h : N + 1 ∈ l
   ·have h1 := jr0 (N := N) (l := l.erase (N + 1)) (hn.erase _) fun i hi => by
     have h2 := hl i (List.mem_of_mem_erase hi)
     have h3 : i ≠ N + 1 := fun e => by subst e; exact absurd hi (by rw [hn.mem_erase_iff]; simp)
     omega
    rw [List.length_erase_of_mem h] at h1
    omega
   ·have := jr0 (N := N) hn fun i hi => by
     have h2 := hl i hi
     have h3 : i ≠ N + 1 := fun e => h (e ▸ hi)
     omega
    omega
end Go.AM
