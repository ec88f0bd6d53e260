import Derived.Test.YtoaialdcgmkbgaaGreatRV4
import Derived.Test.YtoaialdcgmkbgaaGreatRL1

set_option linter.all false
namespace Go.AM
open Go Go.Proofs
def idn (k : Nat) : Int := if k = 0 then 1 else 1048576 + k
theorem xG {a b : Nat} : idn a = idn b ↔ a = b := by
 unfold idn
 by_cases h1 : a = 0 <;> by_cases h2 : b = 0 <;> simp [h1, h2] <;> omega
theorem Jf {a : Nat} : idn a = 1 ↔ a = 0 := by
 unfold idn
 by_cases h1 : a = 0 <;> simp [h1]; omega
structure PW (par : Nat -> Nat) : Prop where
 lt : ∀ k, 1 <= k -> par k < k
 z : par 0 = 0
theorem PW.le {par : Nat -> Nat} (h : PW par) (k : Nat) : par k <= k := by
 by_cases hk : k = 0
 ·subst hk; rw [h.z]; exact Nat.le_refl _
 ·exact Nat.le_of_lt (h.lt k (by omega))
def vw (par : Nat -> Nat) : Nat -> Nat -> List Nat
 | 0, _ => []
 | n + 1, k => vw par n k ++ if par (n + 1) = k then [n + 1] else []
theorem KQ {par : Nat -> Nat} {k j : Nat} : ∀ {n : Nat}, j ∈ vw par n k ↔ (1 <= j /\ j <= n) /\ par j = k
 | 0 => by simp [vw]; omega
 | n + 1 => by
   simp only [vw, List.mem_append, KQ (n := n)]
   by_cases h : par (n + 1) = k
   ·simp only [h, if_true, List.mem_singleton]
    constructor
    ·rintro (h1 | rfl)
     ·exact ⟨⟨h1.1.1, by omega⟩, h1.2⟩
     ·exact ⟨⟨by omega, Nat.le_refl _⟩, h⟩
    ·rintro ⟨⟨h1, h2⟩, h3⟩
     by_cases he : j = n + 1
     ·exact .inr he
     ·exact .inl ⟨⟨h1, by omega⟩, h3⟩
   ·simp only [h, if_false, List.not_mem_nil, or_false]
    constructor
    ·rintro h1; exact ⟨⟨h1.1.1, by omega⟩, h1.2⟩
    ·rintro ⟨⟨h1, h2⟩, h3⟩
     by_cases he : j = n + 1
     ·exact absurd (he ▸ h3) h
     ·exact ⟨⟨h1, by omega⟩, h3⟩
theorem ZR {par : Nat -> Nat} {k : Nat} : ∀ {n : Nat}, (vw par n k).Nodup
 | 0 => by simp [vw]
 | n + 1 => by
   simp only [vw]
   by_cases h : par (n + 1) = k
   ·simp only [h, if_true]
    rw [List.nodup_append]
    refine ⟨ZR, by simp, fun a ha b hb he => ?_⟩
    simp at hb; subst hb; subst he
    have := (KQ.1 ha).1.2; omega
   ·simp only [h, if_false, List.append_nil]; exact ZR
theorem VP {par : Nat -> Nat} {k : Nat} : ∀ {n : Nat}, (vw par n k).length <= n
 | 0 => by simp [vw]
 | n + 1 => by
   simp only [vw, List.length_append]
   have := VP (par := par) (k := k) (n := n)
   split <;> simp <;> omega
def mkT (par : Nat -> Nat) : Nat -> TT
 | 0 => ⟨[], []⟩
 | n + 1 => putT (mkT par n) (idn (n + 1)) (idn (par (n + 1)))
theorem jg4 {t : TT} {id p x : Int} : kJ (putT t id p) x = if p = x then kJ t p ++ [id] else kJ t x := by
 unfold kJ putT
 dsimp only
 rw [jm2]
 split <;> simp [kJ]
theorem yD {par : Nat -> Nat} {k : Nat} : ∀ {n : Nat}, kJ (mkT par n) (idn k) = (vw par n k).map idn
 | 0 => rfl
 | n + 1 => by
   simp only [mkT, vw, jg4, xG]
   by_cases h : par (n + 1) = k
   ·simp only [h, if_true, List.map_append, List.map_cons, List.map_nil]
    rw [yD]
   ·simp only [h, if_false, List.append_nil]; exact yD
theorem jl6 {par : Nat -> Nat} {k : Nat} : ∀ {n : Nat}, lk (mkT par n).up (idn k) = if 1 <= k /\ k <= n then some (idn (par k)) else none
 | 0 => by rw [if_neg (by omega)]; rfl
 | n + 1 => by
   simp only [mkT, putT, jm2, xG, jl6 (n := n)]
   by_cases h : n + 1 = k
   ·subst h; simp
   ·simp only [h, if_false]
    by_cases h2 : 1 <= k /\ k <= n
    ·rw [if_pos h2, if_pos ⟨h2.1, by omega⟩]
    ·rw [if_neg h2, if_neg (by omega)]
theorem VJ {par : Nat -> Nat} : ∀ {n : Nat}, (mkT par n).up.length = n
 | 0 => rfl
 | n + 1 => by
   simp only [mkT, putT]
   rw [qY (by rw [jl6, if_neg (by omega)])]
   simp [VJ (n := n)]
theorem jA5 {par : Nat -> Nat} : ∀ {n : Nat} {x : Int}, (kJ (mkT par n) x).length <= n
 | 0, _ => Nat.le_refl _
 | n + 1, x => by
   simp only [mkT, jg4]
   split
   ·have := jA5 (par := par) (n := n) (x := idn (par (n + 1))); simp; omega
   ·have := jA5 (par := par) (n := n) (x := x); omega
theorem jl7 {par : Nat -> Nat} : ∀ {n : Nat}, NdK (mkT par n).kids /\ NdK (mkT par n).up
 | 0 => ⟨by simp [mkT, NdK], by simp [mkT, NdK]⟩
 | n + 1 => ⟨jP6 jl7.1, jP6 jl7.2⟩
theorem jS2 {par : Nat -> Nat} {n : Nat} (hn : n <= 63) : (mkT par n).Ok :=
 ⟨jl7.1, jl7.2, fun id => Nat.le_trans jA5 (by omega), by rw [VJ]; exact hn⟩
theorem X2 {par : Nat -> Nat} {n k : Nat} : hasT (mkT par n) (idn k) = decide (k <= n) := by
 unfold hasT
 rw [jl6]
 by_cases h0 : k = 0
 ·subst h0; simp [idn]
 ·have h1 : idn k ≠ 1 := fun h => h0 (Jf.1 h)
  by_cases h2 : k <= n
  ·rw [if_pos ⟨by omega, h2⟩]; simp [h2]
  ·rw [if_neg (by omega)]; simp [h2, h1]
theorem V9 {k : Nat} (h : k <= 1000) : yh (idn k) = 0 := by
 unfold yh clP idn isCl
 by_cases h0 : k = 0
 ·subst h0; rfl
 ·simp only [h0, if_false]
  have e1 : ((1048576 : Int) + k) / 1048576 = 1 := by omega
  have e2 : ((1048576 : Int) + k) % 1048576 = k := by omega
  have e3 : ¬ ((1048576 : Int) + k = 0) := by omega
  have e4 : ¬ ((1048576 : Int) + k = 1) := by omega
  have e5 : ¬ ((k : Int) = 0) := by omega
  rw [e1, e2, if_neg e3, if_neg e4]
  simp [e5, h0]
theorem mkT_add {par : Nat -> Nat} (hp : PW par) {n : Nat} (hn : n <= 60) : addC (mkT par n) (idn (n + 1)) (idn (par (n + 1))) = 0 /\ addT (mkT par n) (idn (n + 1)) (idn (par (n + 1))) = mkT par (n + 1) := by
 have h1 : addC (mkT par n) (idn (n + 1)) (idn (par (n + 1))) = 0 := by
  have := hp.lt (n + 1) (by omega)
  unfold addC
  rw [V9 (by omega), X2, X2, VJ]
  rw [if_neg (by omega), if_neg (by simp), if_neg (by simp; omega), if_neg (by omega)]
 refine ⟨h1, ?_⟩
 unfold addT
 rw [if_pos h1]; rfl
/-! ### Ways up -/
def Kl (par : Nat -> Nat) : Nat -> Nat -> List Nat
 | 0, _ => []
 | f + 1, k => k :: if k = 0 then [] else Kl par f (par k)
theorem jf5 {par : Nat -> Nat} : ∀ {f k : Nat}, (Kl par f k).length <= f
 | 0, _ => Nat.le_refl _
 | f + 1, k => by
   simp only [Kl, List.length_cons]
   split
   ·simp
   ·have := jf5 (par := par) (f := f) (k := par k); omega
theorem ju0 {par : Nat -> Nat} (hp : PW par) {n : Nat} : ∀ {f k : Nat}, k < f -> k <= n -> jx1 (mkT par n) (idn k) ((Kl par f k).map idn)
 | 0, _, h, _ => by omega
 | f + 1, k, h, hk => by
   simp only [Kl, List.map_cons, jx1]
   refine ⟨trivial, ?_⟩
   by_cases h0 : k = 0
   ·subst h0; simp [idn]
   ·rw [if_neg fun e => h0 (Jf.1 e), if_neg h0]
    have := hp.lt k (by omega)
    exact ⟨_, by rw [jl6, if_pos ⟨by omega, hk⟩], ju0 hp (by omega) (by omega)⟩
def orgP (par : Nat -> Nat) (X : Nat -> Int) : Nat -> Nat -> Int
 | 0, _ => 0
 | f + 1, k => if k = 0 then 0 else X k + orgP par X f (par k)
theorem jf7 {par : Nat -> Nat} (hp : PW par) {X : Nat -> Int} : ∀ {f g k : Nat}, k < f -> k < g -> orgP par X f k = orgP par X g k
 | 0, _, _, h, _ => by omega
 | _, 0, _, _, h => by omega
 | f + 1, g + 1, k, h1, h2 => by
   simp only [orgP]
   by_cases h0 : k = 0
   ·simp [h0]
   ·simp only [h0, if_false]
    have := hp.lt k (by omega)
    rw [jf7 hp (f := f) (g := g) (by omega) (by omega)]
def org (par : Nat -> Nat) (X : Nat -> Int) (k : Nat) : Int := orgP par X (k + 1) k
theorem ZO {par : Nat -> Nat} {X : Nat -> Int} : org par X 0 = 0 := by simp [org, orgP]
theorem ZP {par : Nat -> Nat} (hp : PW par) {X : Nat -> Int} {k : Nat} (h : 1 <= k) : org par X k = org par X (par k) + X k := by
 unfold org
 rw [orgP, if_neg (by omega), jf7 hp (f := k) (g := par k + 1) (hp.lt k h) (by omega)]
 omega
theorem jA0 {par : Nat -> Nat} (hp : PW par) {X : Nat -> Int} {B : Int} (hB : 0 <= B) (hX : ∀ k, 1 <= k -> -B <= X k /\ X k <= B) : ∀ {f k : Nat}, k < f -> -(B * k) <= orgP par X f k /\ orgP par X f k <= B * k
 | 0, _, h => by omega
 | f + 1, k, h => by
   simp only [orgP]
   by_cases h0 : k = 0
   ·simp [h0]
   ·simp only [h0, if_false]
    have h1 := hp.lt k (by omega)
    have h2 := jA0 hp hB hX (f := f) (k := par k) (by omega)
    have h3 := hX k (by omega)
    have h4 : B * (par k : Int) <= B * ((k : Int) - 1) := Int.mul_le_mul_of_nonneg_left (by omega) hB
    have h5 : B * ((k : Int) - 1) = B * k - B := by rw [Int.mul_sub, Int.mul_one]
    omega
/-! ### What is below -/
theorem hg_mk {par : Nat -> Nat} (hp : PW par) {N : Nat} : ∀ {m k : Nat}, N < m + k -> Hg (kJ (mkT par N)) m (idn k) \/ N < k
 | 0, k, h => .inr (by omega)
 | m + 1, k, h => by
   by_cases hk : N < k
   ·exact .inr hk
   ·refine .inl ?_
    simp only [Hg]
    intro x hx
    rw [yD] at hx
    obtain ⟨j, hj, rfl⟩ := List.mem_map.1 hx
    obtain ⟨⟨h1, h2⟩, h3⟩ := KQ.1 hj
    have := hp.lt j h1
    rcases hg_mk hp (N := N) (m := m) (k := j) (by omega) with h | h
    ·exact h
    ·omega
theorem tr_mk {par : Nat -> Nat} (hp : PW par) {N : Nat} {on : Nat -> Bool} {sh : Nat -> PS} : Tr ⟨vw par N, on, sh⟩ N par :=
 ⟨hp.le, fun k j h => by obtain ⟨⟨h1, h2⟩, h3⟩ := KQ.1 h; exact ⟨h3, h3 ▸ hp.lt j h1, h2⟩, fun k => ZR⟩
theorem jh8 {par : Nat -> Nat} {N : Nat} {on : Nat -> Bool} {sh : Nat -> PS} : ∀ {m k : Nat}, qA (kJ (mkT par N)) m (idn k) = (subV ⟨vw par N, on, sh⟩ m k).map idn
 | 0, _ => rfl
 | m + 1, k => by
   simp only [qA, subV, List.map_cons, yD, List.map_flatMap, List.flatMap_map]
   congr 1
   have : (fun j => qA (kJ (mkT par N)) m (idn j)) = fun j => (subV ⟨vw par N, on, sh⟩ m j).map idn := funext fun j => jh8
   rw [this]
theorem YG : ∀ {N : Nat} {l : List Nat}, l.Nodup -> (∀ i ∈ l, i <= N) -> l.length <= N + 1
 | 0, [], _, _ => by simp
 | 0, [a], _, _ => by simp
 | 0, a :: b :: l, hn, hl => by
   have h1 := hl a (by simp)
   have h2 := hl b (by simp)
   simp at hn; omega
 | N + 1, l, hn, hl => by
   by_cases h : N + 1 ∈ l
   ·have h1 := YG (N := N) (l := l.erase (N + 1)) (hn.erase _) fun i hi => by
     have h2 := hl i (List.mem_of_mem_erase hi)
     have h3 : i ≠ N + 1 := fun e => by subst e; exact absurd hi (by rw [hn.mem_erase_iff]; simp)
     omega
    rw [List.length_erase_of_mem h] at h1
    omega
   ·have := YG (N := N) hn fun i hi => by
     have h2 := hl i hi
     have h3 : i ≠ N + 1 := fun e => h (e ▸ hi)
     omega
    omega
end Go.AM
