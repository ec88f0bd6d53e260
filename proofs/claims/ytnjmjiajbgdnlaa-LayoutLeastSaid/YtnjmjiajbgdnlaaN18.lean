
/- Chapter 52: sizes are bounded. -/
import Derived.Test.YtnjmjiajbgdnlaaN17
set_option linter.all false
namespace Go.AM
open Go Go.Proofs

/-- The sum over the numbers below n. -/
def rsum (f : Nat → Int) : Nat → Int
  | 0 => 0
  | n + 1 => rsum f n + f n
theorem rsum_congr {f g : Nat → Int} : ∀ {n : Nat}, (∀ j, j < n → f j = g j) → rsum f n = rsum g n
  | 0, _ => rfl
  | n + 1, h => by simp only [rsum]; rw [rsum_congr fun j hj => h j (by omega), h n (by omega)]
theorem rsum_add {f g : Nat → Int} : ∀ {n : Nat}, rsum (fun j => f j + g j) n = rsum f n + rsum g n
  | 0 => rfl
  | n + 1 => by simp only [rsum]; rw [rsum_add]; omega
theorem rsum_sub {f g : Nat → Int} : ∀ {n : Nat}, rsum (fun j => f j - g j) n = rsum f n - rsum g n
  | 0 => rfl
  | n + 1 => by simp only [rsum]; rw [rsum_sub]; omega
theorem rsum_zero {f : Nat → Int} : ∀ {n : Nat}, (∀ j, j < n → f j = 0) → rsum f n = 0
  | 0, _ => rfl
  | n + 1, h => by simp only [rsum]; rw [rsum_zero fun j hj => h j (by omega), h n (by omega)]; rfl
theorem rsum_one {s : Nat → Int} {i : Nat} : ∀ {n : Nat}, i < n → rsum (fun j => if j = i then s j else 0) n = s i
  | 0, h => by omega
  | n + 1, h => by
    simp only [rsum]
    by_cases hi : n = i
    · subst hi
      rw [rsum_zero fun j hj => by rw [if_neg (by omega)], if_pos rfl]; omega
    · rw [rsum_one (by omega), if_neg hi]; omega
theorem rsum_mem {s : Nat → Int} {n : Nat} : ∀ {ks : List Int}, ks.Nodup → (∀ k ∈ ks, 0 ≤ k ∧ k < n) → rsum (fun j => if (j : Int) ∈ ks then s j else 0) n = (ks.map fun k => s k.toNat).sum
  | [], _, _ => by rw [rsum_zero fun j _ => by simp]; rfl
  | k :: ks, hn, hk => by
    have hk0 := hk k (by simp)
    have hn' := List.nodup_cons.1 hn
    rw [List.map_cons, List.sum_cons, ← rsum_mem hn'.2 fun x hx => hk x (by simp [hx]), ← rsum_one (s := s) (i := k.toNat) (n := n) (by omega), ← rsum_add]
    refine rsum_congr fun j hj => ?_
    by_cases h1 : j = k.toNat
    · have : (j : Int) = k := by omega
      rw [if_pos (by rw [this]; simp), if_pos h1, if_neg (by rw [this]; exact hn'.1)]; omega
    · have : ¬ (j : Int) = k := by omega
      rw [if_neg h1]
      by_cases h2 : (j : Int) ∈ ks
      · rw [if_pos (by simp [h2]), if_pos h2]; omega
      · rw [if_neg (by simp [h2, this]), if_neg h2]; rfl
theorem rsum_nonneg {f : Nat → Int} : ∀ {n : Nat}, (∀ j, j < n → 0 ≤ f j) → 0 ≤ rsum f n
  | 0, _ => Int.le_refl _
  | n + 1, h => by simp only [rsum]; have := h n (by omega); have := rsum_nonneg (n := n) fun j hj => h j (by omega); omega
theorem rsum_ge {f : Nat → Int} {i : Nat} : ∀ {n : Nat}, (∀ j, j < n → 0 ≤ f j) → i < n → f i ≤ rsum f n
  | 0, _, h => by omega
  | n + 1, h, hi => by
    simp only [rsum]
    have h1 := rsum_nonneg (n := n) fun j hj => h j (by omega)
    by_cases he : i = n
    · subst he; omega
    · have := rsum_ge (n := n) (fun j hj => h j (by omega)) (by omega : i < n); have := h n (by omega); omega
end Go.AM
