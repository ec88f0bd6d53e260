
/- Chapter 63: the numbers' bounds, by the document. -/
import Derived.Test.YtlmhekbbagpnjaaDoorS4
set_option linter.all false
namespace Go.AM
open Go Go.Proofs

def inR (n : Int) : Bool := decide (-2147483648 ≤ n) && decide (n ≤ 4294967295)
def allR (l : List Int) : Bool := l.all inR
theorem allR_take {s : List Int} {i : Nat} (h : i < s.length) : allR (s.take (i + 1)) = (allR (s.take i) && inR s[i]) := by
  unfold allR; rw [List.take_succ_eq_append_getElem h, List.all_append]; simp
theorem inBd_inR {k : Nat} (hk : k < 16) {i : Nat} {n : Int} (h : inBd (bd k) i n = true) : inR n = true := by
  have hb : ∀ p ∈ bd k, -2147483648 ≤ p.1 ∧ p.2 ≤ 4294967295 := by
    rcases sixteen hk with rfl | rfl | rfl | rfl | rfl | rfl | rfl | rfl | rfl | rfl | rfl | rfl | rfl | rfl | rfl | rfl <;> decide
  unfold inBd at h
  split at h
  · rename_i p hp
    have := hb p (List.mem_of_getElem? hp)
    simp only [inR, Bool.and_eq_true, decide_eq_true_eq] at h ⊢
    omega
  · exact h
theorem numsB_allR {k : Nat} (hk : k < 16) : ∀ {l : List Int} {i : Nat}, numsB (bd k) i l = true → allR l = true
  | [], _, _ => rfl
  | n :: l, i, h => by
    simp only [numsB, Bool.and_eq_true] at h
    simp only [allR, List.all_cons, Bool.and_eq_true]
    exact ⟨inBd_inR hk h.1, numsB_allR hk h.2⟩
theorem numsB_over {b : Bd} : ∀ {l : List Int} {i : Nat}, b.length ≤ i → numsB b i l = allR l
  | [], _, _ => rfl
  | n :: l, i, h => by
    simp only [numsB, allR, List.all_cons]
    rw [numsB_over (by omega)]
    simp [inBd, List.getElem?_eq_none h, inR, allR]
theorem rangeB_bad {c : Cm} {k : Nat} (hk : k < 16) (hop : c.op = k) (h : allR c.nums = false) : rangeB c = false := by
  unfold rangeB
  rw [show c.op.toNat = k by rw [hop]; rfl]
  cases hb : numsB (bd k) 0 c.nums with
  | false => rfl
  | true => rw [numsB_allR hk hb] at h; cases h
theorem allR_bad {l : List Int} {i : Nat} (h : i < l.length) (hb : inR l[i] = false) : allR l = false := by
  unfold allR
  rw [List.all_eq_false]
  exact ⟨_, List.getElem_mem h, by simp [hb]⟩
/-- As many numbers as are told. -/
theorem built_len {c : Cm} {k : Nat} (hop : c.op = k) (h : builtB c = true) : (sh k).least ≤ c.nums.length ∧ (c.nums.length : Int) ≤ (sh k).most := by
  unfold builtB at h
  rw [show c.op.toNat = k by rw [hop]; rfl] at h
  split at h
  · cases h
  · rename_i h1
    simp only [Bool.or_eq_true, decide_eq_true_eq, not_or] at h1
    omega
theorem n_row {l : List Int} {i : Nat} (h : i < l.length) : (nL l)[i]? = some (.int .i64 (l.getD i 0)) := by
  rw [nL_at h, List.getD_eq_getElem?_getD, List.getElem?_eq_getElem h]; rfl
end Go.AM
