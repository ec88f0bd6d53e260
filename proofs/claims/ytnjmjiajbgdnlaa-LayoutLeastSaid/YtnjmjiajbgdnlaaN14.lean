
/- Chapter 52: what the split comes to. -/
import Derived.Test.YtnjmjiajbgdnlaaN12
set_option linter.all false
namespace Go.AM
open Go Go.Proofs

theorem scan_sum : ∀ {l r : List Int} {s a s' a' : Int}, l.length = r.length → scan s a l r = some (s', a') → s' = s + l.sum ∧ a' = a + r.sum ∧ (∀ x ∈ l, 0 ≤ x ∧ x ≤ 1000000) ∧ (∀ x ∈ r, 0 ≤ x ∧ x ≤ 1000000)
  | x :: l, g :: r, s, a, s', a', hl, h => by
    simp only [scan] at h
    split at h
    · rename_i hc
      obtain ⟨h1, h2, h3, h4⟩ := scan_sum (by simpa using hl) h
      simp only [inM, Bool.and_eq_true, decide_eq_true_eq] at hc
      refine ⟨by simp; omega, by simp; omega, fun y hy => ?_, fun y hy => ?_⟩
      · rcases List.mem_cons.1 hy with rfl | hy
        · exact hc.1
        · exact h3 y hy
      · rcases List.mem_cons.1 hy with rfl | hy
        · exact hc.2
        · exact h4 y hy
    · cases h
  | [], [], s, a, s', a', _, h => by simp [scan] at h; simp; omega
  | [], _ :: _, _, _, _, _, hl, _ => by simp at hl
  | _ :: _, [], _, _, _, _, hl, _ => by simp at hl

/-- What the first i parts get of what is left over. -/
def upU (grow : List Int) (left : Int) (i : Nat) : Int := if 0 < grow.sum then left * (grow.take i).sum / grow.sum else if 0 < i ∧ i = grow.length then left else 0

structure SplitOk (total : Int) (least grow P : List Int) : Prop where
  len : least.length = grow.length
  len64 : least.length ≤ 64
  l0 : ∀ x ∈ least, 0 ≤ x ∧ x ≤ 1000000
  g0 : ∀ x ∈ grow, 0 ≤ x ∧ x ≤ 1000000
  t0 : 0 ≤ total ∧ total ≤ 1000000
  le : least.sum ≤ total
  P : P = partsL (total - least.sum) grow.sum 0 0 least grow
theorem splitOk {total : Int} {least grow : List Int} (h : (splitS total least grow).2 = 0) : SplitOk total least grow (splitS total least grow).1 := by
  unfold splitS at h ⊢
  split at h
  · simp at h
  rename_i h1
  rw [if_neg h1]
  split at h
  · simp at h
  rename_i h2
  rw [if_neg h2]
  have hl : least.length = grow.length := by omega
  split at h
  · simp at h
  rename_i s a hs
  split at h
  · simp at h
  split at h
  · simp at h
  rename_i h3 h4
  obtain ⟨e1, e2, e3, e4⟩ := scan_sum hl hs
  simp only [Bool.or_eq_true, decide_eq_true_eq] at h3
  have h3' : ¬ (decide (total < 0) || decide (1000000 < total)) = true := by simp only [Bool.or_eq_true, decide_eq_true_eq]; exact h3
  rw [if_neg h3', if_neg h4]
  refine ⟨hl, by omega, e3, e4, by omega, by omega, ?_⟩
  rw [show total - least.sum = total - s by omega, show grow.sum = a by omega]
theorem splitOk_of {total : Int} {least grow P : List Int} (h : SplitOk total least grow P) {more : Int} (hm : total ≤ more) : (splitS more least grow).2 = 0 ∨ 1000000 < more := by
  unfold splitS
  have e1 := h.len; have e2 := h.len64; have e3 := h.le; have e4 := h.t0
  rw [if_neg (by omega), if_neg (by omega)]
  have key : ∀ (l r : List Int) (s a : Int), (∀ x ∈ l, 0 ≤ x ∧ x ≤ 1000000) → (∀ x ∈ r, 0 ≤ x ∧ x ≤ 1000000) → l.length = r.length → scan s a l r = some (s + l.sum, a + r.sum) := by
    intro l
    induction l with
    | nil => intro r s a _ _ hl; cases r; simp [scan]; simp at hl
    | cons x l ih =>
      intro r s a h1 h2 hl
      cases r with
      | nil => simp at hl
      | cons g r =>
        simp only [scan]
        rw [if_pos (by simp only [inM, Bool.and_eq_true, decide_eq_true_eq]; exact ⟨h1 x (by simp), h2 g (by simp)⟩)]
        rw [ih r _ _ (fun y hy => h1 y (by simp [hy])) (fun y hy => h2 y (by simp [hy])) (by simpa using hl)]
        simp only [List.sum_cons]
        congr 2 <;> omega
  rw [key _ _ _ _ h.l0 h.g0 h.len]
  by_cases hmm : 1000000 < more
  · exact .inr hmm
  · left
    simp only
    rw [if_neg (by simp only [Bool.or_eq_true, decide_eq_true_eq]; omega), if_neg (by omega)]

theorem sum_nonneg : ∀ {l : List Int}, (∀ x ∈ l, 0 ≤ x) → 0 ≤ l.sum
  | [], _ => by simp
  | x :: l, h => by have := h x (by simp); have := sum_nonneg (l := l) fun y hy => h y (by simp [hy]); simp; omega
theorem take_sum {l : List Int} {i : Nat} (h : i < l.length) : (l.take (i + 1)).sum = (l.take i).sum + l[i] := by
  rw [List.take_succ_eq_append_getElem h, List.sum_append]; simp

theorem parts_drop {least grow : List Int} {left : Int} (hl : least.length = grow.length) : ∀ i, i ≤ least.length →
    (partsL left grow.sum 0 0 least grow).drop i = partsL left grow.sum (grow.take i).sum (upU grow left i) (least.drop i) (grow.drop i)
  | 0, _ => by simp [upU]
  | i + 1, h => by
    rw [← List.drop_drop, parts_drop hl i (by omega), parts_step (by omega) (by omega)]
    simp only [List.drop_one, List.tail_cons]
    rw [take_sum (by omega)]
    congr 1
    unfold upU
    rw [take_sum (by omega)]
    split
    · rfl
    · by_cases he : i + 1 = least.length
      · rw [if_pos he, if_pos (by omega)]
      · rw [if_neg he, if_neg (by omega)]
theorem parts_get {least grow : List Int} {left : Int} (hl : least.length = grow.length) {i : Nat} (h : i < least.length) :
    (partsL left grow.sum 0 0 least grow)[i]? = some (least[i] + upU grow left (i + 1) - upU grow left i) := by
  have e := parts_drop (left := left) hl i (by omega)
  rw [parts_step h (by omega)] at e
  have e2 : ((partsL left grow.sum 0 0 least grow).drop i)[0]? = (partsL left grow.sum 0 0 least grow)[i]? := by rw [List.getElem?_drop]; rfl
  rw [← e2, e]
  simp only [List.getElem?_cons_zero, Option.some.injEq]
  congr 2
  unfold upU
  rw [take_sum (by omega)]
  split
  · rfl
  · by_cases he : i + 1 = least.length
    · rw [if_pos he, if_pos (by omega)]
    · rw [if_neg he, if_neg (by omega)]
end Go.AM
