
/- Chapter 54: lines. -/
import Derived.Test.YtnhogggpchcbjaaT7
set_option linter.all false
namespace Go.AM
open Go Go.Proofs Go.RowKit

def lnL : Bs → List Bs
  | [] => [[]]
  | c :: t => if c = 10 then [] :: lnL t else match lnL t with | x :: r => (c :: x) :: r | [] => [[c]]
theorem lnL_ne : ∀ t, lnL t ≠ []
  | [] => by simp [lnL]
  | c :: t => by
    unfold lnL
    split
    · simp
    · split <;> simp
theorem lnL_len : ∀ t : Bs, (lnL t).length = t.count 10 + 1
  | [] => by simp [lnL]
  | c :: t => by
    have ih := lnL_len t
    unfold lnL
    by_cases h : c = 10
    · rw [if_pos h, List.length_cons, ih, List.count_cons, h]; simp
    · rw [if_neg h, List.count_cons]
      cases hl : lnL t with
      | nil => exact absurd hl (lnL_ne t)
      | cons x r => rw [hl] at ih; simp at ih ⊢; simp [h]; omega
theorem lnL_no {t : Bs} (h : (10 : UInt8) ∉ t) : lnL t = [t] := by
  induction t with
  | nil => rfl
  | cons c t ih =>
    simp only [List.mem_cons, not_or] at h
    unfold lnL
    rw [if_neg (Ne.symm h.1), ih h.2]
theorem lnL_cut {p q : Bs} (h : (10 : UInt8) ∉ p) : lnL (p ++ 10 :: q) = p :: lnL q := by
  induction p with
  | nil => simp [lnL]
  | cons c p ih =>
    simp only [List.mem_cons, not_or] at h
    show lnL (c :: (p ++ 10 :: q)) = _
    rw [lnL, if_neg (Ne.symm h.1), ih h.2]
theorem cut_or (t : Bs) : (10 : UInt8) ∉ t ∨ ∃ p q, t = p ++ 10 :: q ∧ (10 : UInt8) ∉ p := by
  induction t with
  | nil => left; simp
  | cons c t ih =>
    by_cases hc : c = 10
    · right; exact ⟨[], t, by simp [hc], by simp⟩
    · rcases ih with h | ⟨p, q, rfl, h⟩
      · left; simp [Ne.symm hc, h]
      · right; exact ⟨c :: p, q, by simp, by simp [Ne.symm hc, h]⟩
theorem index_no {t : Bs} (h : (10 : UInt8) ∉ t) : Lib.indexByte t 10 = -1 := by
  induction t with
  | nil => rfl
  | cons c t ih =>
    simp only [List.mem_cons, not_or] at h
    unfold Lib.indexByte
    rw [if_neg (by simpa using Ne.symm h.1), ih h.2]; rfl
theorem index_cut {p q : Bs} (h : (10 : UInt8) ∉ p) : Lib.indexByte (p ++ 10 :: q) 10 = p.length := by
  induction p with
  | nil => simp [Lib.indexByte]
  | cons c p ih =>
    simp only [List.mem_cons, not_or] at h
    show Lib.indexByte (c :: (p ++ 10 :: q)) 10 = _
    unfold Lib.indexByte
    rw [if_neg (by simpa using Ne.symm h.1), ih h.2, if_neg (by simp)]; rfl
theorem lnL_snoc10 (t : Bs) : lnL (t ++ [10]) = lnL t ++ [[]] := by
  induction t with
  | nil => simp [lnL]
  | cons c t ih =>
    show lnL (c :: (t ++ [10])) = _
    rw [lnL, ih]
    conv => rhs; rw [lnL]
    by_cases hc : c = 10
    · rw [if_pos hc, if_pos hc]; simp
    · rw [if_neg hc, if_neg hc]
      cases hl : lnL t with
      | nil => exact absurd hl (lnL_ne t)
      | cons x r => simp
/-- The last one, longer. -/
def snocL : List Bs → UInt8 → List Bs
  | [], c => [[c]]
  | [x], c => [x ++ [c]]
  | x :: y :: r, c => x :: snocL (y :: r) c
theorem lnL_snoc (t : Bs) {c : UInt8} (hc : c ≠ 10) : lnL (t ++ [c]) = snocL (lnL t) c := by
  induction t with
  | nil => simp [lnL, snocL, hc]
  | cons x t ih =>
    show lnL (x :: (t ++ [c])) = _
    rw [lnL, ih]
    conv => rhs; rw [lnL]
    cases hl : lnL t with
    | nil => exact absurd hl (lnL_ne t)
    | cons y r =>
      by_cases hx : x = 10
      · rw [if_pos hx, if_pos hx]; rfl
      · rw [if_neg hx, if_neg hx]
        cases r with
        | nil => simp [snocL]
        | cons z r => simp [snocL]
theorem snocL_len : ∀ {l : List Bs} {c : UInt8}, l ≠ [] → (snocL l c).length = l.length
  | [], _, h => absurd rfl h
  | [x], _, _ => rfl
  | x :: y :: r, c, _ => by simp only [snocL, List.length_cons]; rw [snocL_len (by simp)]; simp
theorem snocL_set : ∀ {l : List Bs} {c : UInt8} {x : Bs}, l[l.length - 1]? = some x → snocL l c = l.set (l.length - 1) (x ++ [c])
  | [], _, _, h => by simp at h
  | [x], _, y, h => by simp at h; subst h; rfl
  | x :: y :: r, c, z, h => by
    have := snocL_set (l := y :: r) (c := c) (x := z) (by simpa using h)
    simp only [snocL, this]
    simp
theorem lnL_last (t : Bs) : ∃ x, (lnL t)[(lnL t).length - 1]? = some x := by
  have h := lnL_ne t
  have hl : 0 < (lnL t).length := List.length_pos_iff.2 h
  exact ⟨_, List.getElem?_eq_getElem (by omega)⟩
theorem lnL_le : ∀ t : Bs, ∀ x ∈ lnL t, x.length ≤ t.length
  | [], x, h => by simp [lnL] at h; subst h; simp
  | c :: t, x, h => by
    have ih := lnL_le t
    unfold lnL at h
    split at h
    · rcases List.mem_cons.1 h with rfl | h
      · simp
      · have := ih x h; simp; omega
    · split at h
      · rename_i y r hl
        rcases List.mem_cons.1 h with rfl | h
        · have := ih y (by rw [hl]; simp); simp; omega
        · have := ih x (by rw [hl]; simp [h]); simp; omega
      · simp at h; subst h; simp

/-- Where a line begins. -/
def posL : List Bs → Nat → Nat
  | _, 0 => 0
  | [], _ + 1 => 0
  | x :: r, n + 1 => x.length + 1 + posL r n
theorem posL_zero (l : List Bs) : posL l 0 = 0 := by cases l <;> rfl
theorem pos_drop : ∀ (n : Nat) (t : Bs), n < (lnL t).length → lnL (t.drop (posL (lnL t) n)) = (lnL t).drop n ∧ posL (lnL t) n ≤ t.length
  | 0, t, _ => by rw [posL_zero]; simp
  | n + 1, t, h => by
    rcases cut_or t with h1 | ⟨p, q, rfl, h1⟩
    · rw [lnL_no h1] at h; simp at h
    · rw [lnL_cut h1] at h ⊢
      obtain ⟨h2, h3⟩ := pos_drop n q (by simpa using h)
      simp only [posL, List.drop_succ_cons]
      refine ⟨?_, by simp; omega⟩
      rw [← h2]
      congr 1
      rw [← List.drop_drop, show p ++ 10 :: q = (p ++ [10]) ++ q by simp, List.drop_left' (by simp)]
theorem pos_succ : ∀ {l : List Bs} {n : Nat} {x : Bs}, l[n]? = some x → posL l (n + 1) = posL l n + x.length + 1
  | [], _, _, h => by simp at h
  | y :: l, 0, x, h => by simp at h; subst h; cases l <;> simp [posL]
  | y :: l, n + 1, x, h => by
    have := pos_succ (l := l) (n := n) (x := x) (by simpa using h)
    show y.length + 1 + posL l (n + 1) = _
    rw [this]; simp only [posL]; omega
/-- What is found from a line's begin on. -/
theorem pos_index {t : Bs} {n : Nat} {x : Bs} (h : (lnL t)[n]? = some x) : ∃ u, t.drop (posL (lnL t) n) = x ++ u ∧ posL (lnL t) n + x.length ≤ t.length ∧
    Lib.indexByte (t.drop (posL (lnL t) n)) 10 = if n + 1 < (lnL t).length then (x.length : Int) else -1 := by
  have hn := (List.getElem?_eq_some_iff.1 h).1
  obtain ⟨h1, h2⟩ := pos_drop n t hn
  have hx : ((lnL t).drop n)[0]? = some x := by rw [List.getElem?_drop]; simpa using h
  have hl : ((lnL t).drop n).length = (lnL t).length - n := by simp
  rw [← h1] at hx hl
  have hdl : (t.drop (posL (lnL t) n)).length = t.length - posL (lnL t) n := by simp
  generalize hd : t.drop (posL (lnL t) n) = d at *
  rcases cut_or d with h3 | ⟨p, q, rfl, h3⟩
  · rw [lnL_no h3] at hx hl
    simp at hx; subst hx
    refine ⟨[], by simp, by omega, ?_⟩
    rw [if_neg (by simp at hl; omega)]
    exact index_no h3
  · rw [lnL_cut h3] at hx hl
    simp at hx; subst hx
    refine ⟨10 :: q, rfl, by simp at hdl; omega, ?_⟩
    have : 0 < (lnL q).length := List.length_pos_iff.2 (lnL_ne q)
    rw [if_pos (by simp at hl; omega)]
    exact index_cut h3

/-- The last of the first n bytes that is c. -/
def lastN (t : Bs) (c : UInt8) : Nat → Int
  | 0 => -1
  | n + 1 => if t.getD n 0 = c then n else lastN t c n
theorem lastN_bd (t : Bs) (c : UInt8) : ∀ n, -1 ≤ lastN t c n ∧ lastN t c n < n
  | 0 => by simp [lastN]
  | n + 1 => by have := lastN_bd t c n; simp only [lastN]; split <;> omega
theorem lastN_congr {t u : Bs} {c : UInt8} : ∀ {n : Nat}, (∀ i, i < n → t.getD i 0 = u.getD i 0) → lastN t c n = lastN u c n
  | 0, _ => rfl
  | n + 1, h => by simp only [lastN]; rw [h n (by omega), lastN_congr fun i hi => h i (by omega)]
theorem lastN_snoc {t : Bs} {x c : UInt8} : lastN (t ++ [x]) c (t.length + 1) = if x = c then (t.length : Int) else lastN t c t.length := by
  simp only [lastN]
  rw [lastN_congr (t := t ++ [x]) (u := t) fun i hi => by simp [List.getD_eq_getElem?_getD, List.getElem?_append_left hi]]
  simp
theorem last_len (t : Bs) : ∃ x, (lnL t)[(lnL t).length - 1]? = some x ∧ (x.length : Int) = t.length - lastN t 10 t.length - 1 := by
  induction h : t.length generalizing t with
  | zero =>
    have : t = [] := List.eq_nil_of_length_eq_zero h
    subst this
    exact ⟨[], by simp [lnL], by simp [lastN]⟩
  | succ n ih =>
    have hne : t ≠ [] := by rintro rfl; simp at h
    obtain ⟨u, c, rfl⟩ : ∃ u c, t = u ++ [c] := ⟨t.dropLast, t.getLast hne, (List.dropLast_concat_getLast hne).symm⟩
    have hu : u.length = n := by simpa using h
    obtain ⟨x, h1, h2⟩ := ih u hu
    rw [← hu] at h2 ⊢
    rw [lastN_snoc]
    by_cases hc : c = 10
    · subst hc
      rw [lnL_snoc10, if_pos rfl]
      exact ⟨[], by simp, by simp; omega⟩
    · rw [lnL_snoc u hc, if_neg hc, snocL_len (lnL_ne u), snocL_set h1]
      have hp : 0 < (lnL u).length := List.length_pos_iff.2 (lnL_ne u)
      exact ⟨x ++ [c], by rw [List.getElem?_set_self (by omega)], by simp; omega⟩
end Go.AM
