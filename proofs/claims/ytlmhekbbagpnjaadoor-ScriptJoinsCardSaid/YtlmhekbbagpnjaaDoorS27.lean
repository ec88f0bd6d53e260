
/- Chapter 63: lines that are skipped, lines that are moved. -/
import Derived.Test.YtlmhekbbagpnjaaDoorS28
set_option linter.all false
namespace Go.AM
open Go Go.Proofs Go.RowKit

theorem cutL_app {b : UInt8} (p q : Bs) : cutL b (p ++ b :: q) = cutL b p ++ cutL b q := by
  induction p with
  | nil => simp [cutL]
  | cons c p ih =>
    show cutL b (c :: (p ++ b :: q)) = cutL b (c :: p) ++ cutL b q
    rw [cutL, cutL, ih]
    by_cases h : c = b
    · rw [if_pos h, if_pos h]; rfl
    · rw [if_neg h, if_neg h]
      cases hl : cutL b p with
      | nil => exact absurd hl (cutL_ne b p)
      | cons x r => rfl
def shiftC (e : Nat) (c : Cm) : Cm := { c with line := c.line + e }
def shiftR (e : Nat) (x : List Cm × Int × Int) : List Cm × Int × Int := (x.1.map (shiftC e), if x.2.1 = 0 then 0 else x.2.1 + e, x.2.2)
theorem goP_shift {f : Bool → Bs → Cm × Int} {e : Nat} : ∀ (l : List Bs) (i : Nat) (acc : List Cm), goP f l (i + e) (acc.map (shiftC e)) = shiftR e (goP f l i acc)
  | [], i, acc => by
    unfold goP
    simp only [List.length_map]
    split <;> simp [shiftR]
  | s :: l, i, acc => by
    unfold goP
    simp only [List.length_map]
    have e1 : i + e + 1 = i + 1 + e := by omega
    have e2 : ((i + e : Nat) : Int) + 1 = (i : Int) + 1 + e := by omega
    have e3 : ¬ ((i : Int) + 1 = 0) := by omega
    split
    · rw [e1]; exact goP_shift l (i + 1) acc
    · split
      · split
        · simp only [shiftR, List.map_nil, e2, if_neg e3]
        · have := goP_shift (f := f) (e := e) l (i + 1) (acc ++ [{ (f (decide ((acc.length : Int) = 0)) s).1 with line := (i : Int) + 1 }])
          rw [List.map_append] at this
          rw [e1, ← this, e2]; rfl
      · simp only [shiftR, List.map_nil, e2, if_neg e3]
theorem goP_skip {f : Bool → Bs → Cm × Int} : ∀ (p l : List Bs) (i : Nat) (acc : List Cm), (∀ s ∈ p, skipB s = true) → goP f (p ++ l) i acc = goP f l (i + p.length) acc
  | [], l, i, acc, _ => rfl
  | s :: p, l, i, acc, h => by
    show goP f (s :: (p ++ l)) i acc = _
    rw [goP, if_pos (h s (by simp)), goP_skip p l _ _ fun x hx => h x (by simp [hx])]
    rw [List.length_cons, show i + 1 + p.length = i + (p.length + 1) by omega]
theorem goP_tail {f : Bool → Bs → Cm × Int} {p : List Bs} (h : ∀ s ∈ p, skipB s = true) : ∀ (l : List Bs) (i : Nat) (acc : List Cm), goP f (l ++ p) i acc = goP f l i acc
  | [], i, acc => by
    have := goP_skip (f := f) p [] i acc h
    rw [List.append_nil] at this
    rw [List.nil_append, this]; rfl
  | s :: l, i, acc => by
    show goP f (s :: (l ++ p)) i acc = _
    rw [goP, goP, goP_tail h l, goP_tail h l]

/-- What is set ahead, and behind. -/
def preT (n : Bs) : Nat → Bs
  | 0 => []
  | k + 1 => preT n k ++ [10, 35] ++ n ++ [10]
def postT (n : Bs) (t : Bs) : Nat → Bs
  | 0 => t
  | k + 1 => postT n t k ++ [35, 32] ++ n ++ [10]
def preL (n : Bs) : Nat → List Bs
  | 0 => []
  | k + 1 => preL n k ++ [[], 35 :: n]
def postL (n : Bs) : Nat → List Bs
  | 0 => []
  | k + 1 => postL n k ++ [35 :: 32 :: n]
theorem preT_len (n : Bs) : ∀ k, (preT n k).length = k * (n.length + 3)
  | 0 => by simp [preT]
  | k + 1 => by simp [preT, preT_len n k, Nat.succ_mul, Nat.add_assoc]
theorem postT_len (n t : Bs) : ∀ k, (postT n t k).length = t.length + k * (n.length + 3)
  | 0 => by simp [postT]
  | k + 1 => by simp [postT, postT_len n t k, Nat.succ_mul]; omega
theorem preL_len (n : Bs) : ∀ k, (preL n k).length = 2 * k
  | 0 => rfl
  | k + 1 => by simp [preL, preL_len n k, Nat.mul_succ]
theorem preL_skip {n : Bs} : ∀ k, ∀ s ∈ preL n k, skipB s = true
  | 0, s, h => by simp [preL] at h
  | k + 1, s, h => by
    rcases List.mem_append.1 h with h | h
    · exact preL_skip k s h
    · simp at h
      rcases h with rfl | rfl
      · rfl
      · simp [skipB]
theorem postL_skip {n : Bs} : ∀ k, ∀ s ∈ postL n k, skipB s = true
  | 0, s, h => by simp [postL] at h
  | k + 1, s, h => by
    rcases List.mem_append.1 h with h | h
    · exact postL_skip k s h
    · simp at h
      subst h
      simp [skipB]
theorem cut_pre {n : Bs} (h : (10 : UInt8) ∉ n) : ∀ (k : Nat) (t : Bs), cutL 10 (preT n k ++ t) = preL n k ++ cutL 10 t
  | 0, t => rfl
  | k + 1, t => by
    have e : preT n (k + 1) ++ t = preT n k ++ ([] ++ 10 :: ((35 :: n) ++ 10 :: t)) := by simp [preT]
    rw [e, cut_pre h k, cutL_app, cutL_app, cutL_no (t := 35 :: n) (by simp [h])]
    simp [preL, cutL]
theorem cut_post {n : Bs} (h : (10 : UInt8) ∉ n) (t : Bs) : ∀ (k : Nat) (r : Bs), cutL 10 (postT n (t ++ [10]) k ++ r) = cutL 10 t ++ postL n k ++ cutL 10 r
  | 0, r => by
    have e : postT n (t ++ [10]) 0 ++ r = t ++ 10 :: r := by simp [postT]
    rw [e, cutL_app]; simp [postL]
  | k + 1, r => by
    have e : postT n (t ++ [10]) (k + 1) ++ r = postT n (t ++ [10]) k ++ ((35 :: 32 :: n) ++ 10 :: r) := by simp [postT]
    rw [e, cut_post h t k, cutL_app, cutL_no (t := 35 :: 32 :: n) (by simp [h])]
    simp [postL]
/-- Lines that say nothing move the others, and turn nothing else. -/
theorem parse_comments {f : Bool → Bs → Cm × Int} {s n : Bs} {k j : Nat} (hs : s.length ≤ 8000) (hn : n.length ≤ 100) (h : (10 : UInt8) ∉ n) (hk : k ≤ 4) (hj : j ≤ 4) :
    parseW f (postT n (preT n k ++ s ++ [10]) j) = shiftR (2 * k) (parseW f s) := by
  have h1 : k * (n.length + 3) ≤ 4 * (n.length + 3) := Nat.mul_le_mul_right _ hk
  have h2 : j * (n.length + 3) ≤ 4 * (n.length + 3) := Nat.mul_le_mul_right _ hj
  unfold parseW
  have h3 : (postT n (preT n k ++ s ++ [10]) j).length ≤ 65536 := by
    rw [postT_len, List.length_append, List.length_append, preT_len]
    simp only [List.length_cons, List.length_nil]
    omega
  rw [if_neg (by simp only [decide_eq_true_eq]; omega), if_neg (by simp only [decide_eq_true_eq]; omega)]
  have e := cut_post h (preT n k ++ s) j []
  rw [List.append_nil] at e
  rw [e, cut_pre h, List.append_assoc, List.append_assoc, goP_skip _ _ _ _ (preL_skip k)]
  rw [goP_tail (p := postL n j ++ cutL 10 []) (fun x hx => by
    rcases List.mem_append.1 hx with hx | hx
    · exact postL_skip j x hx
    · simp [cutL] at hx; subst hx; rfl)]
  rw [preL_len]
  exact goP_shift (f := f) (e := 2 * k) (cutL 10 s) 0 []
theorem goP_num {f : Bool → Bs → Cm × Int} : ∀ (l : List Bs) (i : Nat) (acc : List Cm), (∀ c ∈ acc, 0 ≤ c.line ∧ c.line ≤ i) →
    (0 ≤ (goP f l i acc).2.1 ∧ (goP f l i acc).2.1 ≤ i + l.length) ∧ ∀ c ∈ (goP f l i acc).1, 0 ≤ c.line ∧ c.line ≤ i + l.length
  | [], i, acc, h => by
    unfold goP
    split
    · exact ⟨by simp, by simp⟩
    · exact ⟨by simp, by simpa using h⟩
  | s :: l, i, acc, h => by
    have hw : ∀ (x : List Cm × Int × Int), ((0 ≤ x.2.1 ∧ x.2.1 ≤ ((i + 1 : Nat) : Int) + l.length) ∧ ∀ c ∈ x.1, 0 ≤ c.line ∧ c.line ≤ ((i + 1 : Nat) : Int) + l.length) → (0 ≤ x.2.1 ∧ x.2.1 ≤ (i : Int) + (s :: l).length) ∧ ∀ c ∈ x.1, 0 ≤ c.line ∧ c.line ≤ (i : Int) + (s :: l).length := fun x hx => by
      rw [List.length_cons]
      exact ⟨by omega, fun c hc => by have := hx.2 c hc; omega⟩
    unfold goP
    split
    · exact hw _ (goP_num l (i + 1) acc fun c hc => by have := h c hc; omega)
    · split
      · split
        · exact ⟨by simp; omega, by simp⟩
        · refine hw _ (goP_num l (i + 1) _ fun c hc => ?_)
          rcases List.mem_append.1 hc with hc | hc
          · have := h c hc; omega
          · simp only [List.mem_singleton] at hc
            subst hc
            dsimp only; omega
      · exact ⟨by simp; omega, by simp⟩
theorem parse_lines {f : Bool → Bs → Cm × Int} (s : Bs) : (0 ≤ (parseW f s).2.1 ∧ (parseW f s).2.1 ≤ s.length + 1) ∧ ∀ c ∈ (parseW f s).1, 0 ≤ c.line ∧ c.line ≤ s.length + 1 := by
  unfold parseW
  split
  · exact ⟨by simp; omega, by simp⟩
  · have h := goP_num (f := f) (cutL 10 s) 0 [] (by simp)
    have h2 := cutL_len 10 s
    have h3 : s.count 10 ≤ s.length := List.count_le_length
    exact ⟨by omega, fun c hc => by have := h.2 c hc; omega⟩
end Go.AM
