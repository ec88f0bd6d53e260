
/- Chapter 63: what Parse gives is built, and checked. -/
import Derived.Test.YtlmhekbbagpnjaaDoorS11
set_option linter.all false
namespace Go.AM
open Go Go.Proofs Go.RowKit

theorem goP_len {f : Bool → Bs → Cm × Int} : ∀ (l : List Bs) (i : Nat) (acc : List Cm), acc.length ≤ 1000 → (goP f l i acc).1.length ≤ 1000
  | [], _, acc, h => by
    unfold goP
    split
    · simp
    · exact h
  | s :: l, i, acc, h => by
    unfold goP
    split
    · exact goP_len l _ _ h
    · split
      · split
        · simp
        · rename_i h1
          simp only [decide_eq_true_eq] at h1
          exact goP_len l _ _ (by simp; omega)
      · simp
theorem goP_mem {f : Bool → Bs → Cm × Int} {p : Cm → Prop} : ∀ (l : List Bs) (i : Nat) (acc : List Cm), (∀ c ∈ acc, p c) → (∀ s ∈ l, ∀ b n, (f b s).2 = 0 → p { (f b s).1 with line := n }) → ∀ c ∈ (goP f l i acc).1, p c
  | [], _, acc, h, _ => by
    unfold goP
    split
    · simp
    · exact h
  | s :: l, i, acc, h, hl => by
    unfold goP
    split
    · exact goP_mem l _ _ h fun s hs => hl s (List.mem_cons_of_mem _ hs)
    · split
      · rename_i h2
        split
        · simp
        · refine goP_mem l _ _ (fun c hc => ?_) fun s hs => hl s (List.mem_cons_of_mem _ hs)
          rcases List.mem_append.1 hc with hc | hc
          · exact h c hc
          · simp only [List.mem_singleton] at hc
            subst hc
            exact hl s (by simp) _ _ (by simpa using h2)
      · simp
/-- A command that Parse gives: built, and checked. -/
structure Chkd (c : Cm) : Prop where
  good : ∃ k, Good c k
  all : rangeB c = true
theorem lineP_ok {b : Bool} {s : Bs} {n : Int} (hs : s.length < 900000) (h : (lineP b s).2 = 0) : Chkd { (lineP b s).1 with line := n } := by
  unfold lineP at h ⊢
  by_cases h1 : (readP s).2 = 0
  · obtain ⟨k, hg, _⟩ := readP_good hs h1
    simp only [h1, decide_true, if_true] at h ⊢
    refine ⟨⟨k, hg.lt, hg.op, ?_, ⟨hg.ok.nums, hg.ok.words, hg.ok.bytes⟩⟩, ?_⟩
    · have := hg.built
      unfold builtB at this ⊢
      exact this
    · unfold checkS at h
      cases hr : rangeB (readP s).1 with
      | true =>
        unfold rangeB at hr ⊢
        exact hr
      | false => rw [hr] at h; simp at h
  · simp only [h1, decide_false, Bool.false_eq_true, if_false] at h
theorem parse_ok {s : Bs} (hs : s.length < 900000) : (parseW lineP s).1.length ≤ 1000 ∧ ∀ c ∈ (parseW lineP s).1, Chkd c := by
  unfold parseW
  split
  · exact ⟨by simp, by simp⟩
  · exact ⟨goP_len _ _ _ (by simp), goP_mem _ _ _ (by simp) fun w hw b n h => lineP_ok (by have := cutL_le 10 s w hw; omega) h⟩
end Go.AM
