
/- Chapter 54: acts keep it so. -/
import Derived.Test.YtnhogggpchcbjaaT5
set_option linter.all false
namespace Go.AM
open Go Go.Proofs

section
variable {b : Bu} {d : Rb} {B : Nat}
theorem Rel.mono (h : Rel b d B) {B' : Nat} (hB : B ≤ B') : Rel b d B' := ⟨h.chain, h.at_, h.text, h.len, fun t ht => by have := h.bd t ht; omega⟩
theorem Rel.ins (h : Rel b d B) (at_ : Int) (s : Bs) : (insR d at_ s).2 = (insB b at_ s).2 ∧ Rel (insB b at_ s).1 (insR d at_ s).1 (B + s.length) := by
  unfold insR insB
  rw [h.tx]
  by_cases h1 : decide (s = []) = true
  · rw [if_pos h1, if_pos h1]; exact ⟨rfl, h.mono (by omega)⟩
  rw [if_neg h1, if_neg h1]
  by_cases h2 : (decide (at_ < 0) || decide ((b.text.length : Int) < at_)) = true
  · rw [if_pos h2, if_pos h2]; exact ⟨rfl, h.mono (by omega)⟩
  rw [if_neg h2, if_neg h2]
  by_cases h3 : (!rightB s) = true
  · rw [if_pos h3, if_pos h3]; exact ⟨rfl, h.mono (by omega)⟩
  rw [if_neg h3, if_neg h3]
  by_cases h4 : decide (65536 < (b.text.length : Int) + s.length) = true
  · rw [if_pos h4, if_pos h4]; exact ⟨rfl, h.mono (by omega)⟩
  rw [if_neg h4, if_neg h4]
  refine ⟨rfl, ?_⟩
  simp only [Bool.or_eq_true, decide_eq_true_eq, not_or] at h2
  have e : b.text.take at_.toNat ++ s ++ b.text.drop at_.toNat = put1 b.text at_ [] s := by unfold put1; simp
  rw [e]
  have hl := h.tl
  refine h.change (one := ⟨at_, [], s⟩) ⟨by dsimp only; omega, by simp; omega⟩ (by simp) (by omega) ?_
  rw [← e]
  simp only [List.length_append, List.length_take, List.length_drop]; omega
theorem Rel.del (h : Rel b d B) (f t : Int) : (delR d f t).2 = (delB b f t).2 ∧ Rel (delB b f t).1 (delR d f t).1 B := by
  unfold delR delB
  rw [h.tx]
  by_cases h2 : (decide (f < 0) || decide (t < f) || decide ((b.text.length : Int) < t)) = true
  · rw [if_pos h2, if_pos h2]; exact ⟨rfl, h⟩
  rw [if_neg h2, if_neg h2]
  by_cases h4 : decide (f = t) = true
  · rw [if_pos h4, if_pos h4]; exact ⟨rfl, h⟩
  rw [if_neg h4, if_neg h4]
  refine ⟨rfl, ?_⟩
  simp only [Bool.or_eq_true, decide_eq_true_eq, not_or] at h2
  have hlen : ((b.text.take t.toNat).drop f.toNat).length = t.toNat - f.toNat := by simp; omega
  have e : b.text.take f.toNat ++ b.text.drop t.toNat = put1 b.text f ((b.text.take t.toNat).drop f.toNat) [] := by
    unfold put1; rw [hlen, show f.toNat + (t.toNat - f.toNat) = t.toNat by omega]; simp
  rw [e]
  have hl := h.tl
  refine h.change (one := ⟨f, (b.text.take t.toNat).drop f.toNat, []⟩) ⟨by dsimp only; omega, by rw [hlen]; dsimp only; omega⟩ ?_ (Nat.le_refl _) ?_
  · dsimp only; rw [hlen, List.drop_take]
  · rw [← e]
    simp only [List.length_append, List.length_take, List.length_drop]; omega
theorem Rel.play (h : Rel b d B) (a : Ac) : (refA a d).2 = (playB a b).2 ∧ Rel (playB a b).1 (refA a d).1 (B + a.s.length) := by
  unfold refA playB
  by_cases h0 : decide (a.do_ % 4 = 0) = true
  · rw [if_pos h0, if_pos h0]
    obtain ⟨h1, h2⟩ := h.ins a.a a.s
    exact ⟨by rw [h1], h2⟩
  rw [if_neg h0, if_neg h0]
  by_cases h1 : decide (a.do_ % 4 = 1) = true
  · rw [if_pos h1, if_pos h1]
    obtain ⟨h1, h2⟩ := h.del a.a a.b
    exact ⟨by rw [h1], h2.mono (by omega)⟩
  rw [if_neg h1, if_neg h1]
  by_cases h2 : decide (a.do_ % 4 = 2) = true
  · rw [if_pos h2, if_pos h2]
    have hu := h.undo
    by_cases h3 : d.at_ = 0
    · rw [if_pos h3] at hu
      rw [if_pos (by simpa using h3), hu]
      exact ⟨rfl, h.mono (by omega)⟩
    · rw [if_neg h3] at hu
      rw [if_neg (by simpa using h3), hu.1]
      exact ⟨rfl, hu.2.mono (by omega)⟩
  · rw [if_neg h2, if_neg h2]
    have hu := h.redo
    by_cases h3 : (d.L.length : Int) ≤ d.at_ + 1
    · rw [if_pos h3] at hu
      rw [if_pos (by simpa using h3), hu]
      exact ⟨rfl, h.mono (by omega)⟩
    · rw [if_neg h3] at hu
      rw [if_neg (by simpa using h3), hu.1]
      exact ⟨rfl, hu.2.mono (by omega)⟩
theorem rel_new (s : Bs) : Rel ⟨[], [], s⟩ ⟨[s], 0⟩ s.length := ⟨.one s, rfl, rfl, by simp, fun t ht => by simp at ht; subst ht; exact Nat.le_refl _⟩
theorem new_ok {s : Bs} (h : s.length ≤ 65536) (hr : rightB s = true) : newB s = (⟨[], [], s⟩, 0) := by unfold newB; rw [if_neg (by omega), if_pos hr]
end
end Go.AM
