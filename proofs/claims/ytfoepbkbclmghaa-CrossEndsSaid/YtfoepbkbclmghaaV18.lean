
/- Chapter 36: the laws, from their arguments. -/
import Derived.Test.YtfoepbkbclmghaaV17
import Derived.Test.YtfoepbkbclmghaaRB
set_option linter.all false
namespace Go.Proofs.Ytfoepbkbclmghaa
open Go.AM

theorem sh_bytes {n : Nat} {d : D} (h : Sh Try.prog (n + 2) 22 d) : ∃ l : List Int, d = .ls 1 (bL l) ∧ ∀ p ∈ l, 0 ≤ p ∧ p ≤ 255 := by
  obtain ⟨l, h1, h2, h3⟩ := sh_slice (g := fun n => D.int .u8 n) (Q := fun p => 0 ≤ p ∧ p ≤ 255) Try.underlying22 h fun r hr => by
    obtain ⟨m, rfl, hm⟩ := sh_int Try.underlying5 hr
    exact ⟨m, ⟨hm.1, hm.2⟩, rfl⟩
  exact ⟨l, h1, h3⟩
theorem crossPaths_law {dl : List D} (h : ShL Try.prog 8 [22, 24, 24] dl) : Sp Try.prog gtab 3 dl (.bool true) := by
  obtain ⟨d0, _, rfl, h0, d1, _, rfl, h1, d2, _, rfl, h2, rfl⟩ := h
  obtain ⟨l, rfl, hl⟩ := sh_bytes h0
  obtain ⟨f, rfl, _⟩ := sh_int Try.underlying24 h1
  obtain ⟨g, rfl, _⟩ := sh_int Try.underlying24 h2
  exact sp_law36_CrossPaths hl f g
theorem sh_step {n : Nat} {d : D} (h : Sh Try.prog (n + 2) 42 d) : ∃ s : Stp, d = stD s := by
  obtain ⟨c, rfl, hc⟩ := sh_fs (ts := [24, 4, 3]) (by kernel_rfl) h
  obtain ⟨_, _, rfl, h0, _, _, rfl, h1, _, _, rfl, h2, rfl⟩ := hc
  obtain ⟨x, rfl, hx⟩ := shC_int (k := .u32) (by kernel_rfl) h0
  obtain ⟨y, rfl⟩ := shC_bool (by kernel_rfl) h1
  obtain ⟨w, rfl, hw⟩ := shC_int (k := .i64) (by kernel_rfl) h2
  exact ⟨⟨x, y, w⟩, rfl⟩
theorem crossBacks_law {dl : List D} (h : ShL Try.prog 8 [34, 3] dl) : Sp Try.prog gtab 8 dl (.bool true) := by
  obtain ⟨d0, _, rfl, h0, d1, _, rfl, h1, rfl⟩ := h
  obtain ⟨l, rfl, _, _⟩ := sh_slice (g := stD) (Q := fun _ => True) Try.underlying34 h0 fun r hr => by
    obtain ⟨s, rfl⟩ := sh_step hr
    exact ⟨s, trivial, rfl⟩
  obtain ⟨n, rfl, _⟩ := sh_int Try.underlying3 h1
  exact sp_law36_CrossBacks n
end Go.Proofs.Ytfoepbkbclmghaa
