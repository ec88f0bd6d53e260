
/- Chapter 54: the laws, from their arguments. -/
import Derived.Test.YtnhogggpchcbjaaT14
import Derived.Test.YtnhogggpchcbjaaRB
set_option linter.all false
namespace Go.Proofs.Ytnhogggpchcbjaa
open Go.AM

theorem sh_string {n : Nat} {d : D} (h : Sh Try.prog (n + 1) 9 d) : ∃ s : List UInt8, d = .str s ∧ s.length < 9223372036854775808 := by
  obtain ⟨s, h1, h2⟩ := sh_str Try.underlying9 h
  exact ⟨s, h1, by unfold maxLen at h2; omega⟩
theorem sh_act {n : Nat} {d : D} (h : Sh Try.prog (n + 2) 41 d) : ∃ a : Ac, 0 ≤ a.do_ ∧ d = acD a := by
  obtain ⟨c, rfl, hc⟩ := sh_fs (ts := [5, 3, 3, 9]) (by kernel_rfl) h
  obtain ⟨_, _, rfl, h0, _, _, rfl, h1, _, _, rfl, h2, _, _, rfl, h3, rfl⟩ := hc
  obtain ⟨x, rfl, hx⟩ := shC_int (k := .u8) (by kernel_rfl) h0
  obtain ⟨y, rfl, hy⟩ := shC_int (k := .i64) (by kernel_rfl) h1
  obtain ⟨w, rfl, hw⟩ := shC_int (k := .i64) (by kernel_rfl) h2
  obtain ⟨s, rfl, _⟩ := shC_str Try.underlying9 h3
  exact ⟨⟨x, y, w, s⟩, hx.1, rfl⟩
theorem sh_acts {n : Nat} {d : D} (h : Sh Try.prog (n + 3) 37 d) : ∃ l : List Ac, d = .ls 4 (aL l) ∧ l.length < 9223372036854775808 ∧ ∀ a ∈ l, 0 ≤ a.do_ := by
  obtain ⟨l, h1, h2, h3⟩ := sh_slice (g := acD) (Q := fun a => 0 ≤ a.do_) Try.underlying37 h fun r hr => sh_act hr
  exact ⟨l, h1, by unfold maxLen at h2; omega, h3⟩
theorem bufferNew_law {dl : List D} (h : ShL Try.prog 8 [9] dl) : Sp Try.prog gtab 3 dl (.bool true) := by
  obtain ⟨d0, _, rfl, h0, rfl⟩ := h
  obtain ⟨s, rfl, hs⟩ := sh_string h0
  exact sp_law54_BufferNew hs
theorem bufferLines_law {dl : List D} (h : ShL Try.prog 8 [9, 3, 3, 3, 3] dl) : Sp Try.prog gtab 7 dl (.bool true) := by
  obtain ⟨d0, _, rfl, h0, d1, _, rfl, h1, d2, _, rfl, h2, d3, _, rfl, h3, d4, _, rfl, h4, rfl⟩ := h
  obtain ⟨s, rfl, hs⟩ := sh_string h0
  obtain ⟨a, rfl, _⟩ := sh_int Try.underlying3 h1
  obtain ⟨b, rfl, _⟩ := sh_int Try.underlying3 h2
  obtain ⟨c, rfl, _⟩ := sh_int Try.underlying3 h3
  obtain ⟨e, rfl, _⟩ := sh_int Try.underlying3 h4
  exact sp_law54_BufferLines hs
theorem bufferTakes_law {dl : List D} (h : ShL Try.prog 8 [9, 9, 46] dl) : Sp Try.prog gtab 5 dl (.bool true) := by
  obtain ⟨d0, _, rfl, h0, d1, _, rfl, h1, d2, _, rfl, h2, rfl⟩ := h
  obtain ⟨s, rfl, hs⟩ := sh_string h0
  obtain ⟨t, rfl, ht⟩ := sh_string h1
  obtain ⟨b, rfl, hb⟩ := sh_int Try.underlying46 h2
  exact sp_law54_BufferTakes hs ht hb
theorem bufferPlays_law {dl : List D} (h : ShL Try.prog 8 [9, 37] dl) : Sp Try.prog gtab 6 dl (.bool true) := by
  obtain ⟨d0, _, rfl, h0, d1, _, rfl, h1, rfl⟩ := h
  obtain ⟨s, rfl, hs⟩ := sh_string h0
  obtain ⟨l, rfl, hl, ha⟩ := sh_acts h1
  exact sp_law54_BufferPlays hs hl ha
theorem bufferUndoes_law {dl : List D} (h : ShL Try.prog 8 [9, 37] dl) : Sp Try.prog gtab 4 dl (.bool true) := by
  obtain ⟨d0, _, rfl, h0, d1, _, rfl, h1, rfl⟩ := h
  obtain ⟨s, rfl, hs⟩ := sh_string h0
  obtain ⟨l, rfl, hl, ha⟩ := sh_acts h1
  exact sp_law54_BufferUndoes hs hl ha
end Go.Proofs.Ytnhogggpchcbjaa
