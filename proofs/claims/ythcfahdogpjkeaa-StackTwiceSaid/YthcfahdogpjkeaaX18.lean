
/- Chapter 29: the laws' arguments. -/
import Derived.Test.YthcfahdogpjkeaaX16
import Derived.Test.YthcfahdogpjkeaaRB
set_option linter.all false
set_option maxRecDepth 100000
namespace Go.Proofs.Ythcfahdogpjkeaa
open Go.AM

theorem sh_rect {n : Nat} {d : D} (h : Sh Try.prog (n + 2) 61 d) : ∃ r : Rc, r.In ∧ d = rD r := by
  obtain ⟨c, rfl, hc⟩ := sh_fs (ts := [3, 3, 3, 3]) (by kernel_rfl) h
  obtain ⟨_, _, rfl, h0, _, _, rfl, h1, _, _, rfl, h2, _, _, rfl, h3, rfl⟩ := hc
  obtain ⟨x, rfl, hx⟩ := shC_int (k := .i64) (by kernel_rfl) h0
  obtain ⟨y, rfl, hy⟩ := shC_int (k := .i64) (by kernel_rfl) h1
  obtain ⟨w, rfl, hw⟩ := shC_int (k := .i64) (by kernel_rfl) h2
  obtain ⟨g, rfl, hg⟩ := shC_int (k := .i64) (by kernel_rfl) h3
  exact ⟨⟨x, y, w, g⟩, ⟨hx, hy, hw, hg⟩, rfl⟩
theorem sh_scene {n : Nat} {d : D} (h : Sh Try.prog (n + 4) 24 d) : ∃ (ats : List Rc) (deep : Int), (∀ r ∈ ats, r.In) ∧ fits .u8 deep ∧ ats.length < 9223372036854775808 ∧ d = sceneD ats deep := by
  obtain ⟨c, rfl, hc⟩ := sh_fs (ts := [22, 5]) (by kernel_rfl) h
  obtain ⟨_, _, rfl, h0, _, _, rfl, h1, rfl⟩ := hc
  obtain ⟨l, rfl, hlen, hl⟩ := shC_slice (g := rD) (Q := Rc.In) Try.underlying22 h0 fun r hr => sh_rect hr
  obtain ⟨y, rfl, hy⟩ := shC_int (k := .u8) (by kernel_rfl) h1
  exact ⟨l, y, hl, hy, by unfold maxLen at hlen; omega, rfl⟩
theorem sh_two {n : Nat} {d : D} (h : Sh Try.prog (n + 2) 25 d) : ∃ a b : Int, fits .u8 a ∧ fits .u8 b ∧ d = .agg [.int .u8 a, .int .u8 b] := by
  obtain ⟨c, hc, hr⟩ := h
  have hu : Try.prog.underlying 25 = some (.array 2 5) := by kernel_rfl
  simp only [ShC, hu] at hc
  obtain ⟨_, _, rfl, h0, _, _, rfl, h1, rfl⟩ := hc
  obtain ⟨x, rfl, hx⟩ := shC_int (n := n) (k := .u8) (t := 5) (by kernel_rfl) (by simpa only [ShC] using h0)
  obtain ⟨y, rfl, hy⟩ := shC_int (n := n) (k := .u8) (t := 5) (by kernel_rfl) (by simpa only [ShC] using h1)
  simp only [rowIs, isAgg', hu] at hr
  exact ⟨x, y, hx, hy, hr⟩
end Go.Proofs.Ythcfahdogpjkeaa
