
/- TopShaped: from its arguments. -/
import Derived.Test.YtoaialdcgmkbgaaDoorQ13
import Derived.Test.YtoaialdcgmkbgaaDoorRBd
set_option linter.all false
set_option maxRecDepth 100000
namespace Go.Proofs.YtoaialdcgmkbgaaDoor
open Go.AM

theorem sh_rect {n : Nat} {d : D} (h : Sh Tryd.prog (n + 2) 25 d) : ∃ r : Rc, r.In ∧ d = rD r := by
  obtain ⟨c, rfl, hc⟩ := sh_fs (ts := [3, 3, 3, 3]) (by kernel_rfl) h
  obtain ⟨_, _, rfl, h0, _, _, rfl, h1, _, _, rfl, h2, _, _, rfl, h3, rfl⟩ := hc
  obtain ⟨x, rfl, hx⟩ := shC_int (k := .i64) (by kernel_rfl) h0
  obtain ⟨y, rfl, hy⟩ := shC_int (k := .i64) (by kernel_rfl) h1
  obtain ⟨w, rfl, hw⟩ := shC_int (k := .i64) (by kernel_rfl) h2
  obtain ⟨v, rfl, hv⟩ := shC_int (k := .i64) (by kernel_rfl) h3
  exact ⟨⟨x, y, w, v⟩, ⟨hx, hy, hw, hv⟩, rfl⟩
theorem topShaped_law {dl : List D} (h : ShL Tryd.prog 8 [22, 5, 5, 4] dl) : Sp Tryd.prog gtab 3 dl (.bool true) := by
  obtain ⟨d1, _, rfl, h1, d2, _, rfl, h2, d3, _, rfl, h3, d4, _, rfl, h4, rfl⟩ := h
  obtain ⟨l, rfl, hlen, hl⟩ := sh_slice (g := rD) (Q := Rc.In) Tryd.underlying22 h1 fun r hr => sh_rect hr
  obtain ⟨w, rfl, hw⟩ := sh_int (k := .u8) (by kernel_rfl) h2
  obtain ⟨v, rfl, hv⟩ := sh_int (k := .u8) (by kernel_rfl) h3
  obtain ⟨b, rfl⟩ := sh_bool Tryd.underlying4 h4
  exact sp_TopShaped hl hw hv
end Go.Proofs.YtoaialdcgmkbgaaDoor
