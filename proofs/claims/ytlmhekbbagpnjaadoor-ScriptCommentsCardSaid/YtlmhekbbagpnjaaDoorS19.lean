
/- Chapter 63: arguments as data; what the laid variables hold. -/
import Derived.Test.YtlmhekbbagpnjaaDoorS18
import Derived.Test.YtlmhekbbagpnjaaDoorRBd
set_option linter.all false
namespace Go.Proofs.YtlmhekbbagpnjaaDoor
open Go.ChangeShapes Go.WideShapes Go.ChangeAt Go.RowKit Go.Joins Go.AM

theorem scriptNames_law {dl : List D} (h : ShL Tryd.prog 8 [3, 9] dl) : Sp Tryd.prog gtab 7 dl (.bool true) := by
  obtain ⟨d2, _, rfl, h2, d3, _, rfl, h3, rfl⟩ := h
  obtain ⟨g, rfl, _⟩ := sh_int Tryd.underlying3 h2
  obtain ⟨s, rfl, _⟩ := sh_str (by kernel_rfl) h3
  exact sp_law63_ScriptNames
def laid4 : List (String × DataW Unit) := [("internal/strconv.uint64pow10", Rows.laid_internal_strconv_uint64pow10), ("strconv.ErrRange", Rows.laid_strconv_ErrRange), ("strconv.ErrSyntax", Rows.laid_strconv_ErrSyntax), ("glazier/script.shapes", Rows.laid_glazier_script_shapes)]
theorem glob4 {laid : List (String × DataW Unit)} {W : World} (hL : laidMet Tryd.prog laid W) (hs : ∀ x ∈ laid4, x ∈ laid) : GlobOk gtab (K0 W) := glob_of_laid_sub hL hs (by kernel_rfl)
end Go.Proofs.YtlmhekbbagpnjaaDoor
