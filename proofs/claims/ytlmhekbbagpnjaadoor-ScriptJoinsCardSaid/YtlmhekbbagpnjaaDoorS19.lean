
/- Chapter 63: arguments as data; what the laid variables hold. -/
import Derived.Test.YtlmhekbbagpnjaaDoorS18
import Derived.Test.YtlmhekbbagpnjaaDoorRBd
set_option linter.all false
namespace Go.Proofs.YtlmhekbbagpnjaaDoor
open Go.ChangeShapes Go.WideShapes Go.ChangeAt Go.RowKit Go.Joins Go.AM

def laid4 : List (String × DataW Unit) := [("internal/strconv.uint64pow10", Rows.laid_internal_strconv_uint64pow10), ("strconv.ErrRange", Rows.laid_strconv_ErrRange), ("strconv.ErrSyntax", Rows.laid_strconv_ErrSyntax), ("glazier/script.shapes", Rows.laid_glazier_script_shapes)]
theorem glob4 {laid : List (String × DataW Unit)} {W : World} (hL : laidMet Tryd.prog laid W) (hs : ∀ x ∈ laid4, x ∈ laid) : GlobOk gtab (K0 W) := glob_of_laid_sub hL hs (by kernel_rfl)
end Go.Proofs.YtlmhekbbagpnjaaDoor
