import Derived.Test.YtoaialdcgmkbgaaGreatRP4

set_option linter.all false
namespace Go.AM
theorem jb2 {l : List Rc} (h : ∀ r ∈ l, Pos r -> Vr r) {x y : Int} : pts (l.filter cntB) x y ↔ pts l x y := by
 unfold pts
 constructor
 ·rintro ⟨r, hr, hh⟩
  exact ⟨r, (List.mem_filter.1 hr).1, hh⟩
 ·rintro ⟨r, hr, hh⟩
  refine ⟨r, List.mem_filter.2 ⟨hr, Vg.2 (h r hr ?_)⟩, hh⟩
  unfold Rc.has at hh
  unfold Pos; omega
/-! ### Bits -/
end Go.AM
