import Derived.Test.YtoaialdcgmkbgaaGreatRP4

set_option linter.all false
namespace Go.AM
theorem jv0 {l : List Rc} (h : ∀ r ∈ l, kD4 r -> Vr r) {x y : Int} : qL (l.filter kB1) x y ↔ qL l x y := by
 unfold qL
 constructor
 ·rintro ⟨r, hr, hh⟩
  exact ⟨r, (List.mem_filter.1 hr).1, hh⟩
 ·rintro ⟨r, hr, hh⟩
  refine ⟨r, List.mem_filter.2 ⟨hr, ZS.2 (h r hr ?_)⟩, hh⟩
  unfold Rc.has at hh
  unfold kD4; omega
/-! ### Bits -/
end Go.AM
