
/- RectAreas. -/
import Derived.Test.YtnjmjiajbgdnlaaR4
set_option linter.all false
namespace Go.AM
open Go Go.Proofs

theorem mem_drop {l : List Rc} {i : Nat} (h : i < l.length) : l[i] ∈ l := List.getElem_mem h

def st3 (a b : Rc) (l : List Rc) (i : Nat) (s : Int) : St :=
  ⟨[(2, [], .box 0 0), (3, [], .box 1 0), (5, [], .int .i64 s), (6, [], .ls 4 (l.map rD)), (7, [], .int .i64 i)],
    [.cells [.int .i64 a.x, .int .i64 a.y, .int .i64 a.w, .int .i64 a.h], .cells [.int .i64 b.x, .int .i64 b.y, .int .i64 b.w, .int .i64 b.h]]⟩

theorem foldl_vz (l : List Rc) : ∀ b, Vz b → Vz (l.foldl boxStep b) := by
  induction l with
  | nil => exact fun b h => h
  | cons r l ih => exact fun b h => ih _ (box_vz h)
theorem boxL_vz (l : List Rc) : Vz (boxL l) := foldl_vz l _ (.inl rfl)

end Go.AM
