
/- The box, and the document's example. -/
import Derived.Test.YtnjmjiajbgdnlaaR2
set_option linter.all false
namespace Go.AM
open Go Go.Proofs

def boxStep (box r : Rc) : Rc := if emptyB r then box else if box.eq .o then r else betweenR (min box.x r.x) (min box.y r.y) (max (box.x + box.w) (r.x + r.w)) (max (box.y + box.h) (r.y + r.h))
def boxL (l : List Rc) : Rc := l.foldl boxStep .o

theorem box_vz {box r : Rc} (hb : Vz box) : Vz (boxStep box r) := by
  unfold boxStep
  split
  · exact hb
  · rename_i h
    simp only [Bool.not_eq_true, empty_iff] at h
    split
    · exact .inr h
    · rename_i h'
      have hb := hb.resolve_left fun e => h' (by rw [e]; rfl)
      unfold betweenR
      split
      · exact .inl rfl
      · rename_i h
        simp only [Bool.or_eq_true, not_or, decide_eq_true_eq] at h
        right; simp only [Vr] at *
        omega

def st13 (l : List Rc) (i : Nat) (box : Rc) : St :=
  ⟨[(2, [], .box 0 0), (3, [], .box 1 0), (6, [], .ls 4 (l.map rD)), (7, [], .int .i64 l.length), (8, [], .int .i64 i)],
    [.cells [.int .i64 0, .int .i64 0, .int .i64 0, .int .i64 0], .cells [.int .i64 box.x, .int .i64 box.y, .int .i64 box.w, .int .i64 box.h]]⟩

end Go.AM
