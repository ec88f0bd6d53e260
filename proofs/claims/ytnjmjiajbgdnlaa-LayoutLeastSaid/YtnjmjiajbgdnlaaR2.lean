
/- The rectangles' functions: what is left, and the box. -/
import Derived.Test.YtnjmjiajbgdnlaaR1
set_option linter.all false
namespace Go.AM
open Go Go.Proofs

theorem Pl1.f {z : Int} (h : Pl1 z) : fits .i64 z := by simp only [Pl1, fits] at *; omega
theorem cross_vz (a b : Rc) : Vz (crossR a b) := by
  unfold crossR
  split
  · exact .inl rfl
  · rename_i h
    simp only [Bool.or_eq_true, not_or, Bool.not_eq_true, empty_iff] at h
    obtain ⟨h1, h2⟩ := h
    unfold betweenR
    split
    · exact .inl rfl
    · rename_i h
      simp only [Bool.or_eq_true, not_or, decide_eq_true_eq] at h
      simp only [Vr] at h1 h2
      right; simp only [Vr]; omega

def piecesL (a c : Rc) : List Rc := [betweenR a.x a.y (a.x + a.w) c.y, betweenR a.x c.y c.x (c.y + c.h), betweenR (c.x + c.w) c.y (a.x + a.w) (c.y + c.h), betweenR a.x (c.y + c.h) (a.x + a.w) (a.y + a.h)]
def minusL (a b : Rc) : List Rc := if emptyB a then [] else if emptyB (crossR a b) then [a] else (piecesL a (crossR a b)).filter fun r => !emptyB r

theorem between_in {x y r b : Int} (h1 : Pl1 x) (h2 : Pl1 y) (h3 : Pl1 r) (h4 : Pl1 b) : (betweenR x y r b).In := by
  unfold betweenR
  split
  · exact In_o
  · simp only [Rc.In, Pl1, fits] at *; omega

def stM (a b c p0 p1 p2 p3 : Rc) (i ver : Nat) (l : List Rc) : St :=
  ⟨[(6, [], .own 4 ver), (78, [], .agg [.int .i64 p0.x, .int .i64 p0.y, .int .i64 p0.w, .int .i64 p0.h, .int .i64 p1.x, .int .i64 p1.y, .int .i64 p1.w, .int .i64 p1.h,
      .int .i64 p2.x, .int .i64 p2.y, .int .i64 p2.w, .int .i64 p2.h, .int .i64 p3.x, .int .i64 p3.y, .int .i64 p3.w, .int .i64 p3.h]), (79, [], .int .i64 i)],
    [.cells [.int .i64 a.x, .int .i64 a.y, .int .i64 a.w, .int .i64 a.h], .cells [.int .i64 b.x, .int .i64 b.y, .int .i64 b.w, .int .i64 b.h], .arr 23 4 0 [], .cells [.int .i64 c.x, .int .i64 c.y, .int .i64 c.w, .int .i64 c.h], .arr 23 4 ver (l.map rD)]⟩

end Go.AM
