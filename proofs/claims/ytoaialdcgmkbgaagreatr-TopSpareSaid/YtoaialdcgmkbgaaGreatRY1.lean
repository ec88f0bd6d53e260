import Derived.Test.YtoaialdcgmkbgaaGreatRCode
import Derived.Test.YtoaialdcgmkbgaaGreatRU1

set_option linter.all false
namespace Go.AM
open Go Go.Proofs
def rD (r : Rc) : D := .agg [.int .i64 r.x, .int .i64 r.y, .int .i64 r.w, .int .i64 r.h]
def Rc.o : Rc := ⟨0, 0, 0, 0⟩
def Rc.In (r : Rc) : Prop := fits .i64 r.x ∧ fits .i64 r.y ∧ fits .i64 r.w ∧ fits .i64 r.h
def Rc.eq (a b : Rc) : Bool := decide (a.x = b.x) && (decide (a.y = b.y) && (decide (a.w = b.w) && decide (a.h = b.h)))
theorem Rc.eq_iff {a b : Rc} : a.eq b = true ↔ a = b := by
  cases a; cases b; simp [Rc.eq]
def fitsB (a n : Int) : Bool := decide (-1048576 ≤ a) && decide (1 ≤ n) && decide (n ≤ 1048576 - a)
def Vr (r : Rc) : Prop := -1048576 ≤ r.x ∧ -1048576 ≤ r.y ∧ 1 ≤ r.w ∧ 1 ≤ r.h ∧ r.w ≤ 1048576 - r.x ∧ r.h ≤ 1048576 - r.y
def Vz (r : Rc) : Prop := r = .o ∨ Vr r
theorem Vr.in {r : Rc} (h : Vr r) : r.In := by unfold Vr at h; simp only [Rc.In, fits]; omega
theorem In_o : Rc.o.In := by simp [Rc.In, Rc.o, fits]
theorem Vz.in {r : Rc} (h : Vz r) : r.In := h.elim (fun h => h ▸ In_o) Vr.in
theorem fitsB_iff {a n : Int} : fitsB a n = true ↔ -1048576 ≤ a ∧ 1 ≤ n ∧ n ≤ 1048576 - a := by simp [fitsB, and_assoc]
end Go.AM

