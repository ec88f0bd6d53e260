import Derived.Test.YtoaialdcgmkbgaaGreatRN13
import Derived.Test.YtoaialdcgmkbgaaGreatRRB

set_option linter.all false
set_option maxRecDepth 100000
namespace Go.Proofs.YtoaialdcgmkbgaaGreatR
open Go.AM
theorem ku6 {n : Nat} {c : List D} (h : ZY Tryz.prog (n + 2) 45 c) : ∃ r : Rc, r.In /\ c = [.int .i64 r.x, .int .i64 r.y, .int .i64 r.w, .int .i64 r.h] := by
 have hc := ka1 (ts := [3, 3, 3, 3]) (by kernel_rfl) h
 obtain ⟨_, _, rfl, h0, _, _, rfl, h1, _, _, rfl, h2, _, _, rfl, h3, rfl⟩ := hc
 obtain ⟨x, rfl, hx⟩ := qQ (k := .i64) (by kernel_rfl) h0
 obtain ⟨y, rfl, hy⟩ := qQ (k := .i64) (by kernel_rfl) h1
 obtain ⟨w, rfl, hw⟩ := qQ (k := .i64) (by kernel_rfl) h2
 obtain ⟨v, rfl, hv⟩ := qQ (k := .i64) (by kernel_rfl) h3
 exact ⟨⟨x, y, w, v⟩, ⟨hx, hy, hw, hv⟩, rfl⟩
theorem ku4 {n : Nat} {d : D} (h : Sh Tryz.prog (n + 2) 45 d) : ∃ r : Rc, r.In /\ d = rD r := by
 obtain ⟨c, rfl, hc⟩ := ku5 (ts := [3, 3, 3, 3]) (by kernel_rfl) h
 obtain ⟨_, _, rfl, h0, _, _, rfl, h1, _, _, rfl, h2, _, _, rfl, h3, rfl⟩ := hc
 obtain ⟨x, rfl, hx⟩ := qQ (k := .i64) (by kernel_rfl) h0
 obtain ⟨y, rfl, hy⟩ := qQ (k := .i64) (by kernel_rfl) h1
 obtain ⟨w, rfl, hw⟩ := qQ (k := .i64) (by kernel_rfl) h2
 obtain ⟨v, rfl, hv⟩ := qQ (k := .i64) (by kernel_rfl) h3
 exact ⟨⟨x, y, w, v⟩, ⟨hx, hy, hw, hv⟩, rfl⟩
theorem kK9 : Tryz.prog.cellsOf 45 = 4 := by kernel_rfl
theorem kB4 : Tryz.prog.cellsOf 198 = 9 := by kernel_rfl
theorem kB5 : Tryz.prog.cellsOf 127 = 15 := by kernel_rfl
theorem sh_wn {n : Nat} {d : D} (h : Sh Tryz.prog (n + 4) 198 d) : ∃ a : Wn, JB a /\ d = kD6 a := by
 obtain ⟨c, rfl, hc⟩ := ku5 (ts := [5, 26, 26, 5, 5, 4, 4, 40, 5]) (by kernel_rfl) h
 obtain ⟨_, _, rfl, g1, _, _, rfl, g2, _, _, rfl, g3, _, _, rfl, g4, _, _, rfl, g5, _, _, rfl, g6, _, _, rfl, g7, _, _, rfl, g8, _, _, rfl, g9, rfl⟩ := hc
 obtain ⟨up, rfl, h1⟩ := qQ (k := .u8) (by kernel_rfl) g1
 obtain ⟨x, rfl, h2⟩ := qQ (k := .i8) (by kernel_rfl) g2
 obtain ⟨y, rfl, h3⟩ := qQ (k := .i8) (by kernel_rfl) g3
 obtain ⟨w, rfl, h4⟩ := qQ (k := .u8) (by kernel_rfl) g4
 obtain ⟨v, rfl, h5⟩ := qQ (k := .u8) (by kernel_rfl) g5
 obtain ⟨on, rfl⟩ := Yk Tryz.boolUnd g6
 obtain ⟨s, rfl⟩ := Yk Tryz.boolUnd g7
 obtain ⟨l, rfl, hl, _⟩ := km9 (g := rD) (Q := Rc.In) Tryz.underlying40 g8 fun r hr => ku4 hr
 obtain ⟨ink, rfl, h9⟩ := qQ (k := .u8) (by kernel_rfl) g9
 rw [kK9]
 exact ⟨⟨up, x, y, w, v, on, s, l, ink⟩, ⟨h1, h2, h3, h4, h5, h9, by unfold maxLen at hl; dsimp only; omega⟩, rfl⟩
theorem sh_ac {n : Nat} {d : D} (h : Sh Tryz.prog (n + 4) 127 d) : ∃ a : Ac, kL4 a /\ d = kN5 a := by
 obtain ⟨c, rfl, hc⟩ := ku5 (ts := [5, 5, 26, 26, 5, 5, 4, 125, 45, 51]) (by kernel_rfl) h
 obtain ⟨_, _, rfl, g1, _, _, rfl, g2, _, _, rfl, g3, _, _, rfl, g4, _, _, rfl, g5, _, _, rfl, g6, _, _, rfl, g7, _, _, rfl, g8, _, _, rfl, g9, _, _, rfl, g10, rfl⟩ := hc
 obtain ⟨act, rfl, h1⟩ := qQ (k := .u8) (by kernel_rfl) g1
 obtain ⟨at', rfl, h2⟩ := qQ (k := .u8) (by kernel_rfl) g2
 obtain ⟨x, rfl, h3⟩ := qQ (k := .i8) (by kernel_rfl) g3
 obtain ⟨y, rfl, h4⟩ := qQ (k := .i8) (by kernel_rfl) g4
 obtain ⟨w, rfl, h5⟩ := qQ (k := .u8) (by kernel_rfl) g5
 obtain ⟨v, rfl, h6⟩ := qQ (k := .u8) (by kernel_rfl) g6
 obtain ⟨on, rfl⟩ := Yk Tryz.boolUnd g7
 have hs := ka1 (ts := [3, 3, 4]) (by kernel_rfl) g8
 obtain ⟨_, _, rfl, e0, _, _, rfl, e1, _, _, rfl, e2, rfl⟩ := hs
 obtain ⟨dx, rfl, _⟩ := qQ (k := .i64) (by kernel_rfl) e0
 obtain ⟨dy, rfl, _⟩ := qQ (k := .i64) (by kernel_rfl) e1
 obtain ⟨fg, rfl⟩ := Yk Tryz.boolUnd e2
 obtain ⟨r, hr, rfl⟩ := ku6 g9
 obtain ⟨ink, rfl, _⟩ := qQ (k := .u8) (by kernel_rfl) g10
 exact ⟨⟨act, at', x, y, w, v, on, ⟨dx, dy, fg⟩, r, ink⟩, ⟨h1, h2, h3, h4, h5, h6, hr⟩, rfl⟩
theorem topAnew_law {dl : List D} (h : ShL Tryz.prog 8 [114, 115] dl) : Sp Tryz.prog zM 6 dl (.bool true) := by
 obtain ⟨d1, _, rfl, h1, d2, _, rfl, h2, rfl⟩ := h
 obtain ⟨ws, rfl, _, hws⟩ := jQ4 (g := kD6) (Q := JB) Tryz.underlying114 h1 fun r hr => sh_wn hr
 obtain ⟨acs, rfl, _, hacs⟩ := jQ4 (g := kN5) (Q := kL4) Tryz.underlying115 h2 fun r hr => sh_ac hr
 rw [kB4, kB5]
 exact jZ5 hws hacs
end Go.Proofs.YtoaialdcgmkbgaaGreatR
