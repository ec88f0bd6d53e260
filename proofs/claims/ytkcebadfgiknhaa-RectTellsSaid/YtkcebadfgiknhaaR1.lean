/- The rectangles' functions, small ones. -/
import Derived.Test.YtkcebadfgiknhaaCore19
import Derived.Test.YtkcebadfgiknhaaCode
set_option linter.all false
namespace Go.AM
open Go Go.Proofs

abbrev TSp := Sp Try.prog
theorem mixed : Try.prog.follows .mixedOrders = true := by kernel_rfl

structure Rc where
  x : Int
  y : Int
  w : Int
  h : Int
  deriving DecidableEq
def rD (r : Rc) : D := .agg [.int .i64 r.x, .int .i64 r.y, .int .i64 r.w, .int .i64 r.h]
def Rc.o : Rc := ⟨0, 0, 0, 0⟩
def Rc.In (r : Rc) : Prop := fits .i64 r.x ∧ fits .i64 r.y ∧ fits .i64 r.w ∧ fits .i64 r.h
def Rc.eq (a b : Rc) : Bool := decide (a.x = b.x) && (decide (a.y = b.y) && (decide (a.w = b.w) && decide (a.h = b.h)))
theorem Rc.eq_iff {a b : Rc} : a.eq b = true ↔ a = b := by
  cases a; cases b; simp [Rc.eq]
theorem Rc.eq_o {a : Rc} : a.eq .o = true ↔ a.x = 0 ∧ a.y = 0 ∧ a.w = 0 ∧ a.h = 0 := by simp [Rc.eq_iff, Rc.o]; cases a; simp
def fitsB (a n : Int) : Bool := decide (-1048576 ≤ a) && decide (1 ≤ n) && decide (n ≤ 1048576 - a)
def okB (r : Rc) : Bool := r.eq .o || (fitsB r.x r.w && fitsB r.y r.h)
def rightR (r : Rc) : Rc := if okB r then r else .o
def emptyB (r : Rc) : Bool := (rightR r).eq .o
/-- Places, and within bounds. -/
def Vr (r : Rc) : Prop := -1048576 ≤ r.x ∧ -1048576 ≤ r.y ∧ 1 ≤ r.w ∧ 1 ≤ r.h ∧ r.w ≤ 1048576 - r.x ∧ r.h ≤ 1048576 - r.y
def Vz (r : Rc) : Prop := r = .o ∨ Vr r
theorem Vr.in {r : Rc} (h : Vr r) : r.In := by unfold Vr at h; simp only [Rc.In, fits]; omega
theorem In_o : Rc.o.In := by simp [Rc.In, Rc.o, fits]
theorem Vz.in {r : Rc} (h : Vz r) : r.In := h.elim (fun h => h ▸ In_o) Vr.in
theorem fitsB_iff {a n : Int} : fitsB a n = true ↔ -1048576 ≤ a ∧ 1 ≤ n ∧ n ≤ 1048576 - a := by simp [fitsB, and_assoc]
theorem okB_iff {r : Rc} : okB r = true ↔ Vz r := by
  simp only [okB, Bool.or_eq_true, Bool.and_eq_true, fitsB_iff, Rc.eq_iff, Vz, Vr]
  constructor
  · rintro (h | h); exact .inl h; exact .inr (by omega)
  · rintro (h | h); exact .inl h; exact .inr (by omega)
theorem right_vz (r : Rc) : Vz (rightR r) := by
  unfold rightR; split
  · rename_i h; exact okB_iff.1 h
  · exact .inl rfl
theorem right_of {r : Rc} (h : Vz r) : rightR r = r := by unfold rightR; rw [if_pos (okB_iff.2 h)]
theorem Vr.ne {r : Rc} (h : Vr r) : r ≠ .o := by rintro rfl; simp [Vr, Rc.o] at h
theorem empty_iff {r : Rc} : emptyB r = false ↔ Vr r := by
  unfold emptyB
  rw [Bool.eq_false_iff, Ne, Rc.eq_iff]
  constructor
  · intro h
    unfold rightR at h
    split at h
    · rename_i h1; exact (okB_iff.1 h1).resolve_left h
    · exact absurd rfl h
  · intro h; rw [right_of (.inr h)]; exact h.ne
theorem empty_right {r : Rc} (h : emptyB r = true) : rightR r = .o := Rc.eq_iff.1 h

theorem sp31 {a n : Int} (ha : fits .i64 a) : TSp 31 [.int .i64 a, .int .i64 n] (.bool (fitsB a n)) := by
  refine Sp_of mixed c31 r31 (by kernel_rfl) comp31 (by kernel_rfl) (by rfl) ?_
  dsimp only [c31, r31, run_skip, run_reg, plainB, ifB_true, run_seq, run_blk, run_exit, run_ret, run_ite, iteR, regK, thenK_nrm, thenK_exit, thenK_ret, thenR_nrm, thenR_exit, thenR_ret, blkK, keepS, keepE, runOps_nil, runOps_cons, goG_some, goOn_ok, goOn_call, goOn_row, goOn_arr, guardP, guardO, notInO, stepF, stepLd, stepSt, stepIxs, stepLen, stepApp, stepPick, evX, evL, rd, get, subG, memG, freshG, notInG, hyps, gob, impP, allP, partD, partOf, isOne, nth, takeN, dropN, cellsD, lenB, fillD, thirds, entN, setE, sizeE, addE, setL, setN, putE, env0, eqCs, eqAux, eqC, bA, bO, bN, bE, negB, kEq, isShr, lendL, lend, closed, closedL, rowsOf, binI, retK, retD, lendO, resL, resD, oneD, List.append, List.nil_append, List.cons_append, List.append_nil, cond, Nat.reduceBEq, Nat.reduceAdd]
  refine ⟨fun h => ?_, rfl⟩
  simp only [fits, Bool.and_eq_true, decide_eq_true_eq] at *
  omega

theorem sp17 {r : Rc} (hr : r.In) : TSp 17 [rD r] (.int .i64 (if okB r then 0 else 1)) := by
  refine Sp_of mixed c17 r17 (by kernel_rfl) comp17 (by kernel_rfl) (by rfl) ?_
  dsimp only [c17, r17, rD, run_skip, run_reg, plainB, ifB_true, run_seq, run_blk, run_exit, run_ret, run_ite, iteR, regK, thenK_nrm, thenK_exit, thenK_ret, thenR_nrm, thenR_exit, thenR_ret, blkK, keepS, keepE, runOps_nil, runOps_cons, goG_some, goOn_ok, goOn_call, goOn_row, goOn_arr, guardP, guardO, notInO, stepF, stepLd, stepSt, stepIxs, stepLen, stepApp, stepPick, evX, evL, rd, get, subG, memG, freshG, notInG, hyps, gob, impP, allP, partD, partOf, isOne, nth, takeN, dropN, cellsD, lenB, fillD, thirds, entN, setE, sizeE, addE, setL, setN, putE, env0, eqCs, eqAux, eqC, bA, bO, bN, bE, negB, kEq, isShr, lendL, lend, closed, closedL, rowsOf, binI, retK, retD, lendO, resL, resD, oneD, List.append, List.nil_append, List.cons_append, List.append_nil, cond, Nat.reduceBEq, Nat.reduceAdd]
  refine call_intro _ _ (fun _ => sp31 hr.1) nofun ?_
  dsimp only [c17, r17, run_skip, run_reg, plainB, ifB_true, run_seq, run_blk, run_exit, run_ret, run_ite, iteR, regK, thenK_nrm, thenK_exit, thenK_ret, thenR_nrm, thenR_exit, thenR_ret, blkK, keepS, keepE, runOps_nil, runOps_cons, goG_some, goOn_ok, goOn_call, goOn_row, goOn_arr, guardP, guardO, notInO, stepF, stepLd, stepSt, stepIxs, stepLen, stepApp, stepPick, evX, evL, rd, get, subG, memG, freshG, notInG, hyps, gob, impP, allP, partD, partOf, isOne, nth, takeN, dropN, cellsD, lenB, fillD, thirds, entN, setE, sizeE, addE, setL, setN, putE, env0, eqCs, eqAux, eqC, bA, bO, bN, bE, negB, kEq, isShr, lendL, lend, closed, closedL, rowsOf, binI, retK, retD, lendO, resL, resD, oneD, List.append, List.nil_append, List.cons_append, List.append_nil, cond, Nat.reduceBEq, Nat.reduceAdd]
  refine call_intro _ _ (fun _ _ => sp31 hr.2.1) nofun ?_
  dsimp only [c17, r17, run_skip, run_reg, plainB, ifB_true, run_seq, run_blk, run_exit, run_ret, run_ite, iteR, regK, thenK_nrm, thenK_exit, thenK_ret, thenR_nrm, thenR_exit, thenR_ret, blkK, keepS, keepE, runOps_nil, runOps_cons, goG_some, goOn_ok, goOn_call, goOn_row, goOn_arr, guardP, guardO, notInO, stepF, stepLd, stepSt, stepIxs, stepLen, stepApp, stepPick, evX, evL, rd, get, subG, memG, freshG, notInG, hyps, gob, impP, allP, partD, partOf, isOne, nth, takeN, dropN, cellsD, lenB, fillD, thirds, entN, setE, sizeE, addE, setL, setN, putE, env0, eqCs, eqAux, eqC, bA, bO, bN, bE, negB, kEq, isShr, lendL, lend, closed, closedL, rowsOf, binI, retK, retD, lendO, resL, resD, oneD, List.append, List.nil_append, List.cons_append, List.append_nil, cond, Nat.reduceBEq, Nat.reduceAdd]
  have e : okB r = (decide (r.x = 0) && (decide (r.y = 0) && (decide (r.w = 0) && decide (r.h = 0))) || fitsB r.x r.w && fitsB r.y r.h) := rfl
  rw [← e]
  exact ⟨fun h => by simp [h], fun h => by simp [h]⟩

theorem sp29 {r : Rc} (hr : r.In) : TSp 29 [rD r] (rD (rightR r)) := by
  refine Sp_of mixed c29 r29 (by kernel_rfl) comp29 (by kernel_rfl) (by rfl) ?_
  dsimp only [c29, r29, rD, run_skip, run_reg, plainB, ifB_true, run_seq, run_blk, run_exit, run_ret, run_ite, iteR, regK, thenK_nrm, thenK_exit, thenK_ret, thenR_nrm, thenR_exit, thenR_ret, blkK, keepS, keepE, runOps_nil, runOps_cons, goG_some, goOn_ok, goOn_call, goOn_row, goOn_arr, guardP, guardO, notInO, stepF, stepLd, stepSt, stepIxs, stepLen, stepApp, stepPick, evX, evL, rd, get, subG, memG, freshG, notInG, hyps, gob, impP, allP, partD, partOf, isOne, nth, takeN, dropN, cellsD, lenB, fillD, thirds, entN, setE, sizeE, addE, setL, setN, putE, env0, eqCs, eqAux, eqC, bA, bO, bN, bE, negB, kEq, isShr, lendL, lend, closed, closedL, rowsOf, binI, retK, retD, lendO, resL, resD, oneD, List.append, List.nil_append, List.cons_append, List.append_nil, cond, Nat.reduceBEq, Nat.reduceAdd]
  refine call_intro _ _ (sp17 hr) nofun ?_
  dsimp only [c29, r29, run_skip, run_reg, plainB, ifB_true, run_seq, run_blk, run_exit, run_ret, run_ite, iteR, regK, thenK_nrm, thenK_exit, thenK_ret, thenR_nrm, thenR_exit, thenR_ret, blkK, keepS, keepE, runOps_nil, runOps_cons, goG_some, goOn_ok, goOn_call, goOn_row, goOn_arr, guardP, guardO, notInO, stepF, stepLd, stepSt, stepIxs, stepLen, stepApp, stepPick, evX, evL, rd, get, subG, memG, freshG, notInG, hyps, gob, impP, allP, partD, partOf, isOne, nth, takeN, dropN, cellsD, lenB, fillD, thirds, entN, setE, sizeE, addE, setL, setN, putE, env0, eqCs, eqAux, eqC, bA, bO, bN, bE, negB, kEq, isShr, lendL, lend, closed, closedL, rowsOf, binI, retK, retD, lendO, resL, resD, oneD, List.append, List.nil_append, List.cons_append, List.append_nil, cond, Nat.reduceBEq, Nat.reduceAdd]
  unfold rightR
  cases okB r <;> simp [Rc.o]

theorem sp16 {r : Rc} (hr : r.In) : TSp 16 [rD r] (.bool (emptyB r)) := by
  refine Sp_of mixed c16 r16 (by kernel_rfl) comp16 (by kernel_rfl) (by rfl) ?_
  dsimp only [c16, r16, rD, run_skip, run_reg, plainB, ifB_true, run_seq, run_blk, run_exit, run_ret, run_ite, iteR, regK, thenK_nrm, thenK_exit, thenK_ret, thenR_nrm, thenR_exit, thenR_ret, blkK, keepS, keepE, runOps_nil, runOps_cons, goG_some, goOn_ok, goOn_call, goOn_row, goOn_arr, guardP, guardO, notInO, stepF, stepLd, stepSt, stepIxs, stepLen, stepApp, stepPick, evX, evL, rd, get, subG, memG, freshG, notInG, hyps, gob, impP, allP, partD, partOf, isOne, nth, takeN, dropN, cellsD, lenB, fillD, thirds, entN, setE, sizeE, addE, setL, setN, putE, env0, eqCs, eqAux, eqC, bA, bO, bN, bE, negB, kEq, isShr, lendL, lend, closed, closedL, rowsOf, binI, retK, retD, lendO, resL, resD, oneD, List.append, List.nil_append, List.cons_append, List.append_nil, cond, Nat.reduceBEq, Nat.reduceAdd]
  refine call_intro _ _ (sp29 hr) nofun ?_
  dsimp only [c16, r16, rD, run_skip, run_reg, plainB, ifB_true, run_seq, run_blk, run_exit, run_ret, run_ite, iteR, regK, thenK_nrm, thenK_exit, thenK_ret, thenR_nrm, thenR_exit, thenR_ret, blkK, keepS, keepE, runOps_nil, runOps_cons, goG_some, goOn_ok, goOn_call, goOn_row, goOn_arr, guardP, guardO, notInO, stepF, stepLd, stepSt, stepIxs, stepLen, stepApp, stepPick, evX, evL, rd, get, subG, memG, freshG, notInG, hyps, gob, impP, allP, partD, partOf, isOne, nth, takeN, dropN, cellsD, lenB, fillD, thirds, entN, setE, sizeE, addE, setL, setN, putE, env0, eqCs, eqAux, eqC, bA, bO, bN, bE, negB, kEq, isShr, lendL, lend, closed, closedL, rowsOf, binI, retK, retD, lendO, resL, resD, oneD, List.append, List.nil_append, List.cons_append, List.append_nil, cond, Nat.reduceBEq, Nat.reduceAdd]
  rfl

def betweenR (x y r b : Int) : Rc := if decide (r ≤ x) || decide (b ≤ y) then .o else ⟨x, y, r - x, b - y⟩
/-- A place, as a corner. -/
def Pl1 (x : Int) : Prop := -4294967296 ≤ x ∧ x ≤ 4294967296

theorem sp30 {x y r b : Int} (h1 : Pl1 x) (h2 : Pl1 y) (h3 : Pl1 r) (h4 : Pl1 b) : TSp 30 [.int .i64 x, .int .i64 y, .int .i64 r, .int .i64 b] (rD (betweenR x y r b)) := by
  refine Sp_of mixed c30 r30 (by kernel_rfl) comp30 (by kernel_rfl) (by rfl) ?_
  dsimp only [c30, r30, rD, run_skip, run_reg, plainB, ifB_true, run_seq, run_blk, run_exit, run_ret, run_ite, iteR, regK, thenK_nrm, thenK_exit, thenK_ret, thenR_nrm, thenR_exit, thenR_ret, blkK, keepS, keepE, runOps_nil, runOps_cons, goG_some, goOn_ok, goOn_call, goOn_row, goOn_arr, guardP, guardO, notInO, stepF, stepLd, stepSt, stepIxs, stepLen, stepApp, stepPick, evX, evL, rd, get, subG, memG, freshG, notInG, hyps, gob, impP, allP, partD, partOf, isOne, nth, takeN, dropN, cellsD, lenB, fillD, thirds, entN, setE, sizeE, addE, setL, setN, putE, env0, eqCs, eqAux, eqC, bA, bO, bN, bE, negB, kEq, isShr, lendL, lend, closed, closedL, rowsOf, binI, retK, retD, lendO, resL, resD, oneD, List.append, List.nil_append, List.cons_append, List.append_nil, cond, Nat.reduceBEq, Nat.reduceAdd]
  simp only [betweenR, Pl1, fits] at *
  refine ⟨fun h => ?_, fun h => ⟨by omega, by omega, ?_⟩⟩
  · rw [if_pos h]; rfl
  · rw [if_neg (by simp [h])]

def crossR (a b : Rc) : Rc := if emptyB a || emptyB b then .o else betweenR (max a.x b.x) (max a.y b.y) (min (a.x + a.w) (b.x + b.w)) (min (a.y + a.h) (b.y + b.h))

theorem sp11 {a b : Rc} (ha : a.In) (hb : b.In) : TSp 11 [rD a, rD b] (rD (crossR a b)) := by
  refine Sp_of mixed c11 r11 (by kernel_rfl) comp11 (by kernel_rfl) (by rfl) ?_
  dsimp only [c11, r11, rD, run_skip, run_reg, plainB, ifB_true, run_seq, run_blk, run_exit, run_ret, run_ite, iteR, regK, thenK_nrm, thenK_exit, thenK_ret, thenR_nrm, thenR_exit, thenR_ret, blkK, keepS, keepE, runOps_nil, runOps_cons, goG_some, goOn_ok, goOn_call, goOn_row, goOn_arr, guardP, guardO, notInO, stepF, stepLd, stepSt, stepIxs, stepLen, stepApp, stepPick, evX, evL, rd, get, subG, memG, freshG, notInG, hyps, gob, impP, allP, partD, partOf, isOne, nth, takeN, dropN, cellsD, lenB, fillD, thirds, entN, setE, sizeE, addE, setL, setN, putE, env0, eqCs, eqAux, eqC, bA, bO, bN, bE, negB, kEq, isShr, lendL, lend, closed, closedL, rowsOf, binI, retK, retD, lendO, resL, resD, oneD, List.append, List.nil_append, List.cons_append, List.append_nil, cond, Nat.reduceBEq, Nat.reduceAdd]
  refine call_intro _ _ (sp16 ha) nofun ?_
  dsimp only [c11, r11, run_skip, run_reg, plainB, ifB_true, run_seq, run_blk, run_exit, run_ret, run_ite, iteR, regK, thenK_nrm, thenK_exit, thenK_ret, thenR_nrm, thenR_exit, thenR_ret, blkK, keepS, keepE, runOps_nil, runOps_cons, goG_some, goOn_ok, goOn_call, goOn_row, goOn_arr, guardP, guardO, notInO, stepF, stepLd, stepSt, stepIxs, stepLen, stepApp, stepPick, evX, evL, rd, get, subG, memG, freshG, notInG, hyps, gob, impP, allP, partD, partOf, isOne, nth, takeN, dropN, cellsD, lenB, fillD, thirds, entN, setE, sizeE, addE, setL, setN, putE, env0, eqCs, eqAux, eqC, bA, bO, bN, bE, negB, kEq, isShr, lendL, lend, closed, closedL, rowsOf, binI, retK, retD, lendO, resL, resD, oneD, List.append, List.nil_append, List.cons_append, List.append_nil, cond, Nat.reduceBEq, Nat.reduceAdd]
  refine call_intro _ _ (fun _ => sp16 hb) nofun ?_
  dsimp only [c11, r11, run_skip, run_reg, plainB, ifB_true, run_seq, run_blk, run_exit, run_ret, run_ite, iteR, regK, thenK_nrm, thenK_exit, thenK_ret, thenR_nrm, thenR_exit, thenR_ret, blkK, keepS, keepE, runOps_nil, runOps_cons, goG_some, goOn_ok, goOn_call, goOn_row, goOn_arr, guardP, guardO, notInO, stepF, stepLd, stepSt, stepIxs, stepLen, stepApp, stepPick, evX, evL, rd, get, subG, memG, freshG, notInG, hyps, gob, impP, allP, partD, partOf, isOne, nth, takeN, dropN, cellsD, lenB, fillD, thirds, entN, setE, sizeE, addE, setL, setN, putE, env0, eqCs, eqAux, eqC, bA, bO, bN, bE, negB, kEq, isShr, lendL, lend, closed, closedL, rowsOf, binI, retK, retD, lendO, resL, resD, oneD, List.append, List.nil_append, List.cons_append, List.append_nil, cond, Nat.reduceBEq, Nat.reduceAdd]
  unfold crossR
  refine ⟨fun h => by rw [if_pos h]; rfl, fun h => ?_⟩
  rw [if_neg (by simp [h])]
  simp only [Bool.or_eq_false_iff, empty_iff] at h
  simp only [Vr] at h
  obtain ⟨h1, h2⟩ := h
  have hf : ∀ {z : Int}, Pl1 z → fits .i64 z := fun h => by simp only [Pl1, fits] at *; omega
  have e1 : Pl1 (a.x + a.w) := by simp only [Pl1]; omega
  have e2 : Pl1 (b.x + b.w) := by simp only [Pl1]; omega
  have e3 : Pl1 (a.y + a.h) := by simp only [Pl1]; omega
  have e4 : Pl1 (b.y + b.h) := by simp only [Pl1]; omega
  refine ⟨hf e1, hf e2, hf e3, hf e4, ?_⟩
  refine call_intro _ _ (sp30 (by simp only [Pl1]; omega) (by simp only [Pl1]; omega) (by simp only [Pl1] at *; omega) (by simp only [Pl1] at *; omega)) nofun ?_
  dsimp only [c11, r11, rD, run_skip, run_reg, plainB, ifB_true, run_seq, run_blk, run_exit, run_ret, run_ite, iteR, regK, thenK_nrm, thenK_exit, thenK_ret, thenR_nrm, thenR_exit, thenR_ret, blkK, keepS, keepE, runOps_nil, runOps_cons, goG_some, goOn_ok, goOn_call, goOn_row, goOn_arr, guardP, guardO, notInO, stepF, stepLd, stepSt, stepIxs, stepLen, stepApp, stepPick, evX, evL, rd, get, subG, memG, freshG, notInG, hyps, gob, impP, allP, partD, partOf, isOne, nth, takeN, dropN, cellsD, lenB, fillD, thirds, entN, setE, sizeE, addE, setL, setN, putE, env0, eqCs, eqAux, eqC, bA, bO, bN, bE, negB, kEq, isShr, lendL, lend, closed, closedL, rowsOf, binI, retK, retD, lendO, resL, resD, oneD, List.append, List.nil_append, List.cons_append, List.append_nil, cond, Nat.reduceBEq, Nat.reduceAdd]

def hasB (r : Rc) (x y : Int) : Bool := decide ((rightR r).x ≤ x) && decide (x < (rightR r).x + (rightR r).w) && decide ((rightR r).y ≤ y) && decide (y < (rightR r).y + (rightR r).h)

theorem sp15 {r : Rc} {x y : Int} (hr : r.In) : TSp 15 [rD r, .int .i64 x, .int .i64 y] (.bool (hasB r x y)) := by
  refine Sp_of mixed c15 r15 (by kernel_rfl) comp15 (by kernel_rfl) (by rfl) ?_
  dsimp only [c15, r15, rD, run_skip, run_reg, plainB, ifB_true, run_seq, run_blk, run_exit, run_ret, run_ite, iteR, regK, thenK_nrm, thenK_exit, thenK_ret, thenR_nrm, thenR_exit, thenR_ret, blkK, keepS, keepE, runOps_nil, runOps_cons, goG_some, goOn_ok, goOn_call, goOn_row, goOn_arr, guardP, guardO, notInO, stepF, stepLd, stepSt, stepIxs, stepLen, stepApp, stepPick, evX, evL, rd, get, subG, memG, freshG, notInG, hyps, gob, impP, allP, partD, partOf, isOne, nth, takeN, dropN, cellsD, lenB, fillD, thirds, entN, setE, sizeE, addE, setL, setN, putE, env0, eqCs, eqAux, eqC, bA, bO, bN, bE, negB, kEq, isShr, lendL, lend, closed, closedL, rowsOf, binI, retK, retD, lendO, resL, resD, oneD, List.append, List.nil_append, List.cons_append, List.append_nil, cond, Nat.reduceBEq, Nat.reduceAdd]
  refine call_intro _ _ (sp29 hr) nofun ?_
  dsimp only [c15, r15, rD, run_skip, run_reg, plainB, ifB_true, run_seq, run_blk, run_exit, run_ret, run_ite, iteR, regK, thenK_nrm, thenK_exit, thenK_ret, thenR_nrm, thenR_exit, thenR_ret, blkK, keepS, keepE, runOps_nil, runOps_cons, goG_some, goOn_ok, goOn_call, goOn_row, goOn_arr, guardP, guardO, notInO, stepF, stepLd, stepSt, stepIxs, stepLen, stepApp, stepPick, evX, evL, rd, get, subG, memG, freshG, notInG, hyps, gob, impP, allP, partD, partOf, isOne, nth, takeN, dropN, cellsD, lenB, fillD, thirds, entN, setE, sizeE, addE, setL, setN, putE, env0, eqCs, eqAux, eqC, bA, bO, bN, bE, negB, kEq, isShr, lendL, lend, closed, closedL, rowsOf, binI, retK, retD, lendO, resL, resD, oneD, List.append, List.nil_append, List.cons_append, List.append_nil, cond, Nat.reduceBEq, Nat.reduceAdd]
  have hv := (right_vz r)
  simp only [Vz, Vr] at hv
  refine ⟨fun _ => ?_, fun _ => ?_, rfl⟩ <;> simp only [fits]
  · rcases hv with h | h
    · rw [h]; simp [Rc.o]
    · omega
  · rcases hv with h | h
    · rw [h]; simp [Rc.o]
    · omega

def holdsB (a b : Rc) : Bool := emptyB b || (crossR a b).eq b
theorem sp14 {a b : Rc} (ha : a.In) (hb : b.In) : TSp 14 [rD a, rD b] (.bool (holdsB a b)) := by
  refine Sp_of mixed c14 r14 (by kernel_rfl) comp14 (by kernel_rfl) (by rfl) ?_
  dsimp only [c14, r14, rD, run_skip, run_reg, plainB, ifB_true, run_seq, run_blk, run_exit, run_ret, run_ite, iteR, regK, thenK_nrm, thenK_exit, thenK_ret, thenR_nrm, thenR_exit, thenR_ret, blkK, keepS, keepE, runOps_nil, runOps_cons, goG_some, goOn_ok, goOn_call, goOn_row, goOn_arr, guardP, guardO, notInO, stepF, stepLd, stepSt, stepIxs, stepLen, stepApp, stepPick, evX, evL, rd, get, subG, memG, freshG, notInG, hyps, gob, impP, allP, partD, partOf, isOne, nth, takeN, dropN, cellsD, lenB, fillD, thirds, entN, setE, sizeE, addE, setL, setN, putE, env0, eqCs, eqAux, eqC, bA, bO, bN, bE, negB, kEq, isShr, lendL, lend, closed, closedL, rowsOf, binI, retK, retD, lendO, resL, resD, oneD, List.append, List.nil_append, List.cons_append, List.append_nil, cond, Nat.reduceBEq, Nat.reduceAdd]
  refine call_intro _ _ (sp16 hb) nofun ?_
  dsimp only [c14, r14, rD, run_skip, run_reg, plainB, ifB_true, run_seq, run_blk, run_exit, run_ret, run_ite, iteR, regK, thenK_nrm, thenK_exit, thenK_ret, thenR_nrm, thenR_exit, thenR_ret, blkK, keepS, keepE, runOps_nil, runOps_cons, goG_some, goOn_ok, goOn_call, goOn_row, goOn_arr, guardP, guardO, notInO, stepF, stepLd, stepSt, stepIxs, stepLen, stepApp, stepPick, evX, evL, rd, get, subG, memG, freshG, notInG, hyps, gob, impP, allP, partD, partOf, isOne, nth, takeN, dropN, cellsD, lenB, fillD, thirds, entN, setE, sizeE, addE, setL, setN, putE, env0, eqCs, eqAux, eqC, bA, bO, bN, bE, negB, kEq, isShr, lendL, lend, closed, closedL, rowsOf, binI, retK, retD, lendO, resL, resD, oneD, List.append, List.nil_append, List.cons_append, List.append_nil, cond, Nat.reduceBEq, Nat.reduceAdd]
  refine call_intro _ _ (fun _ => sp11 ha hb) nofun ?_
  dsimp only [c14, r14, rD, run_skip, run_reg, plainB, ifB_true, run_seq, run_blk, run_exit, run_ret, run_ite, iteR, regK, thenK_nrm, thenK_exit, thenK_ret, thenR_nrm, thenR_exit, thenR_ret, blkK, keepS, keepE, runOps_nil, runOps_cons, goG_some, goOn_ok, goOn_call, goOn_row, goOn_arr, guardP, guardO, notInO, stepF, stepLd, stepSt, stepIxs, stepLen, stepApp, stepPick, evX, evL, rd, get, subG, memG, freshG, notInG, hyps, gob, impP, allP, partD, partOf, isOne, nth, takeN, dropN, cellsD, lenB, fillD, thirds, entN, setE, sizeE, addE, setL, setN, putE, env0, eqCs, eqAux, eqC, bA, bO, bN, bE, negB, kEq, isShr, lendL, lend, closed, closedL, rowsOf, binI, retK, retD, lendO, resL, resD, oneD, List.append, List.nil_append, List.cons_append, List.append_nil, cond, Nat.reduceBEq, Nat.reduceAdd]
  rfl

def areaI (r : Rc) : Int := (rightR r).w * (rightR r).h
theorem area_lt (r : Rc) : 0 ≤ areaI r ∧ areaI r ≤ 2097152 * 2097152 := by
  have hv := (right_vz r)
  simp only [Vz, Vr] at hv
  unfold areaI
  rcases hv with h | h
  · rw [h]; simp [Rc.o]
  · refine ⟨Int.mul_nonneg (by omega) (by omega), Int.mul_le_mul (by omega) (by omega) (by omega) (by omega)⟩
theorem sp10 {r : Rc} (hr : r.In) : TSp 10 [rD r] (.int .i64 (areaI r)) := by
  refine Sp_of mixed c10 r10 (by kernel_rfl) comp10 (by kernel_rfl) (by rfl) ?_
  dsimp only [c10, r10, rD, run_skip, run_reg, plainB, ifB_true, run_seq, run_blk, run_exit, run_ret, run_ite, iteR, regK, thenK_nrm, thenK_exit, thenK_ret, thenR_nrm, thenR_exit, thenR_ret, blkK, keepS, keepE, runOps_nil, runOps_cons, goG_some, goOn_ok, goOn_call, goOn_row, goOn_arr, guardP, guardO, notInO, stepF, stepLd, stepSt, stepIxs, stepLen, stepApp, stepPick, evX, evL, rd, get, subG, memG, freshG, notInG, hyps, gob, impP, allP, partD, partOf, isOne, nth, takeN, dropN, cellsD, lenB, fillD, thirds, entN, setE, sizeE, addE, setL, setN, putE, env0, eqCs, eqAux, eqC, bA, bO, bN, bE, negB, kEq, isShr, lendL, lend, closed, closedL, rowsOf, binI, retK, retD, lendO, resL, resD, oneD, List.append, List.nil_append, List.cons_append, List.append_nil, cond, Nat.reduceBEq, Nat.reduceAdd]
  refine call_intro _ _ (sp29 hr) nofun ?_
  dsimp only [c10, r10, rD, run_skip, run_reg, plainB, ifB_true, run_seq, run_blk, run_exit, run_ret, run_ite, iteR, regK, thenK_nrm, thenK_exit, thenK_ret, thenR_nrm, thenR_exit, thenR_ret, blkK, keepS, keepE, runOps_nil, runOps_cons, goG_some, goOn_ok, goOn_call, goOn_row, goOn_arr, guardP, guardO, notInO, stepF, stepLd, stepSt, stepIxs, stepLen, stepApp, stepPick, evX, evL, rd, get, subG, memG, freshG, notInG, hyps, gob, impP, allP, partD, partOf, isOne, nth, takeN, dropN, cellsD, lenB, fillD, thirds, entN, setE, sizeE, addE, setL, setN, putE, env0, eqCs, eqAux, eqC, bA, bO, bN, bE, negB, kEq, isShr, lendL, lend, closed, closedL, rowsOf, binI, retK, retD, lendO, resL, resD, oneD, List.append, List.nil_append, List.cons_append, List.append_nil, cond, Nat.reduceBEq, Nat.reduceAdd]
  refine ⟨?_, rfl⟩
  have h := area_lt r
  simp only [areaI] at h
  simp only [fits]; omega

def shiftR (r : Rc) (dx dy : Int) : Rc := if emptyB r || decide (dx < -2097152) || decide (2097152 < dx) || decide (dy < -2097152) || decide (2097152 < dy) then .o else rightR ⟨r.x + dx, r.y + dy, r.w, r.h⟩
theorem sp27 {r : Rc} {dx dy : Int} (hr : r.In) : TSp 27 [rD r, .int .i64 dx, .int .i64 dy] (rD (shiftR r dx dy)) := by
  refine Sp_of mixed c27 r27 (by kernel_rfl) comp27 (by kernel_rfl) (by rfl) ?_
  dsimp only [c27, r27, rD, run_skip, run_reg, plainB, ifB_true, run_seq, run_blk, run_exit, run_ret, run_ite, iteR, regK, thenK_nrm, thenK_exit, thenK_ret, thenR_nrm, thenR_exit, thenR_ret, blkK, keepS, keepE, runOps_nil, runOps_cons, goG_some, goOn_ok, goOn_call, goOn_row, goOn_arr, guardP, guardO, notInO, stepF, stepLd, stepSt, stepIxs, stepLen, stepApp, stepPick, evX, evL, rd, get, subG, memG, freshG, notInG, hyps, gob, impP, allP, partD, partOf, isOne, nth, takeN, dropN, cellsD, lenB, fillD, thirds, entN, setE, sizeE, addE, setL, setN, putE, env0, eqCs, eqAux, eqC, bA, bO, bN, bE, negB, kEq, isShr, lendL, lend, closed, closedL, rowsOf, binI, retK, retD, lendO, resL, resD, oneD, List.append, List.nil_append, List.cons_append, List.append_nil, cond, Nat.reduceBEq, Nat.reduceAdd]
  refine call_intro _ _ (sp16 hr) nofun ?_
  dsimp only [c27, r27, run_skip, run_reg, plainB, ifB_true, run_seq, run_blk, run_exit, run_ret, run_ite, iteR, regK, thenK_nrm, thenK_exit, thenK_ret, thenR_nrm, thenR_exit, thenR_ret, blkK, keepS, keepE, runOps_nil, runOps_cons, goG_some, goOn_ok, goOn_call, goOn_row, goOn_arr, guardP, guardO, notInO, stepF, stepLd, stepSt, stepIxs, stepLen, stepApp, stepPick, evX, evL, rd, get, subG, memG, freshG, notInG, hyps, gob, impP, allP, partD, partOf, isOne, nth, takeN, dropN, cellsD, lenB, fillD, thirds, entN, setE, sizeE, addE, setL, setN, putE, env0, eqCs, eqAux, eqC, bA, bO, bN, bE, negB, kEq, isShr, lendL, lend, closed, closedL, rowsOf, binI, retK, retD, lendO, resL, resD, oneD, List.append, List.nil_append, List.cons_append, List.append_nil, cond, Nat.reduceBEq, Nat.reduceAdd]
  unfold shiftR
  refine ⟨fun h => by rw [if_pos h]; rfl, fun h => ?_⟩
  rw [if_neg (by simp [h])]
  have h' := h
  simp only [Bool.or_eq_false_iff, empty_iff, decide_eq_false_iff_not] at h'
  simp only [Vr] at h'
  have h1 : fits .i64 (r.x + dx) := by simp only [fits]; omega
  have h2 : fits .i64 (r.y + dy) := by simp only [fits]; omega
  refine ⟨h1, h2, call_intro _ _ (sp29 (r := ⟨r.x + dx, r.y + dy, r.w, r.h⟩) ⟨h1, h2, hr.2.2⟩) nofun ?_⟩
  dsimp only [c27, r27, rD, run_skip, run_reg, plainB, ifB_true, run_seq, run_blk, run_exit, run_ret, run_ite, iteR, regK, thenK_nrm, thenK_exit, thenK_ret, thenR_nrm, thenR_exit, thenR_ret, blkK, keepS, keepE, runOps_nil, runOps_cons, goG_some, goOn_ok, goOn_call, goOn_row, goOn_arr, guardP, guardO, notInO, stepF, stepLd, stepSt, stepIxs, stepLen, stepApp, stepPick, evX, evL, rd, get, subG, memG, freshG, notInG, hyps, gob, impP, allP, partD, partOf, isOne, nth, takeN, dropN, cellsD, lenB, fillD, thirds, entN, setE, sizeE, addE, setL, setN, putE, env0, eqCs, eqAux, eqC, bA, bO, bN, bE, negB, kEq, isShr, lendL, lend, closed, closedL, rowsOf, binI, retK, retD, lendO, resL, resD, oneD, List.append, List.nil_append, List.cons_append, List.append_nil, cond, Nat.reduceBEq, Nat.reduceAdd]
end Go.AM
