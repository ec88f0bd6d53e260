
/- Chapter 54: buffers: texts, steps. -/
import Derived.Test.YtnhogggpchcbjaaCode
set_option linter.all false
namespace Go.AM
open Go Go.Proofs

abbrev Bs := List UInt8
/-- A byte that may not be. -/
def badc (b : UInt8) : Bool := !decide ((b.toNat : Int) = 10) && (decide ((b.toNat : Int) < 32) || decide (126 < (b.toNat : Int)))
def rightB (s : Bs) : Bool := s.all fun b => !badc b
theorem right_take {s : Bs} {i : Nat} (h : i < s.length) : rightB (s.take (i + 1)) = (rightB (s.take i) && !badc s[i]) := by
  unfold rightB; rw [List.take_succ_eq_append_getElem h, List.all_append]; simp
theorem right_bad {s : Bs} {i : Nat} (h : i < s.length) (hb : badc s[i] = true) : rightB s = false := by
  unfold rightB
  rw [List.all_eq_false]
  exact ⟨_, List.getElem_mem h, by simp [hb]⟩

theorem sp_buffer_right {s : Bs} (hs : s.length < 9223372036854775808) : TSp 32 [.str s] (.bool (rightB s)) := by
  refine spo_buffer_right (by rfl) ?_
  dsimp only [c_buffer_right, r_buffer_right, run_skip, run_reg, plainB, ifB_true, run_seq, run_blk, run_exit, run_ret, run_ite, iteR, regK, thenK_nrm, thenK_exit, thenK_ret, thenR_nrm, thenR_exit, thenR_ret, blkK, keepS, keepE, runOps_nil, runOps_cons, goG_some, fpOk, foot, entOf, allN, memN, goOn_ok, goOn_call, goOn_row, goOn_arr, goOn_ask, goOn_put, guardP, guardO, notInO, stepF, stepLd, stepSt, stepIxs, stepIxa, stepLen, stepApp, stepCpy, stepPick, stepSls, stepSst, stepSla, evX, evL, evB, rd, get, subG, memG, freshG, notInG, hyps, gob, impP, allP, partD, partOf, isOne, isPtr, nth, takeN, dropN, cellsD, lenB, fillD, thirds, entN, setE, sizeE, addE, setL, setN, putE, env0, eqCs, eqAux, eqC, bA, bO, bN, bE, negB, kEq, isShr, lendL, lend, frz, frzL, zRow, closed, closedL, rowsOf, binI, retK, retG, atRet, retD, lendO, resL, resD, oneD, renD, renL, renE, renEs, rho, putAll, entsN, List.append, List.nil_append, List.cons_append, List.append_nil, cond, Nat.reduceBEq, Nat.reduceAdd, Nat.beq]
  refine loop_ind (α := {i : Nat // i ≤ s.length ∧ rightB (s.take i) = true}) (fun i => ⟨[(0, [], .str s), (5, [], .int .i64 s.length), (6, [], .int .i64 i.1)], []⟩) (fun i => s.length - i.1) ?_ ⟨0, by simp [rightB]⟩ rfl
  rintro ⟨i, h1, h2⟩ I ih
  dsimp only [run_skip, run_reg, plainB, ifB_true, run_seq, run_blk, run_exit, run_ret, run_ite, iteR, regK, thenK_nrm, thenK_exit, thenK_ret, thenR_nrm, thenR_exit, thenR_ret, blkK, keepS, keepE, runOps_nil, runOps_cons, goG_some, fpOk, foot, entOf, allN, memN, goOn_ok, goOn_call, goOn_row, goOn_arr, goOn_ask, goOn_put, guardP, guardO, notInO, stepF, stepLd, stepSt, stepIxs, stepIxa, stepLen, stepApp, stepCpy, stepPick, stepSls, stepSst, stepSla, evX, evL, evB, rd, get, subG, memG, freshG, notInG, hyps, gob, impP, allP, partD, partOf, isOne, isPtr, nth, takeN, dropN, cellsD, lenB, fillD, thirds, entN, setE, sizeE, addE, setL, setN, putE, env0, eqCs, eqAux, eqC, bA, bO, bN, bE, negB, kEq, isShr, lendL, lend, frz, frzL, zRow, closed, closedL, rowsOf, binI, retK, retG, atRet, retD, lendO, resL, resD, oneD, renD, renL, renE, renEs, rho, putAll, entsN, List.append, List.nil_append, List.cons_append, List.append_nil, cond, Nat.reduceBEq, Nat.reduceAdd, Nat.beq]
  refine ⟨fun hi => ?_, fun hi => ?_⟩
  · have hi : i < s.length := by simpa using hi
    have g : (0 : Int) ≤ i ∧ (i : Int) < s.length := ⟨by omega, by omega⟩
    have e : s.getD (i : Int).toNat 0 = s[i] := by simp [hi]
    refine ⟨g, fun _ => g, fun _ _ => g, ?_⟩
    rw [e]
    show (badc s[i] = true → _) ∧ (badc s[i] = false → _)
    refine ⟨fun hb => ?_, fun hb => ?_⟩
    · rw [right_bad hi hb]
    · refine ⟨by simp only [fits]; omega, ?_⟩
      refine again (ih ⟨i + 1, by omega, by rw [right_take hi, h2, hb]; rfl⟩ (by dsimp only; omega)) ?_ ?_ rfl rfl
      · exact ⟨rfl, rfl, rfl, trivial⟩
      · exact trivial
  · have hi : i = s.length := by simp at hi; omega
    subst hi
    rw [List.take_length] at h2
    rw [h2]
theorem sp_ref54_Form {s : Bs} (hs : s.length < 9223372036854775808) : TSp 12 [.str s] (.bool (rightB s)) := by
  refine spo_ref54_Form (by rfl) ?_
  dsimp only [c_ref54_Form, r_ref54_Form, run_skip, run_reg, plainB, ifB_true, run_seq, run_blk, run_exit, run_ret, run_ite, iteR, regK, thenK_nrm, thenK_exit, thenK_ret, thenR_nrm, thenR_exit, thenR_ret, blkK, keepS, keepE, runOps_nil, runOps_cons, goG_some, fpOk, foot, entOf, allN, memN, goOn_ok, goOn_call, goOn_row, goOn_arr, goOn_ask, goOn_put, guardP, guardO, notInO, stepF, stepLd, stepSt, stepIxs, stepIxa, stepLen, stepApp, stepCpy, stepPick, stepSls, stepSst, stepSla, evX, evL, evB, rd, get, subG, memG, freshG, notInG, hyps, gob, impP, allP, partD, partOf, isOne, isPtr, nth, takeN, dropN, cellsD, lenB, fillD, thirds, entN, setE, sizeE, addE, setL, setN, putE, env0, eqCs, eqAux, eqC, bA, bO, bN, bE, negB, kEq, isShr, lendL, lend, frz, frzL, zRow, closed, closedL, rowsOf, binI, retK, retG, atRet, retD, lendO, resL, resD, oneD, renD, renL, renE, renEs, rho, putAll, entsN, List.append, List.nil_append, List.cons_append, List.append_nil, cond, Nat.reduceBEq, Nat.reduceAdd, Nat.beq]
  refine loop_ind (α := {i : Nat // i ≤ s.length ∧ rightB (s.take i) = true}) (fun i => ⟨[(0, [], .str s), (3, [], .int .i64 i.1)], []⟩) (fun i => s.length - i.1) ?_ ⟨0, by simp [rightB]⟩ rfl
  rintro ⟨i, h1, h2⟩ I ih
  dsimp only [run_skip, run_reg, plainB, ifB_true, run_seq, run_blk, run_exit, run_ret, run_ite, iteR, regK, thenK_nrm, thenK_exit, thenK_ret, thenR_nrm, thenR_exit, thenR_ret, blkK, keepS, keepE, runOps_nil, runOps_cons, goG_some, fpOk, foot, entOf, allN, memN, goOn_ok, goOn_call, goOn_row, goOn_arr, goOn_ask, goOn_put, guardP, guardO, notInO, stepF, stepLd, stepSt, stepIxs, stepIxa, stepLen, stepApp, stepCpy, stepPick, stepSls, stepSst, stepSla, evX, evL, evB, rd, get, subG, memG, freshG, notInG, hyps, gob, impP, allP, partD, partOf, isOne, isPtr, nth, takeN, dropN, cellsD, lenB, fillD, thirds, entN, setE, sizeE, addE, setL, setN, putE, env0, eqCs, eqAux, eqC, bA, bO, bN, bE, negB, kEq, isShr, lendL, lend, frz, frzL, zRow, closed, closedL, rowsOf, binI, retK, retG, atRet, retD, lendO, resL, resD, oneD, renD, renL, renE, renEs, rho, putAll, entsN, List.append, List.nil_append, List.cons_append, List.append_nil, cond, Nat.reduceBEq, Nat.reduceAdd, Nat.beq]
  refine ⟨fun hi => ?_, fun hi => ?_⟩
  · have hi : i < s.length := by simpa using hi
    have g : (0 : Int) ≤ i ∧ (i : Int) < s.length := ⟨by omega, by omega⟩
    have e : s.getD (i : Int).toNat 0 = s[i] := by simp [hi]
    refine ⟨g, fun _ => g, fun _ _ => g, ?_⟩
    rw [e]
    show (badc s[i] = true → _) ∧ (badc s[i] = false → _)
    refine ⟨fun hb => ?_, fun hb => ?_⟩
    · rw [right_bad hi hb]
    · refine ⟨by simp only [fits]; omega, ?_⟩
      refine again (ih ⟨i + 1, by omega, by rw [right_take hi, h2, hb]; rfl⟩ (by dsimp only; omega)) ?_ ?_ rfl rfl
      · exact ⟨rfl, rfl, trivial⟩
      · exact trivial
  · have hi : i = s.length := by simp at hi; omega
    subst hi
    rw [List.take_length] at h2
    rw [h2]

/-- A step, and a buffer. -/
structure Stp where
  at_ : Int
  out : Bs
  in_ : Bs
structure Bu where
  past : List Stp
  again : List Stp
  text : Bs
def spD (s : Stp) : D := .agg [.int .i64 s.at_, .str s.out, .str s.in_]
def buD (b : Bu) : D := .agg [.ls 3 (b.past.map spD), .ls 3 (b.again.map spD), .str b.text]
def bu0 : Bu := ⟨[], [], []⟩
def newB (s : Bs) : Bu × Int := if 65536 < s.length then (bu0, 4) else if rightB s then (⟨[], [], s⟩, 0) else (bu0, 2)
def retB (x : Bu × Int) : D := .tup [buD x.1, .int .i64 x.2]
theorem sp_buffer_New {s : Bs} (hs : s.length < 9223372036854775808) : TSp 11 [.str s] (retB (newB s)) := by
  refine spo_buffer_New (by rfl) ?_
  dsimp only [c_buffer_New, r_buffer_New, run_skip, run_reg, plainB, ifB_true, run_seq, run_blk, run_exit, run_ret, run_ite, iteR, regK, thenK_nrm, thenK_exit, thenK_ret, thenR_nrm, thenR_exit, thenR_ret, blkK, keepS, keepE, runOps_nil, runOps_cons, goG_some, fpOk, foot, entOf, allN, memN, goOn_ok, goOn_call, goOn_row, goOn_arr, goOn_ask, goOn_put, guardP, guardO, notInO, stepF, stepLd, stepSt, stepIxs, stepIxa, stepLen, stepApp, stepCpy, stepPick, stepSls, stepSst, stepSla, evX, evL, evB, rd, get, subG, memG, freshG, notInG, hyps, gob, impP, allP, partD, partOf, isOne, isPtr, nth, takeN, dropN, cellsD, lenB, fillD, thirds, entN, setE, sizeE, addE, setL, setN, putE, env0, eqCs, eqAux, eqC, bA, bO, bN, bE, negB, kEq, isShr, lendL, lend, frz, frzL, zRow, closed, closedL, rowsOf, binI, retK, retG, atRet, retD, lendO, resL, resD, oneD, renD, renL, renE, renEs, rho, putAll, entsN, List.append, List.nil_append, List.cons_append, List.append_nil, cond, Nat.reduceBEq, Nat.reduceAdd, Nat.beq]
  unfold newB
  refine ⟨fun h => ?_, fun h => ?_⟩
  · rw [if_pos (by simp at h; omega)]; rfl
  rw [if_neg (by simp at h; omega)]
  refine call_pure (sp_buffer_right hs) ?_
  dsimp only [run_skip, run_reg, plainB, ifB_true, run_seq, run_blk, run_exit, run_ret, run_ite, iteR, regK, thenK_nrm, thenK_exit, thenK_ret, thenR_nrm, thenR_exit, thenR_ret, blkK, keepS, keepE, runOps_nil, runOps_cons, goG_some, fpOk, foot, entOf, allN, memN, goOn_ok, goOn_call, goOn_row, goOn_arr, goOn_ask, goOn_put, guardP, guardO, notInO, stepF, stepLd, stepSt, stepIxs, stepIxa, stepLen, stepApp, stepCpy, stepPick, stepSls, stepSst, stepSla, evX, evL, evB, rd, get, subG, memG, freshG, notInG, hyps, gob, impP, allP, partD, partOf, isOne, isPtr, nth, takeN, dropN, cellsD, lenB, fillD, thirds, entN, setE, sizeE, addE, setL, setN, putE, env0, eqCs, eqAux, eqC, bA, bO, bN, bE, negB, kEq, isShr, lendL, lend, frz, frzL, zRow, closed, closedL, rowsOf, binI, retK, retG, atRet, retD, lendO, resL, resD, oneD, renD, renL, renE, renEs, rho, putAll, entsN, List.append, List.nil_append, List.cons_append, List.append_nil, cond, Nat.reduceBEq, Nat.reduceAdd, Nat.beq]
  refine ⟨fun h => ?_, fun h => ?_⟩
  · rw [if_neg (by simpa using h)]; rfl
  · rw [if_pos (by simpa using h)]; rfl

def withS (l : List Stp) (one : Stp) : List Stp := (if 256 ≤ l.length then l.drop (l.length - 255) else l) ++ [one]
theorem sp_buffer_steps_with {l : List Stp} {one : Stp} (hl : l.length < 1000000) : TSp 36 [.agg [.ls 3 (l.map spD)], spD one] (.agg [.ls 3 ((withS l one).map spD)]) := by
  refine spo_buffer_steps_with (by rfl) ?_
  dsimp only [c_buffer_steps_with, r_buffer_steps_with, spD, run_skip, run_reg, plainB, ifB_true, run_seq, run_blk, run_exit, run_ret, run_ite, iteR, regK, thenK_nrm, thenK_exit, thenK_ret, thenR_nrm, thenR_exit, thenR_ret, blkK, keepS, keepE, runOps_nil, runOps_cons, goG_some, fpOk, foot, entOf, allN, memN, goOn_ok, goOn_call, goOn_row, goOn_arr, goOn_ask, goOn_put, guardP, guardO, notInO, stepF, stepLd, stepSt, stepIxs, stepIxa, stepLen, stepApp, stepCpy, stepPick, stepSls, stepSst, stepSla, evX, evL, evB, rd, get, subG, memG, freshG, notInG, hyps, gob, impP, allP, partD, partOf, isOne, isPtr, nth, takeN, dropN, cellsD, lenB, fillD, thirds, entN, setE, sizeE, addE, setL, setN, putE, env0, eqCs, eqAux, eqC, bA, bO, bN, bE, negB, kEq, isShr, lendL, lend, frz, frzL, zRow, closed, closedL, rowsOf, binI, retK, retG, atRet, retD, lendO, resL, resD, oneD, renD, renL, renE, renEs, rho, putAll, entsN, List.append, List.nil_append, List.cons_append, List.append_nil, cond, Nat.reduceBEq, Nat.reduceAdd, Nat.beq]
  simp only [List.length_map]
  unfold withS
  refine ⟨fun h => ?_, fun h => ?_⟩
  · have h : 256 ≤ l.length := by simp at h; omega
    rw [if_pos h]
    have e : List.drop ((l.length : Int) - 256 + 1).toNat (List.take ((l.length : Nat) : Int).toNat (List.map spD l)) = (l.drop (l.length - 255)).map spD := by
      rw [Int.toNat_natCast, List.take_of_length_le (by simp), show ((l.length : Int) - 256 + 1).toNat = l.length - 255 by omega, List.map_drop]
    rw [e]
    simp only [List.length_map, List.length_drop]
    exact ⟨by simp only [fits]; omega, by simp only [fits]; omega, ⟨trivial, by omega, by omega, by omega⟩, by simp only [fits]; omega, ⟨by omega, by omega, by omega⟩, ⟨trivial, trivial, trivial, trivial, by simp; omega⟩, ⟨trivial, trivial, trivial, trivial, by simp; omega⟩, trivial, by simp [spD]⟩
  · have h : ¬ 256 ≤ l.length := by simp at h; omega
    rw [if_neg h]
    exact ⟨by simp only [fits]; omega, ⟨by omega, by omega, by omega⟩, ⟨trivial, trivial, trivial, trivial, by simp; omega⟩, ⟨trivial, trivial, trivial, trivial, by simp; omega⟩, trivial, by simp [spD]⟩
theorem sp_buffer_steps_count {l : List Stp} : TSp 33 [.agg [.ls 3 (l.map spD)]] (.int .i64 l.length) := by
  refine spo_buffer_steps_count (by rfl) ?_
  dsimp only [c_buffer_steps_count, r_buffer_steps_count, run_skip, run_reg, plainB, ifB_true, run_seq, run_blk, run_exit, run_ret, run_ite, iteR, regK, thenK_nrm, thenK_exit, thenK_ret, thenR_nrm, thenR_exit, thenR_ret, blkK, keepS, keepE, runOps_nil, runOps_cons, goG_some, fpOk, foot, entOf, allN, memN, goOn_ok, goOn_call, goOn_row, goOn_arr, goOn_ask, goOn_put, guardP, guardO, notInO, stepF, stepLd, stepSt, stepIxs, stepIxa, stepLen, stepApp, stepCpy, stepPick, stepSls, stepSst, stepSla, evX, evL, evB, rd, get, subG, memG, freshG, notInG, hyps, gob, impP, allP, partD, partOf, isOne, isPtr, nth, takeN, dropN, cellsD, lenB, fillD, thirds, entN, setE, sizeE, addE, setL, setN, putE, env0, eqCs, eqAux, eqC, bA, bO, bN, bE, negB, kEq, isShr, lendL, lend, frz, frzL, zRow, closed, closedL, rowsOf, binI, retK, retG, atRet, retD, lendO, resL, resD, oneD, renD, renL, renE, renEs, rho, putAll, entsN, List.append, List.nil_append, List.cons_append, List.append_nil, cond, Nat.reduceBEq, Nat.reduceAdd, Nat.beq]
  rw [List.length_map]
theorem sp_buffer_steps_last {l : List Stp} {one : Stp} (hl : l.length < 1000000) : TSp 34 [.agg [.ls 3 ((l ++ [one]).map spD)]] (spD one) := by
  refine spo_buffer_steps_last (by rfl) ?_
  dsimp only [c_buffer_steps_last, r_buffer_steps_last, run_skip, run_reg, plainB, ifB_true, run_seq, run_blk, run_exit, run_ret, run_ite, iteR, regK, thenK_nrm, thenK_exit, thenK_ret, thenR_nrm, thenR_exit, thenR_ret, blkK, keepS, keepE, runOps_nil, runOps_cons, goG_some, fpOk, foot, entOf, allN, memN, goOn_ok, goOn_call, goOn_row, goOn_arr, goOn_ask, goOn_put, guardP, guardO, notInO, stepF, stepLd, stepSt, stepIxs, stepIxa, stepLen, stepApp, stepCpy, stepPick, stepSls, stepSst, stepSla, evX, evL, evB, rd, get, subG, memG, freshG, notInG, hyps, gob, impP, allP, partD, partOf, isOne, isPtr, nth, takeN, dropN, cellsD, lenB, fillD, thirds, entN, setE, sizeE, addE, setL, setN, putE, env0, eqCs, eqAux, eqC, bA, bO, bN, bE, negB, kEq, isShr, lendL, lend, frz, frzL, zRow, closed, closedL, rowsOf, binI, retK, retG, atRet, retD, lendO, resL, resD, oneD, renD, renL, renE, renEs, rho, putAll, entsN, List.append, List.nil_append, List.cons_append, List.append_nil, cond, Nat.reduceBEq, Nat.reduceAdd, Nat.beq]
  simp only [List.length_map, List.length_append, List.length_cons, List.length_nil]
  refine ⟨by simp only [fits]; omega, ⟨trivial, by omega, by omega⟩, row_intro _ (spD one) (show _ = some (spD one) from ?_) rfl ?_⟩
  · rw [show (((l.length + (0 + 1) : Nat) : Int) - 1).toNat = l.length by omega]; simp
  dsimp only [spD, run_skip, run_reg, plainB, ifB_true, run_seq, run_blk, run_exit, run_ret, run_ite, iteR, regK, thenK_nrm, thenK_exit, thenK_ret, thenR_nrm, thenR_exit, thenR_ret, blkK, keepS, keepE, runOps_nil, runOps_cons, goG_some, fpOk, foot, entOf, allN, memN, goOn_ok, goOn_call, goOn_row, goOn_arr, goOn_ask, goOn_put, guardP, guardO, notInO, stepF, stepLd, stepSt, stepIxs, stepIxa, stepLen, stepApp, stepCpy, stepPick, stepSls, stepSst, stepSla, evX, evL, evB, rd, get, subG, memG, freshG, notInG, hyps, gob, impP, allP, partD, partOf, isOne, isPtr, nth, takeN, dropN, cellsD, lenB, fillD, thirds, entN, setE, sizeE, addE, setL, setN, putE, env0, eqCs, eqAux, eqC, bA, bO, bN, bE, negB, kEq, isShr, lendL, lend, frz, frzL, zRow, closed, closedL, rowsOf, binI, retK, retG, atRet, retD, lendO, resL, resD, oneD, renD, renL, renE, renEs, rho, putAll, entsN, List.append, List.nil_append, List.cons_append, List.append_nil, cond, Nat.reduceBEq, Nat.reduceAdd, Nat.beq]
theorem sp_buffer_steps_less {l : List Stp} {one : Stp} (hl : l.length < 1000000) : TSp 35 [.agg [.ls 3 ((l ++ [one]).map spD)]] (.agg [.ls 3 (l.map spD)]) := by
  refine spo_buffer_steps_less (by rfl) ?_
  dsimp only [c_buffer_steps_less, r_buffer_steps_less, run_skip, run_reg, plainB, ifB_true, run_seq, run_blk, run_exit, run_ret, run_ite, iteR, regK, thenK_nrm, thenK_exit, thenK_ret, thenR_nrm, thenR_exit, thenR_ret, blkK, keepS, keepE, runOps_nil, runOps_cons, goG_some, fpOk, foot, entOf, allN, memN, goOn_ok, goOn_call, goOn_row, goOn_arr, goOn_ask, goOn_put, guardP, guardO, notInO, stepF, stepLd, stepSt, stepIxs, stepIxa, stepLen, stepApp, stepCpy, stepPick, stepSls, stepSst, stepSla, evX, evL, evB, rd, get, subG, memG, freshG, notInG, hyps, gob, impP, allP, partD, partOf, isOne, isPtr, nth, takeN, dropN, cellsD, lenB, fillD, thirds, entN, setE, sizeE, addE, setL, setN, putE, env0, eqCs, eqAux, eqC, bA, bO, bN, bE, negB, kEq, isShr, lendL, lend, frz, frzL, zRow, closed, closedL, rowsOf, binI, retK, retG, atRet, retD, lendO, resL, resD, oneD, renD, renL, renE, renEs, rho, putAll, entsN, List.append, List.nil_append, List.cons_append, List.append_nil, cond, Nat.reduceBEq, Nat.reduceAdd, Nat.beq]
  simp only [List.length_map, List.length_append, List.length_cons, List.length_nil]
  refine ⟨by simp only [fits]; omega, ⟨trivial, by omega, by omega, by omega⟩, ?_⟩
  rw [show (((l.length + (0 + 1) : Nat) : Int) - 1).toNat = l.length by omega]
  simp

/-- A step done: what stands before and behind. -/
structure StpOk (one : Stp) (t : Bs) : Prop where
  lo : 0 ≤ one.at_
  hi : one.at_ + one.out.length ≤ t.length
def put1 (t : Bs) (at_ : Int) (out in_ : Bs) : Bs := t.take at_.toNat ++ in_ ++ t.drop (at_.toNat + out.length)
def changeB (b : Bu) (one : Stp) : Bu := ⟨withS b.past one, [], put1 b.text one.at_ one.out one.in_⟩
theorem sst_lo {t : Bs} {a : Int} : List.drop (Int.toNat 0) (List.take a.toNat t) = t.take a.toNat := by simp
theorem sst_hi {t o : Bs} {a : Int} (h0 : 0 ≤ a) : List.drop (a + o.length).toNat (List.take ((t.length : Nat) : Int).toNat t) = t.drop (a.toNat + o.length) := by
  rw [Int.toNat_natCast, List.take_length, show (a + (o.length : Int)).toNat = a.toNat + o.length by omega]
theorem sp_buffer_Buffer_changed {b : Bu} {one : Stp} (hl : b.past.length < 1000000) (ht : b.text.length ≤ 1000000) (hi : one.in_.length ≤ 1000000) (hok : StpOk one b.text) : TSp 37 [buD b, spD one] (buD (changeB b one)) := by
  refine spo_buffer_Buffer_changed (by rfl) ?_
  dsimp only [c_buffer_Buffer_changed, r_buffer_Buffer_changed, buD, spD, run_skip, run_reg, plainB, ifB_true, run_seq, run_blk, run_exit, run_ret, run_ite, iteR, regK, thenK_nrm, thenK_exit, thenK_ret, thenR_nrm, thenR_exit, thenR_ret, blkK, keepS, keepE, runOps_nil, runOps_cons, goG_some, fpOk, foot, entOf, allN, memN, goOn_ok, goOn_call, goOn_row, goOn_arr, goOn_ask, goOn_put, guardP, guardO, notInO, stepF, stepLd, stepSt, stepIxs, stepIxa, stepLen, stepApp, stepCpy, stepPick, stepSls, stepSst, stepSla, evX, evL, evB, rd, get, subG, memG, freshG, notInG, hyps, gob, impP, allP, partD, partOf, isOne, isPtr, nth, takeN, dropN, cellsD, lenB, fillD, thirds, entN, setE, sizeE, addE, setL, setN, putE, env0, eqCs, eqAux, eqC, bA, bO, bN, bE, negB, kEq, isShr, lendL, lend, frz, frzL, zRow, closed, closedL, rowsOf, binI, retK, retG, atRet, retD, lendO, resL, resD, oneD, renD, renL, renE, renEs, rho, putAll, entsN, List.append, List.nil_append, List.cons_append, List.append_nil, cond, Nat.reduceBEq, Nat.reduceAdd, Nat.beq]
  refine call_pure (sp_buffer_steps_with (one := one) hl) ?_
  dsimp only [run_skip, run_reg, plainB, ifB_true, run_seq, run_blk, run_exit, run_ret, run_ite, iteR, regK, thenK_nrm, thenK_exit, thenK_ret, thenR_nrm, thenR_exit, thenR_ret, blkK, keepS, keepE, runOps_nil, runOps_cons, goG_some, fpOk, foot, entOf, allN, memN, goOn_ok, goOn_call, goOn_row, goOn_arr, goOn_ask, goOn_put, guardP, guardO, notInO, stepF, stepLd, stepSt, stepIxs, stepIxa, stepLen, stepApp, stepCpy, stepPick, stepSls, stepSst, stepSla, evX, evL, evB, rd, get, subG, memG, freshG, notInG, hyps, gob, impP, allP, partD, partOf, isOne, isPtr, nth, takeN, dropN, cellsD, lenB, fillD, thirds, entN, setE, sizeE, addE, setL, setN, putE, env0, eqCs, eqAux, eqC, bA, bO, bN, bE, negB, kEq, isShr, lendL, lend, frz, frzL, zRow, closed, closedL, rowsOf, binI, retK, retG, atRet, retD, lendO, resL, resD, oneD, renD, renL, renE, renEs, rho, putAll, entsN, List.append, List.nil_append, List.cons_append, List.append_nil, cond, Nat.reduceBEq, Nat.reduceAdd, Nat.beq]
  obtain ⟨h1, h2⟩ := hok
  rw [sst_lo, sst_hi h1]
  refine ⟨⟨by omega, h1, by omega⟩, ?_, by simp only [fits]; omega, ⟨by omega, by omega, by omega⟩, ?_, ?_⟩
  · simp only [List.length_take]; omega
  · simp only [List.length_take, List.length_append, List.length_drop]; omega
  · rfl
end Go.AM
