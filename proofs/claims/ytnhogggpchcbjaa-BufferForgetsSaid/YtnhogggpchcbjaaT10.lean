
/- Chapter 54: lines: the rest of the contracts. -/
import Derived.Test.YtnhogggpchcbjaaT9
set_option linter.all false
namespace Go.AM
open Go Go.Proofs Go.RowKit

def lineB (t : Bs) (n : Int) : Bs := if decide (n < 0) || decide (((lnL t).length : Int) ≤ n) then [] else (lnL t).getD n.toNat []
theorem sp_buffer_Buffer_Line {b : Bu} {n : Int} (hb : b.text.length ≤ 65536) : TSp 27 [buD b, .int .i64 n] (.str (lineB b.text n)) := by
  refine spo_buffer_Buffer_Line (by rfl) ?_
  dsimp only [c_buffer_Buffer_Line, r_buffer_Buffer_Line, buD, run_skip, run_reg, plainB, ifB_true, run_seq, run_blk, run_exit, run_ret, run_ite, iteR, regK, thenK_nrm, thenK_exit, thenK_ret, thenR_nrm, thenR_exit, thenR_ret, blkK, keepS, keepE, runOps_nil, runOps_cons, goG_some, fpOk, foot, entOf, allN, memN, goOn_ok, goOn_call, goOn_row, goOn_arr, goOn_ask, goOn_put, guardP, guardO, notInO, stepF, stepLd, stepSt, stepIxs, stepIxa, stepLen, stepApp, stepCpy, stepPick, stepSls, stepSst, stepSla, evX, evL, evB, rd, get, subG, memG, freshG, notInG, hyps, gob, impP, allP, partD, partOf, isOne, isPtr, nth, takeN, dropN, cellsD, lenB, fillD, thirds, entN, setE, sizeE, addE, setL, setN, putE, env0, eqCs, eqAux, eqC, bA, bO, bN, bE, negB, kEq, isShr, lendL, lend, frz, frzL, zRow, closed, closedL, rowsOf, binI, retK, retG, atRet, retD, lendO, resL, resD, oneD, renD, renL, renE, renEs, rho, putAll, entsN, List.append, List.nil_append, List.cons_append, List.append_nil, cond, Nat.reduceBEq, Nat.reduceAdd, Nat.beq]
  refine call_pure (fun _ => sp_buffer_Buffer_Lines (b := b) hb) ?_
  dsimp only [buD, run_skip, run_reg, plainB, ifB_true, run_seq, run_blk, run_exit, run_ret, run_ite, iteR, regK, thenK_nrm, thenK_exit, thenK_ret, thenR_nrm, thenR_exit, thenR_ret, blkK, keepS, keepE, runOps_nil, runOps_cons, goG_some, fpOk, foot, entOf, allN, memN, goOn_ok, goOn_call, goOn_row, goOn_arr, goOn_ask, goOn_put, guardP, guardO, notInO, stepF, stepLd, stepSt, stepIxs, stepIxa, stepLen, stepApp, stepCpy, stepPick, stepSls, stepSst, stepSla, evX, evL, evB, rd, get, subG, memG, freshG, notInG, hyps, gob, impP, allP, partD, partOf, isOne, isPtr, nth, takeN, dropN, cellsD, lenB, fillD, thirds, entN, setE, sizeE, addE, setL, setN, putE, env0, eqCs, eqAux, eqC, bA, bO, bN, bE, negB, kEq, isShr, lendL, lend, frz, frzL, zRow, closed, closedL, rowsOf, binI, retK, retG, atRet, retD, lendO, resL, resD, oneD, renD, renL, renE, renEs, rho, putAll, entsN, List.append, List.nil_append, List.cons_append, List.append_nil, cond, Nat.reduceBEq, Nat.reduceAdd, Nat.beq]
  unfold lineB
  refine ⟨fun h => ?_, fun h => ?_⟩
  · rw [if_pos h]
  rw [if_neg (by rw [h]; simp)]
  simp only [Bool.or_eq_false_iff, decide_eq_false_iff_not] at h
  have hx : (lnL b.text)[n.toNat]? = some ((lnL b.text)[n.toNat]'(by omega)) := List.getElem?_eq_getElem (by omega)
  have hd : (lnL b.text).getD n.toNat [] = (lnL b.text)[n.toNat]'(by omega) := by simp [List.getD_eq_getElem?_getD, hx]
  rw [hd]
  obtain ⟨u, h1, h2, h3⟩ := pos_index hx
  generalize (lnL b.text)[n.toNat]'(by omega) = x at *
  have en : n = (n.toNat : Int) := by omega
  refine call_pure (show TSp _ [buD b, .int .i64 n] _ by rw [en]; exact sp_buffer_Buffer_bounds hb hx) ?_
  dsimp only [buD, run_skip, run_reg, plainB, ifB_true, run_seq, run_blk, run_exit, run_ret, run_ite, iteR, regK, thenK_nrm, thenK_exit, thenK_ret, thenR_nrm, thenR_exit, thenR_ret, blkK, keepS, keepE, runOps_nil, runOps_cons, goG_some, fpOk, foot, entOf, allN, memN, goOn_ok, goOn_call, goOn_row, goOn_arr, goOn_ask, goOn_put, guardP, guardO, notInO, stepF, stepLd, stepSt, stepIxs, stepIxa, stepLen, stepApp, stepCpy, stepPick, stepSls, stepSst, stepSla, evX, evL, evB, rd, get, subG, memG, freshG, notInG, hyps, gob, impP, allP, partD, partOf, isOne, isPtr, nth, takeN, dropN, cellsD, lenB, fillD, thirds, entN, setE, sizeE, addE, setL, setN, putE, env0, eqCs, eqAux, eqC, bA, bO, bN, bE, negB, kEq, isShr, lendL, lend, frz, frzL, zRow, closed, closedL, rowsOf, binI, retK, retG, atRet, retD, lendO, resL, resD, oneD, renD, renL, renE, renEs, rho, putAll, entsN, List.append, List.nil_append, List.cons_append, List.append_nil, cond, Nat.reduceBEq, Nat.reduceAdd, Nat.beq]
  refine ⟨⟨by omega, by omega, by omega⟩, ?_⟩
  congr 1
  rw [List.drop_take, Int.toNat_natCast, h1, show ((posL (lnL b.text) n.toNat : Nat) + (x.length : Int)).toNat - posL (lnL b.text) n.toNat = x.length by omega, List.take_left' rfl]

def clampN (at_ : Int) (t : Bs) : Nat := (min (max at_ 0) t.length).toNat
def spotB (t : Bs) (at_ : Int) : Int × Int := (((lnL (t.take (clampN at_ t))).length : Int) - 1, (((lnL (t.take (clampN at_ t))).getD ((lnL (t.take (clampN at_ t))).length - 1) []).length : Int))
theorem sp_buffer_Buffer_Spot {b : Bu} {at_ : Int} (hb : b.text.length ≤ 65536) : TSp 24 [buD b, .int .i64 at_] (.tup [.int .i64 (spotB b.text at_).1, .int .i64 (spotB b.text at_).2]) := by
  refine spo_buffer_Buffer_Spot (by rfl) ?_
  dsimp only [c_buffer_Buffer_Spot, r_buffer_Buffer_Spot, buD, run_skip, run_reg, plainB, ifB_true, run_seq, run_blk, run_exit, run_ret, run_ite, iteR, regK, thenK_nrm, thenK_exit, thenK_ret, thenR_nrm, thenR_exit, thenR_ret, blkK, keepS, keepE, runOps_nil, runOps_cons, goG_some, fpOk, foot, entOf, allN, memN, goOn_ok, goOn_call, goOn_row, goOn_arr, goOn_ask, goOn_put, guardP, guardO, notInO, stepF, stepLd, stepSt, stepIxs, stepIxa, stepLen, stepApp, stepCpy, stepPick, stepSls, stepSst, stepSla, evX, evL, evB, rd, get, subG, memG, freshG, notInG, hyps, gob, impP, allP, partD, partOf, isOne, isPtr, nth, takeN, dropN, cellsD, lenB, fillD, thirds, entN, setE, sizeE, addE, setL, setN, putE, env0, eqCs, eqAux, eqC, bA, bO, bN, bE, negB, kEq, isShr, lendL, lend, frz, frzL, zRow, closed, closedL, rowsOf, binI, retK, retG, atRet, retD, lendO, resL, resD, oneD, renD, renL, renE, renEs, rho, putAll, entsN, List.append, List.nil_append, List.cons_append, List.append_nil, cond, Nat.reduceBEq, Nat.reduceAdd, Nat.beq]
  refine ⟨⟨by omega, by omega, by omega⟩, ?_⟩
  rw [sst_lo, show (min (max at_ 0) (b.text.length : Int)).toNat = clampN at_ b.text from rfl]
  unfold spotB
  have hlen : (b.text.take (clampN at_ b.text)).length ≤ 65536 := by simp; omega
  generalize b.text.take (clampN at_ b.text) = t at *
  refine call_pure sp_strings_Count ?_
  dsimp only [run_skip, run_reg, plainB, ifB_true, run_seq, run_blk, run_exit, run_ret, run_ite, iteR, regK, thenK_nrm, thenK_exit, thenK_ret, thenR_nrm, thenR_exit, thenR_ret, blkK, keepS, keepE, runOps_nil, runOps_cons, goG_some, fpOk, foot, entOf, allN, memN, goOn_ok, goOn_call, goOn_row, goOn_arr, goOn_ask, goOn_put, guardP, guardO, notInO, stepF, stepLd, stepSt, stepIxs, stepIxa, stepLen, stepApp, stepCpy, stepPick, stepSls, stepSst, stepSla, evX, evL, evB, rd, get, subG, memG, freshG, notInG, hyps, gob, impP, allP, partD, partOf, isOne, isPtr, nth, takeN, dropN, cellsD, lenB, fillD, thirds, entN, setE, sizeE, addE, setL, setN, putE, env0, eqCs, eqAux, eqC, bA, bO, bN, bE, negB, kEq, isShr, lendL, lend, frz, frzL, zRow, closed, closedL, rowsOf, binI, retK, retG, atRet, retD, lendO, resL, resD, oneD, renD, renL, renE, renEs, rho, putAll, entsN, List.append, List.nil_append, List.cons_append, List.append_nil, cond, Nat.reduceBEq, Nat.reduceAdd, Nat.beq]
  refine call_pure (sp_strings_LastIndexByte (by omega)) ?_
  dsimp only [run_skip, run_reg, plainB, ifB_true, run_seq, run_blk, run_exit, run_ret, run_ite, iteR, regK, thenK_nrm, thenK_exit, thenK_ret, thenR_nrm, thenR_exit, thenR_ret, blkK, keepS, keepE, runOps_nil, runOps_cons, goG_some, fpOk, foot, entOf, allN, memN, goOn_ok, goOn_call, goOn_row, goOn_arr, goOn_ask, goOn_put, guardP, guardO, notInO, stepF, stepLd, stepSt, stepIxs, stepIxa, stepLen, stepApp, stepCpy, stepPick, stepSls, stepSst, stepSla, evX, evL, evB, rd, get, subG, memG, freshG, notInG, hyps, gob, impP, allP, partD, partOf, isOne, isPtr, nth, takeN, dropN, cellsD, lenB, fillD, thirds, entN, setE, sizeE, addE, setL, setN, putE, env0, eqCs, eqAux, eqC, bA, bO, bN, bE, negB, kEq, isShr, lendL, lend, frz, frzL, zRow, closed, closedL, rowsOf, binI, retK, retG, atRet, retD, lendO, resL, resD, oneD, renD, renL, renE, renEs, rho, putAll, entsN, List.append, List.nil_append, List.cons_append, List.append_nil, cond, Nat.reduceBEq, Nat.reduceAdd, Nat.beq]
  obtain ⟨x, h1, h2⟩ := last_len t
  have hbd := lastN_bd t 10 t.length
  rw [show (lnL t).getD ((lnL t).length - 1) [] = x by simp [List.getD_eq_getElem?_getD, h1], ← h2]
  have h3 := lnL_len t
  refine ⟨by simp only [fits]; omega, by simp only [fits]; omega, ?_⟩
  rw [h3]; simp

def placeP (t : Bs) (line column : Int) : Int :=
  (posL (lnL t) (min (max line 0) ((lnL t).length - 1)).toNat : Nat) + min (max column 0) (((lnL t).getD (min (max line 0) ((lnL t).length - 1)).toNat []).length : Int)
theorem line_ok (t : Bs) (line : Int) : (min (max line 0) ((lnL t).length - 1)).toNat < (lnL t).length ∧ 0 ≤ min (max line 0) (((lnL t).length : Int) - 1) := by
  have := lnL_len t; omega
theorem sp_buffer_Buffer_Place {b : Bu} {line column : Int} (hb : b.text.length ≤ 65536) : TSp 28 [buD b, .int .i64 line, .int .i64 column] (.int .i64 (placeP b.text line column)) := by
  refine spo_buffer_Buffer_Place (by rfl) ?_
  dsimp only [c_buffer_Buffer_Place, r_buffer_Buffer_Place, buD, run_skip, run_reg, plainB, ifB_true, run_seq, run_blk, run_exit, run_ret, run_ite, iteR, regK, thenK_nrm, thenK_exit, thenK_ret, thenR_nrm, thenR_exit, thenR_ret, blkK, keepS, keepE, runOps_nil, runOps_cons, goG_some, fpOk, foot, entOf, allN, memN, goOn_ok, goOn_call, goOn_row, goOn_arr, goOn_ask, goOn_put, guardP, guardO, notInO, stepF, stepLd, stepSt, stepIxs, stepIxa, stepLen, stepApp, stepCpy, stepPick, stepSls, stepSst, stepSla, evX, evL, evB, rd, get, subG, memG, freshG, notInG, hyps, gob, impP, allP, partD, partOf, isOne, isPtr, nth, takeN, dropN, cellsD, lenB, fillD, thirds, entN, setE, sizeE, addE, setL, setN, putE, env0, eqCs, eqAux, eqC, bA, bO, bN, bE, negB, kEq, isShr, lendL, lend, frz, frzL, zRow, closed, closedL, rowsOf, binI, retK, retG, atRet, retD, lendO, resL, resD, oneD, renD, renL, renE, renEs, rho, putAll, entsN, List.append, List.nil_append, List.cons_append, List.append_nil, cond, Nat.reduceBEq, Nat.reduceAdd, Nat.beq]
  refine call_pure (sp_buffer_Buffer_Lines (b := b) hb) ?_
  dsimp only [buD, run_skip, run_reg, plainB, ifB_true, run_seq, run_blk, run_exit, run_ret, run_ite, iteR, regK, thenK_nrm, thenK_exit, thenK_ret, thenR_nrm, thenR_exit, thenR_ret, blkK, keepS, keepE, runOps_nil, runOps_cons, goG_some, fpOk, foot, entOf, allN, memN, goOn_ok, goOn_call, goOn_row, goOn_arr, goOn_ask, goOn_put, guardP, guardO, notInO, stepF, stepLd, stepSt, stepIxs, stepIxa, stepLen, stepApp, stepCpy, stepPick, stepSls, stepSst, stepSla, evX, evL, evB, rd, get, subG, memG, freshG, notInG, hyps, gob, impP, allP, partD, partOf, isOne, isPtr, nth, takeN, dropN, cellsD, lenB, fillD, thirds, entN, setE, sizeE, addE, setL, setN, putE, env0, eqCs, eqAux, eqC, bA, bO, bN, bE, negB, kEq, isShr, lendL, lend, frz, frzL, zRow, closed, closedL, rowsOf, binI, retK, retG, atRet, retD, lendO, resL, resD, oneD, renD, renL, renE, renEs, rho, putAll, entsN, List.append, List.nil_append, List.cons_append, List.append_nil, cond, Nat.reduceBEq, Nat.reduceAdd, Nat.beq]
  have hl := lnL_len b.text
  have hct : b.text.count 10 ≤ b.text.length := List.count_le_length
  obtain ⟨h1, h2⟩ := line_ok b.text line
  unfold placeP
  generalize hm : min (max line 0) (((lnL b.text).length : Int) - 1) = m at *
  have hx : (lnL b.text)[m.toNat]? = some (lnL b.text)[m.toNat] := List.getElem?_eq_getElem h1
  have hd : (lnL b.text).getD m.toNat [] = (lnL b.text)[m.toNat] := by simp [List.getD_eq_getElem?_getD, hx]
  rw [hd]
  obtain ⟨u, h3, h4, h5⟩ := pos_index hx
  generalize (lnL b.text)[m.toNat] = x at *
  have en : m = (m.toNat : Int) := by omega
  refine ⟨by simp only [fits]; omega, ?_⟩
  refine call_pure (show TSp _ [buD b, .int .i64 m] _ by rw [en]; exact sp_buffer_Buffer_bounds hb hx) ?_
  dsimp only [buD, run_skip, run_reg, plainB, ifB_true, run_seq, run_blk, run_exit, run_ret, run_ite, iteR, regK, thenK_nrm, thenK_exit, thenK_ret, thenR_nrm, thenR_exit, thenR_ret, blkK, keepS, keepE, runOps_nil, runOps_cons, goG_some, fpOk, foot, entOf, allN, memN, goOn_ok, goOn_call, goOn_row, goOn_arr, goOn_ask, goOn_put, guardP, guardO, notInO, stepF, stepLd, stepSt, stepIxs, stepIxa, stepLen, stepApp, stepCpy, stepPick, stepSls, stepSst, stepSla, evX, evL, evB, rd, get, subG, memG, freshG, notInG, hyps, gob, impP, allP, partD, partOf, isOne, isPtr, nth, takeN, dropN, cellsD, lenB, fillD, thirds, entN, setE, sizeE, addE, setL, setN, putE, env0, eqCs, eqAux, eqC, bA, bO, bN, bE, negB, kEq, isShr, lendL, lend, frz, frzL, zRow, closed, closedL, rowsOf, binI, retK, retG, atRet, retD, lendO, resL, resD, oneD, renD, renL, renE, renEs, rho, putAll, entsN, List.append, List.nil_append, List.cons_append, List.append_nil, cond, Nat.reduceBEq, Nat.reduceAdd, Nat.beq]
  refine ⟨by simp only [fits]; omega, by simp only [fits]; omega, ?_⟩
  rw [show ((posL (lnL b.text) m.toNat : Nat) : Int) + x.length - (posL (lnL b.text) m.toNat : Nat) = x.length by omega]

theorem sp_ref54_Lines {t : Bs} (ht : t.length ≤ 1000000) : TSp 23 [.str t] (.ls 1 (sL (lnL t))) := by
  refine spo_ref54_Lines (by rfl) ?_
  dsimp only [c_ref54_Lines, r_ref54_Lines, run_skip, run_reg, plainB, ifB_true, run_seq, run_blk, run_exit, run_ret, run_ite, iteR, regK, thenK_nrm, thenK_exit, thenK_ret, thenR_nrm, thenR_exit, thenR_ret, blkK, keepS, keepE, runOps_nil, runOps_cons, goG_some, fpOk, foot, entOf, allN, memN, goOn_ok, goOn_call, goOn_row, goOn_arr, goOn_ask, goOn_put, guardP, guardO, notInO, stepF, stepLd, stepSt, stepIxs, stepIxa, stepLen, stepApp, stepCpy, stepPick, stepSls, stepSst, stepSla, evX, evL, evB, rd, get, subG, memG, freshG, notInG, hyps, gob, impP, allP, partD, partOf, isOne, isPtr, nth, takeN, dropN, cellsD, lenB, fillD, thirds, entN, setE, sizeE, addE, setL, setN, putE, env0, eqCs, eqAux, eqC, bA, bO, bN, bE, negB, kEq, isShr, lendL, lend, frz, frzL, zRow, closed, closedL, rowsOf, binI, retK, retG, atRet, retD, lendO, resL, resD, oneD, renD, renL, renE, renEs, rho, putAll, entsN, List.append, List.nil_append, List.cons_append, List.append_nil, cond, Nat.reduceBEq, Nat.reduceAdd, Nat.beq]
  refine loop_ind (α := {x : Nat × Nat // x.1 ≤ t.length}) (fun x => ⟨[(0, [], .str t), (3, [], .own 1 x.1.2), (4, [], .int .i64 x.1.1)], [.arr 9 1 0 [], .arr 9 1 x.1.2 (sL (lnL (t.take x.1.1)))]⟩) (fun x => t.length - x.1.1) ?_ ⟨(0, 0), by simp⟩ rfl
  rintro ⟨⟨i, v⟩, hi⟩ I ih
  dsimp only at hi
  dsimp only [run_skip, run_reg, plainB, ifB_true, run_seq, run_blk, run_exit, run_ret, run_ite, iteR, regK, thenK_nrm, thenK_exit, thenK_ret, thenR_nrm, thenR_exit, thenR_ret, blkK, keepS, keepE, runOps_nil, runOps_cons, goG_some, fpOk, foot, entOf, allN, memN, goOn_ok, goOn_call, goOn_row, goOn_arr, goOn_ask, goOn_put, guardP, guardO, notInO, stepF, stepLd, stepSt, stepIxs, stepIxa, stepLen, stepApp, stepCpy, stepPick, stepSls, stepSst, stepSla, evX, evL, evB, rd, get, subG, memG, freshG, notInG, hyps, gob, impP, allP, partD, partOf, isOne, isPtr, nth, takeN, dropN, cellsD, lenB, fillD, thirds, entN, setE, sizeE, addE, setL, setN, putE, env0, eqCs, eqAux, eqC, bA, bO, bN, bE, negB, kEq, isShr, lendL, lend, frz, frzL, zRow, closed, closedL, rowsOf, binI, retK, retG, atRet, retD, lendO, resL, resD, oneD, renD, renL, renE, renEs, rho, putAll, entsN, List.append, List.nil_append, List.cons_append, List.append_nil, cond, Nat.reduceBEq, Nat.reduceAdd, Nat.beq]
  have hlen := lnL_len (t.take i)
  have hct : (t.take i).count 10 ≤ (t.take i).length := List.count_le_length
  have htl : (t.take i).length ≤ 1000000 := by simp; omega
  refine ⟨fun hin => ?_, fun hin => ?_⟩
  · have hin : i < t.length := by simpa using hin
    have et : t.take (i + 1) = t.take i ++ [t[i]] := List.take_succ_eq_append_getElem hin
    have eg : t.getD (i : Int).toNat 0 = t[i] := by simp [hin]
    rw [eg]
    have esst : List.drop (i : Int).toNat (List.take ((i : Int) + 1).toNat t) = [t[i]] := by
      rw [Int.toNat_natCast, show ((i : Int) + 1).toNat = i + 1 by omega, et, List.drop_append_of_le_length (by simp; omega), List.drop_of_length_le (by simp; omega)]; rfl
    generalize t[i] = c at *
    refine ⟨⟨by omega, by omega⟩, fun hc => ?_, fun hc => ?_⟩
    · have hc : c = 10 := by
        simp only [decide_eq_true_eq] at hc
        exact UInt8.toNat_inj.1 (by show c.toNat = 10; omega)
      subst hc
      refine ⟨⟨rfl, rfl, rfl, rfl, by rw [sL_len]; simp; omega⟩, ?_⟩
      refine ⟨by simp only [fits]; omega, ?_⟩
      refine again (ih ⟨(i + 1, v + 1), by dsimp only; omega⟩ (by dsimp only; omega)) ?_ ?_ rfl rfl
      · exact ⟨rfl, rfl, rfl, trivial⟩
      · refine ⟨rfl, ?_, trivial⟩
        dsimp only; rw [et, lnL_snoc10]; simp [sL]
    · have hc : c ≠ 10 := by rintro rfl; simp at hc
      obtain ⟨x, hx⟩ := lnL_last (t.take i)
      have hxl := lnL_le _ _ (List.mem_of_getElem? hx)
      have hp : 0 < (lnL (t.take i)).length := by omega
      rw [sL_len]
      have ei : (((lnL (t.take i)).length : Int) - 1).toNat = (lnL (t.take i)).length - 1 := by omega
      have hrow : (sL (lnL (t.take i)))[(((lnL (t.take i)).length : Int) - 1).toNat]? = some (.str x) := by rw [ei]; exact sL_at hx
      have g1 : (1 : Nat) = 1 ∧ 0 ≤ ((lnL (t.take i)).length : Int) - 1 ∧ ((lnL (t.take i)).length : Int) - 1 < (lnL (t.take i)).length := ⟨rfl, by omega, by omega⟩
      refine ⟨rfl, by simp only [fits]; omega, rfl, by simp only [fits]; omega, ⟨rfl, g1⟩, ⟨rfl, rfl⟩, row_intro _ _ hrow rfl ?_⟩
      dsimp only [run_skip, run_reg, plainB, ifB_true, run_seq, run_blk, run_exit, run_ret, run_ite, iteR, regK, thenK_nrm, thenK_exit, thenK_ret, thenR_nrm, thenR_exit, thenR_ret, blkK, keepS, keepE, runOps_nil, runOps_cons, goG_some, fpOk, foot, entOf, allN, memN, goOn_ok, goOn_call, goOn_row, goOn_arr, goOn_ask, goOn_put, guardP, guardO, notInO, stepF, stepLd, stepSt, stepIxs, stepIxa, stepLen, stepApp, stepCpy, stepPick, stepSls, stepSst, stepSla, evX, evL, evB, rd, get, subG, memG, freshG, notInG, hyps, gob, impP, allP, partD, partOf, isOne, isPtr, nth, takeN, dropN, cellsD, lenB, fillD, thirds, entN, setE, sizeE, addE, setL, setN, putE, env0, eqCs, eqAux, eqC, bA, bO, bN, bE, negB, kEq, isShr, lendL, lend, frz, frzL, zRow, closed, closedL, rowsOf, binI, retK, retG, atRet, retD, lendO, resL, resD, oneD, renD, renL, renE, renEs, rho, putAll, entsN, List.append, List.nil_append, List.cons_append, List.append_nil, cond, Nat.reduceBEq, Nat.reduceAdd, Nat.beq]
      rw [esst]
      refine ⟨by simp only [fits]; omega, ⟨by omega, by omega, by omega⟩, by simp; omega, ⟨rfl, rfl, by rw [sL_len]; exact g1.2⟩, ⟨rfl, rfl⟩, putrow_intro (hs := []) (.str x) (.str (x ++ [c])) hrow rfl ?_⟩
      dsimp only [run_skip, run_reg, plainB, ifB_true, run_seq, run_blk, run_exit, run_ret, run_ite, iteR, regK, thenK_nrm, thenK_exit, thenK_ret, thenR_nrm, thenR_exit, thenR_ret, blkK, keepS, keepE, runOps_nil, runOps_cons, goG_some, fpOk, foot, entOf, allN, memN, goOn_ok, goOn_call, goOn_row, goOn_arr, goOn_ask, goOn_put, guardP, guardO, notInO, stepF, stepLd, stepSt, stepIxs, stepIxa, stepLen, stepApp, stepCpy, stepPick, stepSls, stepSst, stepSla, evX, evL, evB, rd, get, subG, memG, freshG, notInG, hyps, gob, impP, allP, partD, partOf, isOne, isPtr, nth, takeN, dropN, cellsD, lenB, fillD, thirds, entN, setE, sizeE, addE, setL, setN, putE, env0, eqCs, eqAux, eqC, bA, bO, bN, bE, negB, kEq, isShr, lendL, lend, frz, frzL, zRow, closed, closedL, rowsOf, binI, retK, retG, atRet, retD, lendO, resL, resD, oneD, renD, renL, renE, renEs, rho, putAll, entsN, List.append, List.nil_append, List.cons_append, List.append_nil, cond, Nat.reduceBEq, Nat.reduceAdd, Nat.beq]
      refine ⟨by simp only [fits]; omega, ?_⟩
      refine again (ih ⟨(i + 1, v), by dsimp only; omega⟩ (by dsimp only; omega)) ?_ ?_ rfl rfl
      · exact ⟨rfl, rfl, rfl, trivial⟩
      · refine ⟨rfl, ?_, trivial⟩
        dsimp only; rw [et, lnL_snoc _ hc, snocL_set hx, ei]; simp [sL, List.map_set]
  · have hi : i = t.length := by simp at hin; omega
    subst hi
    rw [List.take_length]
    exact ⟨rfl, rfl⟩

def clampR (at_ : Int) (t : Bs) : Int := max 0 (min at_ t.length)
theorem clamp_eq (at_ : Int) (t : Bs) : (clampR at_ t).toNat = clampN at_ t ∧ 0 ≤ clampR at_ t ∧ clampR at_ t ≤ t.length := by unfold clampR clampN; omega
theorem sp_ref54_Spot {t : Bs} {at_ : Int} (ht : t.length ≤ 1000000) : TSp 25 [.str t, .int .i64 at_] (.tup [.int .i64 (spotB t at_).1, .int .i64 (spotB t at_).2]) := by
  refine spo_ref54_Spot (by rfl) ?_
  dsimp only [c_ref54_Spot, r_ref54_Spot, run_skip, run_reg, plainB, ifB_true, run_seq, run_blk, run_exit, run_ret, run_ite, iteR, regK, thenK_nrm, thenK_exit, thenK_ret, thenR_nrm, thenR_exit, thenR_ret, blkK, keepS, keepE, runOps_nil, runOps_cons, goG_some, fpOk, foot, entOf, allN, memN, goOn_ok, goOn_call, goOn_row, goOn_arr, goOn_ask, goOn_put, guardP, guardO, notInO, stepF, stepLd, stepSt, stepIxs, stepIxa, stepLen, stepApp, stepCpy, stepPick, stepSls, stepSst, stepSla, evX, evL, evB, rd, get, subG, memG, freshG, notInG, hyps, gob, impP, allP, partD, partOf, isOne, isPtr, nth, takeN, dropN, cellsD, lenB, fillD, thirds, entN, setE, sizeE, addE, setL, setN, putE, env0, eqCs, eqAux, eqC, bA, bO, bN, bE, negB, kEq, isShr, lendL, lend, frz, frzL, zRow, closed, closedL, rowsOf, binI, retK, retG, atRet, retD, lendO, resL, resD, oneD, renD, renL, renE, renEs, rho, putAll, entsN, List.append, List.nil_append, List.cons_append, List.append_nil, cond, Nat.reduceBEq, Nat.reduceAdd, Nat.beq]
  obtain ⟨h1, h2, h3⟩ := clamp_eq at_ t
  rw [show max 0 (min at_ (t.length : Int)) = clampR at_ t from rfl, sst_lo, h1]
  unfold spotB
  have hlen : (t.take (clampN at_ t)).length ≤ 1000000 := by simp; omega
  generalize t.take (clampN at_ t) = u at *
  refine ⟨⟨by omega, by omega, by omega⟩, ?_⟩
  refine call_pure (sp_ref54_Lines hlen) ?_
  dsimp only [run_skip, run_reg, plainB, ifB_true, run_seq, run_blk, run_exit, run_ret, run_ite, iteR, regK, thenK_nrm, thenK_exit, thenK_ret, thenR_nrm, thenR_exit, thenR_ret, blkK, keepS, keepE, runOps_nil, runOps_cons, goG_some, fpOk, foot, entOf, allN, memN, goOn_ok, goOn_call, goOn_row, goOn_arr, goOn_ask, goOn_put, guardP, guardO, notInO, stepF, stepLd, stepSt, stepIxs, stepIxa, stepLen, stepApp, stepCpy, stepPick, stepSls, stepSst, stepSla, evX, evL, evB, rd, get, subG, memG, freshG, notInG, hyps, gob, impP, allP, partD, partOf, isOne, isPtr, nth, takeN, dropN, cellsD, lenB, fillD, thirds, entN, setE, sizeE, addE, setL, setN, putE, env0, eqCs, eqAux, eqC, bA, bO, bN, bE, negB, kEq, isShr, lendL, lend, frz, frzL, zRow, closed, closedL, rowsOf, binI, retK, retG, atRet, retD, lendO, resL, resD, oneD, renD, renL, renE, renEs, rho, putAll, entsN, List.append, List.nil_append, List.cons_append, List.append_nil, cond, Nat.reduceBEq, Nat.reduceAdd, Nat.beq]
  rw [sL_len]
  obtain ⟨x, hx⟩ := lnL_last u
  have hl := lnL_len u
  have hct : u.count 10 ≤ u.length := List.count_le_length
  rw [show (lnL u).getD ((lnL u).length - 1) [] = x by simp [List.getD_eq_getElem?_getD, hx]]
  have ei : (((lnL u).length : Int) - 1).toNat = (lnL u).length - 1 := by omega
  refine ⟨by simp only [fits]; omega, by simp only [fits]; omega, ⟨rfl, by omega, by omega⟩, row_intro _ (.str x) (by rw [ei]; exact sL_at hx) rfl ?_⟩
  dsimp only [run_skip, run_reg, plainB, ifB_true, run_seq, run_blk, run_exit, run_ret, run_ite, iteR, regK, thenK_nrm, thenK_exit, thenK_ret, thenR_nrm, thenR_exit, thenR_ret, blkK, keepS, keepE, runOps_nil, runOps_cons, goG_some, fpOk, foot, entOf, allN, memN, goOn_ok, goOn_call, goOn_row, goOn_arr, goOn_ask, goOn_put, guardP, guardO, notInO, stepF, stepLd, stepSt, stepIxs, stepIxa, stepLen, stepApp, stepCpy, stepPick, stepSls, stepSst, stepSla, evX, evL, evB, rd, get, subG, memG, freshG, notInG, hyps, gob, impP, allP, partD, partOf, isOne, isPtr, nth, takeN, dropN, cellsD, lenB, fillD, thirds, entN, setE, sizeE, addE, setL, setN, putE, env0, eqCs, eqAux, eqC, bA, bO, bN, bE, negB, kEq, isShr, lendL, lend, frz, frzL, zRow, closed, closedL, rowsOf, binI, retK, retG, atRet, retD, lendO, resL, resD, oneD, renD, renL, renE, renEs, rho, putAll, entsN, List.append, List.nil_append, List.cons_append, List.append_nil, cond, Nat.reduceBEq, Nat.reduceAdd, Nat.beq]

theorem sp_ref54_Place {t : Bs} {line column : Int} (ht : t.length ≤ 1000000) : TSp 29 [.str t, .int .i64 line, .int .i64 column] (.int .i64 (placeP t line column)) := by
  refine spo_ref54_Place (by rfl) ?_
  dsimp only [c_ref54_Place, r_ref54_Place, run_skip, run_reg, plainB, ifB_true, run_seq, run_blk, run_exit, run_ret, run_ite, iteR, regK, thenK_nrm, thenK_exit, thenK_ret, thenR_nrm, thenR_exit, thenR_ret, blkK, keepS, keepE, runOps_nil, runOps_cons, goG_some, fpOk, foot, entOf, allN, memN, goOn_ok, goOn_call, goOn_row, goOn_arr, goOn_ask, goOn_put, guardP, guardO, notInO, stepF, stepLd, stepSt, stepIxs, stepIxa, stepLen, stepApp, stepCpy, stepPick, stepSls, stepSst, stepSla, evX, evL, evB, rd, get, subG, memG, freshG, notInG, hyps, gob, impP, allP, partD, partOf, isOne, isPtr, nth, takeN, dropN, cellsD, lenB, fillD, thirds, entN, setE, sizeE, addE, setL, setN, putE, env0, eqCs, eqAux, eqC, bA, bO, bN, bE, negB, kEq, isShr, lendL, lend, frz, frzL, zRow, closed, closedL, rowsOf, binI, retK, retG, atRet, retD, lendO, resL, resD, oneD, renD, renL, renE, renEs, rho, putAll, entsN, List.append, List.nil_append, List.cons_append, List.append_nil, cond, Nat.reduceBEq, Nat.reduceAdd, Nat.beq]
  refine call_pure (sp_ref54_Lines ht) ?_
  dsimp only [run_skip, run_reg, plainB, ifB_true, run_seq, run_blk, run_exit, run_ret, run_ite, iteR, regK, thenK_nrm, thenK_exit, thenK_ret, thenR_nrm, thenR_exit, thenR_ret, blkK, keepS, keepE, runOps_nil, runOps_cons, goG_some, fpOk, foot, entOf, allN, memN, goOn_ok, goOn_call, goOn_row, goOn_arr, goOn_ask, goOn_put, guardP, guardO, notInO, stepF, stepLd, stepSt, stepIxs, stepIxa, stepLen, stepApp, stepCpy, stepPick, stepSls, stepSst, stepSla, evX, evL, evB, rd, get, subG, memG, freshG, notInG, hyps, gob, impP, allP, partD, partOf, isOne, isPtr, nth, takeN, dropN, cellsD, lenB, fillD, thirds, entN, setE, sizeE, addE, setL, setN, putE, env0, eqCs, eqAux, eqC, bA, bO, bN, bE, negB, kEq, isShr, lendL, lend, frz, frzL, zRow, closed, closedL, rowsOf, binI, retK, retG, atRet, retD, lendO, resL, resD, oneD, renD, renL, renE, renEs, rho, putAll, entsN, List.append, List.nil_append, List.cons_append, List.append_nil, cond, Nat.reduceBEq, Nat.reduceAdd, Nat.beq]
  rw [sL_len]
  have hl := lnL_len t
  have hct : t.count 10 ≤ t.length := List.count_le_length
  obtain ⟨h1, h2⟩ := line_ok t line
  have em : max 0 (min line (((lnL t).length : Int) - 1)) = min (max line 0) (((lnL t).length : Int) - 1) := by omega
  rw [em]
  unfold placeP
  generalize hm : min (max line 0) (((lnL t).length : Int) - 1) = m at *
  have hx : (lnL t)[m.toNat]? = some (lnL t)[m.toNat] := List.getElem?_eq_getElem h1
  have hd : (lnL t).getD m.toNat [] = (lnL t)[m.toNat] := by simp [List.getD_eq_getElem?_getD, hx]
  rw [hd]
  have hxl := lnL_le _ _ (List.getElem_mem h1)
  generalize (lnL t)[m.toNat] = x at *
  refine ⟨by simp only [fits]; omega, ⟨rfl, by omega, by omega⟩, row_intro _ (.str x) (sL_at hx) rfl ?_⟩
  dsimp only [run_skip, run_reg, plainB, ifB_true, run_seq, run_blk, run_exit, run_ret, run_ite, iteR, regK, thenK_nrm, thenK_exit, thenK_ret, thenR_nrm, thenR_exit, thenR_ret, blkK, keepS, keepE, runOps_nil, runOps_cons, goG_some, fpOk, foot, entOf, allN, memN, goOn_ok, goOn_call, goOn_row, goOn_arr, goOn_ask, goOn_put, guardP, guardO, notInO, stepF, stepLd, stepSt, stepIxs, stepIxa, stepLen, stepApp, stepCpy, stepPick, stepSls, stepSst, stepSla, evX, evL, evB, rd, get, subG, memG, freshG, notInG, hyps, gob, impP, allP, partD, partOf, isOne, isPtr, nth, takeN, dropN, cellsD, lenB, fillD, thirds, entN, setE, sizeE, addE, setL, setN, putE, env0, eqCs, eqAux, eqC, bA, bO, bN, bE, negB, kEq, isShr, lendL, lend, frz, frzL, zRow, closed, closedL, rowsOf, binI, retK, retG, atRet, retD, lendO, resL, resD, oneD, renD, renL, renE, renEs, rho, putAll, entsN, List.append, List.nil_append, List.cons_append, List.append_nil, cond, Nat.reduceBEq, Nat.reduceAdd, Nat.beq]
  rw [show max 0 (min column (x.length : Int)) = min (max column 0) (x.length : Int) by omega]
  generalize hc : min (max column 0) (x.length : Int) = c
  refine loop_ind (α := {i : Nat // (i : Int) ≤ m}) (fun i => ⟨[(1, [], .int .i64 m), (7, [], .ls 1 (sL (lnL t))), (8, [], .int .i64 ((posL (lnL t) i.1 : Nat) + c)), (9, [], .int .i64 i.1)], []⟩) (fun i => m.toNat - i.1) ?_ ⟨0, by omega⟩ ?_
  · rintro ⟨i, hi⟩ I ih
    dsimp only [run_skip, run_reg, plainB, ifB_true, run_seq, run_blk, run_exit, run_ret, run_ite, iteR, regK, thenK_nrm, thenK_exit, thenK_ret, thenR_nrm, thenR_exit, thenR_ret, blkK, keepS, keepE, runOps_nil, runOps_cons, goG_some, fpOk, foot, entOf, allN, memN, goOn_ok, goOn_call, goOn_row, goOn_arr, goOn_ask, goOn_put, guardP, guardO, notInO, stepF, stepLd, stepSt, stepIxs, stepIxa, stepLen, stepApp, stepCpy, stepPick, stepSls, stepSst, stepSla, evX, evL, evB, rd, get, subG, memG, freshG, notInG, hyps, gob, impP, allP, partD, partOf, isOne, isPtr, nth, takeN, dropN, cellsD, lenB, fillD, thirds, entN, setE, sizeE, addE, setL, setN, putE, env0, eqCs, eqAux, eqC, bA, bO, bN, bE, negB, kEq, isShr, lendL, lend, frz, frzL, zRow, closed, closedL, rowsOf, binI, retK, retG, atRet, retD, lendO, resL, resD, oneD, renD, renL, renE, renEs, rho, putAll, entsN, List.append, List.nil_append, List.cons_append, List.append_nil, cond, Nat.reduceBEq, Nat.reduceAdd, Nat.beq]
    refine ⟨fun hin => ?_, fun hin => ?_⟩
    · have hin : (i : Int) < m := by simpa using hin
      have hxi : (lnL t)[i]? = some ((lnL t)[i]'(by omega)) := List.getElem?_eq_getElem (by omega)
      have hps := pos_succ hxi
      obtain ⟨u, h3, h4, _⟩ := pos_index hxi
      refine ⟨⟨rfl, by omega, by rw [sL_len]; omega⟩, row_intro _ _ (sL_at (by rw [Int.toNat_natCast]; exact hxi)) rfl ?_⟩
      dsimp only [run_skip, run_reg, plainB, ifB_true, run_seq, run_blk, run_exit, run_ret, run_ite, iteR, regK, thenK_nrm, thenK_exit, thenK_ret, thenR_nrm, thenR_exit, thenR_ret, blkK, keepS, keepE, runOps_nil, runOps_cons, goG_some, fpOk, foot, entOf, allN, memN, goOn_ok, goOn_call, goOn_row, goOn_arr, goOn_ask, goOn_put, guardP, guardO, notInO, stepF, stepLd, stepSt, stepIxs, stepIxa, stepLen, stepApp, stepCpy, stepPick, stepSls, stepSst, stepSla, evX, evL, evB, rd, get, subG, memG, freshG, notInG, hyps, gob, impP, allP, partD, partOf, isOne, isPtr, nth, takeN, dropN, cellsD, lenB, fillD, thirds, entN, setE, sizeE, addE, setL, setN, putE, env0, eqCs, eqAux, eqC, bA, bO, bN, bE, negB, kEq, isShr, lendL, lend, frz, frzL, zRow, closed, closedL, rowsOf, binI, retK, retG, atRet, retD, lendO, resL, resD, oneD, renD, renL, renE, renEs, rho, putAll, entsN, List.append, List.nil_append, List.cons_append, List.append_nil, cond, Nat.reduceBEq, Nat.reduceAdd, Nat.beq]
      generalize (lnL t)[i]'(by omega) = y at *
      refine ⟨by simp only [fits]; omega, by simp only [fits]; omega, by simp only [fits]; omega, ?_⟩
      refine again (ih ⟨i + 1, by omega⟩ (by dsimp only; omega)) ?_ ?_ rfl rfl
      · refine ⟨rfl, rfl, ?_, rfl, trivial⟩
        rw [hps]
        show _ = some ([], D.int .i64 (((posL (lnL t) i + y.length + 1 : Nat) : Int) + c))
        rw [show ((posL (lnL t) i + y.length + 1 : Nat) : Int) + c = (posL (lnL t) i : Int) + c + y.length + 1 by omega]
        rfl
      · exact trivial
    · have hin : (i : Int) = m := by simp at hin; omega
      subst hin
      rw [Int.toNat_natCast]
  · rw [posL_zero]; simp
end Go.AM
