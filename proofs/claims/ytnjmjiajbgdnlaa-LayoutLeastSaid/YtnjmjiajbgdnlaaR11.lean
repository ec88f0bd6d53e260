
/- RectMoves. -/
import Derived.Test.YtnjmjiajbgdnlaaR9
set_option linter.all false
namespace Go.AM
open Go Go.Proofs

theorem shift_ref (r : Rc) (dx dy : Int) : (if decide ((rightR r).w = 0) || decide (4194304 < dx) || decide (dx < -4194304) || decide (4194304 < dy) || decide (dy < -4194304) then Rc.o else rightR ⟨(rightR r).x + dx, (rightR r).y + dy, (rightR r).w, (rightR r).h⟩) = shiftR r dx dy := by
  unfold shiftR
  by_cases hv : Vr r
  · rw [right_of (.inr hv), empty_iff.2 hv]
    have hv' := hv
    simp only [Vr] at hv'
    have h0 : decide (r.w = 0) = false := by simp; omega
    rw [h0]
    simp only [Bool.false_or]
    by_cases hc : decide (4194304 < dx) || decide (dx < -4194304) || decide (4194304 < dy) || decide (dy < -4194304)
    · rw [if_pos hc, if_pos]
      simp only [Bool.or_eq_true, decide_eq_true_eq] at hc ⊢; omega
    · rw [if_neg hc]
      split
      · rename_i h
        have : ¬ Vz ⟨r.x + dx, r.y + dy, r.w, r.h⟩ := by
          rintro (h' | h')
          · have := congrArg Rc.w h'; simp [Rc.o] at this; omega
          · simp only [Vr] at h'
            simp only [Bool.or_eq_true, decide_eq_true_eq] at h; omega
        unfold rightR
        rw [if_neg (fun h => this (okB_iff.1 h))]
      · rfl
  · have he := empty_true.2 hv
    rw [empty_right he, he]
    simp [Rc.o]

theorem sp_ref12_Shift {r : Rc} {dx dy : Int} (hr : r.In) : TSp 19 [rD r, .int .i64 dx, .int .i64 dy] (rD (shiftR r dx dy)) := by
  refine spo_ref12_Shift (by rfl) ?_
  dsimp only [c_ref12_Shift, r_ref12_Shift, rD, run_skip, run_reg, plainB, ifB_true, run_seq, run_blk, run_exit, run_ret, run_ite, iteR, regK, thenK_nrm, thenK_exit, thenK_ret, thenR_nrm, thenR_exit, thenR_ret, blkK, keepS, keepE, runOps_nil, runOps_cons, goG_some, fpOk, foot, entOf, allN, memN, goOn_ok, goOn_call, goOn_row, goOn_arr, goOn_ask, goOn_put, guardP, guardO, notInO, stepF, stepLd, stepSt, stepIxs, stepIxa, stepLen, stepApp, stepCpy, stepPick, stepSls, stepSst, stepSla, evX, evL, evB, rd, get, subG, memG, freshG, notInG, hyps, gob, impP, allP, partD, partOf, isOne, isPtr, nth, takeN, dropN, cellsD, lenB, fillD, thirds, entN, setE, sizeE, addE, setL, setN, putE, env0, eqCs, eqAux, eqC, bA, bO, bN, bE, negB, kEq, isShr, lendL, lend, frz, frzL, zRow, closed, closedL, rowsOf, binI, retK, retG, atRet, retD, lendO, resL, resD, oneD, renD, renL, renE, renEs, rho, putAll, entsN, List.append, List.nil_append, List.cons_append, List.append_nil, cond, Nat.reduceBEq, Nat.reduceAdd, Nat.beq]
  refine call_pure (sp_ref12_As hr) ?_
  dsimp only [rD, run_skip, run_reg, plainB, ifB_true, run_seq, run_blk, run_exit, run_ret, run_ite, iteR, regK, thenK_nrm, thenK_exit, thenK_ret, thenR_nrm, thenR_exit, thenR_ret, blkK, keepS, keepE, runOps_nil, runOps_cons, goG_some, fpOk, foot, entOf, allN, memN, goOn_ok, goOn_call, goOn_row, goOn_arr, goOn_ask, goOn_put, guardP, guardO, notInO, stepF, stepLd, stepSt, stepIxs, stepIxa, stepLen, stepApp, stepCpy, stepPick, stepSls, stepSst, stepSla, evX, evL, evB, rd, get, subG, memG, freshG, notInG, hyps, gob, impP, allP, partD, partOf, isOne, isPtr, nth, takeN, dropN, cellsD, lenB, fillD, thirds, entN, setE, sizeE, addE, setL, setN, putE, env0, eqCs, eqAux, eqC, bA, bO, bN, bE, negB, kEq, isShr, lendL, lend, frz, frzL, zRow, closed, closedL, rowsOf, binI, retK, retG, atRet, retD, lendO, resL, resD, oneD, renD, renL, renE, renEs, rho, putAll, entsN, List.append, List.nil_append, List.cons_append, List.append_nil, cond, Nat.reduceBEq, Nat.reduceAdd, Nat.beq]
  have e := shift_ref r dx dy
  have hz := right_vz r
  have hi := hz.in
  obtain ⟨q1, q2, _⟩ := vz_pl hz
  generalize rightR r = s at *
  refine ⟨fun h => ?_, fun h => ?_⟩
  · rw [if_pos h] at e
    rw [← e]; rfl
  · rw [if_neg (by simp [h])] at e
    simp only [Bool.or_eq_false_iff, decide_eq_false_iff_not] at h
    have h1 : fits .i64 (s.x + dx) := by simp only [fits, Pl1] at *; omega
    have h2 : fits .i64 (s.y + dy) := by simp only [fits, Pl1] at *; omega
    refine ⟨h1, h2, call_pure (sp_ref12_As (r := ⟨s.x + dx, s.y + dy, s.w, s.h⟩) ⟨h1, h2, hi.2.2⟩) ?_⟩
    rw [e]
    dsimp only [rD, run_skip, run_reg, plainB, ifB_true, run_seq, run_blk, run_exit, run_ret, run_ite, iteR, regK, thenK_nrm, thenK_exit, thenK_ret, thenR_nrm, thenR_exit, thenR_ret, blkK, keepS, keepE, runOps_nil, runOps_cons, goG_some, fpOk, foot, entOf, allN, memN, goOn_ok, goOn_call, goOn_row, goOn_arr, goOn_ask, goOn_put, guardP, guardO, notInO, stepF, stepLd, stepSt, stepIxs, stepIxa, stepLen, stepApp, stepCpy, stepPick, stepSls, stepSst, stepSla, evX, evL, evB, rd, get, subG, memG, freshG, notInG, hyps, gob, impP, allP, partD, partOf, isOne, isPtr, nth, takeN, dropN, cellsD, lenB, fillD, thirds, entN, setE, sizeE, addE, setL, setN, putE, env0, eqCs, eqAux, eqC, bA, bO, bN, bE, negB, kEq, isShr, lendL, lend, frz, frzL, zRow, closed, closedL, rowsOf, binI, retK, retG, atRet, retD, lendO, resL, resD, oneD, renD, renL, renE, renEs, rho, putAll, entsN, List.append, List.nil_append, List.cons_append, List.append_nil, cond, Nat.reduceBEq, Nat.reduceAdd, Nat.beq]

theorem step_right (box r : Rc) (hb : Vz box) : boxStep box r = if (rightR r).w = 0 then box else if box.w = 0 then rightR r else betweenR (min box.x (rightR r).x) (min box.y (rightR r).y) (max (box.x + box.w) ((rightR r).x + (rightR r).w)) (max (box.y + box.h) ((rightR r).y + (rightR r).h)) := by
  by_cases hv : Vr r
  · rw [right_of (.inr hv)]
    unfold boxStep
    rw [empty_iff.2 hv]
    have hv' := hv
    simp only [Vr] at hv'
    have hw : ¬ r.w = 0 := by omega
    rw [if_neg (show ¬ false = true by simp), if_neg hw]
    by_cases h0 : box.w = 0
    · rw [if_pos h0, if_pos]
      rw [Rc.eq_iff]; exact (zero_w hb).1 h0
    · rw [if_neg h0, if_neg]
      rw [Rc.eq_iff]; intro h; rw [h] at h0; exact h0 rfl
  · rw [empty_right (empty_true.2 hv), step_e (empty_true.2 hv)]
    simp [Rc.o]

def st26 (l : List Rc) (i : Nat) (box : Rc) : St :=
  ⟨[(0, [], .ls 4 (l.map rD)), (2, [], .box 0 0), (3, [], .box 1 0), (4, [], .int .i64 i)],
    [.cells [.int .i64 0, .int .i64 0, .int .i64 0, .int .i64 0], .cells [.int .i64 box.x, .int .i64 box.y, .int .i64 box.w, .int .i64 box.h]]⟩

end Go.AM
