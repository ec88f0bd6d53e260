
/- Chapter 52: the document's split. -/
import Derived.Test.YtnjmjiajbgdnlaaN2
set_option linter.all false
namespace Go.AM
open Go Go.Proofs

def stSr (total : Int) (least grow : List Int) (s a : Int) (i : Nat) : St :=
  ⟨[(0, [], .int .i64 total), (1, [], .ls 1 (iD least)), (2, [], .ls 1 (iD grow)), (8, [], .int .i64 s), (9, [], .int .i64 a), (10, [], .int .i64 i)], [.arr 3 1 0 []]⟩
def stPr (least grow : List Int) (left all gn gv : Int) (i ver : Nat) (done : List Int) : St :=
  ⟨[(1, [], .ls 1 (iD least)), (2, [], .ls 1 (iD grow)), (9, [], .int .i64 all), (11, [], .own 1 ver), (12, [], .int .i64 left), (13, [], .int .i64 gn), (14, [], .int .i64 gv), (15, [], .int .i64 i)], [.arr 3 1 0 [], .arr 3 1 ver (iD done)]⟩

theorem ref52_loop1 {total : Int} {least grow : List Int} {body : C} {K : Ex → St → Prop} (hl : least.length = grow.length) (h64 : least.length ≤ 64) (hb : c_ref52_Split.lp = some body)
    (hbad : scan 0 0 least grow = none → K .ret ⟨[(6, [], .own 1 0), (7, [], .int .i64 1)], [.arr 3 1 0 [], .arr 3 1 0 []]⟩)
    (hok : ∀ s a t, scan 0 0 least grow = some (s, a) → 0 ≤ s ∧ s ≤ 64000000 → 0 ≤ a ∧ a ≤ 64000000 → K (.exit 0) ⟨(stSr total least grow s a least.length).env ++ [(28, [], .bool t)], (stSr total least grow s a least.length).bx⟩) :
    run TSpM gtab 0 (.loop body) K (stSr total least grow 0 0 0) := by
  dsimp only [c_ref52_Split, C.lp] at hb
  cases hb
  refine loop_ind (α := {x : Int × Int × Nat // x.2.2 ≤ least.length ∧ scan x.1 x.2.1 (least.drop x.2.2) (grow.drop x.2.2) = scan 0 0 least grow ∧ (0 ≤ x.1 ∧ x.1 ≤ x.2.2 * 1000000) ∧ (0 ≤ x.2.1 ∧ x.2.1 ≤ x.2.2 * 1000000)})
    (fun x => stSr total least grow x.1.1 x.1.2.1 x.1.2.2) (fun x => least.length - x.1.2.2) ?_ ⟨(0, 0, 0), by simp⟩ rfl
  rintro ⟨⟨s, a, i⟩, h1, h2, h3, h4⟩ I ih
  dsimp only at h1 h2 h3 h4
  dsimp only [stSr, run_skip, run_reg, plainB, ifB_true, run_seq, run_blk, run_exit, run_ret, run_ite, iteR, regK, thenK_nrm, thenK_exit, thenK_ret, thenR_nrm, thenR_exit, thenR_ret, blkK, keepS, keepE, runOps_nil, runOps_cons, goG_some, fpOk, foot, entOf, allN, memN, goOn_ok, goOn_call, goOn_row, goOn_arr, goOn_ask, goOn_put, guardP, guardO, notInO, stepF, stepLd, stepSt, stepIxs, stepIxa, stepLen, stepApp, stepCpy, stepPick, stepSls, stepSst, stepSla, evX, evL, evB, rd, get, subG, memG, freshG, notInG, hyps, gob, impP, allP, partD, partOf, isOne, isPtr, nth, takeN, dropN, cellsD, lenB, fillD, thirds, entN, setE, sizeE, addE, setL, setN, putE, env0, eqCs, eqAux, eqC, bA, bO, bN, bE, negB, kEq, isShr, lendL, lend, frz, frzL, zRow, closed, closedL, rowsOf, binI, retK, retG, atRet, retD, lendO, resL, resD, oneD, renD, renL, renE, renEs, rho, putAll, entsN, List.append, List.nil_append, List.cons_append, List.append_nil, cond, Nat.reduceBEq, Nat.reduceAdd, Nat.beq]
  rw [iD_len]
  refine ⟨fun hi => ?_, fun hi => ?_⟩
  · have hi : i < least.length := by simp at hi; omega
    have hi' : i < grow.length := by omega
    have g1 : 1 = 1 ∧ (0 : Int) ≤ i ∧ (i : Int) < least.length := ⟨rfl, by omega, by omega⟩
    have g2 : 1 = 1 ∧ (0 : Int) ≤ i ∧ (i : Int) < (iD grow).length := ⟨rfl, by omega, by rw [iD_len]; omega⟩
    refine ⟨(by first | exact g1 | (rw [iD_len]; exact g1)), row_intro _ _ (iD_at hi) rfl ?_⟩
    dsimp only [run_skip, run_reg, plainB, ifB_true, run_seq, run_blk, run_exit, run_ret, run_ite, iteR, regK, thenK_nrm, thenK_exit, thenK_ret, thenR_nrm, thenR_exit, thenR_ret, blkK, keepS, keepE, runOps_nil, runOps_cons, goG_some, fpOk, foot, entOf, allN, memN, goOn_ok, goOn_call, goOn_row, goOn_arr, goOn_ask, goOn_put, guardP, guardO, notInO, stepF, stepLd, stepSt, stepIxs, stepIxa, stepLen, stepApp, stepCpy, stepPick, stepSls, stepSst, stepSla, evX, evL, evB, rd, get, subG, memG, freshG, notInG, hyps, gob, impP, allP, partD, partOf, isOne, isPtr, nth, takeN, dropN, cellsD, lenB, fillD, thirds, entN, setE, sizeE, addE, setL, setN, putE, env0, eqCs, eqAux, eqC, bA, bO, bN, bE, negB, kEq, isShr, lendL, lend, frz, frzL, zRow, closed, closedL, rowsOf, binI, retK, retG, atRet, retD, lendO, resL, resD, oneD, renD, renL, renE, renEs, rho, putAll, entsN, List.append, List.nil_append, List.cons_append, List.append_nil, cond, Nat.reduceBEq, Nat.reduceAdd, Nat.beq]
    refine ⟨fun _ => (by first | exact g1 | (rw [iD_len]; exact g1)), row_intro _ _ (fun _ => iD_at hi) rfl ?_⟩
    dsimp only [run_skip, run_reg, plainB, ifB_true, run_seq, run_blk, run_exit, run_ret, run_ite, iteR, regK, thenK_nrm, thenK_exit, thenK_ret, thenR_nrm, thenR_exit, thenR_ret, blkK, keepS, keepE, runOps_nil, runOps_cons, goG_some, fpOk, foot, entOf, allN, memN, goOn_ok, goOn_call, goOn_row, goOn_arr, goOn_ask, goOn_put, guardP, guardO, notInO, stepF, stepLd, stepSt, stepIxs, stepIxa, stepLen, stepApp, stepCpy, stepPick, stepSls, stepSst, stepSla, evX, evL, evB, rd, get, subG, memG, freshG, notInG, hyps, gob, impP, allP, partD, partOf, isOne, isPtr, nth, takeN, dropN, cellsD, lenB, fillD, thirds, entN, setE, sizeE, addE, setL, setN, putE, env0, eqCs, eqAux, eqC, bA, bO, bN, bE, negB, kEq, isShr, lendL, lend, frz, frzL, zRow, closed, closedL, rowsOf, binI, retK, retG, atRet, retD, lendO, resL, resD, oneD, renD, renL, renE, renEs, rho, putAll, entsN, List.append, List.nil_append, List.cons_append, List.append_nil, cond, Nat.reduceBEq, Nat.reduceAdd, Nat.beq]
    refine ⟨fun _ => g2, row_intro _ _ (fun _ => iD_at hi') rfl ?_⟩
    dsimp only [run_skip, run_reg, plainB, ifB_true, run_seq, run_blk, run_exit, run_ret, run_ite, iteR, regK, thenK_nrm, thenK_exit, thenK_ret, thenR_nrm, thenR_exit, thenR_ret, blkK, keepS, keepE, runOps_nil, runOps_cons, goG_some, fpOk, foot, entOf, allN, memN, goOn_ok, goOn_call, goOn_row, goOn_arr, goOn_ask, goOn_put, guardP, guardO, notInO, stepF, stepLd, stepSt, stepIxs, stepIxa, stepLen, stepApp, stepCpy, stepPick, stepSls, stepSst, stepSla, evX, evL, evB, rd, get, subG, memG, freshG, notInG, hyps, gob, impP, allP, partD, partOf, isOne, isPtr, nth, takeN, dropN, cellsD, lenB, fillD, thirds, entN, setE, sizeE, addE, setL, setN, putE, env0, eqCs, eqAux, eqC, bA, bO, bN, bE, negB, kEq, isShr, lendL, lend, frz, frzL, zRow, closed, closedL, rowsOf, binI, retK, retG, atRet, retD, lendO, resL, resD, oneD, renD, renL, renE, renEs, rho, putAll, entsN, List.append, List.nil_append, List.cons_append, List.append_nil, cond, Nat.reduceBEq, Nat.reduceAdd, Nat.beq]
    refine ⟨fun _ => g2, row_intro _ _ (fun _ => iD_at hi') rfl ?_⟩
    dsimp only [run_skip, run_reg, plainB, ifB_true, run_seq, run_blk, run_exit, run_ret, run_ite, iteR, regK, thenK_nrm, thenK_exit, thenK_ret, thenR_nrm, thenR_exit, thenR_ret, blkK, keepS, keepE, runOps_nil, runOps_cons, goG_some, fpOk, foot, entOf, allN, memN, goOn_ok, goOn_call, goOn_row, goOn_arr, goOn_ask, goOn_put, guardP, guardO, notInO, stepF, stepLd, stepSt, stepIxs, stepIxa, stepLen, stepApp, stepCpy, stepPick, stepSls, stepSst, stepSla, evX, evL, evB, rd, get, subG, memG, freshG, notInG, hyps, gob, impP, allP, partD, partOf, isOne, isPtr, nth, takeN, dropN, cellsD, lenB, fillD, thirds, entN, setE, sizeE, addE, setL, setN, putE, env0, eqCs, eqAux, eqC, bA, bO, bN, bE, negB, kEq, isShr, lendL, lend, frz, frzL, zRow, closed, closedL, rowsOf, binI, retK, retG, atRet, retD, lendO, resL, resD, oneD, renD, renL, renE, renEs, rho, putAll, entsN, List.append, List.nil_append, List.cons_append, List.append_nil, cond, Nat.reduceBEq, Nat.reduceAdd, Nat.beq]
    rw [inM_or]
    rw [scan_step hi hi'] at h2
    refine ⟨fun hc => ?_, fun hc => ?_⟩
    · rw [if_neg (by intro h; rw [h] at hc; cases hc)] at h2
      exact hbad h2.symm
    · have hc' : (inM least[i] && inM grow[i]) = true := by simpa using hc
      rw [if_pos hc'] at h2
      simp only [inM, Bool.and_eq_true, decide_eq_true_eq] at hc'
      refine ⟨(by first | exact g1 | (rw [iD_len]; exact g1)), row_intro _ _ (iD_at hi) rfl ?_⟩
      dsimp only [run_skip, run_reg, plainB, ifB_true, run_seq, run_blk, run_exit, run_ret, run_ite, iteR, regK, thenK_nrm, thenK_exit, thenK_ret, thenR_nrm, thenR_exit, thenR_ret, blkK, keepS, keepE, runOps_nil, runOps_cons, goG_some, fpOk, foot, entOf, allN, memN, goOn_ok, goOn_call, goOn_row, goOn_arr, goOn_ask, goOn_put, guardP, guardO, notInO, stepF, stepLd, stepSt, stepIxs, stepIxa, stepLen, stepApp, stepCpy, stepPick, stepSls, stepSst, stepSla, evX, evL, evB, rd, get, subG, memG, freshG, notInG, hyps, gob, impP, allP, partD, partOf, isOne, isPtr, nth, takeN, dropN, cellsD, lenB, fillD, thirds, entN, setE, sizeE, addE, setL, setN, putE, env0, eqCs, eqAux, eqC, bA, bO, bN, bE, negB, kEq, isShr, lendL, lend, frz, frzL, zRow, closed, closedL, rowsOf, binI, retK, retG, atRet, retD, lendO, resL, resD, oneD, renD, renL, renE, renEs, rho, putAll, entsN, List.append, List.nil_append, List.cons_append, List.append_nil, cond, Nat.reduceBEq, Nat.reduceAdd, Nat.beq]
      refine ⟨by simp only [fits]; omega, g2, row_intro _ _ (iD_at hi') rfl ?_⟩
      dsimp only [run_skip, run_reg, plainB, ifB_true, run_seq, run_blk, run_exit, run_ret, run_ite, iteR, regK, thenK_nrm, thenK_exit, thenK_ret, thenR_nrm, thenR_exit, thenR_ret, blkK, keepS, keepE, runOps_nil, runOps_cons, goG_some, fpOk, foot, entOf, allN, memN, goOn_ok, goOn_call, goOn_row, goOn_arr, goOn_ask, goOn_put, guardP, guardO, notInO, stepF, stepLd, stepSt, stepIxs, stepIxa, stepLen, stepApp, stepCpy, stepPick, stepSls, stepSst, stepSla, evX, evL, evB, rd, get, subG, memG, freshG, notInG, hyps, gob, impP, allP, partD, partOf, isOne, isPtr, nth, takeN, dropN, cellsD, lenB, fillD, thirds, entN, setE, sizeE, addE, setL, setN, putE, env0, eqCs, eqAux, eqC, bA, bO, bN, bE, negB, kEq, isShr, lendL, lend, frz, frzL, zRow, closed, closedL, rowsOf, binI, retK, retG, atRet, retD, lendO, resL, resD, oneD, renD, renL, renE, renEs, rho, putAll, entsN, List.append, List.nil_append, List.cons_append, List.append_nil, cond, Nat.reduceBEq, Nat.reduceAdd, Nat.beq]
      refine ⟨by simp only [fits]; omega, by simp only [fits]; omega, ?_⟩
      refine again (ih ⟨(s + least[i], a + grow[i], i + 1), by dsimp only; omega, h2, by dsimp only; omega, by dsimp only; omega⟩ (by dsimp only; omega)) ?_ ?_ rfl rfl
      · exact ⟨rfl, rfl, rfl, rfl, rfl, rfl, trivial⟩
      · exact ⟨rfl, trivial⟩
  · have hi : i = least.length := by simp at hi; omega
    subst hi
    rw [scan_end (Nat.le_refl _)] at h2
    exact hok s a _ h2.symm (by omega) (by omega)
set_option maxHeartbeats 1000000 in
/-- The second loop of a code. -/
theorem ref52_loop2 {least grow : List Int} {s0 left all : Int} {body : C} {K : Ex → St → Prop} (hl : least.length = grow.length) (h64 : least.length ≤ 64) (hb : c_ref52_Split.tl.tl.tl.tl.tl.lp = some body)
    (h0 : scan 0 0 least grow = some (s0, all)) (hleft : 0 ≤ left ∧ left ≤ 1000000) (hall : 0 ≤ all ∧ all ≤ 64000000)
    (hok : ∀ gn gv ver t, K (.exit 2) ⟨(stPr least grow left all gn gv least.length ver (partsL left all 0 0 least grow)).env ++ [(84, [], .bool t)], (stPr least grow left all gn gv least.length ver (partsL left all 0 0 least grow)).bx⟩) :
    run TSpM gtab 0 (.loop body) K (stPr least grow left all 0 0 0 0 []) := by
  dsimp only [c_ref52_Split, C.lp, C.tl] at hb
  cases hb
  refine loop_ind (α := {x : Int × Int × Int × Nat × Nat × List Int // x.2.2.2.1 ≤ least.length ∧ x.2.2.2.2.2.length = x.2.2.2.1 ∧ x.2.2.2.2.2 ++ partsL left all x.2.1 x.2.2.1 (least.drop x.2.2.2.1) (grow.drop x.2.2.2.1) = partsL left all 0 0 least grow ∧
      scan x.1 x.2.1 (least.drop x.2.2.2.1) (grow.drop x.2.2.2.1) = some (s0, all) ∧ (0 ≤ x.2.1 ∧ x.2.1 ≤ all) ∧ (0 ≤ x.2.2.1 ∧ x.2.2.1 ≤ left) ∧ (¬ 0 < all → x.2.2.2.1 < least.length → x.2.2.1 = 0)})
    (fun x => stPr least grow left all x.1.2.1 x.1.2.2.1 x.1.2.2.2.1 x.1.2.2.2.2.1 x.1.2.2.2.2.2) (fun x => least.length - x.1.2.2.2.1) ?_ ⟨(0, 0, 0, 0, 0, []), ?_⟩ rfl
  · rintro ⟨⟨s, gn, gv, i, ver, done⟩, h1, h2, h3, h4, h5, h6, h7⟩ I ih
    dsimp only at h1 h2 h3 h4 h5 h6 h7
    dsimp only [stPr, run_skip, run_reg, plainB, ifB_true, run_seq, run_blk, run_exit, run_ret, run_ite, iteR, regK, thenK_nrm, thenK_exit, thenK_ret, thenR_nrm, thenR_exit, thenR_ret, blkK, keepS, keepE, runOps_nil, runOps_cons, goG_some, fpOk, foot, entOf, allN, memN, goOn_ok, goOn_call, goOn_row, goOn_arr, goOn_ask, goOn_put, guardP, guardO, notInO, stepF, stepLd, stepSt, stepIxs, stepIxa, stepLen, stepApp, stepCpy, stepPick, stepSls, stepSst, stepSla, evX, evL, evB, rd, get, subG, memG, freshG, notInG, hyps, gob, impP, allP, partD, partOf, isOne, isPtr, nth, takeN, dropN, cellsD, lenB, fillD, thirds, entN, setE, sizeE, addE, setL, setN, putE, env0, eqCs, eqAux, eqC, bA, bO, bN, bE, negB, kEq, isShr, lendL, lend, frz, frzL, zRow, closed, closedL, rowsOf, binI, retK, retG, atRet, retD, lendO, resL, resD, oneD, renD, renL, renE, renEs, rho, putAll, entsN, List.append, List.nil_append, List.cons_append, List.append_nil, cond, Nat.reduceBEq, Nat.reduceAdd, Nat.beq]
    rw [iD_len]
    refine ⟨fun hi => ?_, fun hi => ?_⟩
    · have hi : i < least.length := by simp at hi; omega
      have hi' : i < grow.length := by omega
      have g1 : 1 = 1 ∧ (0 : Int) ≤ i ∧ (i : Int) < least.length := ⟨rfl, by omega, by omega⟩
      have g2 : 1 = 1 ∧ (0 : Int) ≤ i ∧ (i : Int) < (iD grow).length := ⟨rfl, by omega, by rw [iD_len]; omega⟩
      rw [scan_step hi hi'] at h4
      rw [parts_step hi hi'] at h3
      split at h4
      case isFalse => cases h4
      rename_i hc
      simp only [inM, Bool.and_eq_true, decide_eq_true_eq] at hc
      have hm := scan_mono h4
      refine ⟨g2, row_intro _ _ (iD_at hi') rfl ?_⟩
      dsimp only [run_skip, run_reg, plainB, ifB_true, run_seq, run_blk, run_exit, run_ret, run_ite, iteR, regK, thenK_nrm, thenK_exit, thenK_ret, thenR_nrm, thenR_exit, thenR_ret, blkK, keepS, keepE, runOps_nil, runOps_cons, goG_some, fpOk, foot, entOf, allN, memN, goOn_ok, goOn_call, goOn_row, goOn_arr, goOn_ask, goOn_put, guardP, guardO, notInO, stepF, stepLd, stepSt, stepIxs, stepIxa, stepLen, stepApp, stepCpy, stepPick, stepSls, stepSst, stepSla, evX, evL, evB, rd, get, subG, memG, freshG, notInG, hyps, gob, impP, allP, partD, partOf, isOne, isPtr, nth, takeN, dropN, cellsD, lenB, fillD, thirds, entN, setE, sizeE, addE, setL, setN, putE, env0, eqCs, eqAux, eqC, bA, bO, bN, bE, negB, kEq, isShr, lendL, lend, frz, frzL, zRow, closed, closedL, rowsOf, binI, retK, retG, atRet, retD, lendO, resL, resD, oneD, renD, renL, renE, renEs, rho, putAll, entsN, List.append, List.nil_append, List.cons_append, List.append_nil, cond, Nat.reduceBEq, Nat.reduceAdd, Nat.beq]
      refine ⟨by simp only [fits]; omega, fun ha => ?_, fun ha => ?_⟩
      · have ha : 0 < all := by simpa using ha
        simp only [if_pos ha] at h3
        have hp := part_le hleft.1 (g := gn + grow[i]) (by omega) hm.2 ha
        have hm2 : 0 ≤ left * (gn + grow[i]) ∧ left * (gn + grow[i]) ≤ 1000000 * 64000000 := ⟨Int.mul_nonneg hleft.1 (by omega), Int.mul_le_mul hleft.2 (by omega) (by omega) (by omega)⟩
        refine ⟨by simp only [fits]; omega, ⟨by omega, ha, by simp only [fits]; omega⟩, ?_⟩
        refine ⟨by simp only [fits]; omega, by simp only [fits]; omega, ?_⟩
        refine ⟨(by first | exact g1 | (rw [iD_len]; exact g1)), row_intro _ _ (iD_at hi) rfl ?_⟩
        dsimp only [run_skip, run_reg, plainB, ifB_true, run_seq, run_blk, run_exit, run_ret, run_ite, iteR, regK, thenK_nrm, thenK_exit, thenK_ret, thenR_nrm, thenR_exit, thenR_ret, blkK, keepS, keepE, runOps_nil, runOps_cons, goG_some, fpOk, foot, entOf, allN, memN, goOn_ok, goOn_call, goOn_row, goOn_arr, goOn_ask, goOn_put, guardP, guardO, notInO, stepF, stepLd, stepSt, stepIxs, stepIxa, stepLen, stepApp, stepCpy, stepPick, stepSls, stepSst, stepSla, evX, evL, evB, rd, get, subG, memG, freshG, notInG, hyps, gob, impP, allP, partD, partOf, isOne, isPtr, nth, takeN, dropN, cellsD, lenB, fillD, thirds, entN, setE, sizeE, addE, setL, setN, putE, env0, eqCs, eqAux, eqC, bA, bO, bN, bE, negB, kEq, isShr, lendL, lend, frz, frzL, zRow, closed, closedL, rowsOf, binI, retK, retG, atRet, retD, lendO, resL, resD, oneD, renD, renL, renE, renEs, rho, putAll, entsN, List.append, List.nil_append, List.cons_append, List.append_nil, cond, Nat.reduceBEq, Nat.reduceAdd, Nat.beq]
        refine ⟨by simp only [fits]; omega, ⟨rfl, rfl, rfl, rfl, by rw [iD_len]; simp; omega⟩, by simp only [fits]; omega, ?_⟩
        rw [show gv + (left * (gn + grow[i]) / all - gv) = left * (gn + grow[i]) / all by omega, show least[i] + (left * (gn + grow[i]) / all - gv) = least[i] + left * (gn + grow[i]) / all - gv by omega]
        refine again (ih ⟨(s + least[i], gn + grow[i], left * (gn + grow[i]) / all, i + 1, ver + 1, done ++ [least[i] + left * (gn + grow[i]) / all - gv]), by dsimp only; omega, by simp [h2], by simpa using h3, h4, ⟨by dsimp only; omega, by dsimp only; omega⟩, ⟨by dsimp only; omega, by dsimp only; omega⟩, fun h8 h9 => by dsimp only at h8 h9 ⊢ <;> omega⟩ (by dsimp only; omega)) ?_ ?_ rfl rfl
        · exact ⟨rfl, rfl, rfl, rfl, rfl, rfl, rfl, rfl, trivial⟩
        · exact ⟨rfl, by simp [iD], trivial⟩
      · have ha : ¬ 0 < all := by simpa using ha
        simp only [if_neg ha] at h3
        have hgv := h7 ha hi
        try rw [iD_len]
        refine ⟨by simp only [fits]; omega, fun he => ?_, fun he => ?_⟩
        · have he : i + 1 = least.length := by simp at he; omega
          simp only [if_pos he] at h3
          refine ⟨by simp only [fits]; omega, ?_⟩
          refine ⟨(by first | exact g1 | (rw [iD_len]; exact g1)), row_intro _ _ (iD_at hi) rfl ?_⟩
          dsimp only [run_skip, run_reg, plainB, ifB_true, run_seq, run_blk, run_exit, run_ret, run_ite, iteR, regK, thenK_nrm, thenK_exit, thenK_ret, thenR_nrm, thenR_exit, thenR_ret, blkK, keepS, keepE, runOps_nil, runOps_cons, goG_some, fpOk, foot, entOf, allN, memN, goOn_ok, goOn_call, goOn_row, goOn_arr, goOn_ask, goOn_put, guardP, guardO, notInO, stepF, stepLd, stepSt, stepIxs, stepIxa, stepLen, stepApp, stepCpy, stepPick, stepSls, stepSst, stepSla, evX, evL, evB, rd, get, subG, memG, freshG, notInG, hyps, gob, impP, allP, partD, partOf, isOne, isPtr, nth, takeN, dropN, cellsD, lenB, fillD, thirds, entN, setE, sizeE, addE, setL, setN, putE, env0, eqCs, eqAux, eqC, bA, bO, bN, bE, negB, kEq, isShr, lendL, lend, frz, frzL, zRow, closed, closedL, rowsOf, binI, retK, retG, atRet, retD, lendO, resL, resD, oneD, renD, renL, renE, renEs, rho, putAll, entsN, List.append, List.nil_append, List.cons_append, List.append_nil, cond, Nat.reduceBEq, Nat.reduceAdd, Nat.beq]
          refine ⟨by simp only [fits]; omega, ⟨rfl, rfl, rfl, rfl, by rw [iD_len]; simp; omega⟩, by simp only [fits]; omega, ?_⟩
          rw [show gv + left = left by omega, show least[i] + left = least[i] + left - gv by omega]
          refine again (ih ⟨(s + least[i], gn + grow[i], left, i + 1, ver + 1, done ++ [least[i] + left - gv]), by dsimp only; omega, by simp [h2], by simpa using h3, h4, ⟨by dsimp only; omega, by dsimp only; omega⟩, ⟨by dsimp only; omega, by dsimp only; omega⟩, fun h8 h9 => by dsimp only at h8 h9 ⊢ <;> omega⟩ (by dsimp only; omega)) ?_ ?_ rfl rfl
          · exact ⟨rfl, rfl, rfl, rfl, rfl, rfl, rfl, rfl, trivial⟩
          · exact ⟨rfl, by simp [iD], trivial⟩
        · have he : ¬ i + 1 = least.length := by simp at he; omega
          simp only [if_neg he] at h3
          refine ⟨by simp only [fits]; omega, ?_⟩
          refine ⟨(by first | exact g1 | (rw [iD_len]; exact g1)), row_intro _ _ (iD_at hi) rfl ?_⟩
          dsimp only [run_skip, run_reg, plainB, ifB_true, run_seq, run_blk, run_exit, run_ret, run_ite, iteR, regK, thenK_nrm, thenK_exit, thenK_ret, thenR_nrm, thenR_exit, thenR_ret, blkK, keepS, keepE, runOps_nil, runOps_cons, goG_some, fpOk, foot, entOf, allN, memN, goOn_ok, goOn_call, goOn_row, goOn_arr, goOn_ask, goOn_put, guardP, guardO, notInO, stepF, stepLd, stepSt, stepIxs, stepIxa, stepLen, stepApp, stepCpy, stepPick, stepSls, stepSst, stepSla, evX, evL, evB, rd, get, subG, memG, freshG, notInG, hyps, gob, impP, allP, partD, partOf, isOne, isPtr, nth, takeN, dropN, cellsD, lenB, fillD, thirds, entN, setE, sizeE, addE, setL, setN, putE, env0, eqCs, eqAux, eqC, bA, bO, bN, bE, negB, kEq, isShr, lendL, lend, frz, frzL, zRow, closed, closedL, rowsOf, binI, retK, retG, atRet, retD, lendO, resL, resD, oneD, renD, renL, renE, renEs, rho, putAll, entsN, List.append, List.nil_append, List.cons_append, List.append_nil, cond, Nat.reduceBEq, Nat.reduceAdd, Nat.beq]
          refine ⟨by simp only [fits]; omega, ⟨rfl, rfl, rfl, rfl, by rw [iD_len]; simp; omega⟩, by simp only [fits]; omega, ?_⟩
          rw [show gv + 0 = 0 by omega, show least[i] + 0 = least[i] + 0 - gv by omega]
          refine again (ih ⟨(s + least[i], gn + grow[i], 0, i + 1, ver + 1, done ++ [least[i] + 0 - gv]), by dsimp only; omega, by simp [h2], by simpa using h3, h4, ⟨by dsimp only; omega, by dsimp only; omega⟩, ⟨by dsimp only; omega, by dsimp only; omega⟩, fun h8 h9 => by dsimp only at h8 h9 ⊢ <;> omega⟩ (by dsimp only; omega)) ?_ ?_ rfl rfl
          · exact ⟨rfl, rfl, rfl, rfl, rfl, rfl, rfl, rfl, trivial⟩
          · exact ⟨rfl, by simp [iD], trivial⟩
    · have hi : i = least.length := by simp at hi; omega
      subst hi
      have hd : done = partsL left all 0 0 least grow := by
        rw [← h3, List.drop_of_length_le (Nat.le_refl _)]; simp [partsL]
      have := hok gn gv ver (decide ((least.length : Int) < least.length))
      rw [hd]; exact this
  · exact ⟨by simp, rfl, by simp, by simpa using h0, by simp; omega, by simp; omega, by simp⟩

theorem sp_ref52_Split {total : Int} {least grow : List Int} (ht : fits .i64 total) : TSp 11 [.int .i64 total, .ls 1 (iD least), .ls 1 (iD grow)] (splitD (splitS total least grow)) := by
  refine spo_ref52_Split (by rfl) ?_
  have hlp1 := @ref52_loop1
  have hlp2 := @ref52_loop2
  dsimp only [c_ref52_Split, r_ref52_Split, run_skip, run_reg, plainB, ifB_true, run_seq, run_blk, run_exit, run_ret, run_ite, iteR, regK, thenK_nrm, thenK_exit, thenK_ret, thenR_nrm, thenR_exit, thenR_ret, blkK, keepS, keepE, runOps_nil, runOps_cons, goG_some, fpOk, foot, entOf, allN, memN, goOn_ok, goOn_call, goOn_row, goOn_arr, goOn_ask, goOn_put, guardP, guardO, notInO, stepF, stepLd, stepSt, stepIxs, stepIxa, stepLen, stepApp, stepCpy, stepPick, stepSls, stepSst, stepSla, evX, evL, evB, rd, get, subG, memG, freshG, notInG, hyps, gob, impP, allP, partD, partOf, isOne, isPtr, nth, takeN, dropN, cellsD, lenB, fillD, thirds, entN, setE, sizeE, addE, setL, setN, putE, env0, eqCs, eqAux, eqC, bA, bO, bN, bE, negB, kEq, isShr, lendL, lend, frz, frzL, zRow, closed, closedL, rowsOf, binI, retK, retG, atRet, retD, lendO, resL, resD, oneD, renD, renL, renE, renEs, rho, putAll, entsN, List.append, List.nil_append, List.cons_append, List.append_nil, cond, Nat.reduceBEq, Nat.reduceAdd, Nat.beq]
  simp only [iD_len]
  refine ⟨fun h => ?_, fun h => ?_⟩
  · unfold splitS; rw [if_pos (by simp at h; omega)]; exact ⟨trivial, rfl⟩
  have hl : least.length = grow.length := by simp at h; omega
  refine ⟨fun h => ?_, fun h => ?_⟩
  · unfold splitS; rw [if_neg (by omega), if_pos (by simp at h; omega)]; exact ⟨trivial, rfl⟩
  have h64 : least.length ≤ 64 := by simp at h; omega
  unfold splitS
  rw [if_neg (by omega), if_neg (by omega)]
  refine hlp1 (total := total) hl h64 rfl (fun hn => ?_) (fun s a t hs h1 h2 => ?_)
  · rw [hn]; exact ⟨rfl, rfl⟩
  · rw [hs]
    dsimp only [stSr, run_skip, run_reg, plainB, ifB_true, run_seq, run_blk, run_exit, run_ret, run_ite, iteR, regK, thenK_nrm, thenK_exit, thenK_ret, thenR_nrm, thenR_exit, thenR_ret, blkK, keepS, keepE, runOps_nil, runOps_cons, goG_some, fpOk, foot, entOf, allN, memN, goOn_ok, goOn_call, goOn_row, goOn_arr, goOn_ask, goOn_put, guardP, guardO, notInO, stepF, stepLd, stepSt, stepIxs, stepIxa, stepLen, stepApp, stepCpy, stepPick, stepSls, stepSst, stepSla, evX, evL, evB, rd, get, subG, memG, freshG, notInG, hyps, gob, impP, allP, partD, partOf, isOne, isPtr, nth, takeN, dropN, cellsD, lenB, fillD, thirds, entN, setE, sizeE, addE, setL, setN, putE, env0, eqCs, eqAux, eqC, bA, bO, bN, bE, negB, kEq, isShr, lendL, lend, frz, frzL, zRow, closed, closedL, rowsOf, binI, retK, retG, atRet, retD, lendO, resL, resD, oneD, renD, renL, renE, renEs, rho, putAll, entsN, List.append, List.nil_append, List.cons_append, List.append_nil, cond, Nat.reduceBEq, Nat.reduceAdd, Nat.beq]
    refine ⟨fun hc => ?_, fun hc => ?_⟩
    · rw [if_pos hc]; exact ⟨rfl, rfl⟩
    rw [if_neg (by rw [hc]; simp)]
    simp only [Bool.or_eq_false_iff, decide_eq_false_iff_not] at hc
    refine ⟨fun hc2 => ?_, fun hc2 => ?_⟩
    · rw [if_pos (by simpa using hc2)]; exact ⟨rfl, rfl⟩
    have hc3 : ¬ total < s := by simpa using hc2
    rw [if_neg hc3]
    refine ⟨by simp only [fits]; omega, ?_⟩
    refine hlp2 (s0 := s) (left := total - s) (all := a) (least := least) (grow := grow) hl h64 rfl hs (by omega) h2 (fun gn gv ver t => ?_)
    dsimp only [stPr, run_skip, run_reg, plainB, ifB_true, run_seq, run_blk, run_exit, run_ret, run_ite, iteR, regK, thenK_nrm, thenK_exit, thenK_ret, thenR_nrm, thenR_exit, thenR_ret, blkK, keepS, keepE, runOps_nil, runOps_cons, goG_some, fpOk, foot, entOf, allN, memN, goOn_ok, goOn_call, goOn_row, goOn_arr, goOn_ask, goOn_put, guardP, guardO, notInO, stepF, stepLd, stepSt, stepIxs, stepIxa, stepLen, stepApp, stepCpy, stepPick, stepSls, stepSst, stepSla, evX, evL, evB, rd, get, subG, memG, freshG, notInG, hyps, gob, impP, allP, partD, partOf, isOne, isPtr, nth, takeN, dropN, cellsD, lenB, fillD, thirds, entN, setE, sizeE, addE, setL, setN, putE, env0, eqCs, eqAux, eqC, bA, bO, bN, bE, negB, kEq, isShr, lendL, lend, frz, frzL, zRow, closed, closedL, rowsOf, binI, retK, retG, atRet, retD, lendO, resL, resD, oneD, renD, renL, renE, renEs, rho, putAll, entsN, List.append, List.nil_append, List.cons_append, List.append_nil, cond, Nat.reduceBEq, Nat.reduceAdd, Nat.beq]
    exact ⟨rfl, rfl⟩
end Go.AM
