/- The rectangles' functions: what is left, and the box. -/
import Derived.Test.YtkcebadfgiknhaaR1
set_option linter.all false
namespace Go.AM
open Go Go.Proofs

theorem Pl1.f {z : Int} (h : Pl1 z) : fits .i64 z := by simp only [Pl1, fits] at *; omega
theorem cross_vz (a b : Rc) : Vz (crossR a b) := by
  unfold crossR
  split
  · exact .inl rfl
  · rename_i h
    simp only [Bool.or_eq_true, not_or, Bool.not_eq_true, empty_iff] at h
    obtain ⟨h1, h2⟩ := h
    unfold betweenR
    split
    · exact .inl rfl
    · rename_i h
      simp only [Bool.or_eq_true, not_or, decide_eq_true_eq] at h
      simp only [Vr] at h1 h2
      right; simp only [Vr]; omega

def piecesL (a c : Rc) : List Rc := [betweenR a.x a.y (a.x + a.w) c.y, betweenR a.x c.y c.x (c.y + c.h), betweenR (c.x + c.w) c.y (a.x + a.w) (c.y + c.h), betweenR a.x (c.y + c.h) (a.x + a.w) (a.y + a.h)]
def minusL (a b : Rc) : List Rc := if emptyB a then [] else if emptyB (crossR a b) then [a] else (piecesL a (crossR a b)).filter fun r => !emptyB r

theorem between_in {x y r b : Int} (h1 : Pl1 x) (h2 : Pl1 y) (h3 : Pl1 r) (h4 : Pl1 b) : (betweenR x y r b).In := by
  unfold betweenR
  split
  · exact In_o
  · simp only [Rc.In, Pl1, fits] at *; omega

def stM (a b c p0 p1 p2 p3 : Rc) (i ver : Nat) (l : List Rc) : St :=
  ⟨[(6, [], .own 4 ver), (78, [], .agg [.int .i64 p0.x, .int .i64 p0.y, .int .i64 p0.w, .int .i64 p0.h, .int .i64 p1.x, .int .i64 p1.y, .int .i64 p1.w, .int .i64 p1.h,
      .int .i64 p2.x, .int .i64 p2.y, .int .i64 p2.w, .int .i64 p2.h, .int .i64 p3.x, .int .i64 p3.y, .int .i64 p3.w, .int .i64 p3.h]), (79, [], .int .i64 i)],
    [.cells [.int .i64 a.x, .int .i64 a.y, .int .i64 a.w, .int .i64 a.h], .cells [.int .i64 b.x, .int .i64 b.y, .int .i64 b.w, .int .i64 b.h], .arr 23 4 0 [], .cells [.int .i64 c.x, .int .i64 c.y, .int .i64 c.w, .int .i64 c.h], .arr 23 4 ver (l.map rD)]⟩

theorem sp_rect_Minus {a b : Rc} (ha : a.In) (hb : b.In) : TSp 12 [rD a, rD b] (.ls 4 ((minusL a b).map rD)) := by
  refine spo_rect_Minus (by rfl) ?_
  dsimp only [c_rect_Minus, r_rect_Minus, rD, run_skip, run_reg, plainB, ifB_true, run_seq, run_blk, run_exit, run_ret, run_ite, iteR, regK, thenK_nrm, thenK_exit, thenK_ret, thenR_nrm, thenR_exit, thenR_ret, blkK, keepS, keepE, runOps_nil, runOps_cons, goG_some, goOn_ok, goOn_call, goOn_row, goOn_arr, goOn_ask, goOn_put, guardP, guardO, notInO, stepF, stepLd, stepSt, stepIxs, stepIxa, stepLen, stepApp, stepCpy, stepPick, stepSls, stepSst, stepSla, evX, evL, evB, rd, get, subG, memG, freshG, notInG, hyps, gob, impP, allP, partD, partOf, isOne, isPtr, nth, takeN, dropN, cellsD, lenB, fillD, thirds, entN, setE, sizeE, addE, setL, setN, putE, env0, eqCs, eqAux, eqC, bA, bO, bN, bE, negB, kEq, isShr, lendL, lend, frz, frzL, zRow, closed, closedL, rowsOf, binI, retK, retG, atRet, retD, lendO, resL, resD, oneD, renD, renL, renE, renEs, rho, putAll, entsN, List.append, List.nil_append, List.cons_append, List.append_nil, cond, Nat.reduceBEq, Nat.reduceAdd, Nat.beq]
  refine call_pure (sp_rect_Empty ha) ?_
  dsimp only [c_rect_Minus, r_rect_Minus, run_skip, run_reg, plainB, ifB_true, run_seq, run_blk, run_exit, run_ret, run_ite, iteR, regK, thenK_nrm, thenK_exit, thenK_ret, thenR_nrm, thenR_exit, thenR_ret, blkK, keepS, keepE, runOps_nil, runOps_cons, goG_some, goOn_ok, goOn_call, goOn_row, goOn_arr, goOn_ask, goOn_put, guardP, guardO, notInO, stepF, stepLd, stepSt, stepIxs, stepIxa, stepLen, stepApp, stepCpy, stepPick, stepSls, stepSst, stepSla, evX, evL, evB, rd, get, subG, memG, freshG, notInG, hyps, gob, impP, allP, partD, partOf, isOne, isPtr, nth, takeN, dropN, cellsD, lenB, fillD, thirds, entN, setE, sizeE, addE, setL, setN, putE, env0, eqCs, eqAux, eqC, bA, bO, bN, bE, negB, kEq, isShr, lendL, lend, frz, frzL, zRow, closed, closedL, rowsOf, binI, retK, retG, atRet, retD, lendO, resL, resD, oneD, renD, renL, renE, renEs, rho, putAll, entsN, List.append, List.nil_append, List.cons_append, List.append_nil, cond, Nat.reduceBEq, Nat.reduceAdd, Nat.beq]
  unfold minusL
  refine ⟨fun h => by rw [if_pos h]; exact ⟨rfl, rfl⟩, fun h => ?_⟩
  rw [if_neg (by simp [h])]
  have h1 := empty_iff.1 h
  refine call_pure (sp_rect_Cross ha hb) ?_
  dsimp only [c_rect_Minus, r_rect_Minus, rD, run_skip, run_reg, plainB, ifB_true, run_seq, run_blk, run_exit, run_ret, run_ite, iteR, regK, thenK_nrm, thenK_exit, thenK_ret, thenR_nrm, thenR_exit, thenR_ret, blkK, keepS, keepE, runOps_nil, runOps_cons, goG_some, goOn_ok, goOn_call, goOn_row, goOn_arr, goOn_ask, goOn_put, guardP, guardO, notInO, stepF, stepLd, stepSt, stepIxs, stepIxa, stepLen, stepApp, stepCpy, stepPick, stepSls, stepSst, stepSla, evX, evL, evB, rd, get, subG, memG, freshG, notInG, hyps, gob, impP, allP, partD, partOf, isOne, isPtr, nth, takeN, dropN, cellsD, lenB, fillD, thirds, entN, setE, sizeE, addE, setL, setN, putE, env0, eqCs, eqAux, eqC, bA, bO, bN, bE, negB, kEq, isShr, lendL, lend, frz, frzL, zRow, closed, closedL, rowsOf, binI, retK, retG, atRet, retD, lendO, resL, resD, oneD, renD, renL, renE, renEs, rho, putAll, entsN, List.append, List.nil_append, List.cons_append, List.append_nil, cond, Nat.reduceBEq, Nat.reduceAdd, Nat.beq]
  refine call_pure (sp_rect_Empty (cross_vz a b).in) ?_
  dsimp only [c_rect_Minus, r_rect_Minus, rD, run_skip, run_reg, plainB, ifB_true, run_seq, run_blk, run_exit, run_ret, run_ite, iteR, regK, thenK_nrm, thenK_exit, thenK_ret, thenR_nrm, thenR_exit, thenR_ret, blkK, keepS, keepE, runOps_nil, runOps_cons, goG_some, goOn_ok, goOn_call, goOn_row, goOn_arr, goOn_ask, goOn_put, guardP, guardO, notInO, stepF, stepLd, stepSt, stepIxs, stepIxa, stepLen, stepApp, stepCpy, stepPick, stepSls, stepSst, stepSla, evX, evL, evB, rd, get, subG, memG, freshG, notInG, hyps, gob, impP, allP, partD, partOf, isOne, isPtr, nth, takeN, dropN, cellsD, lenB, fillD, thirds, entN, setE, sizeE, addE, setL, setN, putE, env0, eqCs, eqAux, eqC, bA, bO, bN, bE, negB, kEq, isShr, lendL, lend, frz, frzL, zRow, closed, closedL, rowsOf, binI, retK, retG, atRet, retD, lendO, resL, resD, oneD, renD, renL, renE, renEs, rho, putAll, entsN, List.append, List.nil_append, List.cons_append, List.append_nil, cond, Nat.reduceBEq, Nat.reduceAdd, Nat.beq]
  refine ⟨fun h => by rw [if_pos h]; rfl, fun h => ?_⟩
  rw [if_neg (by simp [h])]
  have h2 := empty_iff.1 h
  generalize crossR a b = c at *
  simp only [Vr] at h1 h2
  have q1 : Pl1 a.x := by simp only [Pl1]; omega
  have q2 : Pl1 a.y := by simp only [Pl1]; omega
  have q3 : Pl1 (a.x + a.w) := by simp only [Pl1]; omega
  have q4 : Pl1 (a.y + a.h) := by simp only [Pl1]; omega
  have q5 : Pl1 c.x := by simp only [Pl1]; omega
  have q6 : Pl1 c.y := by simp only [Pl1]; omega
  have q7 : Pl1 (c.x + c.w) := by simp only [Pl1]; omega
  have q8 : Pl1 (c.y + c.h) := by simp only [Pl1]; omega
  refine ⟨q3.f, call_pure (sp_rect_between q1 q2 q3 q6) ?_⟩
  dsimp only [c_rect_Minus, r_rect_Minus, rD, run_skip, run_reg, plainB, ifB_true, run_seq, run_blk, run_exit, run_ret, run_ite, iteR, regK, thenK_nrm, thenK_exit, thenK_ret, thenR_nrm, thenR_exit, thenR_ret, blkK, keepS, keepE, runOps_nil, runOps_cons, goG_some, goOn_ok, goOn_call, goOn_row, goOn_arr, goOn_ask, goOn_put, guardP, guardO, notInO, stepF, stepLd, stepSt, stepIxs, stepIxa, stepLen, stepApp, stepCpy, stepPick, stepSls, stepSst, stepSla, evX, evL, evB, rd, get, subG, memG, freshG, notInG, hyps, gob, impP, allP, partD, partOf, isOne, isPtr, nth, takeN, dropN, cellsD, lenB, fillD, thirds, entN, setE, sizeE, addE, setL, setN, putE, env0, eqCs, eqAux, eqC, bA, bO, bN, bE, negB, kEq, isShr, lendL, lend, frz, frzL, zRow, closed, closedL, rowsOf, binI, retK, retG, atRet, retD, lendO, resL, resD, oneD, renD, renL, renE, renEs, rho, putAll, entsN, List.append, List.nil_append, List.cons_append, List.append_nil, cond, Nat.reduceBEq, Nat.reduceAdd, Nat.beq]
  refine ⟨q8.f, call_pure (sp_rect_between q1 q6 q5 q8) ?_⟩
  dsimp only [c_rect_Minus, r_rect_Minus, rD, run_skip, run_reg, plainB, ifB_true, run_seq, run_blk, run_exit, run_ret, run_ite, iteR, regK, thenK_nrm, thenK_exit, thenK_ret, thenR_nrm, thenR_exit, thenR_ret, blkK, keepS, keepE, runOps_nil, runOps_cons, goG_some, goOn_ok, goOn_call, goOn_row, goOn_arr, goOn_ask, goOn_put, guardP, guardO, notInO, stepF, stepLd, stepSt, stepIxs, stepIxa, stepLen, stepApp, stepCpy, stepPick, stepSls, stepSst, stepSla, evX, evL, evB, rd, get, subG, memG, freshG, notInG, hyps, gob, impP, allP, partD, partOf, isOne, isPtr, nth, takeN, dropN, cellsD, lenB, fillD, thirds, entN, setE, sizeE, addE, setL, setN, putE, env0, eqCs, eqAux, eqC, bA, bO, bN, bE, negB, kEq, isShr, lendL, lend, frz, frzL, zRow, closed, closedL, rowsOf, binI, retK, retG, atRet, retD, lendO, resL, resD, oneD, renD, renL, renE, renEs, rho, putAll, entsN, List.append, List.nil_append, List.cons_append, List.append_nil, cond, Nat.reduceBEq, Nat.reduceAdd, Nat.beq]
  refine ⟨q7.f, q3.f, q8.f, call_pure (sp_rect_between q7 q6 q3 q8) ?_⟩
  dsimp only [c_rect_Minus, r_rect_Minus, rD, run_skip, run_reg, plainB, ifB_true, run_seq, run_blk, run_exit, run_ret, run_ite, iteR, regK, thenK_nrm, thenK_exit, thenK_ret, thenR_nrm, thenR_exit, thenR_ret, blkK, keepS, keepE, runOps_nil, runOps_cons, goG_some, goOn_ok, goOn_call, goOn_row, goOn_arr, goOn_ask, goOn_put, guardP, guardO, notInO, stepF, stepLd, stepSt, stepIxs, stepIxa, stepLen, stepApp, stepCpy, stepPick, stepSls, stepSst, stepSla, evX, evL, evB, rd, get, subG, memG, freshG, notInG, hyps, gob, impP, allP, partD, partOf, isOne, isPtr, nth, takeN, dropN, cellsD, lenB, fillD, thirds, entN, setE, sizeE, addE, setL, setN, putE, env0, eqCs, eqAux, eqC, bA, bO, bN, bE, negB, kEq, isShr, lendL, lend, frz, frzL, zRow, closed, closedL, rowsOf, binI, retK, retG, atRet, retD, lendO, resL, resD, oneD, renD, renL, renE, renEs, rho, putAll, entsN, List.append, List.nil_append, List.cons_append, List.append_nil, cond, Nat.reduceBEq, Nat.reduceAdd, Nat.beq]
  refine ⟨q8.f, q3.f, q4.f, call_pure (sp_rect_between q1 q8 q3 q4) ?_⟩
  dsimp only [c_rect_Minus, r_rect_Minus, rD, run_skip, run_reg, plainB, ifB_true, run_seq, run_blk, run_exit, run_ret, run_ite, iteR, regK, thenK_nrm, thenK_exit, thenK_ret, thenR_nrm, thenR_exit, thenR_ret, blkK, keepS, keepE, runOps_nil, runOps_cons, goG_some, goOn_ok, goOn_call, goOn_row, goOn_arr, goOn_ask, goOn_put, guardP, guardO, notInO, stepF, stepLd, stepSt, stepIxs, stepIxa, stepLen, stepApp, stepCpy, stepPick, stepSls, stepSst, stepSla, evX, evL, evB, rd, get, subG, memG, freshG, notInG, hyps, gob, impP, allP, partD, partOf, isOne, isPtr, nth, takeN, dropN, cellsD, lenB, fillD, thirds, entN, setE, sizeE, addE, setL, setN, putE, env0, eqCs, eqAux, eqC, bA, bO, bN, bE, negB, kEq, isShr, lendL, lend, frz, frzL, zRow, closed, closedL, rowsOf, binI, retK, retG, atRet, retD, lendO, resL, resD, oneD, renD, renL, renE, renEs, rho, putAll, entsN, List.append, List.nil_append, List.cons_append, List.append_nil, cond, Nat.reduceBEq, Nat.reduceAdd, Nat.beq]
  have g0 := between_in q1 q2 q3 q6
  have g1 := between_in q1 q6 q5 q8
  have g2 := between_in q7 q6 q3 q8
  have g3 := between_in q1 q8 q3 q4
  have e : piecesL a c = [betweenR a.x a.y (a.x + a.w) c.y, betweenR a.x c.y c.x (c.y + c.h), betweenR (c.x + c.w) c.y (a.x + a.w) (c.y + c.h), betweenR a.x (c.y + c.h) (a.x + a.w) (a.y + a.h)] := rfl
  rw [e]
  generalize betweenR a.x a.y (a.x + a.w) c.y = p0 at *
  generalize betweenR a.x c.y c.x (c.y + c.h) = p1 at *
  generalize betweenR (c.x + c.w) c.y (a.x + a.w) (c.y + c.h) = p2 at *
  generalize betweenR a.x (c.y + c.h) (a.x + a.w) (a.y + a.h) = p3 at *
  refine loop_ind (α := {x : Nat × Nat × List Rc // x.1 ≤ 4 ∧ x.2.2.length ≤ x.1 ∧ x.2.2 ++ (([p0, p1, p2, p3].drop x.1).filter fun r => !emptyB r) = [p0, p1, p2, p3].filter fun r => !emptyB r})
    (fun x => stM a b c p0 p1 p2 p3 x.1.1 x.1.2.1 x.1.2.2) (fun x => 4 - x.1.1) ?_ ⟨(0, 0, []), by simp⟩ rfl
  rintro ⟨⟨i, ver, l⟩, h4, h5, h6⟩ I ih
  dsimp only at h4 h5 h6
  dsimp only [stM, run_skip, run_reg, plainB, ifB_true, run_seq, run_blk, run_exit, run_ret, run_ite, iteR, regK, thenK_nrm, thenK_exit, thenK_ret, thenR_nrm, thenR_exit, thenR_ret, blkK, keepS, keepE, runOps_nil, runOps_cons, goG_some, goOn_ok, goOn_call, goOn_row, goOn_arr, goOn_ask, goOn_put, guardP, guardO, notInO, stepF, stepLd, stepSt, stepIxs, stepIxa, stepLen, stepApp, stepCpy, stepPick, stepSls, stepSst, stepSla, evX, evL, evB, rd, get, subG, memG, freshG, notInG, hyps, gob, impP, allP, partD, partOf, isOne, isPtr, nth, takeN, dropN, cellsD, lenB, fillD, thirds, entN, setE, sizeE, addE, setL, setN, putE, env0, eqCs, eqAux, eqC, bA, bO, bN, bE, negB, kEq, isShr, lendL, lend, frz, frzL, zRow, closed, closedL, rowsOf, binI, retK, retG, atRet, retD, lendO, resL, resD, oneD, renD, renL, renE, renEs, rho, putAll, entsN, List.append, List.nil_append, List.cons_append, List.append_nil, cond, Nat.reduceBEq, Nat.reduceAdd, Nat.beq]
  refine ⟨fun hi => ?_, fun hi => ?_⟩
  · simp only [decide_eq_true_eq] at hi
    have hi4 : i < 4 := by omega
    refine ⟨by omega, ?_⟩
    have hp : ∃ p : Rc, p.In ∧ [p0, p1, p2, p3].drop i = p :: [p0, p1, p2, p3].drop (i + 1) ∧ partD [D.int IntKind.i64 p0.x, D.int IntKind.i64 p0.y, D.int IntKind.i64 p0.w, D.int IntKind.i64 p0.h,
            D.int IntKind.i64 p1.x, D.int IntKind.i64 p1.y, D.int IntKind.i64 p1.w, D.int IntKind.i64 p1.h,
            D.int IntKind.i64 p2.x, D.int IntKind.i64 p2.y, D.int IntKind.i64 p2.w, D.int IntKind.i64 p2.h,
            D.int IntKind.i64 p3.x, D.int IntKind.i64 p3.y, D.int IntKind.i64 p3.w, D.int IntKind.i64 p3.h] ((i : Int).toNat * 4) (some 4) = some (rD p) := by
      rcases i with _ | _ | _ | _ | i
      · exact ⟨p0, g0, rfl, rfl⟩
      · exact ⟨p1, g1, rfl, rfl⟩
      · exact ⟨p2, g2, rfl, rfl⟩
      · exact ⟨p3, g3, rfl, rfl⟩
      · omega
    obtain ⟨p, hpin, hdrop, hpart⟩ := hp
    refine arr_intro _ hpart ?_
    dsimp only [rD, run_skip, run_reg, plainB, ifB_true, run_seq, run_blk, run_exit, run_ret, run_ite, iteR, regK, thenK_nrm, thenK_exit, thenK_ret, thenR_nrm, thenR_exit, thenR_ret, blkK, keepS, keepE, runOps_nil, runOps_cons, goG_some, goOn_ok, goOn_call, goOn_row, goOn_arr, goOn_ask, goOn_put, guardP, guardO, notInO, stepF, stepLd, stepSt, stepIxs, stepIxa, stepLen, stepApp, stepCpy, stepPick, stepSls, stepSst, stepSla, evX, evL, evB, rd, get, subG, memG, freshG, notInG, hyps, gob, impP, allP, partD, partOf, isOne, isPtr, nth, takeN, dropN, cellsD, lenB, fillD, thirds, entN, setE, sizeE, addE, setL, setN, putE, env0, eqCs, eqAux, eqC, bA, bO, bN, bE, negB, kEq, isShr, lendL, lend, frz, frzL, zRow, closed, closedL, rowsOf, binI, retK, retG, atRet, retD, lendO, resL, resD, oneD, renD, renL, renE, renEs, rho, putAll, entsN, List.append, List.nil_append, List.cons_append, List.append_nil, cond, Nat.reduceBEq, Nat.reduceAdd, Nat.beq]
    refine call_pure (sp_rect_Empty hpin) ?_
    dsimp only [rD, run_skip, run_reg, plainB, ifB_true, run_seq, run_blk, run_exit, run_ret, run_ite, iteR, regK, thenK_nrm, thenK_exit, thenK_ret, thenR_nrm, thenR_exit, thenR_ret, blkK, keepS, keepE, runOps_nil, runOps_cons, goG_some, goOn_ok, goOn_call, goOn_row, goOn_arr, goOn_ask, goOn_put, guardP, guardO, notInO, stepF, stepLd, stepSt, stepIxs, stepIxa, stepLen, stepApp, stepCpy, stepPick, stepSls, stepSst, stepSla, evX, evL, evB, rd, get, subG, memG, freshG, notInG, hyps, gob, impP, allP, partD, partOf, isOne, isPtr, nth, takeN, dropN, cellsD, lenB, fillD, thirds, entN, setE, sizeE, addE, setL, setN, putE, env0, eqCs, eqAux, eqC, bA, bO, bN, bE, negB, kEq, isShr, lendL, lend, frz, frzL, zRow, closed, closedL, rowsOf, binI, retK, retG, atRet, retD, lendO, resL, resD, oneD, renD, renL, renE, renEs, rho, putAll, entsN, List.append, List.nil_append, List.cons_append, List.append_nil, cond, Nat.reduceBEq, Nat.reduceAdd, Nat.beq]
    rw [hdrop, List.filter_cons] at h6
    refine ⟨fun he => ?_, fun he => ?_⟩
    · simp only [Bool.not_eq_true'] at he
      simp only [he, Bool.not_false, if_true] at h6
      refine ⟨⟨rfl, rfl, rfl, rfl, by simp; omega⟩, by simp only [fits]; omega, ?_⟩
      refine again (ih ⟨(i + 1, ver + 1, l ++ [p]), by dsimp only; omega, by simp; omega, by simpa using h6⟩ (by dsimp only; omega)) ?_ ?_ rfl ?_
      · exact ⟨rfl, rfl, rfl, trivial⟩
      · exact ⟨rfl, rfl, rfl, rfl, by simp [rD], trivial⟩
      · rfl
    · simp only [Bool.not_eq_false'] at he
      simp only [he, Bool.not_true, if_false, Bool.false_eq_true] at h6
      refine ⟨by simp only [fits]; omega, ?_⟩
      refine again (ih ⟨(i + 1, ver, l), by dsimp only; omega, by simp; omega, h6⟩ (by dsimp only; omega)) ?_ ?_ rfl ?_
      · exact ⟨rfl, rfl, rfl, trivial⟩
      · exact ⟨rfl, rfl, rfl, rfl, rfl, trivial⟩
      · rfl
  · simp only [decide_eq_false_iff_not] at hi
    have : i = 4 := by omega
    subst this
    refine ⟨rfl, ?_⟩
    rw [← h6]; simp

end Go.AM
