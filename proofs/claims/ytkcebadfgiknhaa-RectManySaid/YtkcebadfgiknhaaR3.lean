/- The box, and the document's example. -/
import Derived.Test.YtkcebadfgiknhaaR2
set_option linter.all false
namespace Go.AM
open Go Go.Proofs

def boxStep (box r : Rc) : Rc := if emptyB r then box else if box.eq .o then r else betweenR (min box.x r.x) (min box.y r.y) (max (box.x + box.w) (r.x + r.w)) (max (box.y + box.h) (r.y + r.h))
def boxL (l : List Rc) : Rc := l.foldl boxStep .o

theorem box_vz {box r : Rc} (hb : Vz box) : Vz (boxStep box r) := by
  unfold boxStep
  split
  · exact hb
  · rename_i h
    simp only [Bool.not_eq_true, empty_iff] at h
    split
    · exact .inr h
    · rename_i h'
      have hb := hb.resolve_left fun e => h' (by rw [e]; rfl)
      unfold betweenR
      split
      · exact .inl rfl
      · rename_i h
        simp only [Bool.or_eq_true, not_or, decide_eq_true_eq] at h
        right; simp only [Vr] at *
        omega

def st13 (l : List Rc) (i : Nat) (box : Rc) : St :=
  ⟨[(2, [], .box 0 0), (3, [], .box 1 0), (6, [], .ls 4 (l.map rD)), (7, [], .int .i64 l.length), (8, [], .int .i64 i)],
    [.cells [.int .i64 0, .int .i64 0, .int .i64 0, .int .i64 0], .cells [.int .i64 box.x, .int .i64 box.y, .int .i64 box.w, .int .i64 box.h]]⟩

theorem sp_rect_Box {l : List Rc} (hl : ∀ r ∈ l, r.In) (hlen : l.length < 9223372036854775807) : TSp 13 [.ls 4 (l.map rD)] (rD (boxL l)) := by
  refine spo_rect_Box (by rfl) ?_
  dsimp only [c_rect_Box, r_rect_Box, run_skip, run_reg, plainB, ifB_true, run_seq, run_blk, run_exit, run_ret, run_ite, iteR, regK, thenK_nrm, thenK_exit, thenK_ret, thenR_nrm, thenR_exit, thenR_ret, blkK, keepS, keepE, runOps_nil, runOps_cons, goG_some, goOn_ok, goOn_call, goOn_row, goOn_arr, goOn_ask, goOn_put, guardP, guardO, notInO, stepF, stepLd, stepSt, stepIxs, stepIxa, stepLen, stepApp, stepCpy, stepPick, stepSls, stepSst, stepSla, evX, evL, evB, rd, get, subG, memG, freshG, notInG, hyps, gob, impP, allP, partD, partOf, isOne, isPtr, nth, takeN, dropN, cellsD, lenB, fillD, thirds, entN, setE, sizeE, addE, setL, setN, putE, env0, eqCs, eqAux, eqC, bA, bO, bN, bE, negB, kEq, isShr, lendL, lend, frz, frzL, zRow, closed, closedL, rowsOf, binI, retK, retG, atRet, retD, lendO, resL, resD, oneD, renD, renL, renE, renEs, rho, putAll, entsN, List.append, List.nil_append, List.cons_append, List.append_nil, cond, Nat.reduceBEq, Nat.reduceAdd, Nat.beq]
  refine loop_ind (α := {x : Nat × Rc // x.1 ≤ l.length ∧ Vz x.2 ∧ (l.drop x.1).foldl boxStep x.2 = boxL l})
    (fun x => st13 l x.1.1 x.1.2) (fun x => l.length - x.1.1) ?_ ⟨(0, .o), by simp [Vz, boxL]⟩ (by simp [st13, Rc.o])
  rintro ⟨⟨i, box⟩, h4, h5, h6⟩ I ih
  dsimp only at h4 h5 h6
  dsimp only [st13, run_skip, run_reg, plainB, ifB_true, run_seq, run_blk, run_exit, run_ret, run_ite, iteR, regK, thenK_nrm, thenK_exit, thenK_ret, thenR_nrm, thenR_exit, thenR_ret, blkK, keepS, keepE, runOps_nil, runOps_cons, goG_some, goOn_ok, goOn_call, goOn_row, goOn_arr, goOn_ask, goOn_put, guardP, guardO, notInO, stepF, stepLd, stepSt, stepIxs, stepIxa, stepLen, stepApp, stepCpy, stepPick, stepSls, stepSst, stepSla, evX, evL, evB, rd, get, subG, memG, freshG, notInG, hyps, gob, impP, allP, partD, partOf, isOne, isPtr, nth, takeN, dropN, cellsD, lenB, fillD, thirds, entN, setE, sizeE, addE, setL, setN, putE, env0, eqCs, eqAux, eqC, bA, bO, bN, bE, negB, kEq, isShr, lendL, lend, frz, frzL, zRow, closed, closedL, rowsOf, binI, retK, retG, atRet, retD, lendO, resL, resD, oneD, renD, renL, renE, renEs, rho, putAll, entsN, List.append, List.nil_append, List.cons_append, List.append_nil, cond, Nat.reduceBEq, Nat.reduceAdd, Nat.beq]
  refine ⟨fun hi => ?_, fun hi => ?_⟩
  · simp only [decide_eq_true_eq] at hi
    have hi4 : i < l.length := by omega
    refine ⟨⟨rfl, by omega, by simpa using hi4⟩, ?_⟩
    have hr := hl _ (List.getElem_mem hi4)
    have hdrop : l.drop i = l[i] :: l.drop (i + 1) := List.drop_eq_getElem_cons hi4
    refine row_intro (rD l[i]) (rD l[i]) (by simp [impP, hi4]) rfl ?_
    rw [hdrop, List.foldl_cons] at h6
    generalize l[i] = r at *
    dsimp only [rD, run_skip, run_reg, plainB, ifB_true, run_seq, run_blk, run_exit, run_ret, run_ite, iteR, regK, thenK_nrm, thenK_exit, thenK_ret, thenR_nrm, thenR_exit, thenR_ret, blkK, keepS, keepE, runOps_nil, runOps_cons, goG_some, goOn_ok, goOn_call, goOn_row, goOn_arr, goOn_ask, goOn_put, guardP, guardO, notInO, stepF, stepLd, stepSt, stepIxs, stepIxa, stepLen, stepApp, stepCpy, stepPick, stepSls, stepSst, stepSla, evX, evL, evB, rd, get, subG, memG, freshG, notInG, hyps, gob, impP, allP, partD, partOf, isOne, isPtr, nth, takeN, dropN, cellsD, lenB, fillD, thirds, entN, setE, sizeE, addE, setL, setN, putE, env0, eqCs, eqAux, eqC, bA, bO, bN, bE, negB, kEq, isShr, lendL, lend, frz, frzL, zRow, closed, closedL, rowsOf, binI, retK, retG, atRet, retD, lendO, resL, resD, oneD, renD, renL, renE, renEs, rho, putAll, entsN, List.append, List.nil_append, List.cons_append, List.append_nil, cond, Nat.reduceBEq, Nat.reduceAdd, Nat.beq]
    refine call_pure (sp_rect_Empty hr) ?_
    dsimp only [rD, run_skip, run_reg, plainB, ifB_true, run_seq, run_blk, run_exit, run_ret, run_ite, iteR, regK, thenK_nrm, thenK_exit, thenK_ret, thenR_nrm, thenR_exit, thenR_ret, blkK, keepS, keepE, runOps_nil, runOps_cons, goG_some, goOn_ok, goOn_call, goOn_row, goOn_arr, goOn_ask, goOn_put, guardP, guardO, notInO, stepF, stepLd, stepSt, stepIxs, stepIxa, stepLen, stepApp, stepCpy, stepPick, stepSls, stepSst, stepSla, evX, evL, evB, rd, get, subG, memG, freshG, notInG, hyps, gob, impP, allP, partD, partOf, isOne, isPtr, nth, takeN, dropN, cellsD, lenB, fillD, thirds, entN, setE, sizeE, addE, setL, setN, putE, env0, eqCs, eqAux, eqC, bA, bO, bN, bE, negB, kEq, isShr, lendL, lend, frz, frzL, zRow, closed, closedL, rowsOf, binI, retK, retG, atRet, retD, lendO, resL, resD, oneD, renD, renL, renE, renEs, rho, putAll, entsN, List.append, List.nil_append, List.cons_append, List.append_nil, cond, Nat.reduceBEq, Nat.reduceAdd, Nat.beq]
    have hnext := box_vz (r := r) h5
    have e0 : box.eq .o = (decide (box.x = 0) && (decide (box.y = 0) && (decide (box.w = 0) && decide (box.h = 0)))) := rfl
    refine ⟨fun he => ?_, fun he => ?_⟩
    · refine ⟨by simp only [fits]; omega, ?_⟩
      have e : boxStep box r = box := by unfold boxStep; rw [if_pos he]
      rw [e] at h6
      refine again (ih ⟨(i + 1, box), by dsimp only; omega, h5, h6⟩ (by dsimp only; omega)) ?_ ?_ rfl rfl
      · exact ⟨rfl, rfl, rfl, rfl, rfl, trivial⟩
      · exact ⟨rfl, rfl, trivial⟩
    · have hr' := empty_iff.1 he
      rw [← e0]
      refine ⟨fun hz => ?_, fun hz => ?_⟩
      · refine ⟨by simp only [fits]; omega, ?_⟩
        have e : boxStep box r = r := by unfold boxStep; rw [if_neg (by simp [he]), if_pos hz]
        rw [e] at h6
        refine again (ih ⟨(i + 1, r), by dsimp only; omega, .inr hr', h6⟩ (by dsimp only; omega)) ?_ ?_ rfl rfl
        · exact ⟨rfl, rfl, rfl, rfl, rfl, trivial⟩
        · exact ⟨rfl, rfl, trivial⟩
      · have hb := h5.resolve_left fun e => by rw [e] at hz; simp [Rc.eq] at hz
        have e : boxStep box r = betweenR (min box.x r.x) (min box.y r.y) (max (box.x + box.w) (r.x + r.w)) (max (box.y + box.h) (r.y + r.h)) := by unfold boxStep; rw [if_neg (by simp [he]), if_neg (by simp [hz])]
        simp only [Vr] at hb hr'
        have q1 : Pl1 (box.x + box.w) := by simp only [Pl1]; omega
        have q2 : Pl1 (r.x + r.w) := by simp only [Pl1]; omega
        have q3 : Pl1 (box.y + box.h) := by simp only [Pl1]; omega
        have q4 : Pl1 (r.y + r.h) := by simp only [Pl1]; omega
        refine ⟨q1.f, q2.f, q3.f, q4.f, ?_⟩
        refine call_pure (sp_rect_between (by simp only [Pl1]; omega) (by simp only [Pl1]; omega) (by simp only [Pl1] at *; omega) (by simp only [Pl1] at *; omega)) ?_
        rw [← e]
        dsimp only [rD, run_skip, run_reg, plainB, ifB_true, run_seq, run_blk, run_exit, run_ret, run_ite, iteR, regK, thenK_nrm, thenK_exit, thenK_ret, thenR_nrm, thenR_exit, thenR_ret, blkK, keepS, keepE, runOps_nil, runOps_cons, goG_some, goOn_ok, goOn_call, goOn_row, goOn_arr, goOn_ask, goOn_put, guardP, guardO, notInO, stepF, stepLd, stepSt, stepIxs, stepIxa, stepLen, stepApp, stepCpy, stepPick, stepSls, stepSst, stepSla, evX, evL, evB, rd, get, subG, memG, freshG, notInG, hyps, gob, impP, allP, partD, partOf, isOne, isPtr, nth, takeN, dropN, cellsD, lenB, fillD, thirds, entN, setE, sizeE, addE, setL, setN, putE, env0, eqCs, eqAux, eqC, bA, bO, bN, bE, negB, kEq, isShr, lendL, lend, frz, frzL, zRow, closed, closedL, rowsOf, binI, retK, retG, atRet, retD, lendO, resL, resD, oneD, renD, renL, renE, renEs, rho, putAll, entsN, List.append, List.nil_append, List.cons_append, List.append_nil, cond, Nat.reduceBEq, Nat.reduceAdd, Nat.beq]
        refine ⟨by simp only [fits]; omega, ?_⟩
        refine again (ih ⟨(i + 1, boxStep box r), by dsimp only; omega, hnext, h6⟩ (by dsimp only; omega)) ?_ ?_ rfl rfl
        · exact ⟨rfl, rfl, rfl, rfl, rfl, trivial⟩
        · exact ⟨rfl, rfl, trivial⟩
  · simp only [decide_eq_false_iff_not] at hi
    have : i = l.length := by omega
    subst this
    have : box = boxL l := by simpa using h6
    rw [this]; rfl

theorem sp_law12_awake : TSp 9 [] (.bool true) := by
  refine spo_law12_awake (by rfl) ?_
  have ha : (⟨0, 0, 4, 3⟩ : Rc).In := by simp [Rc.In, fits]
  have hb : (⟨2, 1, 9, 9⟩ : Rc).In := by simp [Rc.In, fits]
  have e1 : minusL ⟨0, 0, 4, 3⟩ ⟨2, 1, 9, 9⟩ = [⟨0, 0, 4, 1⟩, ⟨0, 1, 2, 2⟩] := by decide
  have e2 : crossR ⟨0, 0, 4, 3⟩ ⟨2, 1, 9, 9⟩ = ⟨2, 1, 2, 2⟩ := by decide
  have e3 : boxL [⟨0, 0, 4, 3⟩, ⟨2, 1, 9, 9⟩] = ⟨0, 0, 11, 10⟩ := by decide
  have e4 : areaI ⟨0, 0, 4, 3⟩ = 12 := by decide
  have e5 : okB ⟨0, 0, -1, 1⟩ = false := by decide
  have s1 := e1 ▸ sp_rect_Minus ha hb
  have s2 := e2 ▸ sp_rect_Cross ha hb
  have s3 := e3 ▸ sp_rect_Box (l := [⟨0, 0, 4, 3⟩, ⟨2, 1, 9, 9⟩]) (by simp [ha, hb]) (by decide)
  have s4 := e4 ▸ sp_rect_Area ha
  have s5 := sp_rect_Check (r := ⟨0, 0, -1, 1⟩) (by simp [Rc.In, fits])
  rw [e5] at s5
  dsimp only [c_law12_awake, r_law12_awake, rD, run_skip, run_reg, plainB, ifB_true, run_seq, run_blk, run_exit, run_ret, run_ite, iteR, regK, thenK_nrm, thenK_exit, thenK_ret, thenR_nrm, thenR_exit, thenR_ret, blkK, keepS, keepE, runOps_nil, runOps_cons, goG_some, goOn_ok, goOn_call, goOn_row, goOn_arr, goOn_ask, goOn_put, guardP, guardO, notInO, stepF, stepLd, stepSt, stepIxs, stepIxa, stepLen, stepApp, stepCpy, stepPick, stepSls, stepSst, stepSla, evX, evL, evB, rd, get, subG, memG, freshG, notInG, hyps, gob, impP, allP, partD, partOf, isOne, isPtr, nth, takeN, dropN, cellsD, lenB, fillD, thirds, entN, setE, sizeE, addE, setL, setN, putE, env0, eqCs, eqAux, eqC, bA, bO, bN, bE, negB, kEq, isShr, lendL, lend, frz, frzL, zRow, closed, closedL, rowsOf, binI, retK, retG, atRet, retD, lendO, resL, resD, oneD, renD, renL, renE, renEs, rho, putAll, entsN, List.append, List.nil_append, List.cons_append, List.append_nil, cond, Nat.reduceBEq, Nat.reduceAdd, Nat.beq]
  refine call_pure s1 ?_
  dsimp only [c_law12_awake, r_law12_awake, rD, List.map, run_skip, run_reg, plainB, ifB_true, run_seq, run_blk, run_exit, run_ret, run_ite, iteR, regK, thenK_nrm, thenK_exit, thenK_ret, thenR_nrm, thenR_exit, thenR_ret, blkK, keepS, keepE, runOps_nil, runOps_cons, goG_some, goOn_ok, goOn_call, goOn_row, goOn_arr, goOn_ask, goOn_put, guardP, guardO, notInO, stepF, stepLd, stepSt, stepIxs, stepIxa, stepLen, stepApp, stepCpy, stepPick, stepSls, stepSst, stepSla, evX, evL, evB, rd, get, subG, memG, freshG, notInG, hyps, gob, impP, allP, partD, partOf, isOne, isPtr, nth, takeN, dropN, cellsD, lenB, fillD, thirds, entN, setE, sizeE, addE, setL, setN, putE, env0, eqCs, eqAux, eqC, bA, bO, bN, bE, negB, kEq, isShr, lendL, lend, frz, frzL, zRow, closed, closedL, rowsOf, binI, retK, retG, atRet, retD, lendO, resL, resD, oneD, renD, renL, renE, renEs, rho, putAll, entsN, List.append, List.nil_append, List.cons_append, List.append_nil, cond, Nat.reduceBEq, Nat.reduceAdd, Nat.beq]
  refine call_pure s2 ?_
  dsimp only [c_law12_awake, r_law12_awake, rD, List.map, run_skip, run_reg, plainB, ifB_true, run_seq, run_blk, run_exit, run_ret, run_ite, iteR, regK, thenK_nrm, thenK_exit, thenK_ret, thenR_nrm, thenR_exit, thenR_ret, blkK, keepS, keepE, runOps_nil, runOps_cons, goG_some, goOn_ok, goOn_call, goOn_row, goOn_arr, goOn_ask, goOn_put, guardP, guardO, notInO, stepF, stepLd, stepSt, stepIxs, stepIxa, stepLen, stepApp, stepCpy, stepPick, stepSls, stepSst, stepSla, evX, evL, evB, rd, get, subG, memG, freshG, notInG, hyps, gob, impP, allP, partD, partOf, isOne, isPtr, nth, takeN, dropN, cellsD, lenB, fillD, thirds, entN, setE, sizeE, addE, setL, setN, putE, env0, eqCs, eqAux, eqC, bA, bO, bN, bE, negB, kEq, isShr, lendL, lend, frz, frzL, zRow, closed, closedL, rowsOf, binI, retK, retG, atRet, retD, lendO, resL, resD, oneD, renD, renL, renE, renEs, rho, putAll, entsN, List.append, List.nil_append, List.cons_append, List.append_nil, cond, Nat.reduceBEq, Nat.reduceAdd, Nat.beq]
  refine call_pure (fun _ => s3) ?_
  dsimp only [c_law12_awake, r_law12_awake, rD, List.map, run_skip, run_reg, plainB, ifB_true, run_seq, run_blk, run_exit, run_ret, run_ite, iteR, regK, thenK_nrm, thenK_exit, thenK_ret, thenR_nrm, thenR_exit, thenR_ret, blkK, keepS, keepE, runOps_nil, runOps_cons, goG_some, goOn_ok, goOn_call, goOn_row, goOn_arr, goOn_ask, goOn_put, guardP, guardO, notInO, stepF, stepLd, stepSt, stepIxs, stepIxa, stepLen, stepApp, stepCpy, stepPick, stepSls, stepSst, stepSla, evX, evL, evB, rd, get, subG, memG, freshG, notInG, hyps, gob, impP, allP, partD, partOf, isOne, isPtr, nth, takeN, dropN, cellsD, lenB, fillD, thirds, entN, setE, sizeE, addE, setL, setN, putE, env0, eqCs, eqAux, eqC, bA, bO, bN, bE, negB, kEq, isShr, lendL, lend, frz, frzL, zRow, closed, closedL, rowsOf, binI, retK, retG, atRet, retD, lendO, resL, resD, oneD, renD, renL, renE, renEs, rho, putAll, entsN, List.append, List.nil_append, List.cons_append, List.append_nil, cond, Nat.reduceBEq, Nat.reduceAdd, Nat.beq]
  refine ⟨fun _ => ⟨rfl, by decide, by simp⟩, row_intro _ _ (fun _ => rfl) rfl ?_⟩
  dsimp only [c_law12_awake, r_law12_awake, rD, List.map, run_skip, run_reg, plainB, ifB_true, run_seq, run_blk, run_exit, run_ret, run_ite, iteR, regK, thenK_nrm, thenK_exit, thenK_ret, thenR_nrm, thenR_exit, thenR_ret, blkK, keepS, keepE, runOps_nil, runOps_cons, goG_some, goOn_ok, goOn_call, goOn_row, goOn_arr, goOn_ask, goOn_put, guardP, guardO, notInO, stepF, stepLd, stepSt, stepIxs, stepIxa, stepLen, stepApp, stepCpy, stepPick, stepSls, stepSst, stepSla, evX, evL, evB, rd, get, subG, memG, freshG, notInG, hyps, gob, impP, allP, partD, partOf, isOne, isPtr, nth, takeN, dropN, cellsD, lenB, fillD, thirds, entN, setE, sizeE, addE, setL, setN, putE, env0, eqCs, eqAux, eqC, bA, bO, bN, bE, negB, kEq, isShr, lendL, lend, frz, frzL, zRow, closed, closedL, rowsOf, binI, retK, retG, atRet, retD, lendO, resL, resD, oneD, renD, renL, renE, renEs, rho, putAll, entsN, List.append, List.nil_append, List.cons_append, List.append_nil, cond, Nat.reduceBEq, Nat.reduceAdd, Nat.beq]
  refine ⟨fun _ => ⟨rfl, by decide, by simp⟩, row_intro _ _ (fun _ => rfl) rfl ?_⟩
  dsimp only [c_law12_awake, r_law12_awake, rD, List.map, run_skip, run_reg, plainB, ifB_true, run_seq, run_blk, run_exit, run_ret, run_ite, iteR, regK, thenK_nrm, thenK_exit, thenK_ret, thenR_nrm, thenR_exit, thenR_ret, blkK, keepS, keepE, runOps_nil, runOps_cons, goG_some, goOn_ok, goOn_call, goOn_row, goOn_arr, goOn_ask, goOn_put, guardP, guardO, notInO, stepF, stepLd, stepSt, stepIxs, stepIxa, stepLen, stepApp, stepCpy, stepPick, stepSls, stepSst, stepSla, evX, evL, evB, rd, get, subG, memG, freshG, notInG, hyps, gob, impP, allP, partD, partOf, isOne, isPtr, nth, takeN, dropN, cellsD, lenB, fillD, thirds, entN, setE, sizeE, addE, setL, setN, putE, env0, eqCs, eqAux, eqC, bA, bO, bN, bE, negB, kEq, isShr, lendL, lend, frz, frzL, zRow, closed, closedL, rowsOf, binI, retK, retG, atRet, retD, lendO, resL, resD, oneD, renD, renL, renE, renEs, rho, putAll, entsN, List.append, List.nil_append, List.cons_append, List.append_nil, cond, Nat.reduceBEq, Nat.reduceAdd, Nat.beq]
  refine call_pure (fun _ => s4) ?_
  dsimp only [c_law12_awake, r_law12_awake, rD, List.map, run_skip, run_reg, plainB, ifB_true, run_seq, run_blk, run_exit, run_ret, run_ite, iteR, regK, thenK_nrm, thenK_exit, thenK_ret, thenR_nrm, thenR_exit, thenR_ret, blkK, keepS, keepE, runOps_nil, runOps_cons, goG_some, goOn_ok, goOn_call, goOn_row, goOn_arr, goOn_ask, goOn_put, guardP, guardO, notInO, stepF, stepLd, stepSt, stepIxs, stepIxa, stepLen, stepApp, stepCpy, stepPick, stepSls, stepSst, stepSla, evX, evL, evB, rd, get, subG, memG, freshG, notInG, hyps, gob, impP, allP, partD, partOf, isOne, isPtr, nth, takeN, dropN, cellsD, lenB, fillD, thirds, entN, setE, sizeE, addE, setL, setN, putE, env0, eqCs, eqAux, eqC, bA, bO, bN, bE, negB, kEq, isShr, lendL, lend, frz, frzL, zRow, closed, closedL, rowsOf, binI, retK, retG, atRet, retD, lendO, resL, resD, oneD, renD, renL, renE, renEs, rho, putAll, entsN, List.append, List.nil_append, List.cons_append, List.append_nil, cond, Nat.reduceBEq, Nat.reduceAdd, Nat.beq]
  refine call_pure (fun _ => s5) ?_
  dsimp only [c_law12_awake, r_law12_awake, rD, List.map, run_skip, run_reg, plainB, ifB_true, run_seq, run_blk, run_exit, run_ret, run_ite, iteR, regK, thenK_nrm, thenK_exit, thenK_ret, thenR_nrm, thenR_exit, thenR_ret, blkK, keepS, keepE, runOps_nil, runOps_cons, goG_some, goOn_ok, goOn_call, goOn_row, goOn_arr, goOn_ask, goOn_put, guardP, guardO, notInO, stepF, stepLd, stepSt, stepIxs, stepIxa, stepLen, stepApp, stepCpy, stepPick, stepSls, stepSst, stepSla, evX, evL, evB, rd, get, subG, memG, freshG, notInG, hyps, gob, impP, allP, partD, partOf, isOne, isPtr, nth, takeN, dropN, cellsD, lenB, fillD, thirds, entN, setE, sizeE, addE, setL, setN, putE, env0, eqCs, eqAux, eqC, bA, bO, bN, bE, negB, kEq, isShr, lendL, lend, frz, frzL, zRow, closed, closedL, rowsOf, binI, retK, retG, atRet, retD, lendO, resL, resD, oneD, renD, renL, renE, renEs, rho, putAll, entsN, List.append, List.nil_append, List.cons_append, List.append_nil, cond, Nat.reduceBEq, Nat.reduceAdd, Nat.beq]
  rfl

end Go.AM
