
/- Chapter 36: steps. -/
import Derived.Test.YtfoepbkbclmghaaV7
set_option linter.all false
namespace Go.AM
open Go Go.Proofs

structure Stp where
  id : Int
  en : Bool
  det : Int
  deriving DecidableEq
def stD (s : Stp) : D := .agg [.int .u32 s.id, .bool s.en, .int .i64 s.det]
def sL (l : List Stp) : List D := l.map stD
theorem sL_len (l : List Stp) : (sL l).length = l.length := by simp [sL]
theorem sL_at {l : List Stp} {i : Nat} (h : i < l.length) : (sL l)[i]? = some (stD l[i]) := by simp [sL, h]
theorem sL_app (a b : List Stp) : sL a ++ sL b = sL (a ++ b) := by simp [sL]

theorem sm_cross_do {s : Stp} (h0 : s.id ≠ 0) {l : List Stp} {v : Nat} (hl : l.length < 1000000) : TSpM 20 [stD s, .box 0 0] [.cells [.own 1 v], .arr 42 3 v (sL l)] (.tup []) [.cells [.own 1 (v + 1)], .arr 42 3 (v + 1) (sL (l ++ [s]))] := by
  refine spm_cross_Path_1 (by rfl) ?_
  dsimp only [c_cross_Path_1, r_cross_Path_1, stD, run_skip, run_reg, plainB, ifB_true, run_seq, run_blk, run_exit, run_ret, run_ite, iteR, regK, thenK_nrm, thenK_exit, thenK_ret, thenR_nrm, thenR_exit, thenR_ret, blkK, keepS, keepE, runOps_nil, runOps_cons, goG_some, fpOk, foot, entOf, allN, memN, goOn_ok, goOn_call, goOn_row, goOn_arr, goOn_ask, goOn_put, goOn_prm, goOn_callK, goOn_all, guardP, guardO, notInO, stepF, stepLd, stepSt, stepIxs, stepIxa, stepLen, stepApp, stepCpy, stepPick, stepSls, stepSst, stepSla, bareZ, evX, evL, evB, rd, get, subG, memG, freshG, notInG, hyps, gob, impP, allP, partD, partOf, isOne, isPtr, nth, takeN, dropN, cellsD, lenB, fillD, thirds, entN, setE, sizeE, addE, setL, setN, putE, env0, eqCs, eqAux, eqC, bA, bO, bN, bE, negB, kEq, isShr, lendL, lend, frz, frzL, zRow, closed, closedL, rowsOf, binI, retK, retG, atRet, retD, lendO, resL, resD, oneD, renD, renL, renE, renEs, rho, putAll, entsN, List.append, List.nil_append, List.cons_append, List.append_nil, cond, Nat.reduceBEq, Nat.reduceAdd, Nat.beq]
  rw [show decide (s.id = 0) = false from decide_eq_false h0]
  refine ⟨fun _ => ?_, nofun⟩
  refine ⟨⟨rfl, rfl, rfl, rfl, by rw [sL_len]; simp; omega⟩, ?_⟩
  rw [show sL l ++ [D.agg [.int .u32 s.id, .bool s.en, .int .i64 s.det]] = sL (l ++ [s]) from sL_app l [s]]
  exact Rt.cut (Nat.le_refl _) ⟨rfl, rfl, trivial⟩ rfl rfl

def mkS (en : Bool) (det : Int) (id : Int) : Stp := ⟨id, en, det⟩
structure CrX where
  i : Nat
def stU (p : List Int) (l : List Stp) (en : Bool) (det : Int) (v i : Nat) : St := ⟨[(1, [], .bool en), (2, [], .int .i64 det), (3, [], .fn 20 [.box 0 0]), (10, [], .ls 1 (iL p)), (11, [], .int .i64 p.length), (12, [], .int .i64 i)], [.cells [.own 1 (v + i)], .arr 42 3 (v + i) (sL (l ++ (p.take i).map (mkS en det)))]⟩
theorem sm_cross_up {p : List Int} (hp : ∀ x ∈ p, x ≠ 0) {l : List Stp} {en : Bool} {det : Int} {v : Nat} (hl : l.length + p.length < 1000000) :
    TSpM 23 [.ls 1 (iL p), .bool en, .int .i64 det, .fn 20 [.box 0 0]] [.cells [.own 1 v], .arr 42 3 v (sL l)] (.tup []) [.cells [.own 1 (v + p.length)], .arr 42 3 (v + p.length) (sL (l ++ p.map (mkS en det)))] := by
  refine spm_cross_up (by rfl) ?_
  dsimp only [c_cross_up, r_cross_up, run_skip, run_reg, plainB, ifB_true, run_seq, run_blk, run_exit, run_ret, run_ite, iteR, regK, thenK_nrm, thenK_exit, thenK_ret, thenR_nrm, thenR_exit, thenR_ret, blkK, keepS, keepE, runOps_nil, runOps_cons, goG_some, fpOk, foot, entOf, allN, memN, goOn_ok, goOn_call, goOn_row, goOn_arr, goOn_ask, goOn_put, goOn_prm, goOn_callK, goOn_all, guardP, guardO, notInO, stepF, stepLd, stepSt, stepIxs, stepIxa, stepLen, stepApp, stepCpy, stepPick, stepSls, stepSst, stepSla, bareZ, evX, evL, evB, rd, get, subG, memG, freshG, notInG, hyps, gob, impP, allP, partD, partOf, isOne, isPtr, nth, takeN, dropN, cellsD, lenB, fillD, thirds, entN, setE, sizeE, addE, setL, setN, putE, env0, eqCs, eqAux, eqC, bA, bO, bN, bE, negB, kEq, isShr, lendL, lend, frz, frzL, zRow, closed, closedL, rowsOf, binI, retK, retG, atRet, retD, lendO, resL, resD, oneD, renD, renL, renE, renEs, rho, putAll, entsN, List.append, List.nil_append, List.cons_append, List.append_nil, cond, Nat.reduceBEq, Nat.reduceAdd, Nat.beq]
  rw [iL_len]
  refine loop_ind (α := {i : Nat // i ≤ p.length}) (fun i => stU p l en det v i.1) (fun i => p.length - i.1) ?_ ⟨0, by simp⟩ (by simp [stU])
  rintro ⟨i, hi⟩ I ih
  dsimp only [stU, run_skip, run_reg, plainB, ifB_true, run_seq, run_blk, run_exit, run_ret, run_ite, iteR, regK, thenK_nrm, thenK_exit, thenK_ret, thenR_nrm, thenR_exit, thenR_ret, blkK, keepS, keepE, runOps_nil, runOps_cons, goG_some, fpOk, foot, entOf, allN, memN, goOn_ok, goOn_call, goOn_row, goOn_arr, goOn_ask, goOn_put, goOn_prm, goOn_callK, goOn_all, guardP, guardO, notInO, stepF, stepLd, stepSt, stepIxs, stepIxa, stepLen, stepApp, stepCpy, stepPick, stepSls, stepSst, stepSla, bareZ, evX, evL, evB, rd, get, subG, memG, freshG, notInG, hyps, gob, impP, allP, partD, partOf, isOne, isPtr, nth, takeN, dropN, cellsD, lenB, fillD, thirds, entN, setE, sizeE, addE, setL, setN, putE, env0, eqCs, eqAux, eqC, bA, bO, bN, bE, negB, kEq, isShr, lendL, lend, frz, frzL, zRow, closed, closedL, rowsOf, binI, retK, retG, atRet, retD, lendO, resL, resD, oneD, renD, renL, renE, renEs, rho, putAll, entsN, List.append, List.nil_append, List.cons_append, List.append_nil, cond, Nat.reduceBEq, Nat.reduceAdd, Nat.beq]
  refine ⟨fun hj => ?_, fun hj => ?_⟩
  · have hj : i < p.length := by simp at hj; omega
    refine ⟨⟨rfl, by omega, by rw [iL_len]; omega⟩, row_intro _ _ (iL_at hj) rfl ?_⟩
    dsimp only [run_skip, run_reg, plainB, ifB_true, run_seq, run_blk, run_exit, run_ret, run_ite, iteR, regK, thenK_nrm, thenK_exit, thenK_ret, thenR_nrm, thenR_exit, thenR_ret, blkK, keepS, keepE, runOps_nil, runOps_cons, goG_some, fpOk, foot, entOf, allN, memN, goOn_ok, goOn_call, goOn_row, goOn_arr, goOn_ask, goOn_put, goOn_prm, goOn_callK, goOn_all, guardP, guardO, notInO, stepF, stepLd, stepSt, stepIxs, stepIxa, stepLen, stepApp, stepCpy, stepPick, stepSls, stepSst, stepSla, bareZ, evX, evL, evB, rd, get, subG, memG, freshG, notInG, hyps, gob, impP, allP, partD, partOf, isOne, isPtr, nth, takeN, dropN, cellsD, lenB, fillD, thirds, entN, setE, sizeE, addE, setL, setN, putE, env0, eqCs, eqAux, eqC, bA, bO, bN, bE, negB, kEq, isShr, lendL, lend, frz, frzL, zRow, closed, closedL, rowsOf, binI, retK, retG, atRet, retD, lendO, resL, resD, oneD, renD, renL, renE, renEs, rho, putAll, entsN, List.append, List.nil_append, List.cons_append, List.append_nil, cond, Nat.reduceBEq, Nat.reduceAdd, Nat.beq]
    have h1 := sm_cross_do (s := ⟨p[i], en, det⟩) (hp _ (List.getElem_mem hj)) (l := l ++ (p.take i).map (mkS en det)) (v := v + i) (by simp; omega)
    refine call_own [0, 1] h1 rfl rfl ?_
    dsimp only [run_skip, run_reg, plainB, ifB_true, run_seq, run_blk, run_exit, run_ret, run_ite, iteR, regK, thenK_nrm, thenK_exit, thenK_ret, thenR_nrm, thenR_exit, thenR_ret, blkK, keepS, keepE, runOps_nil, runOps_cons, goG_some, fpOk, foot, entOf, allN, memN, goOn_ok, goOn_call, goOn_row, goOn_arr, goOn_ask, goOn_put, goOn_prm, goOn_callK, goOn_all, guardP, guardO, notInO, stepF, stepLd, stepSt, stepIxs, stepIxa, stepLen, stepApp, stepCpy, stepPick, stepSls, stepSst, stepSla, bareZ, evX, evL, evB, rd, get, subG, memG, freshG, notInG, hyps, gob, impP, allP, partD, partOf, isOne, isPtr, nth, takeN, dropN, cellsD, lenB, fillD, thirds, entN, setE, sizeE, addE, setL, setN, putE, env0, eqCs, eqAux, eqC, bA, bO, bN, bE, negB, kEq, isShr, lendL, lend, frz, frzL, zRow, closed, closedL, rowsOf, binI, retK, retG, atRet, retD, lendO, resL, resD, oneD, renD, renL, renE, renEs, rho, putAll, entsN, List.append, List.nil_append, List.cons_append, List.append_nil, cond, Nat.reduceBEq, Nat.reduceAdd, Nat.beq]
    refine ⟨by simp only [fits]; omega, ?_⟩
    have e : l ++ (p.take i).map (mkS en det) ++ [⟨p[i], en, det⟩] = l ++ (p.take (i + 1)).map (mkS en det) := by
      rw [List.take_succ_eq_append_getElem hj, List.map_append, List.append_assoc]; rfl
    rw [e]
    exact again (ih ⟨i + 1, by omega⟩ (by dsimp only; omega)) ⟨rfl, rfl, rfl, rfl, rfl, rfl, trivial⟩ ⟨rfl, rfl, trivial⟩ rfl rfl
  · have hj : i = p.length := by simp at hj; omega
    subst hj
    rw [List.take_length]
    exact Rt.cut (Nat.le_refl _) ⟨rfl, rfl, trivial⟩ rfl rfl

def stDn (p : List Int) (l : List Stp) (en : Bool) (det : Int) (v i : Nat) : St := ⟨[(0, [], .ls 1 (iL p)), (1, [], .bool en), (2, [], .int .i64 det), (3, [], .fn 20 [.box 0 0]), (8, [], .int .i64 ((p.length : Int) - 1 - i))], [.cells [.own 1 (v + i)], .arr 42 3 (v + i) (sL (l ++ (p.reverse.take i).map (mkS en det)))]⟩
theorem sm_cross_down {p : List Int} (hp : ∀ x ∈ p, x ≠ 0) {l : List Stp} {en : Bool} {det : Int} {v : Nat} (hl : l.length + p.length < 1000000) :
    TSpM 25 [.ls 1 (iL p), .bool en, .int .i64 det, .fn 20 [.box 0 0]] [.cells [.own 1 v], .arr 42 3 v (sL l)] (.tup []) [.cells [.own 1 (v + p.length)], .arr 42 3 (v + p.length) (sL (l ++ p.reverse.map (mkS en det)))] := by
  refine spm_cross_down (by rfl) ?_
  dsimp only [c_cross_down, r_cross_down, run_skip, run_reg, plainB, ifB_true, run_seq, run_blk, run_exit, run_ret, run_ite, iteR, regK, thenK_nrm, thenK_exit, thenK_ret, thenR_nrm, thenR_exit, thenR_ret, blkK, keepS, keepE, runOps_nil, runOps_cons, goG_some, fpOk, foot, entOf, allN, memN, goOn_ok, goOn_call, goOn_row, goOn_arr, goOn_ask, goOn_put, goOn_prm, goOn_callK, goOn_all, guardP, guardO, notInO, stepF, stepLd, stepSt, stepIxs, stepIxa, stepLen, stepApp, stepCpy, stepPick, stepSls, stepSst, stepSla, bareZ, evX, evL, evB, rd, get, subG, memG, freshG, notInG, hyps, gob, impP, allP, partD, partOf, isOne, isPtr, nth, takeN, dropN, cellsD, lenB, fillD, thirds, entN, setE, sizeE, addE, setL, setN, putE, env0, eqCs, eqAux, eqC, bA, bO, bN, bE, negB, kEq, isShr, lendL, lend, frz, frzL, zRow, closed, closedL, rowsOf, binI, retK, retG, atRet, retD, lendO, resL, resD, oneD, renD, renL, renE, renEs, rho, putAll, entsN, List.append, List.nil_append, List.cons_append, List.append_nil, cond, Nat.reduceBEq, Nat.reduceAdd, Nat.beq]
  rw [iL_len]
  refine ⟨by simp only [fits]; omega, ?_⟩
  refine loop_ind (α := {i : Nat // i ≤ p.length}) (fun i => stDn p l en det v i.1) (fun i => p.length - i.1) ?_ ⟨0, by simp⟩ (by simp [stDn])
  rintro ⟨i, hi⟩ I ih
  dsimp only [stDn, run_skip, run_reg, plainB, ifB_true, run_seq, run_blk, run_exit, run_ret, run_ite, iteR, regK, thenK_nrm, thenK_exit, thenK_ret, thenR_nrm, thenR_exit, thenR_ret, blkK, keepS, keepE, runOps_nil, runOps_cons, goG_some, fpOk, foot, entOf, allN, memN, goOn_ok, goOn_call, goOn_row, goOn_arr, goOn_ask, goOn_put, goOn_prm, goOn_callK, goOn_all, guardP, guardO, notInO, stepF, stepLd, stepSt, stepIxs, stepIxa, stepLen, stepApp, stepCpy, stepPick, stepSls, stepSst, stepSla, bareZ, evX, evL, evB, rd, get, subG, memG, freshG, notInG, hyps, gob, impP, allP, partD, partOf, isOne, isPtr, nth, takeN, dropN, cellsD, lenB, fillD, thirds, entN, setE, sizeE, addE, setL, setN, putE, env0, eqCs, eqAux, eqC, bA, bO, bN, bE, negB, kEq, isShr, lendL, lend, frz, frzL, zRow, closed, closedL, rowsOf, binI, retK, retG, atRet, retD, lendO, resL, resD, oneD, renD, renL, renE, renEs, rho, putAll, entsN, List.append, List.nil_append, List.cons_append, List.append_nil, cond, Nat.reduceBEq, Nat.reduceAdd, Nat.beq]
  refine ⟨fun hj => ?_, fun hj => ?_⟩
  · have hj : i < p.length := by simp at hj; omega
    have hk : ((p.length : Int) - 1 - i).toNat = p.length - 1 - i := by omega
    refine ⟨⟨rfl, by omega, by rw [iL_len]; omega⟩, row_intro _ _ (by rw [hk]; exact iL_at (by omega)) rfl ?_⟩
    dsimp only [run_skip, run_reg, plainB, ifB_true, run_seq, run_blk, run_exit, run_ret, run_ite, iteR, regK, thenK_nrm, thenK_exit, thenK_ret, thenR_nrm, thenR_exit, thenR_ret, blkK, keepS, keepE, runOps_nil, runOps_cons, goG_some, fpOk, foot, entOf, allN, memN, goOn_ok, goOn_call, goOn_row, goOn_arr, goOn_ask, goOn_put, goOn_prm, goOn_callK, goOn_all, guardP, guardO, notInO, stepF, stepLd, stepSt, stepIxs, stepIxa, stepLen, stepApp, stepCpy, stepPick, stepSls, stepSst, stepSla, bareZ, evX, evL, evB, rd, get, subG, memG, freshG, notInG, hyps, gob, impP, allP, partD, partOf, isOne, isPtr, nth, takeN, dropN, cellsD, lenB, fillD, thirds, entN, setE, sizeE, addE, setL, setN, putE, env0, eqCs, eqAux, eqC, bA, bO, bN, bE, negB, kEq, isShr, lendL, lend, frz, frzL, zRow, closed, closedL, rowsOf, binI, retK, retG, atRet, retD, lendO, resL, resD, oneD, renD, renL, renE, renEs, rho, putAll, entsN, List.append, List.nil_append, List.cons_append, List.append_nil, cond, Nat.reduceBEq, Nat.reduceAdd, Nat.beq]
    have hr : p.reverse[i]'(by simp; omega) = p[p.length - 1 - i] := by rw [List.getElem_reverse]
    have h1 := sm_cross_do (s := ⟨p[p.length - 1 - i], en, det⟩) (hp _ (List.getElem_mem _)) (l := l ++ (p.reverse.take i).map (mkS en det)) (v := v + i) (by simp; omega)
    refine call_own [0, 1] h1 rfl rfl ?_
    dsimp only [run_skip, run_reg, plainB, ifB_true, run_seq, run_blk, run_exit, run_ret, run_ite, iteR, regK, thenK_nrm, thenK_exit, thenK_ret, thenR_nrm, thenR_exit, thenR_ret, blkK, keepS, keepE, runOps_nil, runOps_cons, goG_some, fpOk, foot, entOf, allN, memN, goOn_ok, goOn_call, goOn_row, goOn_arr, goOn_ask, goOn_put, goOn_prm, goOn_callK, goOn_all, guardP, guardO, notInO, stepF, stepLd, stepSt, stepIxs, stepIxa, stepLen, stepApp, stepCpy, stepPick, stepSls, stepSst, stepSla, bareZ, evX, evL, evB, rd, get, subG, memG, freshG, notInG, hyps, gob, impP, allP, partD, partOf, isOne, isPtr, nth, takeN, dropN, cellsD, lenB, fillD, thirds, entN, setE, sizeE, addE, setL, setN, putE, env0, eqCs, eqAux, eqC, bA, bO, bN, bE, negB, kEq, isShr, lendL, lend, frz, frzL, zRow, closed, closedL, rowsOf, binI, retK, retG, atRet, retD, lendO, resL, resD, oneD, renD, renL, renE, renEs, rho, putAll, entsN, List.append, List.nil_append, List.cons_append, List.append_nil, cond, Nat.reduceBEq, Nat.reduceAdd, Nat.beq]
    refine ⟨by simp only [fits]; omega, ?_⟩
    have e : l ++ (p.reverse.take i).map (mkS en det) ++ [⟨p[p.length - 1 - i], en, det⟩] = l ++ (p.reverse.take (i + 1)).map (mkS en det) := by
      rw [List.take_succ_eq_append_getElem (by simp; omega), hr]; simp [mkS]
    rw [e, show (p.length : Int) - 1 - i - 1 = (p.length : Int) - 1 - ((i + 1 : Nat) : Int) by omega]
    exact again (ih ⟨i + 1, by omega⟩ (by dsimp only; omega)) ⟨rfl, rfl, rfl, rfl, rfl, trivial⟩ ⟨rfl, rfl, trivial⟩ rfl rfl
  · have hj : i = p.length := by simp at hj; omega
    subst hj
    rw [List.take_of_length_le (by simp)]
    exact Rt.cut (Nat.le_refl _) ⟨rfl, rfl, trivial⟩ rfl rfl

/-- A path without its first one, up to one. -/
def aboveL (p : List Int) (e : Int) : List Int := match p with
  | [] => []
  | _ :: r => if e ∈ r then r.take (idxF r e 0).toNat else r
theorem iL_drop1 (x : Int) (r : List Int) : (List.take ((iL (x :: r)).length : Int).toNat (iL (x :: r))).drop (1 : Int).toNat = iL r := by simp [iL, List.take_of_length_le]
theorem sp_cross_above {p : List Int} {e : Int} (hl : p.length < 1000000) : TSp 24 [.ls 1 (iL p), .int .u32 e] (.ls 1 (iL (aboveL p e))) := by
  refine spo_cross_above (by rfl) ?_
  dsimp only [c_cross_above, r_cross_above, run_skip, run_reg, plainB, ifB_true, run_seq, run_blk, run_exit, run_ret, run_ite, iteR, regK, thenK_nrm, thenK_exit, thenK_ret, thenR_nrm, thenR_exit, thenR_ret, blkK, keepS, keepE, runOps_nil, runOps_cons, goG_some, fpOk, foot, entOf, allN, memN, goOn_ok, goOn_call, goOn_row, goOn_arr, goOn_ask, goOn_put, goOn_prm, goOn_callK, goOn_all, guardP, guardO, notInO, stepF, stepLd, stepSt, stepIxs, stepIxa, stepLen, stepApp, stepCpy, stepPick, stepSls, stepSst, stepSla, bareZ, evX, evL, evB, rd, get, subG, memG, freshG, notInG, hyps, gob, impP, allP, partD, partOf, isOne, isPtr, nth, takeN, dropN, cellsD, lenB, fillD, thirds, entN, setE, sizeE, addE, setL, setN, putE, env0, eqCs, eqAux, eqC, bA, bO, bN, bE, negB, kEq, isShr, lendL, lend, frz, frzL, zRow, closed, closedL, rowsOf, binI, retK, retG, atRet, retD, lendO, resL, resD, oneD, renD, renL, renE, renEs, rho, putAll, entsN, List.append, List.nil_append, List.cons_append, List.append_nil, cond, Nat.reduceBEq, Nat.reduceAdd, Nat.beq]
  cases p with
  | nil => exact ⟨fun _ => ⟨rfl, rfl⟩, fun h => by simp [iL] at h⟩
  | cons x r =>
    simp only [List.length_cons] at hl
    refine ⟨fun h => by simp [iL] at h; omega, fun _ => ?_⟩
    refine ⟨⟨rfl, by omega, by simp [iL]; omega, by omega⟩, ?_⟩
    rw [iL_drop1]
    refine call_pure (sp_slices_Index (by omega)) ?_
    dsimp only [run_skip, run_reg, plainB, ifB_true, run_seq, run_blk, run_exit, run_ret, run_ite, iteR, regK, thenK_nrm, thenK_exit, thenK_ret, thenR_nrm, thenR_exit, thenR_ret, blkK, keepS, keepE, runOps_nil, runOps_cons, goG_some, fpOk, foot, entOf, allN, memN, goOn_ok, goOn_call, goOn_row, goOn_arr, goOn_ask, goOn_put, goOn_prm, goOn_callK, goOn_all, guardP, guardO, notInO, stepF, stepLd, stepSt, stepIxs, stepIxa, stepLen, stepApp, stepCpy, stepPick, stepSls, stepSst, stepSla, bareZ, evX, evL, evB, rd, get, subG, memG, freshG, notInG, hyps, gob, impP, allP, partD, partOf, isOne, isPtr, nth, takeN, dropN, cellsD, lenB, fillD, thirds, entN, setE, sizeE, addE, setL, setN, putE, env0, eqCs, eqAux, eqC, bA, bO, bN, bE, negB, kEq, isShr, lendL, lend, frz, frzL, zRow, closed, closedL, rowsOf, binI, retK, retG, atRet, retD, lendO, resL, resD, oneD, renD, renL, renE, renEs, rho, putAll, entsN, List.append, List.nil_append, List.cons_append, List.append_nil, cond, Nat.reduceBEq, Nat.reduceAdd, Nat.beq]
    have h1 := idxF_nn (x := e) (l := r) (i := 0) (by omega)
    have h2 := idxF_lt (x := e) (l := r) (i := 0)
    unfold aboveL
    by_cases he : e ∈ r
    · have h3 := h1.2 he
      refine ⟨fun _ => ?_, fun h => by simp at h; omega⟩
      refine ⟨⟨rfl, by omega, by omega, by rw [iL_len]; omega⟩, ?_⟩
      simp only [if_pos he]
      simp [iL, List.map_take]
    · refine ⟨fun h => by simp at h; exact absurd (h1.1 h) he, fun _ => ?_⟩
      simp only [if_neg he]
end Go.AM
