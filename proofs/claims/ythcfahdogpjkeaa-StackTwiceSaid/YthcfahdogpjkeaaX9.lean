
/- Chapter 29: the document's answers. -/
import Derived.Test.YthcfahdogpjkeaaX8
set_option linter.all false
namespace Go.AM
open Go Go.Proofs

theorem sp_Moved' {l : List Kd} (hl : l.length < 1000000) {i to : Int} (h0 : 0 ≤ i) (h1 : i < l.length) (h2 : 0 ≤ to) (h3 : to < l.length) : TSp 40 [.ls 5 (kL l), .int .i64 i, .int .i64 to] (.ls 5 (kL (movR l i.toNat to.toNat))) := by
  have := sp_ref29_Moved hl (i := i.toNat) (to := to.toNat) (by omega) (by omega)
  rw [show ((i.toNat : Nat) : Int) = i by omega, show ((to.toNat : Nat) : Int) = to by omega] at this
  exact this

def restackR (l : List Kd) (i b mode : Int) : List Kd :=
  if mode = 0 then (if b < 0 then movR l i.toNat (l.length - 1) else if b < i then movR l i.toNat (b + 1).toNat else movR l i.toNat b.toNat)
  else if mode = 1 then (if b < 0 then movR l i.toNat 0 else if b < i then movR l i.toNat b.toNat else movR l i.toNat (b - 1).toNat)
  else if mode = 2 then (if hidnR l i b then movR l i.toNat (l.length - 1) else l)
  else if mode = 3 then (if hidgR l i b then movR l i.toNat 0 else l)
  else (if hidnR l i b then movR l i.toNat (l.length - 1) else if hidgR l i b then movR l i.toNat 0 else l)

set_option maxHeartbeats 1000000 in
theorem sp_ref29_Restack {l : List Kd} (hi : Ins l) (hl : l.length < 1000000) {i b mode : Int} (h0 : 0 ≤ i) (h1 : i < l.length) (hb : b < l.length) (hbi : b ≠ i) (m0 : 0 ≤ mode) (m4 : mode ≤ 4) : TSp 16 [.ls 5 (kL l), .int .i64 i, .int .i64 b, .int .i64 mode] (.ls 5 (kL (restackR l i b mode))) := by
  refine spo_ref29_Restack (by rfl) ?_
  have htop := sp_Moved' hl h0 h1 (to := (l.length : Int) - 1) (by omega) (by omega)
  have hnul := sp_Moved' hl h0 h1 (to := 0) (by omega) (by omega)
  have hhn := sp_ref29_hidden hi hl (b := b) h0 h1
  have hhg := sp_ref29_hiding hi hl (b := b) h0 h1
  rw [show ((l.length : Int) - 1).toNat = l.length - 1 by omega] at htop
  rw [show (0 : Int).toNat = 0 from rfl] at hnul
  dsimp only [c_ref29_Restack, r_ref29_Restack, run_skip, run_reg, plainB, ifB_true, run_seq, run_blk, run_exit, run_ret, run_ite, iteR, regK, thenK_nrm, thenK_exit, thenK_ret, thenR_nrm, thenR_exit, thenR_ret, blkK, keepS, keepE, runOps_nil, runOps_cons, goG_some, fpOk, foot, entOf, allN, memN, goOn_ok, goOn_call, goOn_row, goOn_arr, goOn_ask, goOn_put, goOn_prm, goOn_callK, goOn_callC, goOn_all, guardP, guardO, notInO, stepF, stepLd, stepSt, stepIxs, stepIxa, stepLen, stepApp, stepCpy, stepPick, stepSls, stepSst, stepSla, bareZ, evX, evL, evB, rd, get, subG, memG, freshG, notInG, hyps, gob, impP, allP, partD, partOf, isOne, isPtr, nth, takeN, dropN, cellsD, lenB, fillD, thirds, entN, setE, sizeE, addE, setL, setN, putE, env0, eqCs, eqAux, eqC, bA, bO, bN, bE, negB, kEq, isShr, lendL, lend, frz, frzL, zRow, closed, closedL, rowsOf, binI, retK, retG, atRet, retD, lendO, resL, resD, oneD, renD, renL, renE, renEs, rho, putAll, entsN, List.append, List.nil_append, List.cons_append, List.append_nil, cond, Nat.reduceBEq, Nat.reduceAdd, Nat.beq]
  rw [kL_len]
  refine ⟨by simp only [fits]; omega, ?_⟩
  unfold restackR
  have hm : mode = 0 ∨ mode = 1 ∨ mode = 2 ∨ mode = 3 ∨ mode = 4 := by omega
  rcases hm with rfl | rfl | rfl | rfl | rfl
  · refine ⟨fun _ => ?_, nofun⟩
    rw [if_pos rfl]
    by_cases hb0 : b < 0
    · rw [if_pos hb0]
      refine ⟨fun _ => ?_, fun h => by simp [hb0] at h⟩
      exact call_pure htop rfl
    rw [if_neg hb0]
    refine ⟨fun h => by simp [hb0] at h, fun _ => ?_⟩
    by_cases hb1 : b < i
    · rw [if_pos hb1]
      refine ⟨fun _ => ⟨by simp only [fits]; omega, ?_⟩, fun h => by simp [hb1] at h⟩
      exact call_pure (sp_Moved' hl h0 h1 (by omega) (by omega)) rfl
    rw [if_neg hb1]
    refine ⟨fun h => by simp [hb1] at h, fun _ => ?_⟩
    exact call_pure (sp_Moved' hl h0 h1 (by omega) (by omega)) rfl
  · refine ⟨nofun, fun _ => ⟨fun _ => ?_, nofun⟩⟩
    rw [if_neg (by omega), if_pos rfl]
    by_cases hb0 : b < 0
    · rw [if_pos hb0]
      refine ⟨fun _ => ?_, fun h => by simp [hb0] at h⟩
      exact call_pure hnul rfl
    rw [if_neg hb0]
    refine ⟨fun h => by simp [hb0] at h, fun _ => ?_⟩
    by_cases hb1 : b < i
    · rw [if_pos hb1]
      refine ⟨fun _ => ?_, fun h => by simp [hb1] at h⟩
      exact call_pure (sp_Moved' hl h0 h1 (by omega) (by omega)) rfl
    rw [if_neg hb1]
    refine ⟨fun h => by simp [hb1] at h, fun _ => ⟨by simp only [fits]; omega, ?_⟩⟩
    exact call_pure (sp_Moved' hl h0 h1 (by omega) (by omega)) rfl
  · refine ⟨nofun, fun _ => ⟨nofun, fun _ => ⟨fun _ => ?_, nofun⟩⟩⟩
    rw [if_neg (by omega), if_neg (by omega), if_pos rfl]
    refine call_pure hhn ?_
    dsimp only [run_skip, run_reg, plainB, ifB_true, run_seq, run_blk, run_exit, run_ret, run_ite, iteR, regK, thenK_nrm, thenK_exit, thenK_ret, thenR_nrm, thenR_exit, thenR_ret, blkK, keepS, keepE, runOps_nil, runOps_cons, goG_some, fpOk, foot, entOf, allN, memN, goOn_ok, goOn_call, goOn_row, goOn_arr, goOn_ask, goOn_put, goOn_prm, goOn_callK, goOn_callC, goOn_all, guardP, guardO, notInO, stepF, stepLd, stepSt, stepIxs, stepIxa, stepLen, stepApp, stepCpy, stepPick, stepSls, stepSst, stepSla, bareZ, evX, evL, evB, rd, get, subG, memG, freshG, notInG, hyps, gob, impP, allP, partD, partOf, isOne, isPtr, nth, takeN, dropN, cellsD, lenB, fillD, thirds, entN, setE, sizeE, addE, setL, setN, putE, env0, eqCs, eqAux, eqC, bA, bO, bN, bE, negB, kEq, isShr, lendL, lend, frz, frzL, zRow, closed, closedL, rowsOf, binI, retK, retG, atRet, retD, lendO, resL, resD, oneD, renD, renL, renE, renEs, rho, putAll, entsN, List.append, List.nil_append, List.cons_append, List.append_nil, cond, Nat.reduceBEq, Nat.reduceAdd, Nat.beq]
    cases hidnR l i b
    · exact ⟨nofun, fun _ => rfl⟩
    · exact ⟨fun _ => call_pure htop rfl, nofun⟩
  · refine ⟨nofun, fun _ => ⟨nofun, fun _ => ⟨nofun, fun _ => ⟨fun _ => ?_, nofun⟩⟩⟩⟩
    rw [if_neg (by omega), if_neg (by omega), if_neg (by omega), if_pos rfl]
    refine call_pure hhg ?_
    dsimp only [run_skip, run_reg, plainB, ifB_true, run_seq, run_blk, run_exit, run_ret, run_ite, iteR, regK, thenK_nrm, thenK_exit, thenK_ret, thenR_nrm, thenR_exit, thenR_ret, blkK, keepS, keepE, runOps_nil, runOps_cons, goG_some, fpOk, foot, entOf, allN, memN, goOn_ok, goOn_call, goOn_row, goOn_arr, goOn_ask, goOn_put, goOn_prm, goOn_callK, goOn_callC, goOn_all, guardP, guardO, notInO, stepF, stepLd, stepSt, stepIxs, stepIxa, stepLen, stepApp, stepCpy, stepPick, stepSls, stepSst, stepSla, bareZ, evX, evL, evB, rd, get, subG, memG, freshG, notInG, hyps, gob, impP, allP, partD, partOf, isOne, isPtr, nth, takeN, dropN, cellsD, lenB, fillD, thirds, entN, setE, sizeE, addE, setL, setN, putE, env0, eqCs, eqAux, eqC, bA, bO, bN, bE, negB, kEq, isShr, lendL, lend, frz, frzL, zRow, closed, closedL, rowsOf, binI, retK, retG, atRet, retD, lendO, resL, resD, oneD, renD, renL, renE, renEs, rho, putAll, entsN, List.append, List.nil_append, List.cons_append, List.append_nil, cond, Nat.reduceBEq, Nat.reduceAdd, Nat.beq]
    cases hidgR l i b
    · exact ⟨nofun, fun _ => rfl⟩
    · exact ⟨fun _ => call_pure hnul rfl, nofun⟩
  · refine ⟨nofun, fun _ => ⟨nofun, fun _ => ⟨nofun, fun _ => ⟨nofun, fun _ => ⟨fun _ => ?_, nofun⟩⟩⟩⟩⟩
    rw [if_neg (by omega), if_neg (by omega), if_neg (by omega), if_neg (by omega)]
    refine call_pure hhn ?_
    dsimp only [run_skip, run_reg, plainB, ifB_true, run_seq, run_blk, run_exit, run_ret, run_ite, iteR, regK, thenK_nrm, thenK_exit, thenK_ret, thenR_nrm, thenR_exit, thenR_ret, blkK, keepS, keepE, runOps_nil, runOps_cons, goG_some, fpOk, foot, entOf, allN, memN, goOn_ok, goOn_call, goOn_row, goOn_arr, goOn_ask, goOn_put, goOn_prm, goOn_callK, goOn_callC, goOn_all, guardP, guardO, notInO, stepF, stepLd, stepSt, stepIxs, stepIxa, stepLen, stepApp, stepCpy, stepPick, stepSls, stepSst, stepSla, bareZ, evX, evL, evB, rd, get, subG, memG, freshG, notInG, hyps, gob, impP, allP, partD, partOf, isOne, isPtr, nth, takeN, dropN, cellsD, lenB, fillD, thirds, entN, setE, sizeE, addE, setL, setN, putE, env0, eqCs, eqAux, eqC, bA, bO, bN, bE, negB, kEq, isShr, lendL, lend, frz, frzL, zRow, closed, closedL, rowsOf, binI, retK, retG, atRet, retD, lendO, resL, resD, oneD, renD, renL, renE, renEs, rho, putAll, entsN, List.append, List.nil_append, List.cons_append, List.append_nil, cond, Nat.reduceBEq, Nat.reduceAdd, Nat.beq]
    cases hidnR l i b
    · refine ⟨nofun, fun _ => ?_⟩
      refine call_pure hhg ?_
      dsimp only [run_skip, run_reg, plainB, ifB_true, run_seq, run_blk, run_exit, run_ret, run_ite, iteR, regK, thenK_nrm, thenK_exit, thenK_ret, thenR_nrm, thenR_exit, thenR_ret, blkK, keepS, keepE, runOps_nil, runOps_cons, goG_some, fpOk, foot, entOf, allN, memN, goOn_ok, goOn_call, goOn_row, goOn_arr, goOn_ask, goOn_put, goOn_prm, goOn_callK, goOn_callC, goOn_all, guardP, guardO, notInO, stepF, stepLd, stepSt, stepIxs, stepIxa, stepLen, stepApp, stepCpy, stepPick, stepSls, stepSst, stepSla, bareZ, evX, evL, evB, rd, get, subG, memG, freshG, notInG, hyps, gob, impP, allP, partD, partOf, isOne, isPtr, nth, takeN, dropN, cellsD, lenB, fillD, thirds, entN, setE, sizeE, addE, setL, setN, putE, env0, eqCs, eqAux, eqC, bA, bO, bN, bE, negB, kEq, isShr, lendL, lend, frz, frzL, zRow, closed, closedL, rowsOf, binI, retK, retG, atRet, retD, lendO, resL, resD, oneD, renD, renL, renE, renEs, rho, putAll, entsN, List.append, List.nil_append, List.cons_append, List.append_nil, cond, Nat.reduceBEq, Nat.reduceAdd, Nat.beq]
      cases hidgR l i b
      · exact ⟨nofun, fun _ => rfl⟩
      · exact ⟨fun _ => call_pure hnul rfl, nofun⟩
    · exact ⟨fun _ => call_pure htop rfl, nofun⟩

def circR (l : List Kd) (up : Bool) : Nat → Nat → List Kd × Int
  | 0, _ => (l, 0)
  | c + 1, s =>
    if up then (if hidnR l s (-1) then (movR l s (l.length - 1), (kAt l s).n) else circR l up c (s + 1))
    else (if hidgR l ((l.length : Int) - 1 - s) (-1) then (movR l (l.length - 1 - s) 0, (kAt l ((l.length : Int) - 1 - s)).n) else circR l up c (s + 1))
def stCi (l : List Kd) (up : Bool) (k : Nat) : St := ⟨[(0, [], .ls 5 (kL l)), (1, [], .bool up), (6, [], .int .i64 k)], [.arr 63 5 0 []]⟩
theorem sp_ref29_Circulate {l : List Kd} (hi : Ins l) (hl : l.length < 1000000) (up : Bool) : TSp 23 [.ls 5 (kL l), .bool up] (.tup [.ls 5 (kL (circR l up l.length 0).1), .int .i64 (circR l up l.length 0).2]) := by
  refine spo_ref29_Circulate (by rfl) ?_
  dsimp only [c_ref29_Circulate, r_ref29_Circulate, run_skip, run_reg, plainB, ifB_true, run_seq, run_blk, run_exit, run_ret, run_ite, iteR, regK, thenK_nrm, thenK_exit, thenK_ret, thenR_nrm, thenR_exit, thenR_ret, blkK, keepS, keepE, runOps_nil, runOps_cons, goG_some, fpOk, foot, entOf, allN, memN, goOn_ok, goOn_call, goOn_row, goOn_arr, goOn_ask, goOn_put, goOn_prm, goOn_callK, goOn_callC, goOn_all, guardP, guardO, notInO, stepF, stepLd, stepSt, stepIxs, stepIxa, stepLen, stepApp, stepCpy, stepPick, stepSls, stepSst, stepSla, bareZ, evX, evL, evB, rd, get, subG, memG, freshG, notInG, hyps, gob, impP, allP, partD, partOf, isOne, isPtr, nth, takeN, dropN, cellsD, lenB, fillD, thirds, entN, setE, sizeE, addE, setL, setN, putE, env0, eqCs, eqAux, eqC, bA, bO, bN, bE, negB, kEq, isShr, lendL, lend, frz, frzL, zRow, closed, closedL, rowsOf, binI, retK, retG, atRet, retD, lendO, resL, resD, oneD, renD, renL, renE, renEs, rho, putAll, entsN, List.append, List.nil_append, List.cons_append, List.append_nil, cond, Nat.reduceBEq, Nat.reduceAdd, Nat.beq]
  refine loop_ind (α := {k : Nat // k ≤ l.length ∧ circR l up (l.length - k) k = circR l up l.length 0}) (fun k => stCi l up k.1) (fun k => l.length - k.1) ?_ ⟨0, by simp⟩ rfl
  rintro ⟨k, hk, hv⟩ I ih
  dsimp only [stCi, run_skip, run_reg, plainB, ifB_true, run_seq, run_blk, run_exit, run_ret, run_ite, iteR, regK, thenK_nrm, thenK_exit, thenK_ret, thenR_nrm, thenR_exit, thenR_ret, blkK, keepS, keepE, runOps_nil, runOps_cons, goG_some, fpOk, foot, entOf, allN, memN, goOn_ok, goOn_call, goOn_row, goOn_arr, goOn_ask, goOn_put, goOn_prm, goOn_callK, goOn_callC, goOn_all, guardP, guardO, notInO, stepF, stepLd, stepSt, stepIxs, stepIxa, stepLen, stepApp, stepCpy, stepPick, stepSls, stepSst, stepSla, bareZ, evX, evL, evB, rd, get, subG, memG, freshG, notInG, hyps, gob, impP, allP, partD, partOf, isOne, isPtr, nth, takeN, dropN, cellsD, lenB, fillD, thirds, entN, setE, sizeE, addE, setL, setN, putE, env0, eqCs, eqAux, eqC, bA, bO, bN, bE, negB, kEq, isShr, lendL, lend, frz, frzL, zRow, closed, closedL, rowsOf, binI, retK, retG, atRet, retD, lendO, resL, resD, oneD, renD, renL, renE, renEs, rho, putAll, entsN, List.append, List.nil_append, List.cons_append, List.append_nil, cond, Nat.reduceBEq, Nat.reduceAdd, Nat.beq]
  rw [kL_len]
  refine ⟨fun hj => ?_, fun hj => ?_⟩
  · have hj : k < l.length := by simp at hj; omega
    rw [show l.length - k = (l.length - (k + 1)) + 1 by omega] at hv
    simp only [circR] at hv
    have ek : ((l.length : Int) - 1 - (k : Int)).toNat = l.length - 1 - k := by omega
    cases up
    · simp only [Bool.false_eq_true, if_false] at hv
      refine ⟨fun _ => ?_, nofun⟩
      refine ⟨by simp only [fits]; omega, by simp only [fits]; omega, ?_⟩
      refine call_pure (d := .bool false) nofun ?_
      dsimp only [run_skip, run_reg, plainB, ifB_true, run_seq, run_blk, run_exit, run_ret, run_ite, iteR, regK, thenK_nrm, thenK_exit, thenK_ret, thenR_nrm, thenR_exit, thenR_ret, blkK, keepS, keepE, runOps_nil, runOps_cons, goG_some, fpOk, foot, entOf, allN, memN, goOn_ok, goOn_call, goOn_row, goOn_arr, goOn_ask, goOn_put, goOn_prm, goOn_callK, goOn_callC, goOn_all, guardP, guardO, notInO, stepF, stepLd, stepSt, stepIxs, stepIxa, stepLen, stepApp, stepCpy, stepPick, stepSls, stepSst, stepSla, bareZ, evX, evL, evB, rd, get, subG, memG, freshG, notInG, hyps, gob, impP, allP, partD, partOf, isOne, isPtr, nth, takeN, dropN, cellsD, lenB, fillD, thirds, entN, setE, sizeE, addE, setL, setN, putE, env0, eqCs, eqAux, eqC, bA, bO, bN, bE, negB, kEq, isShr, lendL, lend, frz, frzL, zRow, closed, closedL, rowsOf, binI, retK, retG, atRet, retD, lendO, resL, resD, oneD, renD, renL, renE, renEs, rho, putAll, entsN, List.append, List.nil_append, List.cons_append, List.append_nil, cond, Nat.reduceBEq, Nat.reduceAdd, Nat.beq]
      refine ⟨nofun, fun _ => ?_⟩
      refine call_pure (fun _ => sp_ref29_hiding hi hl (i := (l.length : Int) - 1 - k) (b := -1) (by omega) (by omega)) ?_
      dsimp only [run_skip, run_reg, plainB, ifB_true, run_seq, run_blk, run_exit, run_ret, run_ite, iteR, regK, thenK_nrm, thenK_exit, thenK_ret, thenR_nrm, thenR_exit, thenR_ret, blkK, keepS, keepE, runOps_nil, runOps_cons, goG_some, fpOk, foot, entOf, allN, memN, goOn_ok, goOn_call, goOn_row, goOn_arr, goOn_ask, goOn_put, goOn_prm, goOn_callK, goOn_callC, goOn_all, guardP, guardO, notInO, stepF, stepLd, stepSt, stepIxs, stepIxa, stepLen, stepApp, stepCpy, stepPick, stepSls, stepSst, stepSla, bareZ, evX, evL, evB, rd, get, subG, memG, freshG, notInG, hyps, gob, impP, allP, partD, partOf, isOne, isPtr, nth, takeN, dropN, cellsD, lenB, fillD, thirds, entN, setE, sizeE, addE, setL, setN, putE, env0, eqCs, eqAux, eqC, bA, bO, bN, bE, negB, kEq, isShr, lendL, lend, frz, frzL, zRow, closed, closedL, rowsOf, binI, retK, retG, atRet, retD, lendO, resL, resD, oneD, renD, renL, renE, renEs, rho, putAll, entsN, List.append, List.nil_append, List.cons_append, List.append_nil, cond, Nat.reduceBEq, Nat.reduceAdd, Nat.beq]
      refine ⟨fun h => ?_, fun h => ?_⟩
      · have h : hidgR l ((l.length : Int) - 1 - k) (-1) = true := by simpa using h
        rw [if_pos h] at hv
        refine call_pure (sp_Moved' hl (i := (l.length : Int) - 1 - k) (to := 0) (by omega) (by omega) (by omega) (by omega)) ?_
        dsimp only [run_skip, run_reg, plainB, ifB_true, run_seq, run_blk, run_exit, run_ret, run_ite, iteR, regK, thenK_nrm, thenK_exit, thenK_ret, thenR_nrm, thenR_exit, thenR_ret, blkK, keepS, keepE, runOps_nil, runOps_cons, goG_some, fpOk, foot, entOf, allN, memN, goOn_ok, goOn_call, goOn_row, goOn_arr, goOn_ask, goOn_put, goOn_prm, goOn_callK, goOn_callC, goOn_all, guardP, guardO, notInO, stepF, stepLd, stepSt, stepIxs, stepIxa, stepLen, stepApp, stepCpy, stepPick, stepSls, stepSst, stepSla, bareZ, evX, evL, evB, rd, get, subG, memG, freshG, notInG, hyps, gob, impP, allP, partD, partOf, isOne, isPtr, nth, takeN, dropN, cellsD, lenB, fillD, thirds, entN, setE, sizeE, addE, setL, setN, putE, env0, eqCs, eqAux, eqC, bA, bO, bN, bE, negB, kEq, isShr, lendL, lend, frz, frzL, zRow, closed, closedL, rowsOf, binI, retK, retG, atRet, retD, lendO, resL, resD, oneD, renD, renL, renE, renEs, rho, putAll, entsN, List.append, List.nil_append, List.cons_append, List.append_nil, cond, Nat.reduceBEq, Nat.reduceAdd, Nat.beq]
        refine ⟨⟨rfl, by omega, by (try rw [kL_len]); omega⟩, ?_⟩
        rw [ek]
        refine row_intro (kdD (kAt l ((l.length : Int) - 1 - k))) (.int .i64 (kAt l ((l.length : Int) - 1 - k)).n) (by
          rw [kL_at (by omega)]
          unfold kAt
          rw [ek, List.getD_eq_getElem?_getD, List.getElem?_eq_getElem (by omega)]
          exact rfl) rfl ?_
        dsimp only [run_skip, run_reg, plainB, ifB_true, run_seq, run_blk, run_exit, run_ret, run_ite, iteR, regK, thenK_nrm, thenK_exit, thenK_ret, thenR_nrm, thenR_exit, thenR_ret, blkK, keepS, keepE, runOps_nil, runOps_cons, goG_some, fpOk, foot, entOf, allN, memN, goOn_ok, goOn_call, goOn_row, goOn_arr, goOn_ask, goOn_put, goOn_prm, goOn_callK, goOn_callC, goOn_all, guardP, guardO, notInO, stepF, stepLd, stepSt, stepIxs, stepIxa, stepLen, stepApp, stepCpy, stepPick, stepSls, stepSst, stepSla, bareZ, evX, evL, evB, rd, get, subG, memG, freshG, notInG, hyps, gob, impP, allP, partD, partOf, isOne, isPtr, nth, takeN, dropN, cellsD, lenB, fillD, thirds, entN, setE, sizeE, addE, setL, setN, putE, env0, eqCs, eqAux, eqC, bA, bO, bN, bE, negB, kEq, isShr, lendL, lend, frz, frzL, zRow, closed, closedL, rowsOf, binI, retK, retG, atRet, retD, lendO, resL, resD, oneD, renD, renL, renE, renEs, rho, putAll, entsN, List.append, List.nil_append, List.cons_append, List.append_nil, cond, Nat.reduceBEq, Nat.reduceAdd, Nat.beq]
        rw [← hv]
        rfl
      · have h : hidgR l ((l.length : Int) - 1 - k) (-1) = false := by simpa using h
        rw [if_neg (by simp [h])] at hv
        refine ⟨by simp only [fits]; omega, ?_⟩
        exact again (ih ⟨k + 1, by omega, hv⟩ (by dsimp only; omega)) ⟨rfl, rfl, rfl, trivial⟩ ⟨rfl, trivial⟩ rfl rfl
    · simp only [if_true] at hv
      refine ⟨nofun, fun _ => ?_⟩
      refine call_pure (fun _ => sp_ref29_hidden hi hl (i := k) (b := -1) (by omega) (by omega)) ?_
      dsimp only [run_skip, run_reg, plainB, ifB_true, run_seq, run_blk, run_exit, run_ret, run_ite, iteR, regK, thenK_nrm, thenK_exit, thenK_ret, thenR_nrm, thenR_exit, thenR_ret, blkK, keepS, keepE, runOps_nil, runOps_cons, goG_some, fpOk, foot, entOf, allN, memN, goOn_ok, goOn_call, goOn_row, goOn_arr, goOn_ask, goOn_put, goOn_prm, goOn_callK, goOn_callC, goOn_all, guardP, guardO, notInO, stepF, stepLd, stepSt, stepIxs, stepIxa, stepLen, stepApp, stepCpy, stepPick, stepSls, stepSst, stepSla, bareZ, evX, evL, evB, rd, get, subG, memG, freshG, notInG, hyps, gob, impP, allP, partD, partOf, isOne, isPtr, nth, takeN, dropN, cellsD, lenB, fillD, thirds, entN, setE, sizeE, addE, setL, setN, putE, env0, eqCs, eqAux, eqC, bA, bO, bN, bE, negB, kEq, isShr, lendL, lend, frz, frzL, zRow, closed, closedL, rowsOf, binI, retK, retG, atRet, retD, lendO, resL, resD, oneD, renD, renL, renE, renEs, rho, putAll, entsN, List.append, List.nil_append, List.cons_append, List.append_nil, cond, Nat.reduceBEq, Nat.reduceAdd, Nat.beq]
      refine ⟨fun h => ?_, fun h => ?_⟩
      · have h : hidnR l k (-1) = true := by simpa using h
        rw [if_pos h] at hv
        refine ⟨by simp only [fits]; (try rw [kL_len]); omega, ?_⟩
        have hm := sp_Moved' hl (i := k) (to := (l.length : Int) - 1) (by omega) (by omega) (by omega) (by omega)
        refine call_pure (by (try rw [kL_len]); exact hm) ?_
        dsimp only [run_skip, run_reg, plainB, ifB_true, run_seq, run_blk, run_exit, run_ret, run_ite, iteR, regK, thenK_nrm, thenK_exit, thenK_ret, thenR_nrm, thenR_exit, thenR_ret, blkK, keepS, keepE, runOps_nil, runOps_cons, goG_some, fpOk, foot, entOf, allN, memN, goOn_ok, goOn_call, goOn_row, goOn_arr, goOn_ask, goOn_put, goOn_prm, goOn_callK, goOn_callC, goOn_all, guardP, guardO, notInO, stepF, stepLd, stepSt, stepIxs, stepIxa, stepLen, stepApp, stepCpy, stepPick, stepSls, stepSst, stepSla, bareZ, evX, evL, evB, rd, get, subG, memG, freshG, notInG, hyps, gob, impP, allP, partD, partOf, isOne, isPtr, nth, takeN, dropN, cellsD, lenB, fillD, thirds, entN, setE, sizeE, addE, setL, setN, putE, env0, eqCs, eqAux, eqC, bA, bO, bN, bE, negB, kEq, isShr, lendL, lend, frz, frzL, zRow, closed, closedL, rowsOf, binI, retK, retG, atRet, retD, lendO, resL, resD, oneD, renD, renL, renE, renEs, rho, putAll, entsN, List.append, List.nil_append, List.cons_append, List.append_nil, cond, Nat.reduceBEq, Nat.reduceAdd, Nat.beq]
        refine ⟨⟨rfl, by omega, by (try rw [kL_len]); omega⟩, ?_⟩
        refine row_intro (kdD (kAt l k)) (.int .i64 (kAt l k).n) (by
          rw [kAt_eq hj]
          exact kL_at hj) rfl ?_
        dsimp only [run_skip, run_reg, plainB, ifB_true, run_seq, run_blk, run_exit, run_ret, run_ite, iteR, regK, thenK_nrm, thenK_exit, thenK_ret, thenR_nrm, thenR_exit, thenR_ret, blkK, keepS, keepE, runOps_nil, runOps_cons, goG_some, fpOk, foot, entOf, allN, memN, goOn_ok, goOn_call, goOn_row, goOn_arr, goOn_ask, goOn_put, goOn_prm, goOn_callK, goOn_callC, goOn_all, guardP, guardO, notInO, stepF, stepLd, stepSt, stepIxs, stepIxa, stepLen, stepApp, stepCpy, stepPick, stepSls, stepSst, stepSla, bareZ, evX, evL, evB, rd, get, subG, memG, freshG, notInG, hyps, gob, impP, allP, partD, partOf, isOne, isPtr, nth, takeN, dropN, cellsD, lenB, fillD, thirds, entN, setE, sizeE, addE, setL, setN, putE, env0, eqCs, eqAux, eqC, bA, bO, bN, bE, negB, kEq, isShr, lendL, lend, frz, frzL, zRow, closed, closedL, rowsOf, binI, retK, retG, atRet, retD, lendO, resL, resD, oneD, renD, renL, renE, renEs, rho, putAll, entsN, List.append, List.nil_append, List.cons_append, List.append_nil, cond, Nat.reduceBEq, Nat.reduceAdd, Nat.beq]
        rw [← hv, show ((k : Int)).toNat = k by omega, show ((l.length : Int) - 1).toNat = l.length - 1 by omega]
      · have h : hidnR l k (-1) = false := by simpa using h
        rw [if_neg (by simp [h])] at hv
        refine call_pure (d := .bool false) nofun ?_
        dsimp only [run_skip, run_reg, plainB, ifB_true, run_seq, run_blk, run_exit, run_ret, run_ite, iteR, regK, thenK_nrm, thenK_exit, thenK_ret, thenR_nrm, thenR_exit, thenR_ret, blkK, keepS, keepE, runOps_nil, runOps_cons, goG_some, fpOk, foot, entOf, allN, memN, goOn_ok, goOn_call, goOn_row, goOn_arr, goOn_ask, goOn_put, goOn_prm, goOn_callK, goOn_callC, goOn_all, guardP, guardO, notInO, stepF, stepLd, stepSt, stepIxs, stepIxa, stepLen, stepApp, stepCpy, stepPick, stepSls, stepSst, stepSla, bareZ, evX, evL, evB, rd, get, subG, memG, freshG, notInG, hyps, gob, impP, allP, partD, partOf, isOne, isPtr, nth, takeN, dropN, cellsD, lenB, fillD, thirds, entN, setE, sizeE, addE, setL, setN, putE, env0, eqCs, eqAux, eqC, bA, bO, bN, bE, negB, kEq, isShr, lendL, lend, frz, frzL, zRow, closed, closedL, rowsOf, binI, retK, retG, atRet, retD, lendO, resL, resD, oneD, renD, renL, renE, renEs, rho, putAll, entsN, List.append, List.nil_append, List.cons_append, List.append_nil, cond, Nat.reduceBEq, Nat.reduceAdd, Nat.beq]
        refine ⟨nofun, fun _ => ?_⟩
        refine ⟨by simp only [fits]; omega, ?_⟩
        exact again (ih ⟨k + 1, by omega, hv⟩ (by dsimp only; omega)) ⟨rfl, rfl, rfl, trivial⟩ ⟨rfl, trivial⟩ rfl rfl
  · have hj : k = l.length := by simp at hj; omega
    subst hj
    rw [Nat.sub_self] at hv
    rw [← hv]
    rfl

def sameR (a b : List Kd) : Bool := decide (nums a = nums b)
def stSm (a b : List Kd) (k : Nat) : St := ⟨[(0, [], .ls 5 (kL a)), (1, [], .ls 5 (kL b)), (5, [], .int .i64 k)], []⟩
theorem sp_ref29_Same {a b : List Kd} (ha : a.length < 1000000) (hb : b.length < 1000000) : TSp 14 [.ls 5 (kL a), .ls 5 (kL b)] (.bool (sameR a b)) := by
  refine spo_ref29_Same (by rfl) ?_
  dsimp only [c_ref29_Same, r_ref29_Same, run_skip, run_reg, plainB, ifB_true, run_seq, run_blk, run_exit, run_ret, run_ite, iteR, regK, thenK_nrm, thenK_exit, thenK_ret, thenR_nrm, thenR_exit, thenR_ret, blkK, keepS, keepE, runOps_nil, runOps_cons, goG_some, fpOk, foot, entOf, allN, memN, goOn_ok, goOn_call, goOn_row, goOn_arr, goOn_ask, goOn_put, goOn_prm, goOn_callK, goOn_callC, goOn_all, guardP, guardO, notInO, stepF, stepLd, stepSt, stepIxs, stepIxa, stepLen, stepApp, stepCpy, stepPick, stepSls, stepSst, stepSla, bareZ, evX, evL, evB, rd, get, subG, memG, freshG, notInG, hyps, gob, impP, allP, partD, partOf, isOne, isPtr, nth, takeN, dropN, cellsD, lenB, fillD, thirds, entN, setE, sizeE, addE, setL, setN, putE, env0, eqCs, eqAux, eqC, bA, bO, bN, bE, negB, kEq, isShr, lendL, lend, frz, frzL, zRow, closed, closedL, rowsOf, binI, retK, retG, atRet, retD, lendO, resL, resD, oneD, renD, renL, renE, renEs, rho, putAll, entsN, List.append, List.nil_append, List.cons_append, List.append_nil, cond, Nat.reduceBEq, Nat.reduceAdd, Nat.beq]
  rw [kL_len, kL_len]
  refine ⟨fun h => ?_, fun h => ?_⟩
  · have h : a.length ≠ b.length := by simp at h; omega
    have : sameR a b = false := by
      unfold sameR
      refine decide_eq_false fun e => h ?_
      have := congrArg List.length e
      simpa [nums] using this
    rw [this]
  have h : a.length = b.length := by simp at h; omega
  refine loop_ind (α := {k : Nat // k ≤ a.length ∧ (nums a).take k = (nums b).take k}) (fun k => stSm a b k.1) (fun k => a.length - k.1) ?_ ⟨0, by simp⟩ rfl
  rintro ⟨k, hk, hv⟩ I ih
  dsimp only [stSm, run_skip, run_reg, plainB, ifB_true, run_seq, run_blk, run_exit, run_ret, run_ite, iteR, regK, thenK_nrm, thenK_exit, thenK_ret, thenR_nrm, thenR_exit, thenR_ret, blkK, keepS, keepE, runOps_nil, runOps_cons, goG_some, fpOk, foot, entOf, allN, memN, goOn_ok, goOn_call, goOn_row, goOn_arr, goOn_ask, goOn_put, goOn_prm, goOn_callK, goOn_callC, goOn_all, guardP, guardO, notInO, stepF, stepLd, stepSt, stepIxs, stepIxa, stepLen, stepApp, stepCpy, stepPick, stepSls, stepSst, stepSla, bareZ, evX, evL, evB, rd, get, subG, memG, freshG, notInG, hyps, gob, impP, allP, partD, partOf, isOne, isPtr, nth, takeN, dropN, cellsD, lenB, fillD, thirds, entN, setE, sizeE, addE, setL, setN, putE, env0, eqCs, eqAux, eqC, bA, bO, bN, bE, negB, kEq, isShr, lendL, lend, frz, frzL, zRow, closed, closedL, rowsOf, binI, retK, retG, atRet, retD, lendO, resL, resD, oneD, renD, renL, renE, renEs, rho, putAll, entsN, List.append, List.nil_append, List.cons_append, List.append_nil, cond, Nat.reduceBEq, Nat.reduceAdd, Nat.beq]
  rw [kL_len]
  refine ⟨fun hj => ?_, fun hj => ?_⟩
  · have hj : k < a.length := by simp at hj; omega
    refine ⟨⟨rfl, by omega, by (try rw [kL_len]); omega⟩, row_intro _ (.int .i64 a[k].n) (kL_at hj) rfl ?_⟩
    dsimp only [run_skip, run_reg, plainB, ifB_true, run_seq, run_blk, run_exit, run_ret, run_ite, iteR, regK, thenK_nrm, thenK_exit, thenK_ret, thenR_nrm, thenR_exit, thenR_ret, blkK, keepS, keepE, runOps_nil, runOps_cons, goG_some, fpOk, foot, entOf, allN, memN, goOn_ok, goOn_call, goOn_row, goOn_arr, goOn_ask, goOn_put, goOn_prm, goOn_callK, goOn_callC, goOn_all, guardP, guardO, notInO, stepF, stepLd, stepSt, stepIxs, stepIxa, stepLen, stepApp, stepCpy, stepPick, stepSls, stepSst, stepSla, bareZ, evX, evL, evB, rd, get, subG, memG, freshG, notInG, hyps, gob, impP, allP, partD, partOf, isOne, isPtr, nth, takeN, dropN, cellsD, lenB, fillD, thirds, entN, setE, sizeE, addE, setL, setN, putE, env0, eqCs, eqAux, eqC, bA, bO, bN, bE, negB, kEq, isShr, lendL, lend, frz, frzL, zRow, closed, closedL, rowsOf, binI, retK, retG, atRet, retD, lendO, resL, resD, oneD, renD, renL, renE, renEs, rho, putAll, entsN, List.append, List.nil_append, List.cons_append, List.append_nil, cond, Nat.reduceBEq, Nat.reduceAdd, Nat.beq]
    refine ⟨⟨rfl, by omega, by (try rw [kL_len]); omega⟩, row_intro _ (.int .i64 (b[k]'(by omega)).n) (kL_at (by omega)) rfl ?_⟩
    dsimp only [run_skip, run_reg, plainB, ifB_true, run_seq, run_blk, run_exit, run_ret, run_ite, iteR, regK, thenK_nrm, thenK_exit, thenK_ret, thenR_nrm, thenR_exit, thenR_ret, blkK, keepS, keepE, runOps_nil, runOps_cons, goG_some, fpOk, foot, entOf, allN, memN, goOn_ok, goOn_call, goOn_row, goOn_arr, goOn_ask, goOn_put, goOn_prm, goOn_callK, goOn_callC, goOn_all, guardP, guardO, notInO, stepF, stepLd, stepSt, stepIxs, stepIxa, stepLen, stepApp, stepCpy, stepPick, stepSls, stepSst, stepSla, bareZ, evX, evL, evB, rd, get, subG, memG, freshG, notInG, hyps, gob, impP, allP, partD, partOf, isOne, isPtr, nth, takeN, dropN, cellsD, lenB, fillD, thirds, entN, setE, sizeE, addE, setL, setN, putE, env0, eqCs, eqAux, eqC, bA, bO, bN, bE, negB, kEq, isShr, lendL, lend, frz, frzL, zRow, closed, closedL, rowsOf, binI, retK, retG, atRet, retD, lendO, resL, resD, oneD, renD, renL, renE, renEs, rho, putAll, entsN, List.append, List.nil_append, List.cons_append, List.append_nil, cond, Nat.reduceBEq, Nat.reduceAdd, Nat.beq]
    refine ⟨fun hn => ?_, fun hn => ?_⟩
    · have hn : a[k].n ≠ (b[k]'(by omega)).n := by simpa using hn
      have : sameR a b = false := by
        unfold sameR
        refine decide_eq_false fun e => hn ?_
        have e1 := nums_at (l := a) hj
        have e2 := nums_at (l := b) (i := k) (by omega)
        rw [← e1, ← e2]
        simp [e]
      rw [this]
    · have hn : a[k].n = (b[k]'(by omega)).n := by simpa using hn
      refine ⟨by simp only [fits]; omega, ?_⟩
      refine again (ih ⟨k + 1, by omega, ?_⟩ (by dsimp only; omega)) ⟨rfl, rfl, rfl, trivial⟩ trivial rfl rfl
      rw [List.take_succ_eq_append_getElem (by rw [nums_len]; omega), List.take_succ_eq_append_getElem (by rw [nums_len]; omega), hv, nums_at hj, nums_at (by omega), hn]
  · have hj : k = a.length := by simp at hj; omega
    subst hj
    rw [List.take_of_length_le (by rw [nums_len]; omega), List.take_of_length_le (by rw [nums_len]; omega)] at hv
    rw [show sameR a b = true by unfold sameR; exact decide_eq_true hv]
end Go.AM
