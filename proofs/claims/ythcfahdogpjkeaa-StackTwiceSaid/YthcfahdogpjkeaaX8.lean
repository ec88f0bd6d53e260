
/- Chapter 29: the document's orders. -/
import Derived.Test.YthcfahdogpjkeaaX7
set_option linter.all false
namespace Go.AM
open Go Go.Proofs

def insK (l : List Kd) (i : Nat) (x : Kd) : List Kd := l.take i ++ x :: l.drop i
def movR (l : List Kd) (i to : Nat) : List Kd := insK (l.eraseIdx i) to (kAt l i)
/-- So far: the ones of the rest, and the one, at its place. -/
def outR (r : List Kd) (x : Kd) (to k : Nat) : List Kd := if to < k then insK (r.take k) to x else r.take k

theorem er_len {l : List Kd} {i : Nat} (h : i < l.length) : (l.eraseIdx i).length + 1 = l.length := by rw [List.length_eraseIdx_of_lt h]; omega
structure MvX where
  k : Nat
  v : Nat
def stMv (l : List Kd) (i to : Nat) (x : MvX) : St := ⟨[(0, [], .ls 5 (kL l)), (1, [], .int .i64 i), (2, [], .int .i64 to), (7, [], .own 1 x.v), (8, [], .own 2 0), (9, [], .int .i64 x.k)],
  [.arr 63 5 0 [], .arr 63 5 x.v (kL ((l.take x.k).eraseIdx i)), .arr 63 5 0 []]⟩
def stMw (l : List Kd) (i to v : Nat) (x : MvX) : St := ⟨[(0, [], .ls 5 (kL l)), (1, [], .int .i64 i), (2, [], .int .i64 to), (7, [], .own 1 v), (8, [], .own 2 x.v), (10, [], .int .i64 x.k)],
  [.arr 63 5 0 [], .arr 63 5 v (kL (l.eraseIdx i)), .arr 63 5 x.v (kL (outR (l.eraseIdx i) (kAt l i) to x.k))]⟩

theorem take_erase_eq {l : List Kd} {k : Nat} (h : k < l.length) : (l.take (k + 1)).eraseIdx k = (l.take k).eraseIdx k := by
  have : (l.take k).length = k := by simp; omega
  rw [List.take_succ_eq_append_getElem h, List.eraseIdx_append_of_length_le (by omega), this, Nat.sub_self, List.eraseIdx_of_length_le (l := l.take k) (by omega)]
  simp
theorem take_erase_ne {l : List Kd} {i k : Nat} (h : k < l.length) (hn : k ≠ i) : (l.take k).eraseIdx i ++ [l[k]] = (l.take (k + 1)).eraseIdx i := by
  rw [List.take_succ_eq_append_getElem h]
  by_cases hik : i < k
  · rw [List.eraseIdx_append_of_lt_length (by simp; omega)]
  · rw [List.eraseIdx_of_length_le (l := l.take k) (by simp; omega), List.eraseIdx_of_length_le (by simp; omega)]
theorem outR_step1 {r : List Kd} {x : Kd} {k : Nat} (h : k < r.length) : (outR r x k k ++ [x]) ++ [r[k]] = outR r x k (k + 1) := by
  unfold outR
  rw [if_neg (by omega), if_pos (by omega), List.take_succ_eq_append_getElem h]
  unfold insK
  have : (r.take k).length = k := by simp; omega
  rw [List.take_left' this, List.drop_left' this]
  simp
theorem outR_step2 {r : List Kd} {x : Kd} {to k : Nat} (h : k < r.length) (hn : k ≠ to) : outR r x to k ++ [r[k]] = outR r x to (k + 1) := by
  unfold outR
  have hk : (r.take k).length = k := by simp; omega
  by_cases hlt : to < k
  · rw [if_pos hlt, if_pos (by omega), List.take_succ_eq_append_getElem h]
    unfold insK
    rw [List.take_append_of_le_length (by omega), List.drop_append_of_le_length (by omega)]
    simp
  · rw [if_neg hlt, if_neg (by omega), List.take_succ_eq_append_getElem h]
theorem outR_end {r : List Kd} {x : Kd} {to : Nat} (h : to ≤ r.length) : outR r x to (r.length + 1) = insK r to x := by
  unfold outR
  rw [if_pos (by omega), List.take_of_length_le (by omega)]
theorem outR_last1 {r : List Kd} {x : Kd} : outR r x r.length r.length ++ [x] = outR r x r.length (r.length + 1) := by
  rw [outR_end (Nat.le_refl _)]
  unfold outR insK
  rw [if_neg (by omega)]
  simp
theorem outR_last2 {r : List Kd} {x : Kd} {to : Nat} (h : to < r.length) : outR r x to r.length = outR r x to (r.length + 1) := by
  rw [outR_end (by omega)]
  unfold outR
  rw [if_pos h, List.take_length]
theorem outR_len (r : List Kd) (x : Kd) (to k : Nat) : (outR r x to k).length ≤ r.length + 1 := by
  unfold outR insK
  split <;> simp <;> omega

set_option maxHeartbeats 1000000 in
theorem sp_ref29_Moved {l : List Kd} (hl : l.length < 1000000) {i to : Nat} (h1 : i < l.length) (h2 : to < l.length) : TSp 40 [.ls 5 (kL l), .int .i64 i, .int .i64 to] (.ls 5 (kL (movR l i to))) := by
  refine spo_ref29_Moved (by rfl) ?_
  dsimp only [c_ref29_Moved, r_ref29_Moved, run_skip, run_reg, plainB, ifB_true, run_seq, run_blk, run_exit, run_ret, run_ite, iteR, regK, thenK_nrm, thenK_exit, thenK_ret, thenR_nrm, thenR_exit, thenR_ret, blkK, keepS, keepE, runOps_nil, runOps_cons, goG_some, fpOk, foot, entOf, allN, memN, goOn_ok, goOn_call, goOn_row, goOn_arr, goOn_ask, goOn_put, goOn_prm, goOn_callK, goOn_callC, goOn_all, guardP, guardO, notInO, stepF, stepLd, stepSt, stepIxs, stepIxa, stepLen, stepApp, stepCpy, stepPick, stepSls, stepSst, stepSla, bareZ, evX, evL, evB, rd, get, subG, memG, freshG, notInG, hyps, gob, impP, allP, partD, partOf, isOne, isPtr, nth, takeN, dropN, cellsD, lenB, fillD, thirds, entN, setE, sizeE, addE, setL, setN, putE, env0, eqCs, eqAux, eqC, bA, bO, bN, bE, negB, kEq, isShr, lendL, lend, frz, frzL, zRow, closed, closedL, rowsOf, binI, retK, retG, atRet, retD, lendO, resL, resD, oneD, renD, renL, renE, renEs, rho, putAll, entsN, List.append, List.nil_append, List.cons_append, List.append_nil, cond, Nat.reduceBEq, Nat.reduceAdd, Nat.beq]
  have hel := er_len h1
  refine loop_ind (α := {x : MvX // x.k ≤ l.length}) (fun x => stMv l i to x.1) (fun x => l.length - x.1.k) ?_ ⟨⟨0, 0⟩, by simp⟩ rfl
  rintro ⟨⟨k, v⟩, hk⟩ I ih
  dsimp only at hk
  dsimp only [stMv, run_skip, run_reg, plainB, ifB_true, run_seq, run_blk, run_exit, run_ret, run_ite, iteR, regK, thenK_nrm, thenK_exit, thenK_ret, thenR_nrm, thenR_exit, thenR_ret, blkK, keepS, keepE, runOps_nil, runOps_cons, goG_some, fpOk, foot, entOf, allN, memN, goOn_ok, goOn_call, goOn_row, goOn_arr, goOn_ask, goOn_put, goOn_prm, goOn_callK, goOn_callC, goOn_all, guardP, guardO, notInO, stepF, stepLd, stepSt, stepIxs, stepIxa, stepLen, stepApp, stepCpy, stepPick, stepSls, stepSst, stepSla, bareZ, evX, evL, evB, rd, get, subG, memG, freshG, notInG, hyps, gob, impP, allP, partD, partOf, isOne, isPtr, nth, takeN, dropN, cellsD, lenB, fillD, thirds, entN, setE, sizeE, addE, setL, setN, putE, env0, eqCs, eqAux, eqC, bA, bO, bN, bE, negB, kEq, isShr, lendL, lend, frz, frzL, zRow, closed, closedL, rowsOf, binI, retK, retG, atRet, retD, lendO, resL, resD, oneD, renD, renL, renE, renEs, rho, putAll, entsN, List.append, List.nil_append, List.cons_append, List.append_nil, cond, Nat.reduceBEq, Nat.reduceAdd, Nat.beq]
  rw [kL_len]
  refine ⟨fun hj => ?_, fun hj => ?_⟩
  · have hj : k < l.length := by simp at hj; omega
    refine ⟨fun hne => ?_, fun hne => ?_⟩
    · have hne : k ≠ i := by simp at hne; omega
      refine ⟨⟨rfl, by omega, by (try rw [kL_len]); omega⟩, row_intro _ (kdD l[k]) (kL_at hj) rfl ?_⟩
      unfold kdD
      dsimp only [run_skip, run_reg, plainB, ifB_true, run_seq, run_blk, run_exit, run_ret, run_ite, iteR, regK, thenK_nrm, thenK_exit, thenK_ret, thenR_nrm, thenR_exit, thenR_ret, blkK, keepS, keepE, runOps_nil, runOps_cons, goG_some, fpOk, foot, entOf, allN, memN, goOn_ok, goOn_call, goOn_row, goOn_arr, goOn_ask, goOn_put, goOn_prm, goOn_callK, goOn_callC, goOn_all, guardP, guardO, notInO, stepF, stepLd, stepSt, stepIxs, stepIxa, stepLen, stepApp, stepCpy, stepPick, stepSls, stepSst, stepSla, bareZ, evX, evL, evB, rd, get, subG, memG, freshG, notInG, hyps, gob, impP, allP, partD, partOf, isOne, isPtr, nth, takeN, dropN, cellsD, lenB, fillD, thirds, entN, setE, sizeE, addE, setL, setN, putE, env0, eqCs, eqAux, eqC, bA, bO, bN, bE, negB, kEq, isShr, lendL, lend, frz, frzL, zRow, closed, closedL, rowsOf, binI, retK, retG, atRet, retD, lendO, resL, resD, oneD, renD, renL, renE, renEs, rho, putAll, entsN, List.append, List.nil_append, List.cons_append, List.append_nil, cond, Nat.reduceBEq, Nat.reduceAdd, Nat.beq]
      rw [kL_len]
      have : ((l.take k).eraseIdx i).length ≤ l.length := Nat.le_trans (List.length_eraseIdx_le ..) (by simp; omega)
      refine ⟨⟨rfl, rfl, rfl, rfl, by simp; omega⟩, ?_⟩
      rw [show kL ((l.take k).eraseIdx i) ++ [D.agg [.int .i64 l[k].n, .int .i64 l[k].at'.x, .int .i64 l[k].at'.y, .int .i64 l[k].at'.w, .int .i64 l[k].at'.h]] = kL ((l.take (k + 1)).eraseIdx i) by rw [← take_erase_ne hj hne]; simp [kL, kdD]]
      refine ⟨by simp only [fits]; omega, ?_⟩
      exact again (ih ⟨⟨k + 1, v + 1⟩, by dsimp only; omega⟩ (by dsimp only; omega)) ⟨rfl, rfl, rfl, rfl, rfl, rfl, trivial⟩ ⟨rfl, rfl, rfl, trivial⟩ rfl rfl
    · have hne : k = i := by simp at hne; omega
      subst hne
      refine ⟨by simp only [fits]; omega, ?_⟩
      rw [← take_erase_eq hj]
      exact again (ih ⟨⟨k + 1, v⟩, by dsimp only; omega⟩ (by dsimp only; omega)) ⟨rfl, rfl, rfl, rfl, rfl, rfl, trivial⟩ ⟨rfl, rfl, rfl, trivial⟩ rfl rfl
  · have hj : k = l.length := by simp at hj; omega
    subst hj
    rw [List.take_length]
    refine loop_ind (α := {x : MvX // x.k ≤ l.length}) (fun x => stMw l i to v x.1) (fun x => l.length - x.1.k) ?_ ⟨⟨0, 0⟩, by simp⟩ (by simp [stMw, outR, kL])
    rintro ⟨⟨k, w⟩, hk⟩ I ih
    dsimp only at hk
    dsimp only [stMw, run_skip, run_reg, plainB, ifB_true, run_seq, run_blk, run_exit, run_ret, run_ite, iteR, regK, thenK_nrm, thenK_exit, thenK_ret, thenR_nrm, thenR_exit, thenR_ret, blkK, keepS, keepE, runOps_nil, runOps_cons, goG_some, fpOk, foot, entOf, allN, memN, goOn_ok, goOn_call, goOn_row, goOn_arr, goOn_ask, goOn_put, goOn_prm, goOn_callK, goOn_callC, goOn_all, guardP, guardO, notInO, stepF, stepLd, stepSt, stepIxs, stepIxa, stepLen, stepApp, stepCpy, stepPick, stepSls, stepSst, stepSla, bareZ, evX, evL, evB, rd, get, subG, memG, freshG, notInG, hyps, gob, impP, allP, partD, partOf, isOne, isPtr, nth, takeN, dropN, cellsD, lenB, fillD, thirds, entN, setE, sizeE, addE, setL, setN, putE, env0, eqCs, eqAux, eqC, bA, bO, bN, bE, negB, kEq, isShr, lendL, lend, frz, frzL, zRow, closed, closedL, rowsOf, binI, retK, retG, atRet, retD, lendO, resL, resD, oneD, renD, renL, renE, renEs, rho, putAll, entsN, List.append, List.nil_append, List.cons_append, List.append_nil, cond, Nat.reduceBEq, Nat.reduceAdd, Nat.beq]
    rw [kL_len]
    refine ⟨rfl, fun hj => ?_, fun hj => ?_⟩
    · have hj : k < l.length := by simp at hj; omega
      have hol := outR_len (l.eraseIdx i) (kAt l i) to k
      refine ⟨fun he => ?_, fun he => ?_⟩
      · have he : k = to := by simp at he; omega
        subst he
        refine ⟨⟨rfl, by omega, by (try rw [kL_len]); omega⟩, row_intro _ (kdD l[i]) (kL_at h1) rfl ?_⟩
        rw [← kAt_eq h1]
        unfold kdD
        dsimp only [run_skip, run_reg, plainB, ifB_true, run_seq, run_blk, run_exit, run_ret, run_ite, iteR, regK, thenK_nrm, thenK_exit, thenK_ret, thenR_nrm, thenR_exit, thenR_ret, blkK, keepS, keepE, runOps_nil, runOps_cons, goG_some, fpOk, foot, entOf, allN, memN, goOn_ok, goOn_call, goOn_row, goOn_arr, goOn_ask, goOn_put, goOn_prm, goOn_callK, goOn_callC, goOn_all, guardP, guardO, notInO, stepF, stepLd, stepSt, stepIxs, stepIxa, stepLen, stepApp, stepCpy, stepPick, stepSls, stepSst, stepSla, bareZ, evX, evL, evB, rd, get, subG, memG, freshG, notInG, hyps, gob, impP, allP, partD, partOf, isOne, isPtr, nth, takeN, dropN, cellsD, lenB, fillD, thirds, entN, setE, sizeE, addE, setL, setN, putE, env0, eqCs, eqAux, eqC, bA, bO, bN, bE, negB, kEq, isShr, lendL, lend, frz, frzL, zRow, closed, closedL, rowsOf, binI, retK, retG, atRet, retD, lendO, resL, resD, oneD, renD, renL, renE, renEs, rho, putAll, entsN, List.append, List.nil_append, List.cons_append, List.append_nil, cond, Nat.reduceBEq, Nat.reduceAdd, Nat.beq]
        rw [kL_len]
        refine ⟨⟨rfl, rfl, rfl, rfl, by simp; omega⟩, ?_⟩
        rw [show kL (outR (l.eraseIdx i) (kAt l i) k k) ++ [D.agg [.int .i64 (kAt l i).n, .int .i64 (kAt l i).at'.x, .int .i64 (kAt l i).at'.y, .int .i64 (kAt l i).at'.w, .int .i64 (kAt l i).at'.h]] = kL (outR (l.eraseIdx i) (kAt l i) k k ++ [kAt l i]) by simp [kL, kdD]]
        rw [kL_len]
        refine ⟨rfl, fun hr => ?_, fun hr => ?_⟩
        · have hr : k < (l.eraseIdx i).length := by simp at hr; omega
          refine ⟨⟨rfl, rfl, by omega, by omega⟩, ⟨rfl, rfl⟩, ?_⟩
          refine row_intro _ (kdD (l.eraseIdx i)[k]) (kL_at hr) rfl ?_
          unfold kdD
          dsimp only [run_skip, run_reg, plainB, ifB_true, run_seq, run_blk, run_exit, run_ret, run_ite, iteR, regK, thenK_nrm, thenK_exit, thenK_ret, thenR_nrm, thenR_exit, thenR_ret, blkK, keepS, keepE, runOps_nil, runOps_cons, goG_some, fpOk, foot, entOf, allN, memN, goOn_ok, goOn_call, goOn_row, goOn_arr, goOn_ask, goOn_put, goOn_prm, goOn_callK, goOn_callC, goOn_all, guardP, guardO, notInO, stepF, stepLd, stepSt, stepIxs, stepIxa, stepLen, stepApp, stepCpy, stepPick, stepSls, stepSst, stepSla, bareZ, evX, evL, evB, rd, get, subG, memG, freshG, notInG, hyps, gob, impP, allP, partD, partOf, isOne, isPtr, nth, takeN, dropN, cellsD, lenB, fillD, thirds, entN, setE, sizeE, addE, setL, setN, putE, env0, eqCs, eqAux, eqC, bA, bO, bN, bE, negB, kEq, isShr, lendL, lend, frz, frzL, zRow, closed, closedL, rowsOf, binI, retK, retG, atRet, retD, lendO, resL, resD, oneD, renD, renL, renE, renEs, rho, putAll, entsN, List.append, List.nil_append, List.cons_append, List.append_nil, cond, Nat.reduceBEq, Nat.reduceAdd, Nat.beq]
          rw [kL_len]
          refine ⟨⟨rfl, rfl, rfl, rfl, by simp; omega⟩, ?_⟩
          rw [show kL (outR (l.eraseIdx i) (kAt l i) k k ++ [kAt l i]) ++ [D.agg [.int .i64 (l.eraseIdx i)[k].n, .int .i64 (l.eraseIdx i)[k].at'.x, .int .i64 (l.eraseIdx i)[k].at'.y, .int .i64 (l.eraseIdx i)[k].at'.w, .int .i64 (l.eraseIdx i)[k].at'.h]] = kL (outR (l.eraseIdx i) (kAt l i) k (k + 1)) by rw [← outR_step1 hr]; simp [kL, kdD]]
          refine ⟨by simp only [fits]; omega, ?_⟩
          exact again (ih ⟨⟨k + 1, w + 1 + 1⟩, by dsimp only; omega⟩ (by dsimp only; omega)) ⟨rfl, rfl, rfl, rfl, rfl, rfl, trivial⟩ ⟨rfl, rfl, rfl, trivial⟩ rfl rfl
        · have hr : k = (l.eraseIdx i).length := by simp at hr; omega
          refine ⟨by simp only [fits]; omega, ?_⟩
          have e := outR_last1 (r := l.eraseIdx i) (x := kAt l i)
          rw [← hr] at e
          rw [e]
          exact again (ih ⟨⟨k + 1, w + 1⟩, by dsimp only; omega⟩ (by dsimp only; omega)) ⟨rfl, rfl, rfl, rfl, rfl, rfl, trivial⟩ ⟨rfl, rfl, rfl, trivial⟩ rfl rfl
      · have he : k ≠ to := by simp at he; omega
        refine ⟨rfl, fun hr => ?_, fun hr => ?_⟩
        · have hr : k < (l.eraseIdx i).length := by simp at hr; omega
          refine ⟨⟨rfl, rfl, by omega, by omega⟩, ⟨rfl, rfl⟩, ?_⟩
          refine row_intro _ (kdD (l.eraseIdx i)[k]) (kL_at hr) rfl ?_
          unfold kdD
          dsimp only [run_skip, run_reg, plainB, ifB_true, run_seq, run_blk, run_exit, run_ret, run_ite, iteR, regK, thenK_nrm, thenK_exit, thenK_ret, thenR_nrm, thenR_exit, thenR_ret, blkK, keepS, keepE, runOps_nil, runOps_cons, goG_some, fpOk, foot, entOf, allN, memN, goOn_ok, goOn_call, goOn_row, goOn_arr, goOn_ask, goOn_put, goOn_prm, goOn_callK, goOn_callC, goOn_all, guardP, guardO, notInO, stepF, stepLd, stepSt, stepIxs, stepIxa, stepLen, stepApp, stepCpy, stepPick, stepSls, stepSst, stepSla, bareZ, evX, evL, evB, rd, get, subG, memG, freshG, notInG, hyps, gob, impP, allP, partD, partOf, isOne, isPtr, nth, takeN, dropN, cellsD, lenB, fillD, thirds, entN, setE, sizeE, addE, setL, setN, putE, env0, eqCs, eqAux, eqC, bA, bO, bN, bE, negB, kEq, isShr, lendL, lend, frz, frzL, zRow, closed, closedL, rowsOf, binI, retK, retG, atRet, retD, lendO, resL, resD, oneD, renD, renL, renE, renEs, rho, putAll, entsN, List.append, List.nil_append, List.cons_append, List.append_nil, cond, Nat.reduceBEq, Nat.reduceAdd, Nat.beq]
          rw [kL_len]
          refine ⟨⟨rfl, rfl, rfl, rfl, by simp; omega⟩, ?_⟩
          rw [show kL (outR (l.eraseIdx i) (kAt l i) to k) ++ [D.agg [.int .i64 (l.eraseIdx i)[k].n, .int .i64 (l.eraseIdx i)[k].at'.x, .int .i64 (l.eraseIdx i)[k].at'.y, .int .i64 (l.eraseIdx i)[k].at'.w, .int .i64 (l.eraseIdx i)[k].at'.h]] = kL (outR (l.eraseIdx i) (kAt l i) to (k + 1)) by rw [← outR_step2 hr he]; simp [kL, kdD]]
          refine ⟨by simp only [fits]; omega, ?_⟩
          exact again (ih ⟨⟨k + 1, w + 1⟩, by dsimp only; omega⟩ (by dsimp only; omega)) ⟨rfl, rfl, rfl, rfl, rfl, rfl, trivial⟩ ⟨rfl, rfl, rfl, trivial⟩ rfl rfl
        · have hr : k = (l.eraseIdx i).length := by simp at hr; omega
          refine ⟨by simp only [fits]; omega, ?_⟩
          have e := outR_last2 (r := l.eraseIdx i) (x := kAt l i) (to := to) (by omega)
          rw [← hr] at e
          rw [e]
          exact again (ih ⟨⟨k + 1, w⟩, by dsimp only; omega⟩ (by dsimp only; omega)) ⟨rfl, rfl, rfl, rfl, rfl, rfl, trivial⟩ ⟨rfl, rfl, rfl, trivial⟩ rfl rfl
    · have hj : k = l.length := by simp at hj; omega
      subst hj
      have e := outR_end (r := l.eraseIdx i) (x := kAt l i) (to := to) (by omega)
      rw [hel] at e
      rw [e]
      exact ⟨rfl, rfl⟩
end Go.AM
