
/- Chapter 63: Same. -/
import Derived.Test.YtlmhekbbagpnjaaDoorS11
set_option linter.all false
namespace Go.AM
open Go Go.Proofs Go.RowKit

/-- The same command, and the same line if that is asked. -/
def sameC (ln : Bool) (x y : Cm) : Bool := (bN ln || decide (x.line = y.line)) && (decide (x.op = y.op) && (decide (x.nums = y.nums) && decide (x.words = y.words)))
def sameB (ln : Bool) : List Cm → List Cm → Bool
  | [], [] => true
  | x :: l, y :: r => sameC ln x y && sameB ln l r
  | _, _ => false
theorem sameB_drop {ln : Bool} {l r : List Cm} {i : Nat} (h : i < l.length) (h' : i < r.length) : sameB ln (l.drop i) (r.drop i) = (sameC ln l[i] r[i] && sameB ln (l.drop (i + 1)) (r.drop (i + 1))) := by
  rw [List.drop_eq_getElem_cons h, List.drop_eq_getElem_cons h']; rfl
theorem sameB_len {ln : Bool} : ∀ {l r : List Cm}, sameB ln l r = true → l.length = r.length
  | [], [], _ => rfl
  | x :: l, y :: r, h => by simp only [sameB, Bool.and_eq_true] at h; simp [sameB_len h.2]
  | [], _ :: _, h => by simp [sameB] at h
  | _ :: _, [], h => by simp [sameB] at h
theorem sameC_refl (ln : Bool) (x : Cm) : sameC ln x x = true := by simp [sameC]
theorem sameB_refl (ln : Bool) : ∀ (l : List Cm), sameB ln l l = true
  | [] => rfl
  | x :: l => by simp [sameB, sameC_refl, sameB_refl ln l]
theorem eq_of_take {α : Type} {l r : List α} (hl : l.length = r.length) {j : Nat} (h : l.take j = r.take j) (hj : j < l.length) (h' : l[j] = r[j]'(by omega)) : l.take (j + 1) = r.take (j + 1) := by
  rw [List.take_succ_eq_append_getElem hj, List.take_succ_eq_append_getElem (show j < r.length by omega), h, h']
theorem sp_ref63_Same {l r : List Cm} {ln : Bool} (hl : l.length < 2000000) (hw : ∀ c ∈ l, c.nums.length < 9223372036854775808 ∧ c.words.length < 9223372036854775808) : TSp 12 [.ls 4 (cL l), .ls 4 (cL r), .bool ln] (.bool (sameB ln l r)) := by
  refine spo_ref63_Same (by rfl) ?_
  dsimp only [c_ref63_Same, r_ref63_Same, run_skip, run_reg, plainB, ifB_true, run_seq, run_blk, run_exit, run_ret, run_ite, iteR, regK, thenK_nrm, thenK_exit, thenK_ret, thenR_nrm, thenR_exit, thenR_ret, blkK, keepS, keepE, runOps_nil, runOps_cons, goG_some, fpOk, foot, entOf, allN, memN, goOn_ok, goOn_call, goOn_row, goOn_arr, goOn_ask, goOn_put, goOn_prm, goOn_callK, goOn_callC, goOn_all, guardP, guardO, notInO, stepF, stepLd, stepSt, stepIxs, stepIxa, stepLen, stepApp, stepCpy, stepPick, stepSls, stepSst, stepSla, bareZ, evX, evL, evB, rd, get, subG, memG, freshG, notInG, hyps, gob, impP, allP, partD, partOf, isOne, isPtr, nth, takeN, dropN, cellsD, lenB, fillD, thirds, entN, setE, sizeE, addE, setL, setN, putE, env0, eqCs, eqAux, eqC, bA, bO, bN, bE, negB, kEq, isShr, lendL, lend, frz, frzL, zRow, closed, closedL, rowsOf, binI, retK, retG, atRet, retD, lendO, resL, resD, oneD, renD, renL, renE, renEs, rho, putAll, entsN, List.append, List.nil_append, List.cons_append, List.append_nil, cond, Nat.reduceBEq, Nat.reduceAdd, Nat.beq]
  simp only [cL_len]
  refine ⟨fun hne => ?_, fun hne => ?_⟩
  · have : sameB ln l r = false := by
      cases h : sameB ln l r with
      | false => rfl
      | true => have := sameB_len h; rw [this] at hne; simp at hne
    rw [this]
  have hlr : l.length = r.length := by simp at hne; omega
  refine loop_ind (α := {i : Nat // i ≤ l.length ∧ sameB ln (l.drop i) (r.drop i) = sameB ln l r}) (fun i => ⟨[(0, [], .ls 4 (cL l)), (1, [], .ls 4 (cL r)), (2, [], .bool ln), (7, [], .int .i64 i.1)], []⟩) (fun i => l.length - i.1) ?_ ⟨0, by simp⟩ rfl
  rintro ⟨i, h1, h2⟩ I ih
  dsimp only [run_skip, run_reg, plainB, ifB_true, run_seq, run_blk, run_exit, run_ret, run_ite, iteR, regK, thenK_nrm, thenK_exit, thenK_ret, thenR_nrm, thenR_exit, thenR_ret, blkK, keepS, keepE, runOps_nil, runOps_cons, goG_some, fpOk, foot, entOf, allN, memN, goOn_ok, goOn_call, goOn_row, goOn_arr, goOn_ask, goOn_put, goOn_prm, goOn_callK, goOn_callC, goOn_all, guardP, guardO, notInO, stepF, stepLd, stepSt, stepIxs, stepIxa, stepLen, stepApp, stepCpy, stepPick, stepSls, stepSst, stepSla, bareZ, evX, evL, evB, rd, get, subG, memG, freshG, notInG, hyps, gob, impP, allP, partD, partOf, isOne, isPtr, nth, takeN, dropN, cellsD, lenB, fillD, thirds, entN, setE, sizeE, addE, setL, setN, putE, env0, eqCs, eqAux, eqC, bA, bO, bN, bE, negB, kEq, isShr, lendL, lend, frz, frzL, zRow, closed, closedL, rowsOf, binI, retK, retG, atRet, retD, lendO, resL, resD, oneD, renD, renL, renE, renEs, rho, putAll, entsN, List.append, List.nil_append, List.cons_append, List.append_nil, cond, Nat.reduceBEq, Nat.reduceAdd, Nat.beq]
  simp only [cL_len]
  refine ⟨fun hi => ?_, fun hi => ?_⟩
  · have hi : i < l.length := by simpa using hi
    have hi' : i < r.length := by omega
    rw [sameB_drop hi hi'] at h2
    have hrow : (cL l)[(i : Int).toNat]? = some (cmD l[i]) := by rw [Int.toNat_natCast]; exact cL_at hi
    have hrow' : (cL r)[(i : Int).toNat]? = some (cmD r[i]) := by rw [Int.toNat_natCast]; exact cL_at hi'
    have hlw := hw _ (List.getElem_mem hi)
    generalize hx : l[i] = x at *
    generalize hy : r[i] = y at *
    refine ⟨⟨trivial, by omega, by first | omega | (rw [cL_len]; omega)⟩, row_intro _ (cmD x) hrow rfl ?_⟩
    dsimp only [cmD, run_skip, run_reg, plainB, ifB_true, run_seq, run_blk, run_exit, run_ret, run_ite, iteR, regK, thenK_nrm, thenK_exit, thenK_ret, thenR_nrm, thenR_exit, thenR_ret, blkK, keepS, keepE, runOps_nil, runOps_cons, goG_some, fpOk, foot, entOf, allN, memN, goOn_ok, goOn_call, goOn_row, goOn_arr, goOn_ask, goOn_put, goOn_prm, goOn_callK, goOn_callC, goOn_all, guardP, guardO, notInO, stepF, stepLd, stepSt, stepIxs, stepIxa, stepLen, stepApp, stepCpy, stepPick, stepSls, stepSst, stepSla, bareZ, evX, evL, evB, rd, get, subG, memG, freshG, notInG, hyps, gob, impP, allP, partD, partOf, isOne, isPtr, nth, takeN, dropN, cellsD, lenB, fillD, thirds, entN, setE, sizeE, addE, setL, setN, putE, env0, eqCs, eqAux, eqC, bA, bO, bN, bE, negB, kEq, isShr, lendL, lend, frz, frzL, zRow, closed, closedL, rowsOf, binI, retK, retG, atRet, retD, lendO, resL, resD, oneD, renD, renL, renE, renEs, rho, putAll, entsN, List.append, List.nil_append, List.cons_append, List.append_nil, cond, Nat.reduceBEq, Nat.reduceAdd, Nat.beq]
    refine ⟨⟨rfl, by omega, by rw [cL_len]; omega⟩, row_intro _ (cmD y) hrow' rfl ?_⟩
    dsimp only [cmD, run_skip, run_reg, plainB, ifB_true, run_seq, run_blk, run_exit, run_ret, run_ite, iteR, regK, thenK_nrm, thenK_exit, thenK_ret, thenR_nrm, thenR_exit, thenR_ret, blkK, keepS, keepE, runOps_nil, runOps_cons, goG_some, fpOk, foot, entOf, allN, memN, goOn_ok, goOn_call, goOn_row, goOn_arr, goOn_ask, goOn_put, goOn_prm, goOn_callK, goOn_callC, goOn_all, guardP, guardO, notInO, stepF, stepLd, stepSt, stepIxs, stepIxa, stepLen, stepApp, stepCpy, stepPick, stepSls, stepSst, stepSla, bareZ, evX, evL, evB, rd, get, subG, memG, freshG, notInG, hyps, gob, impP, allP, partD, partOf, isOne, isPtr, nth, takeN, dropN, cellsD, lenB, fillD, thirds, entN, setE, sizeE, addE, setL, setN, putE, env0, eqCs, eqAux, eqC, bA, bO, bN, bE, negB, kEq, isShr, lendL, lend, frz, frzL, zRow, closed, closedL, rowsOf, binI, retK, retG, atRet, retD, lendO, resL, resD, oneD, renD, renL, renE, renEs, rho, putAll, entsN, List.append, List.nil_append, List.cons_append, List.append_nil, cond, Nat.reduceBEq, Nat.reduceAdd, Nat.beq]
    simp only [nL_len, sL_len]
    refine ⟨fun h => ?_, fun h => ?_⟩
    · have : sameC ln x y = false := by
        cases hc : sameC ln x y with
        | false => rfl
        | true =>
          simp only [sameC, Bool.and_eq_true, decide_eq_true_eq] at hc
          obtain ⟨q1, q2, q3, q4⟩ := hc
          rw [q2, q3, q4] at h
          cases ln <;> simp [bN] at h q1
          exact absurd q1 h
      rw [this, Bool.false_and] at h2
      exact congrArg D.bool h2
    simp only [Bool.or_eq_false_iff, Bool.not_eq_false', decide_eq_true_eq] at h
    obtain ⟨⟨⟨q1, q2⟩, q3⟩, q4⟩ := h
    have q3' : x.nums.length = y.nums.length := by omega
    have q4' : x.words.length = y.words.length := by omega
    have q1' : (bN ln || decide (x.line = y.line)) = true := by cases ln <;> simp [bN] at q1 ⊢; exact q1
    have hbad : (x.nums ≠ y.nums ∨ x.words ≠ y.words) → sameB ln l r = false := fun hd => by
      rw [← h2]
      unfold sameC
      rcases hd with hd | hd <;> simp [hd]
    refine loop_ind (α := {j : Nat // j ≤ x.nums.length ∧ x.nums.take j = y.nums.take j}) (fun j => ⟨[(0, [], .ls 4 (cL l)), (1, [], .ls 4 (cL r)), (2, [], .bool ln), (7, [], .int .i64 i), (8, [], .box 0 0), (9, [], .box 1 0), (10, [], .int .i64 j.1)],
      [.cells [.int .i64 x.line, .int .i64 x.op, .ls 1 (nL x.nums), .ls 1 (sL x.words)], .cells [.int .i64 y.line, .int .i64 y.op, .ls 1 (nL y.nums), .ls 1 (sL y.words)]]⟩) (fun j => x.nums.length - j.1) ?_ ⟨0, by simp⟩ rfl
    rintro ⟨j, j1, j2⟩ I2 ih2
    dsimp only [run_skip, run_reg, plainB, ifB_true, run_seq, run_blk, run_exit, run_ret, run_ite, iteR, regK, thenK_nrm, thenK_exit, thenK_ret, thenR_nrm, thenR_exit, thenR_ret, blkK, keepS, keepE, runOps_nil, runOps_cons, goG_some, fpOk, foot, entOf, allN, memN, goOn_ok, goOn_call, goOn_row, goOn_arr, goOn_ask, goOn_put, goOn_prm, goOn_callK, goOn_callC, goOn_all, guardP, guardO, notInO, stepF, stepLd, stepSt, stepIxs, stepIxa, stepLen, stepApp, stepCpy, stepPick, stepSls, stepSst, stepSla, bareZ, evX, evL, evB, rd, get, subG, memG, freshG, notInG, hyps, gob, impP, allP, partD, partOf, isOne, isPtr, nth, takeN, dropN, cellsD, lenB, fillD, thirds, entN, setE, sizeE, addE, setL, setN, putE, env0, eqCs, eqAux, eqC, bA, bO, bN, bE, negB, kEq, isShr, lendL, lend, frz, frzL, zRow, closed, closedL, rowsOf, binI, retK, retG, atRet, retD, lendO, resL, resD, oneD, renD, renL, renE, renEs, rho, putAll, entsN, List.append, List.nil_append, List.cons_append, List.append_nil, cond, Nat.reduceBEq, Nat.reduceAdd, Nat.beq]
    simp only [nL_len]
    refine ⟨fun hj => ?_, fun hj => ?_⟩
    · have hj : j < x.nums.length := by simpa using hj
      have hj' : j < y.nums.length := by omega
      refine ⟨⟨trivial, by omega, by omega⟩, row_intro _ (.int .i64 x.nums[j]) (by rw [Int.toNat_natCast]; exact nL_at hj) rfl ?_⟩
      dsimp only [run_skip, run_reg, plainB, ifB_true, run_seq, run_blk, run_exit, run_ret, run_ite, iteR, regK, thenK_nrm, thenK_exit, thenK_ret, thenR_nrm, thenR_exit, thenR_ret, blkK, keepS, keepE, runOps_nil, runOps_cons, goG_some, fpOk, foot, entOf, allN, memN, goOn_ok, goOn_call, goOn_row, goOn_arr, goOn_ask, goOn_put, goOn_prm, goOn_callK, goOn_callC, goOn_all, guardP, guardO, notInO, stepF, stepLd, stepSt, stepIxs, stepIxa, stepLen, stepApp, stepCpy, stepPick, stepSls, stepSst, stepSla, bareZ, evX, evL, evB, rd, get, subG, memG, freshG, notInG, hyps, gob, impP, allP, partD, partOf, isOne, isPtr, nth, takeN, dropN, cellsD, lenB, fillD, thirds, entN, setE, sizeE, addE, setL, setN, putE, env0, eqCs, eqAux, eqC, bA, bO, bN, bE, negB, kEq, isShr, lendL, lend, frz, frzL, zRow, closed, closedL, rowsOf, binI, retK, retG, atRet, retD, lendO, resL, resD, oneD, renD, renL, renE, renEs, rho, putAll, entsN, List.append, List.nil_append, List.cons_append, List.append_nil, cond, Nat.reduceBEq, Nat.reduceAdd, Nat.beq]
      refine ⟨⟨rfl, by omega, by rw [nL_len]; omega⟩, row_intro _ (.int .i64 y.nums[j]) (by rw [Int.toNat_natCast]; exact nL_at hj') rfl ?_⟩
      dsimp only [run_skip, run_reg, plainB, ifB_true, run_seq, run_blk, run_exit, run_ret, run_ite, iteR, regK, thenK_nrm, thenK_exit, thenK_ret, thenR_nrm, thenR_exit, thenR_ret, blkK, keepS, keepE, runOps_nil, runOps_cons, goG_some, fpOk, foot, entOf, allN, memN, goOn_ok, goOn_call, goOn_row, goOn_arr, goOn_ask, goOn_put, goOn_prm, goOn_callK, goOn_callC, goOn_all, guardP, guardO, notInO, stepF, stepLd, stepSt, stepIxs, stepIxa, stepLen, stepApp, stepCpy, stepPick, stepSls, stepSst, stepSla, bareZ, evX, evL, evB, rd, get, subG, memG, freshG, notInG, hyps, gob, impP, allP, partD, partOf, isOne, isPtr, nth, takeN, dropN, cellsD, lenB, fillD, thirds, entN, setE, sizeE, addE, setL, setN, putE, env0, eqCs, eqAux, eqC, bA, bO, bN, bE, negB, kEq, isShr, lendL, lend, frz, frzL, zRow, closed, closedL, rowsOf, binI, retK, retG, atRet, retD, lendO, resL, resD, oneD, renD, renL, renE, renEs, rho, putAll, entsN, List.append, List.nil_append, List.cons_append, List.append_nil, cond, Nat.reduceBEq, Nat.reduceAdd, Nat.beq]
      refine ⟨fun hd => ?_, fun hd => ?_⟩
      · have hne : x.nums ≠ y.nums := fun e => by
          have : x.nums[j] = y.nums[j] := by simp only [e]
          rw [this] at hd; simp at hd
        rw [hbad (.inl hne)]
      · have he : x.nums[j] = y.nums[j] := by simpa using hd
        refine ⟨by simp only [fits]; omega, ?_⟩
        refine again (ih2 ⟨j + 1, by omega, eq_of_take q3' j2 hj he⟩ (by dsimp only; omega)) ?_ ?_ rfl rfl
        · exact ⟨rfl, rfl, rfl, rfl, rfl, rfl, rfl, trivial⟩
        · exact ⟨rfl, rfl, trivial⟩
    have hj : j = x.nums.length := by simp at hj; omega
    subst hj
    have hnums : x.nums = y.nums := by
      rw [List.take_length] at j2
      rw [j2, q3', List.take_length]
    refine loop_ind (α := {j : Nat // j ≤ x.words.length ∧ x.words.take j = y.words.take j}) (fun j => ⟨[(0, [], .ls 4 (cL l)), (1, [], .ls 4 (cL r)), (2, [], .bool ln), (7, [], .int .i64 i), (8, [], .box 0 0), (9, [], .box 1 0), (11, [], .int .i64 j.1)],
      [.cells [.int .i64 x.line, .int .i64 x.op, .ls 1 (nL x.nums), .ls 1 (sL x.words)], .cells [.int .i64 y.line, .int .i64 y.op, .ls 1 (nL y.nums), .ls 1 (sL y.words)]]⟩) (fun j => x.words.length - j.1) ?_ ⟨0, by simp⟩ rfl
    rintro ⟨j, j1, j2⟩ I3 ih3
    dsimp only [run_skip, run_reg, plainB, ifB_true, run_seq, run_blk, run_exit, run_ret, run_ite, iteR, regK, thenK_nrm, thenK_exit, thenK_ret, thenR_nrm, thenR_exit, thenR_ret, blkK, keepS, keepE, runOps_nil, runOps_cons, goG_some, fpOk, foot, entOf, allN, memN, goOn_ok, goOn_call, goOn_row, goOn_arr, goOn_ask, goOn_put, goOn_prm, goOn_callK, goOn_callC, goOn_all, guardP, guardO, notInO, stepF, stepLd, stepSt, stepIxs, stepIxa, stepLen, stepApp, stepCpy, stepPick, stepSls, stepSst, stepSla, bareZ, evX, evL, evB, rd, get, subG, memG, freshG, notInG, hyps, gob, impP, allP, partD, partOf, isOne, isPtr, nth, takeN, dropN, cellsD, lenB, fillD, thirds, entN, setE, sizeE, addE, setL, setN, putE, env0, eqCs, eqAux, eqC, bA, bO, bN, bE, negB, kEq, isShr, lendL, lend, frz, frzL, zRow, closed, closedL, rowsOf, binI, retK, retG, atRet, retD, lendO, resL, resD, oneD, renD, renL, renE, renEs, rho, putAll, entsN, List.append, List.nil_append, List.cons_append, List.append_nil, cond, Nat.reduceBEq, Nat.reduceAdd, Nat.beq]
    simp only [sL_len]
    refine ⟨fun hj => ?_, fun hj => ?_⟩
    · have hj : j < x.words.length := by simpa using hj
      have hj' : j < y.words.length := by omega
      refine ⟨⟨trivial, by omega, by omega⟩, row_intro _ (.str x.words[j]) (by rw [Int.toNat_natCast]; exact sL_at hj) rfl ?_⟩
      dsimp only [run_skip, run_reg, plainB, ifB_true, run_seq, run_blk, run_exit, run_ret, run_ite, iteR, regK, thenK_nrm, thenK_exit, thenK_ret, thenR_nrm, thenR_exit, thenR_ret, blkK, keepS, keepE, runOps_nil, runOps_cons, goG_some, fpOk, foot, entOf, allN, memN, goOn_ok, goOn_call, goOn_row, goOn_arr, goOn_ask, goOn_put, goOn_prm, goOn_callK, goOn_callC, goOn_all, guardP, guardO, notInO, stepF, stepLd, stepSt, stepIxs, stepIxa, stepLen, stepApp, stepCpy, stepPick, stepSls, stepSst, stepSla, bareZ, evX, evL, evB, rd, get, subG, memG, freshG, notInG, hyps, gob, impP, allP, partD, partOf, isOne, isPtr, nth, takeN, dropN, cellsD, lenB, fillD, thirds, entN, setE, sizeE, addE, setL, setN, putE, env0, eqCs, eqAux, eqC, bA, bO, bN, bE, negB, kEq, isShr, lendL, lend, frz, frzL, zRow, closed, closedL, rowsOf, binI, retK, retG, atRet, retD, lendO, resL, resD, oneD, renD, renL, renE, renEs, rho, putAll, entsN, List.append, List.nil_append, List.cons_append, List.append_nil, cond, Nat.reduceBEq, Nat.reduceAdd, Nat.beq]
      refine ⟨⟨rfl, by omega, by rw [sL_len]; omega⟩, row_intro _ (.str y.words[j]) (by rw [Int.toNat_natCast]; exact sL_at hj') rfl ?_⟩
      dsimp only [run_skip, run_reg, plainB, ifB_true, run_seq, run_blk, run_exit, run_ret, run_ite, iteR, regK, thenK_nrm, thenK_exit, thenK_ret, thenR_nrm, thenR_exit, thenR_ret, blkK, keepS, keepE, runOps_nil, runOps_cons, goG_some, fpOk, foot, entOf, allN, memN, goOn_ok, goOn_call, goOn_row, goOn_arr, goOn_ask, goOn_put, goOn_prm, goOn_callK, goOn_callC, goOn_all, guardP, guardO, notInO, stepF, stepLd, stepSt, stepIxs, stepIxa, stepLen, stepApp, stepCpy, stepPick, stepSls, stepSst, stepSla, bareZ, evX, evL, evB, rd, get, subG, memG, freshG, notInG, hyps, gob, impP, allP, partD, partOf, isOne, isPtr, nth, takeN, dropN, cellsD, lenB, fillD, thirds, entN, setE, sizeE, addE, setL, setN, putE, env0, eqCs, eqAux, eqC, bA, bO, bN, bE, negB, kEq, isShr, lendL, lend, frz, frzL, zRow, closed, closedL, rowsOf, binI, retK, retG, atRet, retD, lendO, resL, resD, oneD, renD, renL, renE, renEs, rho, putAll, entsN, List.append, List.nil_append, List.cons_append, List.append_nil, cond, Nat.reduceBEq, Nat.reduceAdd, Nat.beq]
      refine ⟨fun hd => ?_, fun hd => ?_⟩
      · have hne : x.words ≠ y.words := fun e => by
          have : x.words[j] = y.words[j] := by simp only [e]
          rw [this] at hd; simp at hd
        rw [hbad (.inr hne)]
      · have he : x.words[j] = y.words[j] := by simpa using hd
        refine ⟨by simp only [fits]; omega, ?_⟩
        refine again (ih3 ⟨j + 1, by omega, eq_of_take q4' j2 hj he⟩ (by dsimp only; omega)) ?_ ?_ rfl rfl
        · exact ⟨rfl, rfl, rfl, rfl, rfl, rfl, rfl, trivial⟩
        · exact ⟨rfl, rfl, trivial⟩
    have hj : j = x.words.length := by simp at hj; omega
    subst hj
    have hwords : x.words = y.words := by
      rw [List.take_length] at j2
      rw [j2, q4', List.take_length]
    have hsc : sameC ln x y = true := by simp [sameC, q1', q2, hnums, hwords]
    rw [hsc, Bool.true_and] at h2
    refine ⟨by simp only [fits]; omega, ?_⟩
    refine again (ih ⟨i + 1, by omega, h2⟩ (by dsimp only; omega)) ?_ ?_ rfl rfl
    · exact ⟨rfl, rfl, rfl, rfl, trivial⟩
    · trivial
  · have hi : i = l.length := by simp at hi; omega
    subst hi
    rw [List.drop_length, hlr, List.drop_length] at h2
    exact congrArg D.bool h2
end Go.AM
