
/- Chapter 63: of, Short, and what the document prints. -/
import Derived.Test.YtlmhekbbagpnjaaDoorS18
set_option linter.all false
namespace Go.AM
open Go Go.Proofs Go.RowKit

theorem sp_law63_of {l : List Cm} (hl : l.length * 64 ≤ 140737488351232) : TSp 13 [.ls 4 (cL l)] (.ls 4 (cL l)) := by
  refine spo_law63_of (by rfl) ?_
  dsimp only [c_law63_of, r_law63_of, run_skip, run_reg, plainB, ifB_true, run_seq, run_blk, run_exit, run_ret, run_ite, iteR, regK, thenK_nrm, thenK_exit, thenK_ret, thenR_nrm, thenR_exit, thenR_ret, blkK, keepS, keepE, runOps_nil, runOps_cons, goG_some, fpOk, foot, entOf, allN, memN, goOn_ok, goOn_call, goOn_row, goOn_arr, goOn_ask, goOn_put, goOn_prm, goOn_callK, goOn_callC, goOn_all, guardP, guardO, notInO, stepF, stepLd, stepSt, stepIxs, stepIxa, stepLen, stepApp, stepCpy, stepPick, stepSls, stepSst, stepSla, bareZ, evX, evL, evB, rd, get, subG, memG, freshG, notInG, hyps, gob, impP, allP, partD, partOf, isOne, isPtr, nth, takeN, dropN, cellsD, lenB, fillD, thirds, entN, setE, sizeE, addE, setL, setN, putE, env0, eqCs, eqAux, eqC, bA, bO, bN, bE, negB, kEq, isShr, lendL, lend, frz, frzL, zRow, closed, closedL, rowsOf, binI, retK, retG, atRet, retD, lendO, resL, resD, oneD, renD, renL, renE, renEs, rho, putAll, entsN, List.append, List.nil_append, List.cons_append, List.append_nil, cond, Nat.reduceBEq, Nat.reduceAdd, Nat.beq]
  refine loop_ind (α := {i : Nat // i ≤ l.length}) (fun i => ⟨[(0, [], .ls 4 (cL l)), (3, [], .own 1 i.1), (4, [], .int .i64 i.1)], [.arr 54 4 0 [], .arr 54 4 i.1 (cL (l.take i.1))]⟩) (fun i => l.length - i.1) ?_ ⟨0, by omega⟩ rfl
  rintro ⟨i, h1⟩ I ih
  dsimp only [run_skip, run_reg, plainB, ifB_true, run_seq, run_blk, run_exit, run_ret, run_ite, iteR, regK, thenK_nrm, thenK_exit, thenK_ret, thenR_nrm, thenR_exit, thenR_ret, blkK, keepS, keepE, runOps_nil, runOps_cons, goG_some, fpOk, foot, entOf, allN, memN, goOn_ok, goOn_call, goOn_row, goOn_arr, goOn_ask, goOn_put, goOn_prm, goOn_callK, goOn_callC, goOn_all, guardP, guardO, notInO, stepF, stepLd, stepSt, stepIxs, stepIxa, stepLen, stepApp, stepCpy, stepPick, stepSls, stepSst, stepSla, bareZ, evX, evL, evB, rd, get, subG, memG, freshG, notInG, hyps, gob, impP, allP, partD, partOf, isOne, isPtr, nth, takeN, dropN, cellsD, lenB, fillD, thirds, entN, setE, sizeE, addE, setL, setN, putE, env0, eqCs, eqAux, eqC, bA, bO, bN, bE, negB, kEq, isShr, lendL, lend, frz, frzL, zRow, closed, closedL, rowsOf, binI, retK, retG, atRet, retD, lendO, resL, resD, oneD, renD, renL, renE, renEs, rho, putAll, entsN, List.append, List.nil_append, List.cons_append, List.append_nil, cond, Nat.reduceBEq, Nat.reduceAdd, Nat.beq]
  simp only [cL_len]
  refine ⟨fun hi => ?_, fun hi => ?_⟩
  · have hi : i < l.length := by simpa using hi
    refine ⟨⟨trivial, by omega, by omega⟩, row_intro _ (cmD l[i]) (show _ = some (cmD l[i]) from by rw [Int.toNat_natCast]; exact cL_at hi) rfl ?_⟩
    dsimp only [cmD, run_skip, run_reg, plainB, ifB_true, run_seq, run_blk, run_exit, run_ret, run_ite, iteR, regK, thenK_nrm, thenK_exit, thenK_ret, thenR_nrm, thenR_exit, thenR_ret, blkK, keepS, keepE, runOps_nil, runOps_cons, goG_some, fpOk, foot, entOf, allN, memN, goOn_ok, goOn_call, goOn_row, goOn_arr, goOn_ask, goOn_put, goOn_prm, goOn_callK, goOn_callC, goOn_all, guardP, guardO, notInO, stepF, stepLd, stepSt, stepIxs, stepIxa, stepLen, stepApp, stepCpy, stepPick, stepSls, stepSst, stepSla, bareZ, evX, evL, evB, rd, get, subG, memG, freshG, notInG, hyps, gob, impP, allP, partD, partOf, isOne, isPtr, nth, takeN, dropN, cellsD, lenB, fillD, thirds, entN, setE, sizeE, addE, setL, setN, putE, env0, eqCs, eqAux, eqC, bA, bO, bN, bE, negB, kEq, isShr, lendL, lend, frz, frzL, zRow, closed, closedL, rowsOf, binI, retK, retG, atRet, retD, lendO, resL, resD, oneD, renD, renL, renE, renEs, rho, putAll, entsN, List.append, List.nil_append, List.cons_append, List.append_nil, cond, Nat.reduceBEq, Nat.reduceAdd, Nat.beq]
    have ht : (l.take i).length = i := by simp; omega
    refine ⟨⟨rfl, rfl, rfl, rfl, by rw [cL_len, ht]; simp; omega⟩, ?_⟩
    refine ⟨by simp only [fits]; omega, ?_⟩
    refine again (ih ⟨i + 1, by omega⟩ (by dsimp only; omega)) ?_ ?_ rfl rfl
    · exact ⟨rfl, rfl, rfl, trivial⟩
    · refine ⟨rfl, ?_, trivial⟩
      dsimp only; rw [List.take_succ_eq_append_getElem hi]; simp only [cL, List.map_append, List.map_cons, List.map_nil, cmD]
  · have hi : i = l.length := by simp at hi; omega
    subst hi
    rw [List.take_length]
    exact ⟨trivial, rfl⟩

def shortC (c : Cm) : Bool := decide (c.nums.length ≤ 120) && decide (c.words.length ≤ 5) && c.words.all fun w => decide (w.length ≤ 400)
def shortL (l : List Cm) : Bool := decide (l.length ≤ 50) && l.all shortC
/-- As it is gone through: the first fifty, then the length. -/
def shortG (l : List Cm) : Bool := (l.take 50).all shortC && decide (l.length ≤ 50)
theorem shortG_eq (l : List Cm) : shortG l = shortL l := by
  unfold shortG shortL
  by_cases h : l.length ≤ 50
  · rw [List.take_of_length_le h]; simp [h]
  · simp [h]
theorem all_take {α : Type} {p : α → Bool} {s : List α} {i : Nat} (h : i < s.length) : (s.take (i + 1)).all p = ((s.take i).all p && p s[i]) := by
  rw [List.take_succ_eq_append_getElem h, List.all_append]; simp
theorem all_bad {α : Type} {p : α → Bool} {s : List α} {i : Nat} (h : i < s.length) (hb : p s[i] = false) : s.all p = false := by
  rw [List.all_eq_false]
  exact ⟨_, List.getElem_mem h, by simp [hb]⟩
theorem cm_row (l : List Cm) (i : Nat) (h : i < l.length) : (cL l)[(i : Int).toNat]? = some (.agg [.int .i64 l[i].line, .int .i64 l[i].op, .ls 1 (nL l[i].nums), .ls 1 (sL l[i].words)]) := by
  rw [Int.toNat_natCast]; exact cL_at h
theorem sp_ref63_Short {l : List Cm} (hl : l.length ≤ maxLen) (hw : ∀ c ∈ l, c.words.length ≤ maxLen) : TSp 14 [.ls 4 (cL l)] (.bool (shortL l)) := by
  have hml : maxLen = 9223372036854775807 := rfl
  rw [← shortG_eq]
  refine spo_ref63_Short (by rfl) ?_
  dsimp only [c_ref63_Short, r_ref63_Short, run_skip, run_reg, plainB, ifB_true, run_seq, run_blk, run_exit, run_ret, run_ite, iteR, regK, thenK_nrm, thenK_exit, thenK_ret, thenR_nrm, thenR_exit, thenR_ret, blkK, keepS, keepE, runOps_nil, runOps_cons, goG_some, fpOk, foot, entOf, allN, memN, goOn_ok, goOn_call, goOn_row, goOn_arr, goOn_ask, goOn_put, goOn_prm, goOn_callK, goOn_callC, goOn_all, guardP, guardO, notInO, stepF, stepLd, stepSt, stepIxs, stepIxa, stepLen, stepApp, stepCpy, stepPick, stepSls, stepSst, stepSla, bareZ, evX, evL, evB, rd, get, subG, memG, freshG, notInG, hyps, gob, impP, allP, partD, partOf, isOne, isPtr, nth, takeN, dropN, cellsD, lenB, fillD, thirds, entN, setE, sizeE, addE, setL, setN, putE, env0, eqCs, eqAux, eqC, bA, bO, bN, bE, negB, kEq, isShr, lendL, lend, frz, frzL, zRow, closed, closedL, rowsOf, binI, retK, retG, atRet, retD, lendO, resL, resD, oneD, renD, renL, renE, renEs, rho, putAll, entsN, List.append, List.nil_append, List.cons_append, List.append_nil, cond, Nat.reduceBEq, Nat.reduceAdd, Nat.beq]
  refine loop_ind (α := {i : Nat // i ≤ l.length ∧ i ≤ 50 ∧ (l.take i).all shortC = true}) (fun i => ⟨[(0, [], .ls 4 (cL l)), (3, [], .int .i64 i.1)], []⟩) (fun i => 50 - i.1) ?_ ⟨0, by simp⟩ rfl
  rintro ⟨i, h1, h2, h3⟩ I ih
  dsimp only [run_skip, run_reg, plainB, ifB_true, run_seq, run_blk, run_exit, run_ret, run_ite, iteR, regK, thenK_nrm, thenK_exit, thenK_ret, thenR_nrm, thenR_exit, thenR_ret, blkK, keepS, keepE, runOps_nil, runOps_cons, goG_some, fpOk, foot, entOf, allN, memN, goOn_ok, goOn_call, goOn_row, goOn_arr, goOn_ask, goOn_put, goOn_prm, goOn_callK, goOn_callC, goOn_all, guardP, guardO, notInO, stepF, stepLd, stepSt, stepIxs, stepIxa, stepLen, stepApp, stepCpy, stepPick, stepSls, stepSst, stepSla, bareZ, evX, evL, evB, rd, get, subG, memG, freshG, notInG, hyps, gob, impP, allP, partD, partOf, isOne, isPtr, nth, takeN, dropN, cellsD, lenB, fillD, thirds, entN, setE, sizeE, addE, setL, setN, putE, env0, eqCs, eqAux, eqC, bA, bO, bN, bE, negB, kEq, isShr, lendL, lend, frz, frzL, zRow, closed, closedL, rowsOf, binI, retK, retG, atRet, retD, lendO, resL, resD, oneD, renD, renL, renE, renEs, rho, putAll, entsN, List.append, List.nil_append, List.cons_append, List.append_nil, cond, Nat.reduceBEq, Nat.reduceAdd, Nat.beq]
  simp only [cL_len]
  refine ⟨fun hi => ?_, fun hi => ?_⟩
  · simp only [Bool.and_eq_true, decide_eq_true_eq] at hi
    have hi1 : i < l.length := by omega
    have hi2 : i < 50 := by omega
    have hrow := cm_row l i hi1
    have hwl := hw _ (List.getElem_mem hi1)
    have hbad : shortC l[i] = false → shortG l = false := fun h => by
      unfold shortG
      have : (l.take 50).all shortC = false := all_bad (i := i) (by simp; omega) (by rw [List.getElem_take]; exact h)
      rw [this]; rfl
    generalize hc : l[i] = c at *
    refine ⟨⟨trivial, by omega, by omega⟩, row_intro _ (.ls 1 (nL c.nums)) hrow rfl ?_⟩
    dsimp only [run_skip, run_reg, plainB, ifB_true, run_seq, run_blk, run_exit, run_ret, run_ite, iteR, regK, thenK_nrm, thenK_exit, thenK_ret, thenR_nrm, thenR_exit, thenR_ret, blkK, keepS, keepE, runOps_nil, runOps_cons, goG_some, fpOk, foot, entOf, allN, memN, goOn_ok, goOn_call, goOn_row, goOn_arr, goOn_ask, goOn_put, goOn_prm, goOn_callK, goOn_callC, goOn_all, guardP, guardO, notInO, stepF, stepLd, stepSt, stepIxs, stepIxa, stepLen, stepApp, stepCpy, stepPick, stepSls, stepSst, stepSla, bareZ, evX, evL, evB, rd, get, subG, memG, freshG, notInG, hyps, gob, impP, allP, partD, partOf, isOne, isPtr, nth, takeN, dropN, cellsD, lenB, fillD, thirds, entN, setE, sizeE, addE, setL, setN, putE, env0, eqCs, eqAux, eqC, bA, bO, bN, bE, negB, kEq, isShr, lendL, lend, frz, frzL, zRow, closed, closedL, rowsOf, binI, retK, retG, atRet, retD, lendO, resL, resD, oneD, renD, renL, renE, renEs, rho, putAll, entsN, List.append, List.nil_append, List.cons_append, List.append_nil, cond, Nat.reduceBEq, Nat.reduceAdd, Nat.beq]
    refine ⟨fun _ => ⟨rfl, by omega, by rw [cL_len]; omega⟩, row_intro _ (.ls 1 (sL c.words)) (fun _ => hrow) rfl ?_⟩
    dsimp only [run_skip, run_reg, plainB, ifB_true, run_seq, run_blk, run_exit, run_ret, run_ite, iteR, regK, thenK_nrm, thenK_exit, thenK_ret, thenR_nrm, thenR_exit, thenR_ret, blkK, keepS, keepE, runOps_nil, runOps_cons, goG_some, fpOk, foot, entOf, allN, memN, goOn_ok, goOn_call, goOn_row, goOn_arr, goOn_ask, goOn_put, goOn_prm, goOn_callK, goOn_callC, goOn_all, guardP, guardO, notInO, stepF, stepLd, stepSt, stepIxs, stepIxa, stepLen, stepApp, stepCpy, stepPick, stepSls, stepSst, stepSla, bareZ, evX, evL, evB, rd, get, subG, memG, freshG, notInG, hyps, gob, impP, allP, partD, partOf, isOne, isPtr, nth, takeN, dropN, cellsD, lenB, fillD, thirds, entN, setE, sizeE, addE, setL, setN, putE, env0, eqCs, eqAux, eqC, bA, bO, bN, bE, negB, kEq, isShr, lendL, lend, frz, frzL, zRow, closed, closedL, rowsOf, binI, retK, retG, atRet, retD, lendO, resL, resD, oneD, renD, renL, renE, renEs, rho, putAll, entsN, List.append, List.nil_append, List.cons_append, List.append_nil, cond, Nat.reduceBEq, Nat.reduceAdd, Nat.beq]
    simp only [nL_len, sL_len]
    refine ⟨fun hb => ?_, fun hb => ?_⟩
    · have : shortC c = false := by
        unfold shortC
        simp only [Bool.or_eq_true, decide_eq_true_eq] at hb
        rcases hb with hb | hb
        · have : ¬ c.nums.length ≤ 120 := by omega
          simp [this]
        · have : ¬ c.words.length ≤ 5 := by omega
          simp [this]
      rw [hbad this]
    · simp only [Bool.or_eq_false_iff, decide_eq_false_iff_not] at hb
      refine loop_ind (α := {k : Nat // k ≤ c.words.length ∧ (c.words.take k).all (fun w => decide (w.length ≤ 400)) = true}) (fun k => ⟨[(0, [], .ls 4 (cL l)), (3, [], .int .i64 i), (4, [], .int .i64 k.1)], []⟩) (fun k => c.words.length - k.1) ?_ ⟨0, by simp⟩ rfl
      rintro ⟨k, h4, h5⟩ I2 ih2
      dsimp only [run_skip, run_reg, plainB, ifB_true, run_seq, run_blk, run_exit, run_ret, run_ite, iteR, regK, thenK_nrm, thenK_exit, thenK_ret, thenR_nrm, thenR_exit, thenR_ret, blkK, keepS, keepE, runOps_nil, runOps_cons, goG_some, fpOk, foot, entOf, allN, memN, goOn_ok, goOn_call, goOn_row, goOn_arr, goOn_ask, goOn_put, goOn_prm, goOn_callK, goOn_callC, goOn_all, guardP, guardO, notInO, stepF, stepLd, stepSt, stepIxs, stepIxa, stepLen, stepApp, stepCpy, stepPick, stepSls, stepSst, stepSla, bareZ, evX, evL, evB, rd, get, subG, memG, freshG, notInG, hyps, gob, impP, allP, partD, partOf, isOne, isPtr, nth, takeN, dropN, cellsD, lenB, fillD, thirds, entN, setE, sizeE, addE, setL, setN, putE, env0, eqCs, eqAux, eqC, bA, bO, bN, bE, negB, kEq, isShr, lendL, lend, frz, frzL, zRow, closed, closedL, rowsOf, binI, retK, retG, atRet, retD, lendO, resL, resD, oneD, renD, renL, renE, renEs, rho, putAll, entsN, List.append, List.nil_append, List.cons_append, List.append_nil, cond, Nat.reduceBEq, Nat.reduceAdd, Nat.beq]
      simp only [cL_len]
      refine ⟨⟨trivial, by omega, by omega⟩, row_intro _ (.ls 1 (sL c.words)) hrow rfl ?_⟩
      dsimp only [run_skip, run_reg, plainB, ifB_true, run_seq, run_blk, run_exit, run_ret, run_ite, iteR, regK, thenK_nrm, thenK_exit, thenK_ret, thenR_nrm, thenR_exit, thenR_ret, blkK, keepS, keepE, runOps_nil, runOps_cons, goG_some, fpOk, foot, entOf, allN, memN, goOn_ok, goOn_call, goOn_row, goOn_arr, goOn_ask, goOn_put, goOn_prm, goOn_callK, goOn_callC, goOn_all, guardP, guardO, notInO, stepF, stepLd, stepSt, stepIxs, stepIxa, stepLen, stepApp, stepCpy, stepPick, stepSls, stepSst, stepSla, bareZ, evX, evL, evB, rd, get, subG, memG, freshG, notInG, hyps, gob, impP, allP, partD, partOf, isOne, isPtr, nth, takeN, dropN, cellsD, lenB, fillD, thirds, entN, setE, sizeE, addE, setL, setN, putE, env0, eqCs, eqAux, eqC, bA, bO, bN, bE, negB, kEq, isShr, lendL, lend, frz, frzL, zRow, closed, closedL, rowsOf, binI, retK, retG, atRet, retD, lendO, resL, resD, oneD, renD, renL, renE, renEs, rho, putAll, entsN, List.append, List.nil_append, List.cons_append, List.append_nil, cond, Nat.reduceBEq, Nat.reduceAdd, Nat.beq]
      simp only [sL_len]
      refine ⟨fun hk => ?_, fun hk => ?_⟩
      · have hk : k < c.words.length := by simpa using hk
        refine ⟨⟨trivial, by omega, by first | omega | (rw [cL_len]; omega)⟩, row_intro _ (.ls 1 (sL c.words)) hrow rfl ?_⟩
        dsimp only [run_skip, run_reg, plainB, ifB_true, run_seq, run_blk, run_exit, run_ret, run_ite, iteR, regK, thenK_nrm, thenK_exit, thenK_ret, thenR_nrm, thenR_exit, thenR_ret, blkK, keepS, keepE, runOps_nil, runOps_cons, goG_some, fpOk, foot, entOf, allN, memN, goOn_ok, goOn_call, goOn_row, goOn_arr, goOn_ask, goOn_put, goOn_prm, goOn_callK, goOn_callC, goOn_all, guardP, guardO, notInO, stepF, stepLd, stepSt, stepIxs, stepIxa, stepLen, stepApp, stepCpy, stepPick, stepSls, stepSst, stepSla, bareZ, evX, evL, evB, rd, get, subG, memG, freshG, notInG, hyps, gob, impP, allP, partD, partOf, isOne, isPtr, nth, takeN, dropN, cellsD, lenB, fillD, thirds, entN, setE, sizeE, addE, setL, setN, putE, env0, eqCs, eqAux, eqC, bA, bO, bN, bE, negB, kEq, isShr, lendL, lend, frz, frzL, zRow, closed, closedL, rowsOf, binI, retK, retG, atRet, retD, lendO, resL, resD, oneD, renD, renL, renE, renEs, rho, putAll, entsN, List.append, List.nil_append, List.cons_append, List.append_nil, cond, Nat.reduceBEq, Nat.reduceAdd, Nat.beq]
        refine ⟨⟨rfl, by omega, by rw [sL_len]; omega⟩, row_intro _ (.str c.words[k]) (show _ = some (D.str c.words[k]) from by rw [Int.toNat_natCast]; exact sL_at hk) rfl ?_⟩
        dsimp only [run_skip, run_reg, plainB, ifB_true, run_seq, run_blk, run_exit, run_ret, run_ite, iteR, regK, thenK_nrm, thenK_exit, thenK_ret, thenR_nrm, thenR_exit, thenR_ret, blkK, keepS, keepE, runOps_nil, runOps_cons, goG_some, fpOk, foot, entOf, allN, memN, goOn_ok, goOn_call, goOn_row, goOn_arr, goOn_ask, goOn_put, goOn_prm, goOn_callK, goOn_callC, goOn_all, guardP, guardO, notInO, stepF, stepLd, stepSt, stepIxs, stepIxa, stepLen, stepApp, stepCpy, stepPick, stepSls, stepSst, stepSla, bareZ, evX, evL, evB, rd, get, subG, memG, freshG, notInG, hyps, gob, impP, allP, partD, partOf, isOne, isPtr, nth, takeN, dropN, cellsD, lenB, fillD, thirds, entN, setE, sizeE, addE, setL, setN, putE, env0, eqCs, eqAux, eqC, bA, bO, bN, bE, negB, kEq, isShr, lendL, lend, frz, frzL, zRow, closed, closedL, rowsOf, binI, retK, retG, atRet, retD, lendO, resL, resD, oneD, renD, renL, renE, renEs, rho, putAll, entsN, List.append, List.nil_append, List.cons_append, List.append_nil, cond, Nat.reduceBEq, Nat.reduceAdd, Nat.beq]
        refine ⟨fun hb2 => ?_, fun hb2 => ?_⟩
        · have : shortC c = false := by
            unfold shortC
            have h6 : c.words.all (fun w => decide (w.length ≤ 400)) = false := all_bad hk (by simp only [decide_eq_true_eq] at hb2; simp; omega)
            rw [h6]; simp
          rw [hbad this]
        · refine ⟨by simp only [fits]; omega, ?_⟩
          refine again (ih2 ⟨k + 1, by omega, by rw [all_take hk, h5]; simp only [decide_eq_false_iff_not] at hb2; simp; omega⟩ (by dsimp only; omega)) ?_ ?_ rfl rfl
          · exact ⟨rfl, rfl, rfl, trivial⟩
          · trivial
      · have hk : k = c.words.length := by simp at hk; omega
        subst hk
        rw [List.take_length] at h5
        refine ⟨by simp only [fits]; omega, ?_⟩
        refine again (ih ⟨i + 1, by omega, by omega, by
          rw [all_take hi1, h3, hc]
          unfold shortC
          rw [h5]
          have e1 : c.nums.length ≤ 120 := by omega
          have e2 : c.words.length ≤ 5 := by omega
          simp [e1, e2]⟩ (by dsimp only; omega)) ?_ ?_ rfl rfl
        · exact ⟨rfl, rfl, trivial⟩
        · trivial
  · unfold shortG
    have hle : i = l.length ∨ i = 50 := by
      simp only [Bool.and_eq_false_iff, decide_eq_false_iff_not] at hi
      omega
    have h6 : (l.take 50).all shortC = true := by
      rcases hle with rfl | rfl
      · rw [List.take_length] at h3
        rw [List.all_eq_true] at h3 ⊢
        exact fun x hx => h3 x (List.mem_of_mem_take hx)
      · exact h3
    rw [h6]
    have : decide (((l.length : Nat) : Int) ≤ 50) = decide (l.length ≤ 50) := decide_eq_decide.2 (by omega)
    rw [this]; simp
end Go.AM
