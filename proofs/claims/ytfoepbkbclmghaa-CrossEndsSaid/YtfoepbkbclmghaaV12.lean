
/- Chapter 36: Same, Back, Name. -/
import Derived.Test.YtfoepbkbclmghaaV11
set_option linter.all false
namespace Go.AM
open Go Go.Proofs

def nameD (n : Int) : List UInt8 := if n = 0 then [97, 110, 99, 101, 115, 116, 111, 114] else if n = 1 then [118, 105, 114, 116, 117, 97, 108] else if n = 2 then [105, 110, 102, 101, 114, 105, 111, 114] else if n = 3 then [110, 111, 110, 108, 105, 110, 101, 97, 114] else if n = 4 then [110, 111, 110, 108, 105, 110, 101, 97, 114, 45, 118, 105, 114, 116, 117, 97, 108] else []
theorem sp_cross_Name (n : Int) : TSp 17 [.int .i64 n] (.str (nameD n)) := by
  refine spo_cross_Name (by rfl) ?_
  dsimp only [c_cross_Name, r_cross_Name, run_skip, run_reg, plainB, ifB_true, run_seq, run_blk, run_exit, run_ret, run_ite, iteR, regK, thenK_nrm, thenK_exit, thenK_ret, thenR_nrm, thenR_exit, thenR_ret, blkK, keepS, keepE, runOps_nil, runOps_cons, goG_some, fpOk, foot, entOf, allN, memN, goOn_ok, goOn_call, goOn_row, goOn_arr, goOn_ask, goOn_put, goOn_prm, goOn_callK, goOn_all, guardP, guardO, notInO, stepF, stepLd, stepSt, stepIxs, stepIxa, stepLen, stepApp, stepCpy, stepPick, stepSls, stepSst, stepSla, bareZ, evX, evL, evB, rd, get, subG, memG, freshG, notInG, hyps, gob, impP, allP, partD, partOf, isOne, isPtr, nth, takeN, dropN, cellsD, lenB, fillD, thirds, entN, setE, sizeE, addE, setL, setN, putE, env0, eqCs, eqAux, eqC, bA, bO, bN, bE, negB, kEq, isShr, lendL, lend, frz, frzL, zRow, closed, closedL, rowsOf, binI, retK, retG, atRet, retD, lendO, resL, resD, oneD, renD, renL, renE, renEs, rho, putAll, entsN, List.append, List.nil_append, List.cons_append, List.append_nil, cond, Nat.reduceBEq, Nat.reduceAdd, Nat.beq]
  unfold nameD
  by_cases h0 : n = 0
  · subst h0; exact ⟨fun _ => by first | rfl | trivial, fun h => by simp at h⟩
  refine ⟨fun h => by simp [h0] at h, fun _ => ?_⟩
  by_cases h1 : n = 1
  · subst h1; exact ⟨fun _ => by first | rfl | trivial, fun h => by simp at h⟩
  refine ⟨fun h => by simp [h1] at h, fun _ => ?_⟩
  by_cases h2 : n = 2
  · subst h2; exact ⟨fun _ => by first | rfl | trivial, fun h => by simp at h⟩
  refine ⟨fun h => by simp [h2] at h, fun _ => ?_⟩
  by_cases h3 : n = 3
  · subst h3; exact ⟨fun _ => by first | rfl | trivial, fun h => by simp at h⟩
  refine ⟨fun h => by simp [h3] at h, fun _ => ?_⟩
  by_cases h4 : n = 4
  · subst h4; exact ⟨fun _ => by first | rfl | trivial, fun h => by simp at h⟩
  refine ⟨fun h => by simp [h4] at h, fun _ => ?_⟩
  simp [h0, h1, h2, h3, h4]

def stSm (a b : List Stp) (i : Nat) : St := ⟨[(0, [], .ls 3 (sL a)), (1, [], .ls 3 (sL b)), (12, [], .int .i64 a.length), (13, [], .int .i64 i)], []⟩
theorem eq_stp (a b : Stp) : (decide (a = b)) = (decide (a.id = b.id) && (decide (a.en = b.en) && decide (a.det = b.det))) := by
  cases a; cases b; simp [Stp.mk.injEq]
theorem sp_law36_Same {a b : List Stp} (ha : a.length < 1000000) : TSp 11 [.ls 3 (sL a), .ls 3 (sL b)] (.bool (decide (a = b))) := by
  refine spo_law36_Same (by rfl) ?_
  dsimp only [c_law36_Same, r_law36_Same, run_skip, run_reg, plainB, ifB_true, run_seq, run_blk, run_exit, run_ret, run_ite, iteR, regK, thenK_nrm, thenK_exit, thenK_ret, thenR_nrm, thenR_exit, thenR_ret, blkK, keepS, keepE, runOps_nil, runOps_cons, goG_some, fpOk, foot, entOf, allN, memN, goOn_ok, goOn_call, goOn_row, goOn_arr, goOn_ask, goOn_put, goOn_prm, goOn_callK, goOn_all, guardP, guardO, notInO, stepF, stepLd, stepSt, stepIxs, stepIxa, stepLen, stepApp, stepCpy, stepPick, stepSls, stepSst, stepSla, bareZ, evX, evL, evB, rd, get, subG, memG, freshG, notInG, hyps, gob, impP, allP, partD, partOf, isOne, isPtr, nth, takeN, dropN, cellsD, lenB, fillD, thirds, entN, setE, sizeE, addE, setL, setN, putE, env0, eqCs, eqAux, eqC, bA, bO, bN, bE, negB, kEq, isShr, lendL, lend, frz, frzL, zRow, closed, closedL, rowsOf, binI, retK, retG, atRet, retD, lendO, resL, resD, oneD, renD, renL, renE, renEs, rho, putAll, entsN, List.append, List.nil_append, List.cons_append, List.append_nil, cond, Nat.reduceBEq, Nat.reduceAdd, Nat.beq]
  rw [sL_len, sL_len]
  by_cases hl : a.length = b.length
  case neg =>
    refine ⟨fun _ => ?_, fun h => by simp at h; omega⟩
    have : a ≠ b := fun e => hl (by rw [e])
    simp [this]
  refine ⟨fun h => by simp at h; omega, fun _ => ?_⟩
  refine loop_ind (α := {i : Nat // i ≤ a.length ∧ (a.drop i = b.drop i ↔ a = b)}) (fun i => stSm a b i.1) (fun i => a.length - i.1) ?_ ⟨0, by simp⟩ rfl
  rintro ⟨i, hi, hv⟩ I ih
  dsimp only [stSm, run_skip, run_reg, plainB, ifB_true, run_seq, run_blk, run_exit, run_ret, run_ite, iteR, regK, thenK_nrm, thenK_exit, thenK_ret, thenR_nrm, thenR_exit, thenR_ret, blkK, keepS, keepE, runOps_nil, runOps_cons, goG_some, fpOk, foot, entOf, allN, memN, goOn_ok, goOn_call, goOn_row, goOn_arr, goOn_ask, goOn_put, goOn_prm, goOn_callK, goOn_all, guardP, guardO, notInO, stepF, stepLd, stepSt, stepIxs, stepIxa, stepLen, stepApp, stepCpy, stepPick, stepSls, stepSst, stepSla, bareZ, evX, evL, evB, rd, get, subG, memG, freshG, notInG, hyps, gob, impP, allP, partD, partOf, isOne, isPtr, nth, takeN, dropN, cellsD, lenB, fillD, thirds, entN, setE, sizeE, addE, setL, setN, putE, env0, eqCs, eqAux, eqC, bA, bO, bN, bE, negB, kEq, isShr, lendL, lend, frz, frzL, zRow, closed, closedL, rowsOf, binI, retK, retG, atRet, retD, lendO, resL, resD, oneD, renD, renL, renE, renEs, rho, putAll, entsN, List.append, List.nil_append, List.cons_append, List.append_nil, cond, Nat.reduceBEq, Nat.reduceAdd, Nat.beq]
  refine ⟨fun hj => ?_, fun hj => ?_⟩
  · have hj : i < a.length := by simp at hj; omega
    have hjb : i < b.length := by omega
    refine ⟨⟨rfl, by omega, by rw [sL_len]; omega⟩, row_intro _ _ (sL_at hj) rfl ?_⟩
    dsimp only [stD, run_skip, run_reg, plainB, ifB_true, run_seq, run_blk, run_exit, run_ret, run_ite, iteR, regK, thenK_nrm, thenK_exit, thenK_ret, thenR_nrm, thenR_exit, thenR_ret, blkK, keepS, keepE, runOps_nil, runOps_cons, goG_some, fpOk, foot, entOf, allN, memN, goOn_ok, goOn_call, goOn_row, goOn_arr, goOn_ask, goOn_put, goOn_prm, goOn_callK, goOn_all, guardP, guardO, notInO, stepF, stepLd, stepSt, stepIxs, stepIxa, stepLen, stepApp, stepCpy, stepPick, stepSls, stepSst, stepSla, bareZ, evX, evL, evB, rd, get, subG, memG, freshG, notInG, hyps, gob, impP, allP, partD, partOf, isOne, isPtr, nth, takeN, dropN, cellsD, lenB, fillD, thirds, entN, setE, sizeE, addE, setL, setN, putE, env0, eqCs, eqAux, eqC, bA, bO, bN, bE, negB, kEq, isShr, lendL, lend, frz, frzL, zRow, closed, closedL, rowsOf, binI, retK, retG, atRet, retD, lendO, resL, resD, oneD, renD, renL, renE, renEs, rho, putAll, entsN, List.append, List.nil_append, List.cons_append, List.append_nil, cond, Nat.reduceBEq, Nat.reduceAdd, Nat.beq]
    refine ⟨⟨rfl, by omega, by rw [sL_len]; omega⟩, row_intro _ _ (sL_at hjb) rfl ?_⟩
    dsimp only [stD, run_skip, run_reg, plainB, ifB_true, run_seq, run_blk, run_exit, run_ret, run_ite, iteR, regK, thenK_nrm, thenK_exit, thenK_ret, thenR_nrm, thenR_exit, thenR_ret, blkK, keepS, keepE, runOps_nil, runOps_cons, goG_some, fpOk, foot, entOf, allN, memN, goOn_ok, goOn_call, goOn_row, goOn_arr, goOn_ask, goOn_put, goOn_prm, goOn_callK, goOn_all, guardP, guardO, notInO, stepF, stepLd, stepSt, stepIxs, stepIxa, stepLen, stepApp, stepCpy, stepPick, stepSls, stepSst, stepSla, bareZ, evX, evL, evB, rd, get, subG, memG, freshG, notInG, hyps, gob, impP, allP, partD, partOf, isOne, isPtr, nth, takeN, dropN, cellsD, lenB, fillD, thirds, entN, setE, sizeE, addE, setL, setN, putE, env0, eqCs, eqAux, eqC, bA, bO, bN, bE, negB, kEq, isShr, lendL, lend, frz, frzL, zRow, closed, closedL, rowsOf, binI, retK, retG, atRet, retD, lendO, resL, resD, oneD, renD, renL, renE, renEs, rho, putAll, entsN, List.append, List.nil_append, List.cons_append, List.append_nil, cond, Nat.reduceBEq, Nat.reduceAdd, Nat.beq]
    rw [drop_at hj, drop_at (l := b) (by omega), List.cons.injEq] at hv
    obtain ⟨y, hy⟩ : ∃ y, b[i]'hjb = y := ⟨_, rfl⟩
    simp only [hy] at hv ⊢
    generalize a[i] = x at *
    by_cases he : x = y
    · subst he
      refine ⟨fun h => by simp at h, fun _ => ?_⟩
      refine ⟨by simp only [fits]; omega, ?_⟩
      exact again (ih ⟨i + 1, by omega, by rw [← hv]; simp⟩ (by dsimp only; omega)) ⟨rfl, rfl, rfl, rfl, trivial⟩ trivial rfl rfl
    · have hab : a ≠ b := fun e => he (hv.2 e).1
      refine ⟨fun _ => by simp [hab], fun h => ?_⟩
      exact absurd h (by
        obtain ⟨x1, x2, x3⟩ := x
        obtain ⟨y1, y2, y3⟩ := y
        simp at he ⊢
        exact he)
  · have hj : i = a.length := by simp at hj; omega
    subst hj
    rw [List.drop_length, hl, List.drop_length] at hv
    have : a = b := hv.1 rfl
    simp [this]
end Go.AM
