
/- Chapter 36: Back. -/
import Derived.Test.YtfoepbkbclmghaaV13
set_option linter.all false
namespace Go.AM
open Go Go.Proofs

def flipS (s : Stp) : Stp := ⟨s.id, !s.en, s.det⟩
def backS (l : List Stp) : List Stp := l.reverse.map flipS
def stBk (l : List Stp) (v i : Nat) : St := ⟨[(0, [], .ls 3 (sL l)), (3, [], .own 1 v), (4, [], .int .i64 ((l.length : Int) - 1 - i))], [.arr 42 3 0 [], .arr 42 3 v (sL ((l.reverse.take i).map flipS))]⟩
theorem sp_cross_Back {l : List Stp} (hl : l.length < 1000000) : TSp 16 [.ls 3 (sL l)] (.ls 3 (sL (backS l))) := by
  refine spo_cross_Back (by rfl) ?_
  dsimp only [c_cross_Back, r_cross_Back, run_skip, run_reg, plainB, ifB_true, run_seq, run_blk, run_exit, run_ret, run_ite, iteR, regK, thenK_nrm, thenK_exit, thenK_ret, thenR_nrm, thenR_exit, thenR_ret, blkK, keepS, keepE, runOps_nil, runOps_cons, goG_some, fpOk, foot, entOf, allN, memN, goOn_ok, goOn_call, goOn_row, goOn_arr, goOn_ask, goOn_put, goOn_prm, goOn_callK, goOn_all, guardP, guardO, notInO, stepF, stepLd, stepSt, stepIxs, stepIxa, stepLen, stepApp, stepCpy, stepPick, stepSls, stepSst, stepSla, bareZ, evX, evL, evB, rd, get, subG, memG, freshG, notInG, hyps, gob, impP, allP, partD, partOf, isOne, isPtr, nth, takeN, dropN, cellsD, lenB, fillD, thirds, entN, setE, sizeE, addE, setL, setN, putE, env0, eqCs, eqAux, eqC, bA, bO, bN, bE, negB, kEq, isShr, lendL, lend, frz, frzL, zRow, closed, closedL, rowsOf, binI, retK, retG, atRet, retD, lendO, resL, resD, oneD, renD, renL, renE, renEs, rho, putAll, entsN, List.append, List.nil_append, List.cons_append, List.append_nil, cond, Nat.reduceBEq, Nat.reduceAdd, Nat.beq]
  rw [sL_len]
  refine ⟨⟨by omega, by omega, by omega⟩, by simp only [fits]; omega, ?_⟩
  refine loop_ind (α := {x : Nat × Nat // x.2 ≤ l.length}) (fun x => stBk l x.1.1 x.1.2) (fun x => l.length - x.1.2) ?_ ⟨(1, 0), by simp⟩ (by simp [stBk]; rfl)
  rintro ⟨⟨v, i⟩, hi⟩ I ih
  dsimp only at hi
  dsimp only [stBk, run_skip, run_reg, plainB, ifB_true, run_seq, run_blk, run_exit, run_ret, run_ite, iteR, regK, thenK_nrm, thenK_exit, thenK_ret, thenR_nrm, thenR_exit, thenR_ret, blkK, keepS, keepE, runOps_nil, runOps_cons, goG_some, fpOk, foot, entOf, allN, memN, goOn_ok, goOn_call, goOn_row, goOn_arr, goOn_ask, goOn_put, goOn_prm, goOn_callK, goOn_all, guardP, guardO, notInO, stepF, stepLd, stepSt, stepIxs, stepIxa, stepLen, stepApp, stepCpy, stepPick, stepSls, stepSst, stepSla, bareZ, evX, evL, evB, rd, get, subG, memG, freshG, notInG, hyps, gob, impP, allP, partD, partOf, isOne, isPtr, nth, takeN, dropN, cellsD, lenB, fillD, thirds, entN, setE, sizeE, addE, setL, setN, putE, env0, eqCs, eqAux, eqC, bA, bO, bN, bE, negB, kEq, isShr, lendL, lend, frz, frzL, zRow, closed, closedL, rowsOf, binI, retK, retG, atRet, retD, lendO, resL, resD, oneD, renD, renL, renE, renEs, rho, putAll, entsN, List.append, List.nil_append, List.cons_append, List.append_nil, cond, Nat.reduceBEq, Nat.reduceAdd, Nat.beq]
  refine ⟨fun hj => ?_, fun hj => ?_⟩
  · have hj : i < l.length := by simp at hj; omega
    have hk : ((l.length : Int) - 1 - i).toNat = l.length - 1 - i := by omega
    refine ⟨⟨rfl, by omega, by rw [sL_len]; omega⟩, row_intro _ _ (by rw [hk]; exact sL_at (by omega)) rfl ?_⟩
    dsimp only [stD, run_skip, run_reg, plainB, ifB_true, run_seq, run_blk, run_exit, run_ret, run_ite, iteR, regK, thenK_nrm, thenK_exit, thenK_ret, thenR_nrm, thenR_exit, thenR_ret, blkK, keepS, keepE, runOps_nil, runOps_cons, goG_some, fpOk, foot, entOf, allN, memN, goOn_ok, goOn_call, goOn_row, goOn_arr, goOn_ask, goOn_put, goOn_prm, goOn_callK, goOn_all, guardP, guardO, notInO, stepF, stepLd, stepSt, stepIxs, stepIxa, stepLen, stepApp, stepCpy, stepPick, stepSls, stepSst, stepSla, bareZ, evX, evL, evB, rd, get, subG, memG, freshG, notInG, hyps, gob, impP, allP, partD, partOf, isOne, isPtr, nth, takeN, dropN, cellsD, lenB, fillD, thirds, entN, setE, sizeE, addE, setL, setN, putE, env0, eqCs, eqAux, eqC, bA, bO, bN, bE, negB, kEq, isShr, lendL, lend, frz, frzL, zRow, closed, closedL, rowsOf, binI, retK, retG, atRet, retD, lendO, resL, resD, oneD, renD, renL, renE, renEs, rho, putAll, entsN, List.append, List.nil_append, List.cons_append, List.append_nil, cond, Nat.reduceBEq, Nat.reduceAdd, Nat.beq]
    refine ⟨⟨rfl, rfl, rfl, rfl, by rw [sL_len]; simp; omega⟩, ?_⟩
    have hr : l.reverse[i]'(by simp; omega) = l[l.length - 1 - i] := by rw [List.getElem_reverse]
    have e : sL ((l.reverse.take i).map flipS) ++ [D.agg [.int .u32 l[l.length - 1 - i].id, .bool (!l[l.length - 1 - i].en), .int .i64 l[l.length - 1 - i].det]] = sL ((l.reverse.take (i + 1)).map flipS) := by
      rw [List.take_succ_eq_append_getElem (by simp; omega), hr]; simp [sL, flipS, stD]
    rw [e]
    refine ⟨by simp only [fits]; omega, ?_⟩
    rw [show (l.length : Int) - 1 - i - 1 = (l.length : Int) - 1 - ((i + 1 : Nat) : Int) by omega]
    exact again (ih ⟨(v + 1, i + 1), by dsimp only; omega⟩ (by dsimp only; omega)) ⟨rfl, rfl, rfl, trivial⟩ ⟨rfl, rfl, trivial⟩ rfl rfl
  · have hj : i = l.length := by simp at hj; omega
    subst hj
    rw [List.take_of_length_le (by simp)]
    exact ⟨rfl, rfl⟩
end Go.AM
