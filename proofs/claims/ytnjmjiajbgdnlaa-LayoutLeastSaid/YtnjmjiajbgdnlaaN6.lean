
/- Chapter 52: the closure that reckons the least sizes. -/
import Derived.Test.YtnjmjiajbgdnlaaN5
set_option linter.all false
namespace Go.AM
open Go Go.Proofs

/-- What is known ahead of the loop's turn j. -/
def stK (L : List Nd) (nd : Nd) (i : Nat) (S : List (Int × Int)) (al ot : Int) (j : Nat) : St :=
  ⟨[(0, [], .int .i64 i), (2, [], .box 1 0), (3, [], .box 2 0), (5, [], .box 4 0), (6, [], .box 5 0), (7, [], .int .i64 al), (21, [], .ls 1 (iD nd.kids)), (22, [], .int .i64 nd.kids.length), (23, [], .int .i64 j)],
    bxL L S ++ [.cells [.bool nd.down, .int .i64 nd.gap, .int .i64 nd.w, .int .i64 nd.h, .int .i64 nd.grow, .ls 1 (iD nd.kids)], .cells [.int .i64 (ownP nd).1, .int .i64 ot]]⟩

def alF (L : List Nd) (nd : Nd) (al : Int) (k : Int) : Int := al + (turnP nd (siz L k.toNat).1 (siz L k.toNat).2).1
def otF (L : List Nd) (nd : Nd) (ot : Int) (k : Int) : Int := max ot (turnP nd (siz L k.toNat).1 (siz L k.toNat).2).2

theorem sp_layout_leasts_1 {L : List Nd} (hs : Small L) : ∀ (f i : Nat) (S : List (Int × Int)), i < L.length → L.length ≤ i + f → S.length = L.length →
    TSpM 36 [.int .i64 i, .box 0 0, .box 1 0, .box 2 0] (bxL L S) (.tup []) (bxL L (reck L f i S))
  | 0, i, S, h1, h2, h3 => by omega
  | f + 1, i, S, h1, h2, h3 => by
    have ihf := sp_layout_leasts_1 hs f
    refine spm_layout_leasts_1 (by rfl) ?_
    dsimp only [c_layout_leasts_1, r_layout_leasts_1, bxL, run_skip, run_reg, plainB, ifB_true, run_seq, run_blk, run_exit, run_ret, run_ite, iteR, regK, thenK_nrm, thenK_exit, thenK_ret, thenR_nrm, thenR_exit, thenR_ret, blkK, keepS, keepE, runOps_nil, runOps_cons, goG_some, fpOk, foot, entOf, allN, memN, goOn_ok, goOn_call, goOn_row, goOn_arr, goOn_ask, goOn_put, guardP, guardO, notInO, stepF, stepLd, stepSt, stepIxs, stepIxa, stepLen, stepApp, stepCpy, stepPick, stepSls, stepSst, stepSla, evX, evL, evB, rd, get, subG, memG, freshG, notInG, hyps, gob, impP, allP, partD, partOf, isOne, isPtr, nth, takeN, dropN, cellsD, lenB, fillD, thirds, entN, setE, sizeE, addE, setL, setN, putE, env0, eqCs, eqAux, eqC, bA, bO, bN, bE, negB, kEq, isShr, lendL, lend, frz, frzL, zRow, closed, closedL, rowsOf, binI, retK, retG, atRet, retD, lendO, resL, resD, oneD, renD, renL, renE, renEs, rho, putAll, entsN, List.append, List.nil_append, List.cons_append, List.append_nil, cond, Nat.reduceBEq, Nat.reduceAdd, Nat.beq]
    refine ⟨⟨rfl, by omega, by rw [lD_len]; omega⟩, row_intro _ _ (lD_at h1) rfl ?_⟩
    have hnd : L[i]? = some L[i] := List.getElem?_eq_getElem h1
    have hmem : L[i] ∈ L := List.getElem_mem h1
    have hk0 : kidsOf L i = L[i].kids := by unfold kidsOf; rw [hnd]
    have hsz := siz_eq hs.behind hnd
    have hbeh := hs.behind i _ hnd
    have hgap := hs.gap _ hmem
    have hkids := hs.kids _ hmem
    have hown := hs.own _ hmem
    generalize L[i] = nd at *
    dsimp only [nD, run_skip, run_reg, plainB, ifB_true, run_seq, run_blk, run_exit, run_ret, run_ite, iteR, regK, thenK_nrm, thenK_exit, thenK_ret, thenR_nrm, thenR_exit, thenR_ret, blkK, keepS, keepE, runOps_nil, runOps_cons, goG_some, fpOk, foot, entOf, allN, memN, goOn_ok, goOn_call, goOn_row, goOn_arr, goOn_ask, goOn_put, guardP, guardO, notInO, stepF, stepLd, stepSt, stepIxs, stepIxa, stepLen, stepApp, stepCpy, stepPick, stepSls, stepSst, stepSla, evX, evL, evB, rd, get, subG, memG, freshG, notInG, hyps, gob, impP, allP, partD, partOf, isOne, isPtr, nth, takeN, dropN, cellsD, lenB, fillD, thirds, entN, setE, sizeE, addE, setL, setN, putE, env0, eqCs, eqAux, eqC, bA, bO, bN, bE, negB, kEq, isShr, lendL, lend, frz, frzL, zRow, closed, closedL, rowsOf, binI, retK, retG, atRet, retD, lendO, resL, resD, oneD, renD, renL, renE, renEs, rho, putAll, entsN, List.append, List.nil_append, List.cons_append, List.append_nil, cond, Nat.reduceBEq, Nat.reduceAdd, Nat.beq]
    refine call_pure (sp_layout_Node_own (n := nd)) ?_
    dsimp only [p2D, nD, run_skip, run_reg, plainB, ifB_true, run_seq, run_blk, run_exit, run_ret, run_ite, iteR, regK, thenK_nrm, thenK_exit, thenK_ret, thenR_nrm, thenR_exit, thenR_ret, blkK, keepS, keepE, runOps_nil, runOps_cons, goG_some, fpOk, foot, entOf, allN, memN, goOn_ok, goOn_call, goOn_row, goOn_arr, goOn_ask, goOn_put, guardP, guardO, notInO, stepF, stepLd, stepSt, stepIxs, stepIxa, stepLen, stepApp, stepCpy, stepPick, stepSls, stepSst, stepSla, evX, evL, evB, rd, get, subG, memG, freshG, notInG, hyps, gob, impP, allP, partD, partOf, isOne, isPtr, nth, takeN, dropN, cellsD, lenB, fillD, thirds, entN, setE, sizeE, addE, setL, setN, putE, env0, eqCs, eqAux, eqC, bA, bO, bN, bE, negB, kEq, isShr, lendL, lend, frz, frzL, zRow, closed, closedL, rowsOf, binI, retK, retG, atRet, retD, lendO, resL, resD, oneD, renD, renL, renE, renEs, rho, putAll, entsN, List.append, List.nil_append, List.cons_append, List.append_nil, cond, Nat.reduceBEq, Nat.reduceAdd, Nat.beq]
    refine call_pure (sp_layout_Node_gaps (n := nd) hgap (by omega)) ?_
    dsimp only [nD, run_skip, run_reg, plainB, ifB_true, run_seq, run_blk, run_exit, run_ret, run_ite, iteR, regK, thenK_nrm, thenK_exit, thenK_ret, thenR_nrm, thenR_exit, thenR_ret, blkK, keepS, keepE, runOps_nil, runOps_cons, goG_some, fpOk, foot, entOf, allN, memN, goOn_ok, goOn_call, goOn_row, goOn_arr, goOn_ask, goOn_put, guardP, guardO, notInO, stepF, stepLd, stepSt, stepIxs, stepIxa, stepLen, stepApp, stepCpy, stepPick, stepSls, stepSst, stepSla, evX, evL, evB, rd, get, subG, memG, freshG, notInG, hyps, gob, impP, allP, partD, partOf, isOne, isPtr, nth, takeN, dropN, cellsD, lenB, fillD, thirds, entN, setE, sizeE, addE, setL, setN, putE, env0, eqCs, eqAux, eqC, bA, bO, bN, bE, negB, kEq, isShr, lendL, lend, frz, frzL, zRow, closed, closedL, rowsOf, binI, retK, retG, atRet, retD, lendO, resL, resD, oneD, renD, renL, renE, renEs, rho, putAll, entsN, List.append, List.nil_append, List.cons_append, List.append_nil, cond, Nat.reduceBEq, Nat.reduceAdd, Nat.beq]
    rw [iD_len]
    have e0 : nd.kids.foldl (fun S k => reck L f k.toNat S) S = nd.kids.foldl (fun S k => reck L f k.toNat S) S := rfl
    refine loop_ind (α := {x : Nat × List (Int × Int) × Int × Int // x.1 ≤ nd.kids.length ∧ x.2.1.length = L.length ∧
        (nd.kids.drop x.1).foldl (fun S k => reck L f k.toNat S) x.2.1 = nd.kids.foldl (fun S k => reck L f k.toNat S) S ∧
        (nd.kids.drop x.1).foldl (alF L nd) x.2.2.1 = nd.kids.foldl (alF L nd) (gapsI nd) ∧ (nd.kids.drop x.1).foldl (otF L nd) x.2.2.2 = nd.kids.foldl (otF L nd) (ownP nd).2 ∧
        (0 ≤ x.2.2.1 ∧ x.2.2.1 ≤ 64000 + x.1 * 1000000000) ∧ (0 ≤ x.2.2.2 ∧ x.2.2.2 ≤ 1000000000)})
      (fun x => stK L nd i x.1.2.1 x.1.2.2.1 x.1.2.2.2 x.1.1) (fun x => nd.kids.length - x.1.1) ?_ ⟨(0, S, gapsI nd, (ownP nd).2), ?_⟩ rfl
    · rintro ⟨⟨j, S1, al, ot⟩, j1, j2, j3, j4, j5, j6, j7⟩ I ih
      dsimp only at j1 j2 j3 j4 j5 j6 j7
      dsimp only [stK, bxL, run_skip, run_reg, plainB, ifB_true, run_seq, run_blk, run_exit, run_ret, run_ite, iteR, regK, thenK_nrm, thenK_exit, thenK_ret, thenR_nrm, thenR_exit, thenR_ret, blkK, keepS, keepE, runOps_nil, runOps_cons, goG_some, fpOk, foot, entOf, allN, memN, goOn_ok, goOn_call, goOn_row, goOn_arr, goOn_ask, goOn_put, guardP, guardO, notInO, stepF, stepLd, stepSt, stepIxs, stepIxa, stepLen, stepApp, stepCpy, stepPick, stepSls, stepSst, stepSla, evX, evL, evB, rd, get, subG, memG, freshG, notInG, hyps, gob, impP, allP, partD, partOf, isOne, isPtr, nth, takeN, dropN, cellsD, lenB, fillD, thirds, entN, setE, sizeE, addE, setL, setN, putE, env0, eqCs, eqAux, eqC, bA, bO, bN, bE, negB, kEq, isShr, lendL, lend, frz, frzL, zRow, closed, closedL, rowsOf, binI, retK, retG, atRet, retD, lendO, resL, resD, oneD, renD, renL, renE, renEs, rho, putAll, entsN, List.append, List.nil_append, List.cons_append, List.append_nil, cond, Nat.reduceBEq, Nat.reduceAdd, Nat.beq]
      refine ⟨fun hj => ?_, fun hj => ?_⟩
      · have hj : j < nd.kids.length := by simp at hj; omega
        rw [List.drop_eq_getElem_cons hj, List.foldl_cons] at j3 j4 j5
        have hbk := hbeh _ (List.getElem_mem hj)
        refine ⟨⟨rfl, by omega, by rw [iD_len]; omega⟩, row_intro _ _ (iD_at hj) rfl ?_⟩
        generalize nd.kids[j] = k at *
        dsimp only [run_skip, run_reg, plainB, ifB_true, run_seq, run_blk, run_exit, run_ret, run_ite, iteR, regK, thenK_nrm, thenK_exit, thenK_ret, thenR_nrm, thenR_exit, thenR_ret, blkK, keepS, keepE, runOps_nil, runOps_cons, goG_some, fpOk, foot, entOf, allN, memN, goOn_ok, goOn_call, goOn_row, goOn_arr, goOn_ask, goOn_put, guardP, guardO, notInO, stepF, stepLd, stepSt, stepIxs, stepIxa, stepLen, stepApp, stepCpy, stepPick, stepSls, stepSst, stepSla, evX, evL, evB, rd, get, subG, memG, freshG, notInG, hyps, gob, impP, allP, partD, partOf, isOne, isPtr, nth, takeN, dropN, cellsD, lenB, fillD, thirds, entN, setE, sizeE, addE, setL, setN, putE, env0, eqCs, eqAux, eqC, bA, bO, bN, bE, negB, kEq, isShr, lendL, lend, frz, frzL, zRow, closed, closedL, rowsOf, binI, retK, retG, atRet, retD, lendO, resL, resD, oneD, renD, renL, renE, renEs, rho, putAll, entsN, List.append, List.nil_append, List.cons_append, List.append_nil, cond, Nat.reduceBEq, Nat.reduceAdd, Nat.beq]
        obtain ⟨kn, rfl⟩ : ∃ kn : Nat, k = kn := ⟨k.toNat, by omega⟩
        rw [Int.toNat_natCast] at j3
        have hself : (reck L f kn S1)[kn]? = some (siz L kn) := by
          obtain ⟨f', rfl⟩ : ∃ f', f = f' + 1 := ⟨f - 1, by omega⟩
          exact reck_self (by omega)
        have hlen2 := reck_len (L := L) f kn S1
        refine call_own [0, 1, 2, 3] (ihf kn S1 (by omega) (by omega) j2) rfl rfl ?_
        have hkn := hs.siz kn
        generalize reck L f kn S1 = S2 at *
        dsimp only [bxL, run_skip, run_reg, plainB, ifB_true, run_seq, run_blk, run_exit, run_ret, run_ite, iteR, regK, thenK_nrm, thenK_exit, thenK_ret, thenR_nrm, thenR_exit, thenR_ret, blkK, keepS, keepE, runOps_nil, runOps_cons, goG_some, fpOk, foot, entOf, allN, memN, goOn_ok, goOn_call, goOn_row, goOn_arr, goOn_ask, goOn_put, guardP, guardO, notInO, stepF, stepLd, stepSt, stepIxs, stepIxa, stepLen, stepApp, stepCpy, stepPick, stepSls, stepSst, stepSla, evX, evL, evB, rd, get, subG, memG, freshG, notInG, hyps, gob, impP, allP, partD, partOf, isOne, isPtr, nth, takeN, dropN, cellsD, lenB, fillD, thirds, entN, setE, sizeE, addE, setL, setN, putE, env0, eqCs, eqAux, eqC, bA, bO, bN, bE, negB, kEq, isShr, lendL, lend, frz, frzL, zRow, closed, closedL, rowsOf, binI, retK, retG, atRet, retD, lendO, resL, resD, oneD, renD, renL, renE, renEs, rho, putAll, entsN, List.append, List.nil_append, List.cons_append, List.append_nil, cond, Nat.reduceBEq, Nat.reduceAdd, Nat.beq]
        have g1 : 0 = 0 ∧ 4 = 4 ∧ (0 : Int) ≤ kn ∧ (kn : Int) < (sD S2).length := ⟨rfl, rfl, by omega, by rw [sD_len]; omega⟩
        have hrow : (sD S2)[(kn : Int).toNat]? = some (.agg [.int .i64 0, .int .i64 0, .int .i64 (siz L kn).1, .int .i64 (siz L kn).2]) := by rw [Int.toNat_natCast]; exact sD_at hself
        refine ⟨g1, ⟨rfl, rfl⟩, row_intro _ _ hrow rfl ?_⟩
        dsimp only [run_skip, run_reg, plainB, ifB_true, run_seq, run_blk, run_exit, run_ret, run_ite, iteR, regK, thenK_nrm, thenK_exit, thenK_ret, thenR_nrm, thenR_exit, thenR_ret, blkK, keepS, keepE, runOps_nil, runOps_cons, goG_some, fpOk, foot, entOf, allN, memN, goOn_ok, goOn_call, goOn_row, goOn_arr, goOn_ask, goOn_put, guardP, guardO, notInO, stepF, stepLd, stepSt, stepIxs, stepIxa, stepLen, stepApp, stepCpy, stepPick, stepSls, stepSst, stepSla, evX, evL, evB, rd, get, subG, memG, freshG, notInG, hyps, gob, impP, allP, partD, partOf, isOne, isPtr, nth, takeN, dropN, cellsD, lenB, fillD, thirds, entN, setE, sizeE, addE, setL, setN, putE, env0, eqCs, eqAux, eqC, bA, bO, bN, bE, negB, kEq, isShr, lendL, lend, frz, frzL, zRow, closed, closedL, rowsOf, binI, retK, retG, atRet, retD, lendO, resL, resD, oneD, renD, renL, renE, renEs, rho, putAll, entsN, List.append, List.nil_append, List.cons_append, List.append_nil, cond, Nat.reduceBEq, Nat.reduceAdd, Nat.beq]
        refine ⟨g1, ⟨rfl, rfl⟩, row_intro _ _ hrow rfl ?_⟩
        dsimp only [run_skip, run_reg, plainB, ifB_true, run_seq, run_blk, run_exit, run_ret, run_ite, iteR, regK, thenK_nrm, thenK_exit, thenK_ret, thenR_nrm, thenR_exit, thenR_ret, blkK, keepS, keepE, runOps_nil, runOps_cons, goG_some, fpOk, foot, entOf, allN, memN, goOn_ok, goOn_call, goOn_row, goOn_arr, goOn_ask, goOn_put, guardP, guardO, notInO, stepF, stepLd, stepSt, stepIxs, stepIxa, stepLen, stepApp, stepCpy, stepPick, stepSls, stepSst, stepSla, evX, evL, evB, rd, get, subG, memG, freshG, notInG, hyps, gob, impP, allP, partD, partOf, isOne, isPtr, nth, takeN, dropN, cellsD, lenB, fillD, thirds, entN, setE, sizeE, addE, setL, setN, putE, env0, eqCs, eqAux, eqC, bA, bO, bN, bE, negB, kEq, isShr, lendL, lend, frz, frzL, zRow, closed, closedL, rowsOf, binI, retK, retG, atRet, retD, lendO, resL, resD, oneD, renD, renL, renE, renEs, rho, putAll, entsN, List.append, List.nil_append, List.cons_append, List.append_nil, cond, Nat.reduceBEq, Nat.reduceAdd, Nat.beq]
        refine call_pure (sp_layout_Node_turned (n := nd)) ?_
        dsimp only [run_skip, run_reg, plainB, ifB_true, run_seq, run_blk, run_exit, run_ret, run_ite, iteR, regK, thenK_nrm, thenK_exit, thenK_ret, thenR_nrm, thenR_exit, thenR_ret, blkK, keepS, keepE, runOps_nil, runOps_cons, goG_some, fpOk, foot, entOf, allN, memN, goOn_ok, goOn_call, goOn_row, goOn_arr, goOn_ask, goOn_put, guardP, guardO, notInO, stepF, stepLd, stepSt, stepIxs, stepIxa, stepLen, stepApp, stepCpy, stepPick, stepSls, stepSst, stepSla, evX, evL, evB, rd, get, subG, memG, freshG, notInG, hyps, gob, impP, allP, partD, partOf, isOne, isPtr, nth, takeN, dropN, cellsD, lenB, fillD, thirds, entN, setE, sizeE, addE, setL, setN, putE, env0, eqCs, eqAux, eqC, bA, bO, bN, bE, negB, kEq, isShr, lendL, lend, frz, frzL, zRow, closed, closedL, rowsOf, binI, retK, retG, atRet, retD, lendO, resL, resD, oneD, renD, renL, renE, renEs, rho, putAll, entsN, List.append, List.nil_append, List.cons_append, List.append_nil, cond, Nat.reduceBEq, Nat.reduceAdd, Nat.beq]
        have ea : alF L nd al kn = al + (turnP nd (siz L kn).1 (siz L kn).2).1 := rfl
        have eo : otF L nd ot kn = max ot (turnP nd (siz L kn).1 (siz L kn).2).2 := rfl
        have ht1 : 0 ≤ (turnP nd (siz L kn).1 (siz L kn).2).1 ∧ (turnP nd (siz L kn).1 (siz L kn).2).1 ≤ 1000000000 := by unfold turnP; split <;> dsimp only <;> omega
        have ht2 : 0 ≤ (turnP nd (siz L kn).1 (siz L kn).2).2 ∧ (turnP nd (siz L kn).1 (siz L kn).2).2 ≤ 1000000000 := by unfold turnP; split <;> dsimp only <;> omega
        refine ⟨by simp only [fits]; omega, by simp only [fits]; omega, ?_⟩
        refine again (ih ⟨(j + 1, S2, alF L nd al kn, otF L nd ot kn), by dsimp only; omega, by dsimp only; omega, j3, j4, j5, by dsimp only; rw [ea]; omega, by dsimp only; rw [eo]; omega⟩ (by dsimp only; omega)) ?_ ?_ rfl rfl
        · exact ⟨rfl, rfl, rfl, rfl, rfl, rfl, rfl, rfl, rfl, trivial⟩
        · exact ⟨rfl, rfl, rfl, rfl, rfl, rfl, trivial⟩
      · have hj : j = nd.kids.length := by simp at hj; omega
        subst hj
        rw [List.drop_of_length_le (Nat.le_refl _)] at j3 j4 j5
        simp only [List.foldl_nil] at j3 j4 j5
        have hS : reck L (f + 1) i S = S1.set i (siz L i) := by
          simp only [reck]; rw [hk0, j3]
        have hp : siz L i = turnP nd (max (ownP nd).1 al) ot := by rw [hsz, j4, j5]; rfl
        rw [hS]
        have ho1 : max (ownP nd).1 al = max (ownP nd).1 al := rfl
        refine call_pure (sp_layout_Node_turned (n := nd)) ?_
        rw [← hp]
        dsimp only [run_skip, run_reg, plainB, ifB_true, run_seq, run_blk, run_exit, run_ret, run_ite, iteR, regK, thenK_nrm, thenK_exit, thenK_ret, thenR_nrm, thenR_exit, thenR_ret, blkK, keepS, keepE, runOps_nil, runOps_cons, goG_some, fpOk, foot, entOf, allN, memN, goOn_ok, goOn_call, goOn_row, goOn_arr, goOn_ask, goOn_put, guardP, guardO, notInO, stepF, stepLd, stepSt, stepIxs, stepIxa, stepLen, stepApp, stepCpy, stepPick, stepSls, stepSst, stepSla, evX, evL, evB, rd, get, subG, memG, freshG, notInG, hyps, gob, impP, allP, partD, partOf, isOne, isPtr, nth, takeN, dropN, cellsD, lenB, fillD, thirds, entN, setE, sizeE, addE, setL, setN, putE, env0, eqCs, eqAux, eqC, bA, bO, bN, bE, negB, kEq, isShr, lendL, lend, frz, frzL, zRow, closed, closedL, rowsOf, binI, retK, retG, atRet, retD, lendO, resL, resD, oneD, renD, renL, renE, renEs, rho, putAll, entsN, List.append, List.nil_append, List.cons_append, List.append_nil, cond, Nat.reduceBEq, Nat.reduceAdd, Nat.beq]
        have g1 : 0 = 0 ∧ 4 = 4 ∧ (0 : Int) ≤ i ∧ (i : Int) < (sD S1).length := ⟨rfl, rfl, by omega, by rw [sD_len]; omega⟩
        obtain ⟨p, hpi⟩ : ∃ p, S1[i]? = some p := ⟨S1[i], List.getElem?_eq_getElem (by omega)⟩
        refine ⟨g1, ⟨rfl, rfl⟩, putrow_intro (hs := []) _ _ (by rw [Int.toNat_natCast]; exact sD_at hpi) rfl ?_⟩
        dsimp only [run_skip, run_reg, plainB, ifB_true, run_seq, run_blk, run_exit, run_ret, run_ite, iteR, regK, thenK_nrm, thenK_exit, thenK_ret, thenR_nrm, thenR_exit, thenR_ret, blkK, keepS, keepE, runOps_nil, runOps_cons, goG_some, fpOk, foot, entOf, allN, memN, goOn_ok, goOn_call, goOn_row, goOn_arr, goOn_ask, goOn_put, guardP, guardO, notInO, stepF, stepLd, stepSt, stepIxs, stepIxa, stepLen, stepApp, stepCpy, stepPick, stepSls, stepSst, stepSla, evX, evL, evB, rd, get, subG, memG, freshG, notInG, hyps, gob, impP, allP, partD, partOf, isOne, isPtr, nth, takeN, dropN, cellsD, lenB, fillD, thirds, entN, setE, sizeE, addE, setL, setN, putE, env0, eqCs, eqAux, eqC, bA, bO, bN, bE, negB, kEq, isShr, lendL, lend, frz, frzL, zRow, closed, closedL, rowsOf, binI, retK, retG, atRet, retD, lendO, resL, resD, oneD, renD, renL, renE, renEs, rho, putAll, entsN, List.append, List.nil_append, List.cons_append, List.append_nil, cond, Nat.reduceBEq, Nat.reduceAdd, Nat.beq]
        refine ⟨by rw [List.length_set]; exact g1, ⟨rfl, rfl⟩, putrow_intro (hs := []) (.agg [.int .i64 0, .int .i64 0, .int .i64 (siz L i).1, .int .i64 p.2]) _ (by rw [Int.toNat_natCast, List.getElem?_set_self (by rw [sD_len]; omega)]) rfl ?_⟩
        dsimp only [run_skip, run_reg, plainB, ifB_true, run_seq, run_blk, run_exit, run_ret, run_ite, iteR, regK, thenK_nrm, thenK_exit, thenK_ret, thenR_nrm, thenR_exit, thenR_ret, blkK, keepS, keepE, runOps_nil, runOps_cons, goG_some, fpOk, foot, entOf, allN, memN, goOn_ok, goOn_call, goOn_row, goOn_arr, goOn_ask, goOn_put, guardP, guardO, notInO, stepF, stepLd, stepSt, stepIxs, stepIxa, stepLen, stepApp, stepCpy, stepPick, stepSls, stepSst, stepSla, evX, evL, evB, rd, get, subG, memG, freshG, notInG, hyps, gob, impP, allP, partD, partOf, isOne, isPtr, nth, takeN, dropN, cellsD, lenB, fillD, thirds, entN, setE, sizeE, addE, setL, setN, putE, env0, eqCs, eqAux, eqC, bA, bO, bN, bE, negB, kEq, isShr, lendL, lend, frz, frzL, zRow, closed, closedL, rowsOf, binI, retK, retG, atRet, retD, lendO, resL, resD, oneD, renD, renL, renE, renEs, rho, putAll, entsN, List.append, List.nil_append, List.cons_append, List.append_nil, cond, Nat.reduceBEq, Nat.reduceAdd, Nat.beq]
        have hfin : ((sD S1).set (i : Int).toNat (.agg [.int .i64 0, .int .i64 0, .int .i64 (siz L i).1, .int .i64 p.2])).set (i : Int).toNat (.agg [.int .i64 0, .int .i64 0, .int .i64 (siz L i).1, .int .i64 (siz L i).2]) = sD (S1.set i (siz L i)) := by
          rw [Int.toNat_natCast, List.set_set]; simp [sD, List.map_set]
        rw [hfin]
        exact Rt.cut (by simp) ⟨rfl, rfl, rfl, rfl, trivial⟩ rfl rfl
    · have hg : 0 ≤ gapsI nd ∧ gapsI nd ≤ 64000 := by
        unfold gapsI
        split
        · omega
        · have hm := Int.mul_le_mul (b := (nd.kids.length : Int) - 1) (d := 64) hgap.2 (by omega) (by omega) (by omega)
          have hp := Int.mul_nonneg (b := (nd.kids.length : Int) - 1) hgap.1 (by omega)
          omega
      have ho : 0 ≤ (ownP nd).2 ∧ (ownP nd).2 ≤ 1000 := by unfold ownP; split <;> dsimp only <;> omega
      exact ⟨by simp, h3, by simp, by simp, by simp, by dsimp only; omega, by dsimp only; omega⟩
end Go.AM
