
/- The document's tree: reading. -/
import Derived.Test.YtpbmbpahjdeahaaW9
set_option linter.all false
namespace Go.AM
open Go Go.Proofs

abbrev Nodes := List (Int × Int)
def nD (L : Nodes) : List D := L.map fun p => .agg [.int .u32 p.1, .int .u32 p.2]
theorem nD_len (L : Nodes) : (nD L).length = L.length := by simp [nD]
theorem nD_at {L : Nodes} {i : Nat} (h : i < L.length) : (nD L)[i]? = some (.agg [.int .u32 L[i].1, .int .u32 L[i].2]) := by simp [nD, h]
theorem nD_app (a b : Nodes) : nD a ++ nD b = nD (a ++ b) := by simp [nD]
theorem lk_drop {L : Nodes} {i : Nat} (h : i < L.length) (id : Int) : lk (L.drop i) id = if L[i].1 = id then some L[i].2 else lk (L.drop (i + 1)) id := by
  rw [drop_at h]; rfl
def hasW (L : Nodes) (id : Int) : Bool := (lk L id).isSome || decide (id = 1)
def upN (L : Nodes) (id : Int) : Int := (lk L id).getD 0
def kidsN (L : Nodes) (id : Int) : List Int := (L.filter fun p => decide (p.2 = id)).map (·.1)
def withoutN (L : Nodes) (id : Int) : Nodes := L.filter fun p => !decide (p.1 = id)

def stNi (L : Nodes) (id : Int) (i : Nat) : St := ⟨[(0, [], .ls 2 (nD L)), (1, [], .int .u32 id), (5, [], .int .i64 i)], []⟩
theorem sp_ref28_Has {L : Nodes} {id : Int} (hl : L.length < 1000000) : TSp 21 [.ls 2 (nD L), .int .u32 id] (.bool (hasW L id)) := by
  refine spo_ref28_Has (by rfl) ?_
  dsimp only [c_ref28_Has, r_ref28_Has, run_skip, run_reg, plainB, ifB_true, run_seq, run_blk, run_exit, run_ret, run_ite, iteR, regK, thenK_nrm, thenK_exit, thenK_ret, thenR_nrm, thenR_exit, thenR_ret, blkK, keepS, keepE, runOps_nil, runOps_cons, goG_some, fpOk, foot, entOf, allN, memN, goOn_ok, goOn_call, goOn_row, goOn_arr, goOn_ask, goOn_put, goOn_prm, goOn_callK, goOn_callC, goOn_all, guardP, guardO, notInO, stepF, stepLd, stepSt, stepIxs, stepIxa, stepLen, stepApp, stepCpy, stepPick, stepSls, stepSst, stepSla, bareZ, evX, evL, evB, rd, get, subG, memG, freshG, notInG, hyps, gob, impP, allP, partD, partOf, isOne, isPtr, nth, takeN, dropN, cellsD, lenB, fillD, thirds, entN, setE, sizeE, addE, setL, setN, putE, env0, eqCs, eqAux, eqC, bA, bO, bN, bE, negB, kEq, isShr, lendL, lend, frz, frzL, zRow, closed, closedL, rowsOf, binI, retK, retG, atRet, retD, lendO, resL, resD, oneD, renD, renL, renE, renEs, rho, putAll, entsN, List.append, List.nil_append, List.cons_append, List.append_nil, cond, Nat.reduceBEq, Nat.reduceAdd, Nat.beq]
  have hnl := nD_len L
  refine loop_ind (α := {i : Nat // i ≤ L.length ∧ lk (L.drop i) id = lk L id}) (fun i => stNi L id i.1) (fun i => L.length - i.1) ?_ ⟨0, by simp⟩ rfl
  rintro ⟨i, hi, hv⟩ I ih
  dsimp only [stNi, run_skip, run_reg, plainB, ifB_true, run_seq, run_blk, run_exit, run_ret, run_ite, iteR, regK, thenK_nrm, thenK_exit, thenK_ret, thenR_nrm, thenR_exit, thenR_ret, blkK, keepS, keepE, runOps_nil, runOps_cons, goG_some, fpOk, foot, entOf, allN, memN, goOn_ok, goOn_call, goOn_row, goOn_arr, goOn_ask, goOn_put, goOn_prm, goOn_callK, goOn_callC, goOn_all, guardP, guardO, notInO, stepF, stepLd, stepSt, stepIxs, stepIxa, stepLen, stepApp, stepCpy, stepPick, stepSls, stepSst, stepSla, bareZ, evX, evL, evB, rd, get, subG, memG, freshG, notInG, hyps, gob, impP, allP, partD, partOf, isOne, isPtr, nth, takeN, dropN, cellsD, lenB, fillD, thirds, entN, setE, sizeE, addE, setL, setN, putE, env0, eqCs, eqAux, eqC, bA, bO, bN, bE, negB, kEq, isShr, lendL, lend, frz, frzL, zRow, closed, closedL, rowsOf, binI, retK, retG, atRet, retD, lendO, resL, resD, oneD, renD, renL, renE, renEs, rho, putAll, entsN, List.append, List.nil_append, List.cons_append, List.append_nil, cond, Nat.reduceBEq, Nat.reduceAdd, Nat.beq]
  refine ⟨fun hj => ?_, fun hj => ?_⟩
  · have hj : i < L.length := by simp at hj; omega
    rw [lk_drop hj] at hv
    refine ⟨⟨rfl, by omega, by omega⟩, row_intro _ _ (nD_at hj) rfl ?_⟩
    dsimp only [run_skip, run_reg, plainB, ifB_true, run_seq, run_blk, run_exit, run_ret, run_ite, iteR, regK, thenK_nrm, thenK_exit, thenK_ret, thenR_nrm, thenR_exit, thenR_ret, blkK, keepS, keepE, runOps_nil, runOps_cons, goG_some, fpOk, foot, entOf, allN, memN, goOn_ok, goOn_call, goOn_row, goOn_arr, goOn_ask, goOn_put, goOn_prm, goOn_callK, goOn_callC, goOn_all, guardP, guardO, notInO, stepF, stepLd, stepSt, stepIxs, stepIxa, stepLen, stepApp, stepCpy, stepPick, stepSls, stepSst, stepSla, bareZ, evX, evL, evB, rd, get, subG, memG, freshG, notInG, hyps, gob, impP, allP, partD, partOf, isOne, isPtr, nth, takeN, dropN, cellsD, lenB, fillD, thirds, entN, setE, sizeE, addE, setL, setN, putE, env0, eqCs, eqAux, eqC, bA, bO, bN, bE, negB, kEq, isShr, lendL, lend, frz, frzL, zRow, closed, closedL, rowsOf, binI, retK, retG, atRet, retD, lendO, resL, resD, oneD, renD, renL, renE, renEs, rho, putAll, entsN, List.append, List.nil_append, List.cons_append, List.append_nil, cond, Nat.reduceBEq, Nat.reduceAdd, Nat.beq]
    by_cases he : L[i].1 = id
    · rw [if_pos he] at hv
      refine ⟨fun _ => ?_, fun h => by simp [he] at h⟩
      unfold hasW
      rw [← hv]; rfl
    · rw [if_neg he] at hv
      refine ⟨fun h => by simp [he] at h, fun _ => ⟨by simp only [fits]; omega, ?_⟩⟩
      exact again (ih ⟨i + 1, by omega, hv⟩ (by dsimp only; omega)) ⟨rfl, rfl, rfl, trivial⟩ trivial rfl rfl
  · have hj : i = L.length := by simp at hj; omega
    subst hj
    rw [List.drop_length] at hv
    unfold hasW
    rw [← hv]; rfl
theorem sp_ref28_Up {L : Nodes} {id : Int} (hl : L.length < 1000000) : TSp 40 [.ls 2 (nD L), .int .u32 id] (.int .u32 (upN L id)) := by
  refine spo_ref28_Up (by rfl) ?_
  dsimp only [c_ref28_Up, r_ref28_Up, run_skip, run_reg, plainB, ifB_true, run_seq, run_blk, run_exit, run_ret, run_ite, iteR, regK, thenK_nrm, thenK_exit, thenK_ret, thenR_nrm, thenR_exit, thenR_ret, blkK, keepS, keepE, runOps_nil, runOps_cons, goG_some, fpOk, foot, entOf, allN, memN, goOn_ok, goOn_call, goOn_row, goOn_arr, goOn_ask, goOn_put, goOn_prm, goOn_callK, goOn_callC, goOn_all, guardP, guardO, notInO, stepF, stepLd, stepSt, stepIxs, stepIxa, stepLen, stepApp, stepCpy, stepPick, stepSls, stepSst, stepSla, bareZ, evX, evL, evB, rd, get, subG, memG, freshG, notInG, hyps, gob, impP, allP, partD, partOf, isOne, isPtr, nth, takeN, dropN, cellsD, lenB, fillD, thirds, entN, setE, sizeE, addE, setL, setN, putE, env0, eqCs, eqAux, eqC, bA, bO, bN, bE, negB, kEq, isShr, lendL, lend, frz, frzL, zRow, closed, closedL, rowsOf, binI, retK, retG, atRet, retD, lendO, resL, resD, oneD, renD, renL, renE, renEs, rho, putAll, entsN, List.append, List.nil_append, List.cons_append, List.append_nil, cond, Nat.reduceBEq, Nat.reduceAdd, Nat.beq]
  have hnl := nD_len L
  refine loop_ind (α := {i : Nat // i ≤ L.length ∧ lk (L.drop i) id = lk L id}) (fun i => stNi L id i.1) (fun i => L.length - i.1) ?_ ⟨0, by simp⟩ rfl
  rintro ⟨i, hi, hv⟩ I ih
  dsimp only [stNi, run_skip, run_reg, plainB, ifB_true, run_seq, run_blk, run_exit, run_ret, run_ite, iteR, regK, thenK_nrm, thenK_exit, thenK_ret, thenR_nrm, thenR_exit, thenR_ret, blkK, keepS, keepE, runOps_nil, runOps_cons, goG_some, fpOk, foot, entOf, allN, memN, goOn_ok, goOn_call, goOn_row, goOn_arr, goOn_ask, goOn_put, goOn_prm, goOn_callK, goOn_callC, goOn_all, guardP, guardO, notInO, stepF, stepLd, stepSt, stepIxs, stepIxa, stepLen, stepApp, stepCpy, stepPick, stepSls, stepSst, stepSla, bareZ, evX, evL, evB, rd, get, subG, memG, freshG, notInG, hyps, gob, impP, allP, partD, partOf, isOne, isPtr, nth, takeN, dropN, cellsD, lenB, fillD, thirds, entN, setE, sizeE, addE, setL, setN, putE, env0, eqCs, eqAux, eqC, bA, bO, bN, bE, negB, kEq, isShr, lendL, lend, frz, frzL, zRow, closed, closedL, rowsOf, binI, retK, retG, atRet, retD, lendO, resL, resD, oneD, renD, renL, renE, renEs, rho, putAll, entsN, List.append, List.nil_append, List.cons_append, List.append_nil, cond, Nat.reduceBEq, Nat.reduceAdd, Nat.beq]
  refine ⟨fun hj => ?_, fun hj => ?_⟩
  · have hj : i < L.length := by simp at hj; omega
    rw [lk_drop hj] at hv
    refine ⟨⟨rfl, by omega, by omega⟩, row_intro _ _ (nD_at hj) rfl ?_⟩
    dsimp only [run_skip, run_reg, plainB, ifB_true, run_seq, run_blk, run_exit, run_ret, run_ite, iteR, regK, thenK_nrm, thenK_exit, thenK_ret, thenR_nrm, thenR_exit, thenR_ret, blkK, keepS, keepE, runOps_nil, runOps_cons, goG_some, fpOk, foot, entOf, allN, memN, goOn_ok, goOn_call, goOn_row, goOn_arr, goOn_ask, goOn_put, goOn_prm, goOn_callK, goOn_callC, goOn_all, guardP, guardO, notInO, stepF, stepLd, stepSt, stepIxs, stepIxa, stepLen, stepApp, stepCpy, stepPick, stepSls, stepSst, stepSla, bareZ, evX, evL, evB, rd, get, subG, memG, freshG, notInG, hyps, gob, impP, allP, partD, partOf, isOne, isPtr, nth, takeN, dropN, cellsD, lenB, fillD, thirds, entN, setE, sizeE, addE, setL, setN, putE, env0, eqCs, eqAux, eqC, bA, bO, bN, bE, negB, kEq, isShr, lendL, lend, frz, frzL, zRow, closed, closedL, rowsOf, binI, retK, retG, atRet, retD, lendO, resL, resD, oneD, renD, renL, renE, renEs, rho, putAll, entsN, List.append, List.nil_append, List.cons_append, List.append_nil, cond, Nat.reduceBEq, Nat.reduceAdd, Nat.beq]
    by_cases he : L[i].1 = id
    · rw [if_pos he] at hv
      refine ⟨fun _ => ?_, fun h => by simp [he] at h⟩
      refine ⟨⟨rfl, by omega, by omega⟩, row_intro _ _ (nD_at hj) rfl ?_⟩
      unfold upN
      rw [← hv]; rfl
    · rw [if_neg he] at hv
      refine ⟨fun h => by simp [he] at h, fun _ => ⟨by simp only [fits]; omega, ?_⟩⟩
      exact again (ih ⟨i + 1, by omega, hv⟩ (by dsimp only; omega)) ⟨rfl, rfl, rfl, trivial⟩ trivial rfl rfl
  · have hj : i = L.length := by simp at hj; omega
    subst hj
    rw [List.drop_length] at hv
    unfold upN
    rw [← hv]; rfl

def stNk (L : Nodes) (id : Int) (v i : Nat) : St := ⟨[(0, [], .ls 2 (nD L)), (1, [], .int .u32 id), (5, [], .own 1 v), (6, [], .int .i64 i)], [.arr 28 1 0 [], .arr 28 1 v (iL (kidsN (L.take i) id))]⟩
theorem kidsN_take {L : Nodes} {i : Nat} (h : i < L.length) (id : Int) : kidsN (L.take (i + 1)) id = kidsN (L.take i) id ++ (if L[i].2 = id then [L[i].1] else []) := by
  rw [List.take_succ_eq_append_getElem h]
  unfold kidsN
  rw [List.filter_append, List.map_append]
  congr 1
  by_cases he : L[i].2 = id <;> simp [he]
theorem kidsN_len (L : Nodes) (id : Int) : (kidsN L id).length ≤ L.length := by unfold kidsN; rw [List.length_map]; exact List.length_filter_le _ _
theorem sp_ref28_Kids {L : Nodes} {id : Int} (hl : L.length < 1000000) : TSp 24 [.ls 2 (nD L), .int .u32 id] (.ls 1 (iL (kidsN L id))) := by
  refine spo_ref28_Kids (by rfl) ?_
  dsimp only [c_ref28_Kids, r_ref28_Kids, run_skip, run_reg, plainB, ifB_true, run_seq, run_blk, run_exit, run_ret, run_ite, iteR, regK, thenK_nrm, thenK_exit, thenK_ret, thenR_nrm, thenR_exit, thenR_ret, blkK, keepS, keepE, runOps_nil, runOps_cons, goG_some, fpOk, foot, entOf, allN, memN, goOn_ok, goOn_call, goOn_row, goOn_arr, goOn_ask, goOn_put, goOn_prm, goOn_callK, goOn_callC, goOn_all, guardP, guardO, notInO, stepF, stepLd, stepSt, stepIxs, stepIxa, stepLen, stepApp, stepCpy, stepPick, stepSls, stepSst, stepSla, bareZ, evX, evL, evB, rd, get, subG, memG, freshG, notInG, hyps, gob, impP, allP, partD, partOf, isOne, isPtr, nth, takeN, dropN, cellsD, lenB, fillD, thirds, entN, setE, sizeE, addE, setL, setN, putE, env0, eqCs, eqAux, eqC, bA, bO, bN, bE, negB, kEq, isShr, lendL, lend, frz, frzL, zRow, closed, closedL, rowsOf, binI, retK, retG, atRet, retD, lendO, resL, resD, oneD, renD, renL, renE, renEs, rho, putAll, entsN, List.append, List.nil_append, List.cons_append, List.append_nil, cond, Nat.reduceBEq, Nat.reduceAdd, Nat.beq]
  have hnl := nD_len L
  refine loop_ind (α := {x : Nat × Nat // x.2 ≤ L.length}) (fun x => stNk L id x.1.1 x.1.2) (fun x => L.length - x.1.2) ?_ ⟨(0, 0), by simp⟩ rfl
  rintro ⟨⟨v, i⟩, hi⟩ I ih
  dsimp only at hi
  dsimp only [stNk, run_skip, run_reg, plainB, ifB_true, run_seq, run_blk, run_exit, run_ret, run_ite, iteR, regK, thenK_nrm, thenK_exit, thenK_ret, thenR_nrm, thenR_exit, thenR_ret, blkK, keepS, keepE, runOps_nil, runOps_cons, goG_some, fpOk, foot, entOf, allN, memN, goOn_ok, goOn_call, goOn_row, goOn_arr, goOn_ask, goOn_put, goOn_prm, goOn_callK, goOn_callC, goOn_all, guardP, guardO, notInO, stepF, stepLd, stepSt, stepIxs, stepIxa, stepLen, stepApp, stepCpy, stepPick, stepSls, stepSst, stepSla, bareZ, evX, evL, evB, rd, get, subG, memG, freshG, notInG, hyps, gob, impP, allP, partD, partOf, isOne, isPtr, nth, takeN, dropN, cellsD, lenB, fillD, thirds, entN, setE, sizeE, addE, setL, setN, putE, env0, eqCs, eqAux, eqC, bA, bO, bN, bE, negB, kEq, isShr, lendL, lend, frz, frzL, zRow, closed, closedL, rowsOf, binI, retK, retG, atRet, retD, lendO, resL, resD, oneD, renD, renL, renE, renEs, rho, putAll, entsN, List.append, List.nil_append, List.cons_append, List.append_nil, cond, Nat.reduceBEq, Nat.reduceAdd, Nat.beq]
  refine ⟨fun hj => ?_, fun hj => ?_⟩
  · have hj : i < L.length := by simp at hj; omega
    have hkt := kidsN_take hj id
    have hkl := kidsN_len (L.take i) id
    rw [List.length_take] at hkl
    refine ⟨⟨rfl, by omega, by omega⟩, row_intro _ _ (nD_at hj) rfl ?_⟩
    dsimp only [run_skip, run_reg, plainB, ifB_true, run_seq, run_blk, run_exit, run_ret, run_ite, iteR, regK, thenK_nrm, thenK_exit, thenK_ret, thenR_nrm, thenR_exit, thenR_ret, blkK, keepS, keepE, runOps_nil, runOps_cons, goG_some, fpOk, foot, entOf, allN, memN, goOn_ok, goOn_call, goOn_row, goOn_arr, goOn_ask, goOn_put, goOn_prm, goOn_callK, goOn_callC, goOn_all, guardP, guardO, notInO, stepF, stepLd, stepSt, stepIxs, stepIxa, stepLen, stepApp, stepCpy, stepPick, stepSls, stepSst, stepSla, bareZ, evX, evL, evB, rd, get, subG, memG, freshG, notInG, hyps, gob, impP, allP, partD, partOf, isOne, isPtr, nth, takeN, dropN, cellsD, lenB, fillD, thirds, entN, setE, sizeE, addE, setL, setN, putE, env0, eqCs, eqAux, eqC, bA, bO, bN, bE, negB, kEq, isShr, lendL, lend, frz, frzL, zRow, closed, closedL, rowsOf, binI, retK, retG, atRet, retD, lendO, resL, resD, oneD, renD, renL, renE, renEs, rho, putAll, entsN, List.append, List.nil_append, List.cons_append, List.append_nil, cond, Nat.reduceBEq, Nat.reduceAdd, Nat.beq]
    by_cases he : L[i].2 = id
    · rw [if_pos he] at hkt
      refine ⟨fun _ => ?_, fun h => by simp [he] at h⟩
      refine ⟨⟨rfl, by omega, by omega⟩, row_intro _ _ (nD_at hj) rfl ?_⟩
      dsimp only [run_skip, run_reg, plainB, ifB_true, run_seq, run_blk, run_exit, run_ret, run_ite, iteR, regK, thenK_nrm, thenK_exit, thenK_ret, thenR_nrm, thenR_exit, thenR_ret, blkK, keepS, keepE, runOps_nil, runOps_cons, goG_some, fpOk, foot, entOf, allN, memN, goOn_ok, goOn_call, goOn_row, goOn_arr, goOn_ask, goOn_put, goOn_prm, goOn_callK, goOn_callC, goOn_all, guardP, guardO, notInO, stepF, stepLd, stepSt, stepIxs, stepIxa, stepLen, stepApp, stepCpy, stepPick, stepSls, stepSst, stepSla, bareZ, evX, evL, evB, rd, get, subG, memG, freshG, notInG, hyps, gob, impP, allP, partD, partOf, isOne, isPtr, nth, takeN, dropN, cellsD, lenB, fillD, thirds, entN, setE, sizeE, addE, setL, setN, putE, env0, eqCs, eqAux, eqC, bA, bO, bN, bE, negB, kEq, isShr, lendL, lend, frz, frzL, zRow, closed, closedL, rowsOf, binI, retK, retG, atRet, retD, lendO, resL, resD, oneD, renD, renL, renE, renEs, rho, putAll, entsN, List.append, List.nil_append, List.cons_append, List.append_nil, cond, Nat.reduceBEq, Nat.reduceAdd, Nat.beq]
      refine ⟨⟨rfl, rfl, rfl, rfl, by rw [iL_len]; simp only [List.length_cons, List.length_nil]; omega⟩, ?_⟩
      rw [show iL (kidsN (L.take i) id) ++ [D.int .u32 L[i].1] = iL (kidsN (L.take (i + 1)) id) by rw [hkt]; exact iL_app _ [L[i].1]]
      refine ⟨by simp only [fits]; omega, ?_⟩
      exact again (ih ⟨(v + 1, i + 1), by dsimp only; omega⟩ (by dsimp only; omega)) ⟨rfl, rfl, rfl, rfl, trivial⟩ ⟨rfl, rfl, trivial⟩ rfl rfl
    · rw [if_neg he, List.append_nil] at hkt
      refine ⟨fun h => by simp [he] at h, fun _ => ⟨by simp only [fits]; omega, ?_⟩⟩
      rw [← hkt]
      exact again (ih ⟨(v, i + 1), by dsimp only; omega⟩ (by dsimp only; omega)) ⟨rfl, rfl, rfl, rfl, trivial⟩ ⟨rfl, rfl, trivial⟩ rfl rfl
  · have hj : i = L.length := by simp at hj; omega
    subst hj
    rw [List.take_length]
    exact ⟨rfl, rfl⟩

def stNin (l : List Int) (x : Int) (i : Nat) : St := ⟨[(0, [], .ls 1 (iL l)), (1, [], .int .u32 x), (5, [], .int .i64 i)], []⟩
theorem sp_ref28_in {l : List Int} {x : Int} (hl : l.length < 1000000) : TSp 39 [.ls 1 (iL l), .int .u32 x] (.bool (decide (x ∈ l))) := by
  refine spo_ref28_in (by rfl) ?_
  dsimp only [c_ref28_in, r_ref28_in, run_skip, run_reg, plainB, ifB_true, run_seq, run_blk, run_exit, run_ret, run_ite, iteR, regK, thenK_nrm, thenK_exit, thenK_ret, thenR_nrm, thenR_exit, thenR_ret, blkK, keepS, keepE, runOps_nil, runOps_cons, goG_some, fpOk, foot, entOf, allN, memN, goOn_ok, goOn_call, goOn_row, goOn_arr, goOn_ask, goOn_put, goOn_prm, goOn_callK, goOn_callC, goOn_all, guardP, guardO, notInO, stepF, stepLd, stepSt, stepIxs, stepIxa, stepLen, stepApp, stepCpy, stepPick, stepSls, stepSst, stepSla, bareZ, evX, evL, evB, rd, get, subG, memG, freshG, notInG, hyps, gob, impP, allP, partD, partOf, isOne, isPtr, nth, takeN, dropN, cellsD, lenB, fillD, thirds, entN, setE, sizeE, addE, setL, setN, putE, env0, eqCs, eqAux, eqC, bA, bO, bN, bE, negB, kEq, isShr, lendL, lend, frz, frzL, zRow, closed, closedL, rowsOf, binI, retK, retG, atRet, retD, lendO, resL, resD, oneD, renD, renL, renE, renEs, rho, putAll, entsN, List.append, List.nil_append, List.cons_append, List.append_nil, cond, Nat.reduceBEq, Nat.reduceAdd, Nat.beq]
  have hnl := iL_len l
  refine loop_ind (α := {i : Nat // i ≤ l.length ∧ (x ∈ l.drop i ↔ x ∈ l)}) (fun i => stNin l x i.1) (fun i => l.length - i.1) ?_ ⟨0, by simp⟩ rfl
  rintro ⟨i, hi, hv⟩ I ih
  dsimp only [stNin, run_skip, run_reg, plainB, ifB_true, run_seq, run_blk, run_exit, run_ret, run_ite, iteR, regK, thenK_nrm, thenK_exit, thenK_ret, thenR_nrm, thenR_exit, thenR_ret, blkK, keepS, keepE, runOps_nil, runOps_cons, goG_some, fpOk, foot, entOf, allN, memN, goOn_ok, goOn_call, goOn_row, goOn_arr, goOn_ask, goOn_put, goOn_prm, goOn_callK, goOn_callC, goOn_all, guardP, guardO, notInO, stepF, stepLd, stepSt, stepIxs, stepIxa, stepLen, stepApp, stepCpy, stepPick, stepSls, stepSst, stepSla, bareZ, evX, evL, evB, rd, get, subG, memG, freshG, notInG, hyps, gob, impP, allP, partD, partOf, isOne, isPtr, nth, takeN, dropN, cellsD, lenB, fillD, thirds, entN, setE, sizeE, addE, setL, setN, putE, env0, eqCs, eqAux, eqC, bA, bO, bN, bE, negB, kEq, isShr, lendL, lend, frz, frzL, zRow, closed, closedL, rowsOf, binI, retK, retG, atRet, retD, lendO, resL, resD, oneD, renD, renL, renE, renEs, rho, putAll, entsN, List.append, List.nil_append, List.cons_append, List.append_nil, cond, Nat.reduceBEq, Nat.reduceAdd, Nat.beq]
  refine ⟨fun hj => ?_, fun hj => ?_⟩
  · have hj : i < l.length := by simp at hj; omega
    refine ⟨⟨rfl, by omega, by omega⟩, row_intro _ _ (iL_at hj) rfl ?_⟩
    dsimp only [run_skip, run_reg, plainB, ifB_true, run_seq, run_blk, run_exit, run_ret, run_ite, iteR, regK, thenK_nrm, thenK_exit, thenK_ret, thenR_nrm, thenR_exit, thenR_ret, blkK, keepS, keepE, runOps_nil, runOps_cons, goG_some, fpOk, foot, entOf, allN, memN, goOn_ok, goOn_call, goOn_row, goOn_arr, goOn_ask, goOn_put, goOn_prm, goOn_callK, goOn_callC, goOn_all, guardP, guardO, notInO, stepF, stepLd, stepSt, stepIxs, stepIxa, stepLen, stepApp, stepCpy, stepPick, stepSls, stepSst, stepSla, bareZ, evX, evL, evB, rd, get, subG, memG, freshG, notInG, hyps, gob, impP, allP, partD, partOf, isOne, isPtr, nth, takeN, dropN, cellsD, lenB, fillD, thirds, entN, setE, sizeE, addE, setL, setN, putE, env0, eqCs, eqAux, eqC, bA, bO, bN, bE, negB, kEq, isShr, lendL, lend, frz, frzL, zRow, closed, closedL, rowsOf, binI, retK, retG, atRet, retD, lendO, resL, resD, oneD, renD, renL, renE, renEs, rho, putAll, entsN, List.append, List.nil_append, List.cons_append, List.append_nil, cond, Nat.reduceBEq, Nat.reduceAdd, Nat.beq]
    rw [drop_at hj, List.mem_cons] at hv
    by_cases he : l[i] = x
    · refine ⟨fun _ => ?_, fun h => by simp [he] at h⟩
      exact congrArg D.bool (by simp [← hv, he])
    · refine ⟨fun h => by simp [he] at h, fun _ => ⟨by simp only [fits]; omega, ?_⟩⟩
      exact again (ih ⟨i + 1, by omega, by rw [← hv]; simp [Ne.symm he]⟩ (by dsimp only; omega)) ⟨rfl, rfl, rfl, trivial⟩ trivial rfl rfl
  · have hj : i = l.length := by simp at hj; omega
    subst hj
    rw [List.drop_length] at hv
    exact congrArg D.bool (by simp [← hv])

theorem sp_ref28_wrong {id : Int} (h : fits .u32 id) : TSp 53 [.int .u32 id] (.int .i64 (checkI id)) := by
  refine spo_ref28_wrong (by rfl) ?_
  dsimp only [c_ref28_wrong, r_ref28_wrong, run_skip, run_reg, plainB, ifB_true, run_seq, run_blk, run_exit, run_ret, run_ite, iteR, regK, thenK_nrm, thenK_exit, thenK_ret, thenR_nrm, thenR_exit, thenR_ret, blkK, keepS, keepE, runOps_nil, runOps_cons, goG_some, fpOk, foot, entOf, allN, memN, goOn_ok, goOn_call, goOn_row, goOn_arr, goOn_ask, goOn_put, goOn_prm, goOn_callK, goOn_callC, goOn_all, guardP, guardO, notInO, stepF, stepLd, stepSt, stepIxs, stepIxa, stepLen, stepApp, stepCpy, stepPick, stepSls, stepSst, stepSla, bareZ, evX, evL, evB, rd, get, subG, memG, freshG, notInG, hyps, gob, impP, allP, partD, partOf, isOne, isPtr, nth, takeN, dropN, cellsD, lenB, fillD, thirds, entN, setE, sizeE, addE, setL, setN, putE, env0, eqCs, eqAux, eqC, bA, bO, bN, bE, negB, kEq, isShr, lendL, lend, frz, frzL, zRow, closed, closedL, rowsOf, binI, retK, retG, atRet, retD, lendO, resL, resD, oneD, renD, renL, renE, renEs, rho, putAll, entsN, List.append, List.nil_append, List.cons_append, List.append_nil, cond, Nat.reduceBEq, Nat.reduceAdd, Nat.beq]
  simp only [fits] at h
  unfold checkI
  by_cases h0 : id = 0
  · subst h0
    exact ⟨fun _ => by first | rfl | trivial, fun h => by simp at h⟩
  rw [if_neg h0]
  refine ⟨fun h => by simp [h0] at h, fun _ => ?_⟩
  have e20 : (2 : Int) ^ Int.toNat 20 = 1048576 := by decide
  rw [e20]
  have hc : (clP id).2 = !(!decide (id = 1) && (decide (id / 1048576 < 1) || decide (8 < id / 1048576) || decide (id % 1048576 = 0))) := by
    unfold clP isCl
    by_cases h1 : id = 1
    · simp [h1]
    · rw [if_neg h1]
      by_cases h2 : id % 1048576 = 0
      · simp [h1, h2]
      · by_cases h3 : 1 ≤ id / 1048576 <;> by_cases h4 : id / 1048576 ≤ 8 <;> simp [h1, h2, h3, h4] <;> omega
  rw [hc]
  refine ⟨fun _ => ⟨by omega, by decide⟩, fun _ _ => ⟨by omega, by decide⟩, fun _ _ => ⟨by omega, by omega⟩, fun h => by rw [h]; rfl, fun h => by rw [h]; rfl⟩

theorem without_take {L : Nodes} {i : Nat} (h : i < L.length) (id : Int) : withoutN (L.take (i + 1)) id = withoutN (L.take i) id ++ (if L[i].1 = id then [] else [L[i]]) := by
  rw [List.take_succ_eq_append_getElem h]
  unfold withoutN
  rw [List.filter_append]
  congr 1
  by_cases he : L[i].1 = id <;> simp [he]
theorem without_len (L : Nodes) (id : Int) : (withoutN L id).length ≤ L.length := List.length_filter_le _ _
def stNw (L : Nodes) (id : Int) (v i : Nat) : St := ⟨[(0, [], .ls 2 (nD L)), (1, [], .int .u32 id), (5, [], .own 1 v), (6, [], .int .i64 i)], [.arr 67 2 0 [], .arr 67 2 v (nD (withoutN (L.take i) id))]⟩
theorem sm_ref28_without {L : Nodes} {id : Int} (hl : L.length < 1000000) : TSpM 55 [.ls 2 (nD L), .int .u32 id] [] (.own 0 1) [.arr 67 2 1 (nD (withoutN L id))] := by
  refine spm_ref28_without (by rfl) ?_
  dsimp only [c_ref28_without, r_ref28_without, run_skip, run_reg, plainB, ifB_true, run_seq, run_blk, run_exit, run_ret, run_ite, iteR, regK, thenK_nrm, thenK_exit, thenK_ret, thenR_nrm, thenR_exit, thenR_ret, blkK, keepS, keepE, runOps_nil, runOps_cons, goG_some, fpOk, foot, entOf, allN, memN, goOn_ok, goOn_call, goOn_row, goOn_arr, goOn_ask, goOn_put, goOn_prm, goOn_callK, goOn_callC, goOn_all, guardP, guardO, notInO, stepF, stepLd, stepSt, stepIxs, stepIxa, stepLen, stepApp, stepCpy, stepPick, stepSls, stepSst, stepSla, bareZ, evX, evL, evB, rd, get, subG, memG, freshG, notInG, hyps, gob, impP, allP, partD, partOf, isOne, isPtr, nth, takeN, dropN, cellsD, lenB, fillD, thirds, entN, setE, sizeE, addE, setL, setN, putE, env0, eqCs, eqAux, eqC, bA, bO, bN, bE, negB, kEq, isShr, lendL, lend, frz, frzL, zRow, closed, closedL, rowsOf, binI, retK, retG, atRet, retD, lendO, resL, resD, oneD, renD, renL, renE, renEs, rho, putAll, entsN, List.append, List.nil_append, List.cons_append, List.append_nil, cond, Nat.reduceBEq, Nat.reduceAdd, Nat.beq]
  have hnl := nD_len L
  refine loop_ind (α := {x : Nat × Nat // x.2 ≤ L.length}) (fun x => stNw L id x.1.1 x.1.2) (fun x => L.length - x.1.2) ?_ ⟨(0, 0), by simp⟩ rfl
  rintro ⟨⟨v, i⟩, hi⟩ I ih
  dsimp only at hi
  dsimp only [stNw, run_skip, run_reg, plainB, ifB_true, run_seq, run_blk, run_exit, run_ret, run_ite, iteR, regK, thenK_nrm, thenK_exit, thenK_ret, thenR_nrm, thenR_exit, thenR_ret, blkK, keepS, keepE, runOps_nil, runOps_cons, goG_some, fpOk, foot, entOf, allN, memN, goOn_ok, goOn_call, goOn_row, goOn_arr, goOn_ask, goOn_put, goOn_prm, goOn_callK, goOn_callC, goOn_all, guardP, guardO, notInO, stepF, stepLd, stepSt, stepIxs, stepIxa, stepLen, stepApp, stepCpy, stepPick, stepSls, stepSst, stepSla, bareZ, evX, evL, evB, rd, get, subG, memG, freshG, notInG, hyps, gob, impP, allP, partD, partOf, isOne, isPtr, nth, takeN, dropN, cellsD, lenB, fillD, thirds, entN, setE, sizeE, addE, setL, setN, putE, env0, eqCs, eqAux, eqC, bA, bO, bN, bE, negB, kEq, isShr, lendL, lend, frz, frzL, zRow, closed, closedL, rowsOf, binI, retK, retG, atRet, retD, lendO, resL, resD, oneD, renD, renL, renE, renEs, rho, putAll, entsN, List.append, List.nil_append, List.cons_append, List.append_nil, cond, Nat.reduceBEq, Nat.reduceAdd, Nat.beq]
  refine ⟨fun hj => ?_, fun hj => ?_⟩
  · have hj : i < L.length := by simp at hj; omega
    have hkt := without_take hj id
    have hkl := without_len (L.take i) id
    rw [List.length_take] at hkl
    refine ⟨⟨rfl, by omega, by omega⟩, row_intro _ _ (nD_at hj) rfl ?_⟩
    dsimp only [run_skip, run_reg, plainB, ifB_true, run_seq, run_blk, run_exit, run_ret, run_ite, iteR, regK, thenK_nrm, thenK_exit, thenK_ret, thenR_nrm, thenR_exit, thenR_ret, blkK, keepS, keepE, runOps_nil, runOps_cons, goG_some, fpOk, foot, entOf, allN, memN, goOn_ok, goOn_call, goOn_row, goOn_arr, goOn_ask, goOn_put, goOn_prm, goOn_callK, goOn_callC, goOn_all, guardP, guardO, notInO, stepF, stepLd, stepSt, stepIxs, stepIxa, stepLen, stepApp, stepCpy, stepPick, stepSls, stepSst, stepSla, bareZ, evX, evL, evB, rd, get, subG, memG, freshG, notInG, hyps, gob, impP, allP, partD, partOf, isOne, isPtr, nth, takeN, dropN, cellsD, lenB, fillD, thirds, entN, setE, sizeE, addE, setL, setN, putE, env0, eqCs, eqAux, eqC, bA, bO, bN, bE, negB, kEq, isShr, lendL, lend, frz, frzL, zRow, closed, closedL, rowsOf, binI, retK, retG, atRet, retD, lendO, resL, resD, oneD, renD, renL, renE, renEs, rho, putAll, entsN, List.append, List.nil_append, List.cons_append, List.append_nil, cond, Nat.reduceBEq, Nat.reduceAdd, Nat.beq]
    by_cases he : L[i].1 = id
    · rw [if_pos he, List.append_nil] at hkt
      refine ⟨fun h => by simp [he] at h, fun _ => ⟨by simp only [fits]; omega, ?_⟩⟩
      rw [← hkt]
      exact again (ih ⟨(v, i + 1), by dsimp only; omega⟩ (by dsimp only; omega)) ⟨rfl, rfl, rfl, rfl, trivial⟩ ⟨rfl, rfl, trivial⟩ rfl rfl
    · rw [if_neg he] at hkt
      refine ⟨fun _ => ?_, fun h => by simp [he] at h⟩
      refine ⟨⟨rfl, by omega, by omega⟩, row_intro _ _ (nD_at hj) rfl ?_⟩
      dsimp only [run_skip, run_reg, plainB, ifB_true, run_seq, run_blk, run_exit, run_ret, run_ite, iteR, regK, thenK_nrm, thenK_exit, thenK_ret, thenR_nrm, thenR_exit, thenR_ret, blkK, keepS, keepE, runOps_nil, runOps_cons, goG_some, fpOk, foot, entOf, allN, memN, goOn_ok, goOn_call, goOn_row, goOn_arr, goOn_ask, goOn_put, goOn_prm, goOn_callK, goOn_callC, goOn_all, guardP, guardO, notInO, stepF, stepLd, stepSt, stepIxs, stepIxa, stepLen, stepApp, stepCpy, stepPick, stepSls, stepSst, stepSla, bareZ, evX, evL, evB, rd, get, subG, memG, freshG, notInG, hyps, gob, impP, allP, partD, partOf, isOne, isPtr, nth, takeN, dropN, cellsD, lenB, fillD, thirds, entN, setE, sizeE, addE, setL, setN, putE, env0, eqCs, eqAux, eqC, bA, bO, bN, bE, negB, kEq, isShr, lendL, lend, frz, frzL, zRow, closed, closedL, rowsOf, binI, retK, retG, atRet, retD, lendO, resL, resD, oneD, renD, renL, renE, renEs, rho, putAll, entsN, List.append, List.nil_append, List.cons_append, List.append_nil, cond, Nat.reduceBEq, Nat.reduceAdd, Nat.beq]
      refine ⟨⟨rfl, rfl, rfl, rfl, by rw [nD_len]; simp only [List.length_cons, List.length_nil]; omega⟩, ?_⟩
      rw [show nD (withoutN (L.take i) id) ++ [D.agg [.int .u32 L[i].1, .int .u32 L[i].2]] = nD (withoutN (L.take (i + 1)) id) by rw [hkt]; exact nD_app _ [L[i]]]
      refine ⟨by simp only [fits]; omega, ?_⟩
      exact again (ih ⟨(v + 1, i + 1), by dsimp only; omega⟩ (by dsimp only; omega)) ⟨rfl, rfl, rfl, rfl, trivial⟩ ⟨rfl, rfl, trivial⟩ rfl rfl
  · have hj : i = L.length := by simp at hj; omega
    subst hj
    rw [List.take_length]
    exact Rt.row rfl
end Go.AM
