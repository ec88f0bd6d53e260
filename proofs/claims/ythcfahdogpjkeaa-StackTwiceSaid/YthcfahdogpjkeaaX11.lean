
/- Chapter 29: the scenes are made. -/
import Derived.Test.YthcfahdogpjkeaaX10
set_option linter.all false
namespace Go.AM
open Go Go.Proofs

def rL (l : List Rc) : List D := l.map rD
theorem rL_len (l : List Rc) : (rL l).length = l.length := by simp [rL]
theorem rL_at {l : List Rc} {i : Nat} (h : i < l.length) : (rL l)[i]? = some (rD (rAt l i)) := by
  unfold rAt
  rw [List.getD_eq_getElem?_getD, List.getElem?_eq_getElem h]
  simp [rL, h]
theorem closedL_aKV : ∀ {u : Ats}, closedL (mpV (aKV u)) = true
  | [] => rfl
  | p :: r => by simp only [aKV, mpV, List.map_cons, closedL, closed, bA, rD]; exact closedL_aKV (u := r)
theorem lowL_aKV {n : Nat} : ∀ {u : Ats}, lowL n (mpV (aKV u)) = true
  | [] => rfl
  | p :: r => by simp only [aKV, mpV, List.map_cons, lowL, low, rD, Bool.true_and]; exact lowL_aKV (u := r)
theorem aKV_put {u : Ats} {n : Int} {r : Rc} : put (aKV u) n (rD r) = aKV (put u n r) := put_mapv (f := fun r : Rc => rD r)
theorem kA_len (ats : List Rc) (i : Nat) : (kA ats i).length = i := by simp [kA]
theorem kA_succ (ats : List Rc) (i : Nat) : kA ats i ++ [⟨(i : Int) + 1, rAt ats i⟩] = kA ats (i + 1) := by simp [kA, List.range_succ]

structure MdX where
  i : Nat
  v : Nat
def stMd (ats : List Rc) (deep : Int) (x : MdX) : St := ⟨[(1, [], .box 0 0), (2, [], .box 1 0), (6, [], .box 4 0), (7, [], .ownm 3 0), (8, [], .own 5 x.v), (9, [], .int .i64 x.i)],
  [.cells [.ls 4 (rL ats), .int .u8 deep], .cells [.mp [] [], .mp [] []], .arr 63 5 0 [], .map (mpK .u32 (aKV (mA ats x.i))) (mpV (aKV (mA ats x.i))), .cells [mpD .u32 (kKV (tA x.i).kids), mpD .u32 (uKV (tA x.i).up)], .arr 63 5 x.v (kL (kA ats x.i))]⟩
def stMe29 (ats : List Rc) (deep : Int) (v : Nat) (j : Nat) : St := ⟨[(1, [], .box 0 0), (2, [], .box 1 0), (6, [], .box 4 0), (7, [], .ownm 3 0), (8, [], .own 5 v), (12, [], .int .i64 j)],
  [.cells [.ls 4 (rL ats), .int .u8 deep], .cells [.mp [] [], .mp [] []], .arr 63 5 0 [], .map (mpK .u32 (aKV (mB ats deep j))) (mpV (aKV (mB ats deep j))), .cells [mpD .u32 (kKV (tB ats.length deep j).kids), mpD .u32 (uKV (tB ats.length deep j).up)], .arr 63 5 v (kL (kA ats ats.length))]⟩
def sceneD (ats : List Rc) (deep : Int) : D := .agg [.ls 4 (rL ats), .int .u8 deep]

set_option maxHeartbeats 1000000 in
theorem sp_law29_made {ats : List Rc} {deep : Int} (hl : ats.length ≤ 8) (hd : fits .u8 deep) : TSp 11 [sceneD ats deep] (.tup [tD (tB ats.length deep ats.length), mpD .u32 (aKV (mB ats deep ats.length)), .ls 5 (kL (kA ats ats.length)), .bool true]) := by
  refine spo_law29_made (by rfl) ?_
  have hnew := sp_tree_New
  rw [show tD ⟨[], []⟩ = .agg [.mp [] [], .mp [] []] from rfl] at hnew
  have htD : ∀ t : TT, tD t = .agg [mpD .u32 (kKV t.kids), mpD .u32 (uKV t.up)] := fun _ => rfl
  simp only [fits] at hd
  dsimp only [c_law29_made, r_law29_made, sceneD, run_skip, run_reg, plainB, ifB_true, run_seq, run_blk, run_exit, run_ret, run_ite, iteR, regK, thenK_nrm, thenK_exit, thenK_ret, thenR_nrm, thenR_exit, thenR_ret, blkK, keepS, keepE, runOps_nil, runOps_cons, goG_some, fpOk, foot, entOf, allN, memN, goOn_ok, goOn_call, goOn_row, goOn_arr, goOn_ask, goOn_put, goOn_prm, goOn_callK, goOn_callC, goOn_all, guardP, guardO, notInO, stepF, stepLd, stepSt, stepIxs, stepIxa, stepLen, stepApp, stepCpy, stepPick, stepSls, stepSst, stepSla, bareZ, evX, evL, evB, rd, get, subG, memG, freshG, notInG, hyps, gob, impP, allP, partD, partOf, isOne, isPtr, nth, takeN, dropN, cellsD, lenB, fillD, thirds, entN, setE, sizeE, addE, setL, setN, putE, env0, eqCs, eqAux, eqC, bA, bO, bN, bE, negB, kEq, isShr, lendL, lend, frz, frzL, zRow, closed, closedL, rowsOf, binI, retK, retG, atRet, retD, lendO, resL, resD, oneD, renD, renL, renE, renEs, rho, putAll, entsN, List.append, List.nil_append, List.cons_append, List.append_nil, cond, Nat.reduceBEq, Nat.reduceAdd, Nat.beq]
  refine call_pure hnew ?_
  dsimp only [run_skip, run_reg, plainB, ifB_true, run_seq, run_blk, run_exit, run_ret, run_ite, iteR, regK, thenK_nrm, thenK_exit, thenK_ret, thenR_nrm, thenR_exit, thenR_ret, blkK, keepS, keepE, runOps_nil, runOps_cons, goG_some, fpOk, foot, entOf, allN, memN, goOn_ok, goOn_call, goOn_row, goOn_arr, goOn_ask, goOn_put, goOn_prm, goOn_callK, goOn_callC, goOn_all, guardP, guardO, notInO, stepF, stepLd, stepSt, stepIxs, stepIxa, stepLen, stepApp, stepCpy, stepPick, stepSls, stepSst, stepSla, bareZ, evX, evL, evB, rd, get, subG, memG, freshG, notInG, hyps, gob, impP, allP, partD, partOf, isOne, isPtr, nth, takeN, dropN, cellsD, lenB, fillD, thirds, entN, setE, sizeE, addE, setL, setN, putE, env0, eqCs, eqAux, eqC, bA, bO, bN, bE, negB, kEq, isShr, lendL, lend, frz, frzL, zRow, closed, closedL, rowsOf, binI, retK, retG, atRet, retD, lendO, resL, resD, oneD, renD, renL, renE, renEs, rho, putAll, entsN, List.append, List.nil_append, List.cons_append, List.append_nil, cond, Nat.reduceBEq, Nat.reduceAdd, Nat.beq]
  refine prm_eff _ _ (pr_mkm (ik := .u32)) ?_
  dsimp only [run_skip, run_reg, plainB, ifB_true, run_seq, run_blk, run_exit, run_ret, run_ite, iteR, regK, thenK_nrm, thenK_exit, thenK_ret, thenR_nrm, thenR_exit, thenR_ret, blkK, keepS, keepE, runOps_nil, runOps_cons, goG_some, fpOk, foot, entOf, allN, memN, goOn_ok, goOn_call, goOn_row, goOn_arr, goOn_ask, goOn_put, goOn_prm, goOn_callK, goOn_callC, goOn_all, guardP, guardO, notInO, stepF, stepLd, stepSt, stepIxs, stepIxa, stepLen, stepApp, stepCpy, stepPick, stepSls, stepSst, stepSla, bareZ, evX, evL, evB, rd, get, subG, memG, freshG, notInG, hyps, gob, impP, allP, partD, partOf, isOne, isPtr, nth, takeN, dropN, cellsD, lenB, fillD, thirds, entN, setE, sizeE, addE, setL, setN, putE, env0, eqCs, eqAux, eqC, bA, bO, bN, bE, negB, kEq, isShr, lendL, lend, frz, frzL, zRow, closed, closedL, rowsOf, binI, retK, retG, atRet, retD, lendO, resL, resD, oneD, renD, renL, renE, renEs, rho, putAll, entsN, List.append, List.nil_append, List.cons_append, List.append_nil, cond, Nat.reduceBEq, Nat.reduceAdd, Nat.beq]
  refine loop_ind (α := {x : MdX // x.i ≤ ats.length}) (fun x => stMd ats deep x.1) (fun x => ats.length - x.1.i) ?_ ⟨⟨0, 0⟩, by simp⟩ rfl
  rintro ⟨⟨i, v⟩, hi⟩ I ih
  dsimp only at hi
  dsimp only [stMd, run_skip, run_reg, plainB, ifB_true, run_seq, run_blk, run_exit, run_ret, run_ite, iteR, regK, thenK_nrm, thenK_exit, thenK_ret, thenR_nrm, thenR_exit, thenR_ret, blkK, keepS, keepE, runOps_nil, runOps_cons, goG_some, fpOk, foot, entOf, allN, memN, goOn_ok, goOn_call, goOn_row, goOn_arr, goOn_ask, goOn_put, goOn_prm, goOn_callK, goOn_callC, goOn_all, guardP, guardO, notInO, stepF, stepLd, stepSt, stepIxs, stepIxa, stepLen, stepApp, stepCpy, stepPick, stepSls, stepSst, stepSla, bareZ, evX, evL, evB, rd, get, subG, memG, freshG, notInG, hyps, gob, impP, allP, partD, partOf, isOne, isPtr, nth, takeN, dropN, cellsD, lenB, fillD, thirds, entN, setE, sizeE, addE, setL, setN, putE, env0, eqCs, eqAux, eqC, bA, bO, bN, bE, negB, kEq, isShr, lendL, lend, frz, frzL, zRow, closed, closedL, rowsOf, binI, retK, retG, atRet, retD, lendO, resL, resD, oneD, renD, renL, renE, renEs, rho, putAll, entsN, List.append, List.nil_append, List.cons_append, List.append_nil, cond, Nat.reduceBEq, Nat.reduceAdd, Nat.beq]
  rw [rL_len]
  refine ⟨fun hj => ?_, fun hj => ?_⟩
  · have hj : i < ats.length := by simp at hj; omega
    have hok : (tA i).Ok := by have := tB_ok (n := i) (by omega) 0 (j := 0) (by omega); rwa [tB_0] at this
    obtain ⟨a1, a2⟩ := add_A (i := i) (by omega)
    have hadd := sp_tree_Add hok (id := 1048577 + (i : Int)) (p := 1) (by simp only [fits]; omega)
    rw [a1, a2, htD, htD] at hadd
    have e1 : (1048576 : Int) + (i : Int) + 1 = 1048577 + (i : Int) := by omega
    rw [e1]
    refine ⟨by simp only [fits]; omega, by simp only [fits]; omega, by simp only [fits]; omega, ?_⟩
    refine call_pure hadd ?_
    dsimp only [run_skip, run_reg, plainB, ifB_true, run_seq, run_blk, run_exit, run_ret, run_ite, iteR, regK, thenK_nrm, thenK_exit, thenK_ret, thenR_nrm, thenR_exit, thenR_ret, blkK, keepS, keepE, runOps_nil, runOps_cons, goG_some, fpOk, foot, entOf, allN, memN, goOn_ok, goOn_call, goOn_row, goOn_arr, goOn_ask, goOn_put, goOn_prm, goOn_callK, goOn_callC, goOn_all, guardP, guardO, notInO, stepF, stepLd, stepSt, stepIxs, stepIxa, stepLen, stepApp, stepCpy, stepPick, stepSls, stepSst, stepSla, bareZ, evX, evL, evB, rd, get, subG, memG, freshG, notInG, hyps, gob, impP, allP, partD, partOf, isOne, isPtr, nth, takeN, dropN, cellsD, lenB, fillD, thirds, entN, setE, sizeE, addE, setL, setN, putE, env0, eqCs, eqAux, eqC, bA, bO, bN, bE, negB, kEq, isShr, lendL, lend, frz, frzL, zRow, closed, closedL, rowsOf, binI, retK, retG, atRet, retD, lendO, resL, resD, oneD, renD, renL, renE, renEs, rho, putAll, entsN, List.append, List.nil_append, List.cons_append, List.append_nil, cond, Nat.reduceBEq, Nat.reduceAdd, Nat.beq]
    refine ⟨nofun, fun _ => ?_⟩
    rw [rL_len, e1]
    refine ⟨by simp only [fits]; omega, by simp only [fits]; omega, by simp only [fits]; omega, ⟨rfl, by omega, by omega⟩, ?_⟩
    rw [show ((i : Int)).toNat = i by omega]
    refine row_intro _ (rD (rAt ats i)) (rL_at hj) rfl ?_
    dsimp only [run_skip, run_reg, plainB, ifB_true, run_seq, run_blk, run_exit, run_ret, run_ite, iteR, regK, thenK_nrm, thenK_exit, thenK_ret, thenR_nrm, thenR_exit, thenR_ret, blkK, keepS, keepE, runOps_nil, runOps_cons, goG_some, fpOk, foot, entOf, allN, memN, goOn_ok, goOn_call, goOn_row, goOn_arr, goOn_ask, goOn_put, goOn_prm, goOn_callK, goOn_callC, goOn_all, guardP, guardO, notInO, stepF, stepLd, stepSt, stepIxs, stepIxa, stepLen, stepApp, stepCpy, stepPick, stepSls, stepSst, stepSla, bareZ, evX, evL, evB, rd, get, subG, memG, freshG, notInG, hyps, gob, impP, allP, partD, partOf, isOne, isPtr, nth, takeN, dropN, cellsD, lenB, fillD, thirds, entN, setE, sizeE, addE, setL, setN, putE, env0, eqCs, eqAux, eqC, bA, bO, bN, bE, negB, kEq, isShr, lendL, lend, frz, frzL, zRow, closed, closedL, rowsOf, binI, retK, retG, atRet, retD, lendO, resL, resD, oneD, renD, renL, renE, renEs, rho, putAll, entsN, List.append, List.nil_append, List.cons_append, List.append_nil, cond, Nat.reduceBEq, Nat.reduceAdd, Nat.beq]
    refine prm_eff _ _ (pr_upd tR tI (kv := aKV (mA ats i)) rfl (aKV_nd fam_nd) (1048577 + (i : Int)) (rD (rAt ats i))) ?_
    dsimp only [run_skip, run_reg, plainB, ifB_true, run_seq, run_blk, run_exit, run_ret, run_ite, iteR, regK, thenK_nrm, thenK_exit, thenK_ret, thenR_nrm, thenR_exit, thenR_ret, blkK, keepS, keepE, runOps_nil, runOps_cons, goG_some, fpOk, foot, entOf, allN, memN, goOn_ok, goOn_call, goOn_row, goOn_arr, goOn_ask, goOn_put, goOn_prm, goOn_callK, goOn_callC, goOn_all, guardP, guardO, notInO, stepF, stepLd, stepSt, stepIxs, stepIxa, stepLen, stepApp, stepCpy, stepPick, stepSls, stepSst, stepSla, bareZ, evX, evL, evB, rd, get, subG, memG, freshG, notInG, hyps, gob, impP, allP, partD, partOf, isOne, isPtr, nth, takeN, dropN, cellsD, lenB, fillD, thirds, entN, setE, sizeE, addE, setL, setN, putE, env0, eqCs, eqAux, eqC, bA, bO, bN, bE, negB, kEq, isShr, lendL, lend, frz, frzL, zRow, closed, closedL, rowsOf, binI, retK, retG, atRet, retD, lendO, resL, resD, oneD, renD, renL, renE, renEs, rho, putAll, entsN, List.append, List.nil_append, List.cons_append, List.append_nil, cond, Nat.reduceBEq, Nat.reduceAdd, Nat.beq]
    rw [aKV_put, mA_succ, rL_len]
    refine ⟨by simp only [fits]; omega, ⟨rfl, by omega, by omega⟩, ?_⟩
    rw [show ((i : Int)).toNat = i by omega]
    refine row_intro _ (rD (rAt ats i)) (rL_at hj) rfl ?_
    unfold rD
    dsimp only [run_skip, run_reg, plainB, ifB_true, run_seq, run_blk, run_exit, run_ret, run_ite, iteR, regK, thenK_nrm, thenK_exit, thenK_ret, thenR_nrm, thenR_exit, thenR_ret, blkK, keepS, keepE, runOps_nil, runOps_cons, goG_some, fpOk, foot, entOf, allN, memN, goOn_ok, goOn_call, goOn_row, goOn_arr, goOn_ask, goOn_put, goOn_prm, goOn_callK, goOn_callC, goOn_all, guardP, guardO, notInO, stepF, stepLd, stepSt, stepIxs, stepIxa, stepLen, stepApp, stepCpy, stepPick, stepSls, stepSst, stepSla, bareZ, evX, evL, evB, rd, get, subG, memG, freshG, notInG, hyps, gob, impP, allP, partD, partOf, isOne, isPtr, nth, takeN, dropN, cellsD, lenB, fillD, thirds, entN, setE, sizeE, addE, setL, setN, putE, env0, eqCs, eqAux, eqC, bA, bO, bN, bE, negB, kEq, isShr, lendL, lend, frz, frzL, zRow, closed, closedL, rowsOf, binI, retK, retG, atRet, retD, lendO, resL, resD, oneD, renD, renL, renE, renEs, rho, putAll, entsN, List.append, List.nil_append, List.cons_append, List.append_nil, cond, Nat.reduceBEq, Nat.reduceAdd, Nat.beq]
    rw [kL_len, kA_len]
    refine ⟨⟨rfl, rfl, rfl, rfl, by simp; omega⟩, ?_⟩
    rw [show kL (kA ats i) ++ [D.agg [.int .i64 ((i : Int) + 1), .int .i64 (rAt ats i).x, .int .i64 (rAt ats i).y, .int .i64 (rAt ats i).w, .int .i64 (rAt ats i).h]] = kL (kA ats (i + 1)) by rw [← kA_succ]; simp [kL, kdD]]
    refine ⟨by simp only [fits]; omega, ?_⟩
    exact again (ih ⟨⟨i + 1, v + 1⟩, by dsimp only; omega⟩ (by dsimp only; omega)) ⟨rfl, rfl, rfl, rfl, rfl, rfl, trivial⟩ ⟨rfl, rfl, rfl, rfl, rfl, rfl, trivial⟩ rfl (by simp [stMd, lowB, lowL, low, lowL_mpK, lowL_aKV])
  · have hj : i = ats.length := by simp at hj; omega
    subst hj
    refine loop_ind (α := {j : Nat // j ≤ ats.length}) (fun j => stMe29 ats deep v j.1) (fun j => ats.length - j.1) ?_ ⟨0, by simp⟩ (by simp only [stMe29, tB_0, mB_0]; rfl)
    rintro ⟨j, hj⟩ I ih
    dsimp only [stMe29, run_skip, run_reg, plainB, ifB_true, run_seq, run_blk, run_exit, run_ret, run_ite, iteR, regK, thenK_nrm, thenK_exit, thenK_ret, thenR_nrm, thenR_exit, thenR_ret, blkK, keepS, keepE, runOps_nil, runOps_cons, goG_some, fpOk, foot, entOf, allN, memN, goOn_ok, goOn_call, goOn_row, goOn_arr, goOn_ask, goOn_put, goOn_prm, goOn_callK, goOn_callC, goOn_all, guardP, guardO, notInO, stepF, stepLd, stepSt, stepIxs, stepIxa, stepLen, stepApp, stepCpy, stepPick, stepSls, stepSst, stepSla, bareZ, evX, evL, evB, rd, get, subG, memG, freshG, notInG, hyps, gob, impP, allP, partD, partOf, isOne, isPtr, nth, takeN, dropN, cellsD, lenB, fillD, thirds, entN, setE, sizeE, addE, setL, setN, putE, env0, eqCs, eqAux, eqC, bA, bO, bN, bE, negB, kEq, isShr, lendL, lend, frz, frzL, zRow, closed, closedL, rowsOf, binI, retK, retG, atRet, retD, lendO, resL, resD, oneD, renD, renL, renE, renEs, rho, putAll, entsN, List.append, List.nil_append, List.cons_append, List.append_nil, cond, Nat.reduceBEq, Nat.reduceAdd, Nat.beq]
    rw [rL_len]
    refine ⟨fun hk => ?_, fun hk => ?_⟩
    · have hk : j < ats.length := by simp at hk; omega
      have hsh : 0 ≤ deep / 2 ^ ((j : Int) % 8).toNat ∧ deep / 2 ^ ((j : Int) % 8).toNat ≤ 255 := by
        have hp : (0 : Int) < 2 ^ ((j : Int) % 8).toNat := Int.pow_pos (by omega)
        refine ⟨Int.ediv_nonneg hd.1 (by omega), ?_⟩
        exact Int.le_trans (Int.ediv_le_self _ hd.1) hd.2
      refine ⟨⟨by omega, by omega⟩, ⟨by omega, by simp only [IntKind.bits]; omega⟩, ⟨hsh.1, by omega, by simp only [fits]; omega, by simp only [fits]; omega⟩, ?_⟩
      rw [show decide (Int.ofNat ((deep / 2 ^ ((j : Int) % 8).toNat).toNat &&& (1 : Int).toNat) = 1) = bitD deep j from rfl]
      cases hb : bitD deep j
      · refine ⟨nofun, fun _ => ?_⟩
        refine ⟨by simp only [fits]; omega, ?_⟩
        refine again (ih ⟨j + 1, by omega⟩ (by dsimp only; omega)) ⟨rfl, rfl, rfl, rfl, rfl, rfl, trivial⟩ ?_ rfl (by simp [stMe29, lowB, lowL, low, lowL_mpK, lowL_aKV])
        simp only [stMe29, tB_skip hb, mB_skip hb]
        exact ⟨rfl, rfl, rfl, rfl, rfl, rfl, trivial⟩
      · refine ⟨fun _ => ?_, nofun⟩
        obtain ⟨a1, a2⟩ := add_B hk hl hb
        have hadd := sp_tree_Add (tB_ok hl deep (j := j) (by omega)) (id := 1048676 + (j : Int)) (p := 1048577 + (j : Int)) (by simp only [fits]; omega)
        rw [a1, a2, htD, htD] at hadd
        have e1 : (1048576 : Int) + (j : Int) + 1 = 1048577 + (j : Int) := by omega
        rw [e1]
        refine ⟨by simp only [fits]; omega, by simp only [fits]; omega, by simp only [fits]; omega, by simp only [fits]; omega, by simp only [fits]; omega, ?_⟩
        refine call_pure hadd ?_
        dsimp only [run_skip, run_reg, plainB, ifB_true, run_seq, run_blk, run_exit, run_ret, run_ite, iteR, regK, thenK_nrm, thenK_exit, thenK_ret, thenR_nrm, thenR_exit, thenR_ret, blkK, keepS, keepE, runOps_nil, runOps_cons, goG_some, fpOk, foot, entOf, allN, memN, goOn_ok, goOn_call, goOn_row, goOn_arr, goOn_ask, goOn_put, goOn_prm, goOn_callK, goOn_callC, goOn_all, guardP, guardO, notInO, stepF, stepLd, stepSt, stepIxs, stepIxa, stepLen, stepApp, stepCpy, stepPick, stepSls, stepSst, stepSla, bareZ, evX, evL, evB, rd, get, subG, memG, freshG, notInG, hyps, gob, impP, allP, partD, partOf, isOne, isPtr, nth, takeN, dropN, cellsD, lenB, fillD, thirds, entN, setE, sizeE, addE, setL, setN, putE, env0, eqCs, eqAux, eqC, bA, bO, bN, bE, negB, kEq, isShr, lendL, lend, frz, frzL, zRow, closed, closedL, rowsOf, binI, retK, retG, atRet, retD, lendO, resL, resD, oneD, renD, renL, renE, renEs, rho, putAll, entsN, List.append, List.nil_append, List.cons_append, List.append_nil, cond, Nat.reduceBEq, Nat.reduceAdd, Nat.beq]
        refine ⟨nofun, fun _ => ?_⟩
        refine ⟨by simp only [fits]; omega, by simp only [fits]; omega, ?_⟩
        refine prm_eff _ _ (pr_upd tR tI (kv := aKV (mB ats deep j)) rfl (aKV_nd (mB_nd hl)) (1048676 + (j : Int)) (rD ⟨0, 0, 5, 5⟩)) ?_
        dsimp only [run_skip, run_reg, plainB, ifB_true, run_seq, run_blk, run_exit, run_ret, run_ite, iteR, regK, thenK_nrm, thenK_exit, thenK_ret, thenR_nrm, thenR_exit, thenR_ret, blkK, keepS, keepE, runOps_nil, runOps_cons, goG_some, fpOk, foot, entOf, allN, memN, goOn_ok, goOn_call, goOn_row, goOn_arr, goOn_ask, goOn_put, goOn_prm, goOn_callK, goOn_callC, goOn_all, guardP, guardO, notInO, stepF, stepLd, stepSt, stepIxs, stepIxa, stepLen, stepApp, stepCpy, stepPick, stepSls, stepSst, stepSla, bareZ, evX, evL, evB, rd, get, subG, memG, freshG, notInG, hyps, gob, impP, allP, partD, partOf, isOne, isPtr, nth, takeN, dropN, cellsD, lenB, fillD, thirds, entN, setE, sizeE, addE, setL, setN, putE, env0, eqCs, eqAux, eqC, bA, bO, bN, bE, negB, kEq, isShr, lendL, lend, frz, frzL, zRow, closed, closedL, rowsOf, binI, retK, retG, atRet, retD, lendO, resL, resD, oneD, renD, renL, renE, renEs, rho, putAll, entsN, List.append, List.nil_append, List.cons_append, List.append_nil, cond, Nat.reduceBEq, Nat.reduceAdd, Nat.beq]
        rw [aKV_put, mB_succ hk hl hb]
        refine ⟨by simp only [fits]; omega, ?_⟩
        exact again (ih ⟨j + 1, by omega⟩ (by dsimp only; omega)) ⟨rfl, rfl, rfl, rfl, rfl, rfl, trivial⟩ ⟨rfl, rfl, rfl, rfl, rfl, rfl, trivial⟩ rfl (by simp [stMe29, lowB, lowL, low, lowL_mpK, lowL_aKV])
    · have hk : j = ats.length := by simp at hk; omega
      subst hk
      exact ⟨rfl, closedL_aKV, rfl, rfl⟩
end Go.AM
