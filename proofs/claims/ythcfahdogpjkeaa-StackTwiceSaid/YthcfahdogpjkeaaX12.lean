
/- Chapter 29: what the laws read. -/
import Derived.Test.YthcfahdogpjkeaaX11
set_option linter.all false
namespace Go.AM
open Go Go.Proofs

theorem sp_law29_great (ats : List Rc) (deep : Int) : TSp 9 [sceneD ats deep] (.bool (decide (8 < (ats.length : Int)))) := by
  refine spo_law29_great (by rfl) ?_
  dsimp only [c_law29_great, r_law29_great, sceneD, run_skip, run_reg, plainB, ifB_true, run_seq, run_blk, run_exit, run_ret, run_ite, iteR, regK, thenK_nrm, thenK_exit, thenK_ret, thenR_nrm, thenR_exit, thenR_ret, blkK, keepS, keepE, runOps_nil, runOps_cons, goG_some, fpOk, foot, entOf, allN, memN, goOn_ok, goOn_call, goOn_row, goOn_arr, goOn_ask, goOn_put, goOn_prm, goOn_callK, goOn_callC, goOn_all, guardP, guardO, notInO, stepF, stepLd, stepSt, stepIxs, stepIxa, stepLen, stepApp, stepCpy, stepPick, stepSls, stepSst, stepSla, bareZ, evX, evL, evB, rd, get, subG, memG, freshG, notInG, hyps, gob, impP, allP, partD, partOf, isOne, isPtr, nth, takeN, dropN, cellsD, lenB, fillD, thirds, entN, setE, sizeE, addE, setL, setN, putE, env0, eqCs, eqAux, eqC, bA, bO, bN, bE, negB, kEq, isShr, lendL, lend, frz, frzL, zRow, closed, closedL, rowsOf, binI, retK, retG, atRet, retD, lendO, resL, resD, oneD, renD, renL, renE, renEs, rho, putAll, entsN, List.append, List.nil_append, List.cons_append, List.append_nil, cond, Nat.reduceBEq, Nat.reduceAdd, Nat.beq]
  rw [rL_len]

def kidsL (t : TT) : List Kd := (kidsT t 1).map fun x => ⟨x - 1048576, .o⟩
theorem kidsL_len (t : TT) : (kidsL t).length = (kidsT t 1).length := by simp [kidsL]
structure KsX where
  i : Nat
  v : Nat
def stKs (t : TT) (x : KsX) : St := ⟨[(3, [], .own 2 x.v), (4, [], .ls 1 (iL (kidsT t 1))), (5, [], .int .i64 x.i)],
  [.cells [mpD .u32 (kKV t.kids), mpD .u32 (uKV t.up)], .arr 63 5 0 [], .arr 63 5 x.v (kL ((kidsL t).take x.i))]⟩
theorem sp_law29_kids {t : TT} (h : t.Ok) (hf : ∀ x ∈ kidsT t 1, fits .u32 x) : TSp 15 [tD t] (.ls 5 (kL (kidsL t))) := by
  refine spo_law29_kids (by rfl) ?_
  have hki := sp_tree_Kids h 1
  have hkl := h.kl 1
  rw [show tD t = .agg [mpD .u32 (kKV t.kids), mpD .u32 (uKV t.up)] from rfl] at *
  dsimp only [c_law29_kids, r_law29_kids, run_skip, run_reg, plainB, ifB_true, run_seq, run_blk, run_exit, run_ret, run_ite, iteR, regK, thenK_nrm, thenK_exit, thenK_ret, thenR_nrm, thenR_exit, thenR_ret, blkK, keepS, keepE, runOps_nil, runOps_cons, goG_some, fpOk, foot, entOf, allN, memN, goOn_ok, goOn_call, goOn_row, goOn_arr, goOn_ask, goOn_put, goOn_prm, goOn_callK, goOn_callC, goOn_all, guardP, guardO, notInO, stepF, stepLd, stepSt, stepIxs, stepIxa, stepLen, stepApp, stepCpy, stepPick, stepSls, stepSst, stepSla, bareZ, evX, evL, evB, rd, get, subG, memG, freshG, notInG, hyps, gob, impP, allP, partD, partOf, isOne, isPtr, nth, takeN, dropN, cellsD, lenB, fillD, thirds, entN, setE, sizeE, addE, setL, setN, putE, env0, eqCs, eqAux, eqC, bA, bO, bN, bE, negB, kEq, isShr, lendL, lend, frz, frzL, zRow, closed, closedL, rowsOf, binI, retK, retG, atRet, retD, lendO, resL, resD, oneD, renD, renL, renE, renEs, rho, putAll, entsN, List.append, List.nil_append, List.cons_append, List.append_nil, cond, Nat.reduceBEq, Nat.reduceAdd, Nat.beq]
  refine call_pure hki ?_
  dsimp only [run_skip, run_reg, plainB, ifB_true, run_seq, run_blk, run_exit, run_ret, run_ite, iteR, regK, thenK_nrm, thenK_exit, thenK_ret, thenR_nrm, thenR_exit, thenR_ret, blkK, keepS, keepE, runOps_nil, runOps_cons, goG_some, fpOk, foot, entOf, allN, memN, goOn_ok, goOn_call, goOn_row, goOn_arr, goOn_ask, goOn_put, goOn_prm, goOn_callK, goOn_callC, goOn_all, guardP, guardO, notInO, stepF, stepLd, stepSt, stepIxs, stepIxa, stepLen, stepApp, stepCpy, stepPick, stepSls, stepSst, stepSla, bareZ, evX, evL, evB, rd, get, subG, memG, freshG, notInG, hyps, gob, impP, allP, partD, partOf, isOne, isPtr, nth, takeN, dropN, cellsD, lenB, fillD, thirds, entN, setE, sizeE, addE, setL, setN, putE, env0, eqCs, eqAux, eqC, bA, bO, bN, bE, negB, kEq, isShr, lendL, lend, frz, frzL, zRow, closed, closedL, rowsOf, binI, retK, retG, atRet, retD, lendO, resL, resD, oneD, renD, renL, renE, renEs, rho, putAll, entsN, List.append, List.nil_append, List.cons_append, List.append_nil, cond, Nat.reduceBEq, Nat.reduceAdd, Nat.beq]
  refine loop_ind (α := {x : KsX // x.i ≤ (kidsT t 1).length}) (fun x => stKs t x.1) (fun x => (kidsT t 1).length - x.1.i) ?_ ⟨⟨0, 0⟩, by simp⟩ rfl
  rintro ⟨⟨i, v⟩, hi⟩ I ih
  dsimp only at hi
  dsimp only [stKs, run_skip, run_reg, plainB, ifB_true, run_seq, run_blk, run_exit, run_ret, run_ite, iteR, regK, thenK_nrm, thenK_exit, thenK_ret, thenR_nrm, thenR_exit, thenR_ret, blkK, keepS, keepE, runOps_nil, runOps_cons, goG_some, fpOk, foot, entOf, allN, memN, goOn_ok, goOn_call, goOn_row, goOn_arr, goOn_ask, goOn_put, goOn_prm, goOn_callK, goOn_callC, goOn_all, guardP, guardO, notInO, stepF, stepLd, stepSt, stepIxs, stepIxa, stepLen, stepApp, stepCpy, stepPick, stepSls, stepSst, stepSla, bareZ, evX, evL, evB, rd, get, subG, memG, freshG, notInG, hyps, gob, impP, allP, partD, partOf, isOne, isPtr, nth, takeN, dropN, cellsD, lenB, fillD, thirds, entN, setE, sizeE, addE, setL, setN, putE, env0, eqCs, eqAux, eqC, bA, bO, bN, bE, negB, kEq, isShr, lendL, lend, frz, frzL, zRow, closed, closedL, rowsOf, binI, retK, retG, atRet, retD, lendO, resL, resD, oneD, renD, renL, renE, renEs, rho, putAll, entsN, List.append, List.nil_append, List.cons_append, List.append_nil, cond, Nat.reduceBEq, Nat.reduceAdd, Nat.beq]
  rw [iL_len]
  refine ⟨fun hj => ?_, fun hj => ?_⟩
  · have hj : i < (kidsT t 1).length := by simp at hj; omega
    have hfi := hf _ (List.getElem_mem hj)
    simp only [fits] at hfi
    refine ⟨⟨rfl, by omega, by (try rw [iL_len]); omega⟩, row_intro _ _ (iL_at hj) rfl ?_⟩
    dsimp only [run_skip, run_reg, plainB, ifB_true, run_seq, run_blk, run_exit, run_ret, run_ite, iteR, regK, thenK_nrm, thenK_exit, thenK_ret, thenR_nrm, thenR_exit, thenR_ret, blkK, keepS, keepE, runOps_nil, runOps_cons, goG_some, fpOk, foot, entOf, allN, memN, goOn_ok, goOn_call, goOn_row, goOn_arr, goOn_ask, goOn_put, goOn_prm, goOn_callK, goOn_callC, goOn_all, guardP, guardO, notInO, stepF, stepLd, stepSt, stepIxs, stepIxa, stepLen, stepApp, stepCpy, stepPick, stepSls, stepSst, stepSla, bareZ, evX, evL, evB, rd, get, subG, memG, freshG, notInG, hyps, gob, impP, allP, partD, partOf, isOne, isPtr, nth, takeN, dropN, cellsD, lenB, fillD, thirds, entN, setE, sizeE, addE, setL, setN, putE, env0, eqCs, eqAux, eqC, bA, bO, bN, bE, negB, kEq, isShr, lendL, lend, frz, frzL, zRow, closed, closedL, rowsOf, binI, retK, retG, atRet, retD, lendO, resL, resD, oneD, renD, renL, renE, renEs, rho, putAll, entsN, List.append, List.nil_append, List.cons_append, List.append_nil, cond, Nat.reduceBEq, Nat.reduceAdd, Nat.beq]
    rw [kL_len]
    refine ⟨by simp only [fits]; omega, by simp only [fits]; omega, ⟨rfl, rfl, rfl, rfl, by simp [kidsL]; omega⟩, ?_⟩
    rw [show kL ((kidsL t).take i) ++ [D.agg [.int .i64 ((kidsT t 1)[i] - 1048576), .int .i64 0, .int .i64 0, .int .i64 0, .int .i64 0]] = kL ((kidsL t).take (i + 1)) by
      rw [List.take_succ_eq_append_getElem (by rw [kidsL_len]; exact hj), ← kL_app]
      simp [kidsL, kL, kdD, Rc.o]]
    refine ⟨by simp only [fits]; omega, ?_⟩
    exact again (ih ⟨⟨i + 1, v + 1⟩, by dsimp only; omega⟩ (by dsimp only; omega)) ⟨rfl, rfl, rfl, trivial⟩ ⟨rfl, rfl, rfl, trivial⟩ rfl rfl
  · have hj : i = (kidsT t 1).length := by simp at hj; omega
    subst hj
    rw [List.take_of_length_le (by rw [kidsL_len]; omega)]
    exact ⟨rfl, rfl⟩

/-- All others' kids are as they were made. -/
def RestOk (t : TT) (n : Nat) (deep : Int) : Prop := ∀ i, i < n → kidsT t (1048577 + (i : Int)) = if bitD deep i then [1048676 + (i : Int)] else []
def stRe (t : TT) (ats : List Rc) (deep : Int) (i : Nat) : St := ⟨[(2, [], .box 0 0), (3, [], .box 1 0), (5, [], .int .i64 i)], [.cells [mpD .u32 (kKV t.kids), mpD .u32 (uKV t.up)], .cells [.ls 4 (rL ats), .int .u8 deep]]⟩
theorem sp_law29_rest {t : TT} (h : t.Ok) {ats : List Rc} {deep : Int} (hl : ats.length ≤ 8) (hd : fits .u8 deep) (hr : RestOk t ats.length deep) : TSp 17 [tD t, sceneD ats deep] (.bool true) := by
  refine spo_law29_rest (by rfl) ?_
  have hki := fun i => sp_tree_Kids h i
  simp only [fits] at hd
  rw [show tD t = .agg [mpD .u32 (kKV t.kids), mpD .u32 (uKV t.up)] from rfl] at *
  dsimp only [c_law29_rest, r_law29_rest, sceneD, run_skip, run_reg, plainB, ifB_true, run_seq, run_blk, run_exit, run_ret, run_ite, iteR, regK, thenK_nrm, thenK_exit, thenK_ret, thenR_nrm, thenR_exit, thenR_ret, blkK, keepS, keepE, runOps_nil, runOps_cons, goG_some, fpOk, foot, entOf, allN, memN, goOn_ok, goOn_call, goOn_row, goOn_arr, goOn_ask, goOn_put, goOn_prm, goOn_callK, goOn_callC, goOn_all, guardP, guardO, notInO, stepF, stepLd, stepSt, stepIxs, stepIxa, stepLen, stepApp, stepCpy, stepPick, stepSls, stepSst, stepSla, bareZ, evX, evL, evB, rd, get, subG, memG, freshG, notInG, hyps, gob, impP, allP, partD, partOf, isOne, isPtr, nth, takeN, dropN, cellsD, lenB, fillD, thirds, entN, setE, sizeE, addE, setL, setN, putE, env0, eqCs, eqAux, eqC, bA, bO, bN, bE, negB, kEq, isShr, lendL, lend, frz, frzL, zRow, closed, closedL, rowsOf, binI, retK, retG, atRet, retD, lendO, resL, resD, oneD, renD, renL, renE, renEs, rho, putAll, entsN, List.append, List.nil_append, List.cons_append, List.append_nil, cond, Nat.reduceBEq, Nat.reduceAdd, Nat.beq]
  refine loop_ind (α := {i : Nat // i ≤ ats.length}) (fun i => stRe t ats deep i.1) (fun i => ats.length - i.1) ?_ ⟨0, by simp⟩ rfl
  rintro ⟨j, hj⟩ I ih
  dsimp only [stRe, run_skip, run_reg, plainB, ifB_true, run_seq, run_blk, run_exit, run_ret, run_ite, iteR, regK, thenK_nrm, thenK_exit, thenK_ret, thenR_nrm, thenR_exit, thenR_ret, blkK, keepS, keepE, runOps_nil, runOps_cons, goG_some, fpOk, foot, entOf, allN, memN, goOn_ok, goOn_call, goOn_row, goOn_arr, goOn_ask, goOn_put, goOn_prm, goOn_callK, goOn_callC, goOn_all, guardP, guardO, notInO, stepF, stepLd, stepSt, stepIxs, stepIxa, stepLen, stepApp, stepCpy, stepPick, stepSls, stepSst, stepSla, bareZ, evX, evL, evB, rd, get, subG, memG, freshG, notInG, hyps, gob, impP, allP, partD, partOf, isOne, isPtr, nth, takeN, dropN, cellsD, lenB, fillD, thirds, entN, setE, sizeE, addE, setL, setN, putE, env0, eqCs, eqAux, eqC, bA, bO, bN, bE, negB, kEq, isShr, lendL, lend, frz, frzL, zRow, closed, closedL, rowsOf, binI, retK, retG, atRet, retD, lendO, resL, resD, oneD, renD, renL, renE, renEs, rho, putAll, entsN, List.append, List.nil_append, List.cons_append, List.append_nil, cond, Nat.reduceBEq, Nat.reduceAdd, Nat.beq]
  rw [rL_len]
  refine ⟨fun hk => ?_, fun hk => ?_⟩
  · have hk : j < ats.length := by simp at hk; omega
    have hsh : 0 ≤ deep / 2 ^ ((j : Int) % 8).toNat ∧ deep / 2 ^ ((j : Int) % 8).toNat ≤ 255 := by
      refine ⟨Int.ediv_nonneg hd.1 (by have : (0 : Int) < 2 ^ ((j : Int) % 8).toNat := Int.pow_pos (by omega)
                                       omega), ?_⟩
      exact Int.le_trans (Int.ediv_le_self _ hd.1) hd.2
    have e1 : (1048576 : Int) + (j : Int) + 1 = 1048577 + (j : Int) := by omega
    rw [e1]
    refine ⟨by simp only [fits]; omega, by simp only [fits]; omega, by simp only [fits]; omega, ?_⟩
    refine call_pure (hki _) ?_
    rw [hr j hk]
    dsimp only [run_skip, run_reg, plainB, ifB_true, run_seq, run_blk, run_exit, run_ret, run_ite, iteR, regK, thenK_nrm, thenK_exit, thenK_ret, thenR_nrm, thenR_exit, thenR_ret, blkK, keepS, keepE, runOps_nil, runOps_cons, goG_some, fpOk, foot, entOf, allN, memN, goOn_ok, goOn_call, goOn_row, goOn_arr, goOn_ask, goOn_put, goOn_prm, goOn_callK, goOn_callC, goOn_all, guardP, guardO, notInO, stepF, stepLd, stepSt, stepIxs, stepIxa, stepLen, stepApp, stepCpy, stepPick, stepSls, stepSst, stepSla, bareZ, evX, evL, evB, rd, get, subG, memG, freshG, notInG, hyps, gob, impP, allP, partD, partOf, isOne, isPtr, nth, takeN, dropN, cellsD, lenB, fillD, thirds, entN, setE, sizeE, addE, setL, setN, putE, env0, eqCs, eqAux, eqC, bA, bO, bN, bE, negB, kEq, isShr, lendL, lend, frz, frzL, zRow, closed, closedL, rowsOf, binI, retK, retG, atRet, retD, lendO, resL, resD, oneD, renD, renL, renE, renEs, rho, putAll, entsN, List.append, List.nil_append, List.cons_append, List.append_nil, cond, Nat.reduceBEq, Nat.reduceAdd, Nat.beq]
    refine ⟨⟨by omega, by omega⟩, ⟨by omega, by simp only [IntKind.bits]; omega⟩, ⟨hsh.1, by omega, by simp only [fits]; omega, by simp only [fits]; omega⟩, ?_⟩
    rw [show decide (Int.ofNat ((deep / 2 ^ ((j : Int) % 8).toNat).toNat &&& (1 : Int).toNat) = 1) = bitD deep j from rfl]
    cases hb : bitD deep j
    · refine ⟨nofun, fun _ => ?_⟩
      refine ⟨nofun, fun _ => ?_⟩
      refine ⟨by simp only [fits]; omega, ?_⟩
      exact again (ih ⟨j + 1, by omega⟩ (by dsimp only; omega)) ⟨rfl, rfl, rfl, trivial⟩ ⟨rfl, rfl, trivial⟩ rfl rfl
    · refine ⟨fun _ => ?_, nofun⟩
      refine ⟨fun _ => ⟨rfl, by omega, by simp [iL]⟩, ?_⟩
      refine row_intro (.int .u32 (1048676 + (j : Int))) _ (fun _ => by simp [iL, impP]) rfl ?_
      dsimp only [run_skip, run_reg, plainB, ifB_true, run_seq, run_blk, run_exit, run_ret, run_ite, iteR, regK, thenK_nrm, thenK_exit, thenK_ret, thenR_nrm, thenR_exit, thenR_ret, blkK, keepS, keepE, runOps_nil, runOps_cons, goG_some, fpOk, foot, entOf, allN, memN, goOn_ok, goOn_call, goOn_row, goOn_arr, goOn_ask, goOn_put, goOn_prm, goOn_callK, goOn_callC, goOn_all, guardP, guardO, notInO, stepF, stepLd, stepSt, stepIxs, stepIxa, stepLen, stepApp, stepCpy, stepPick, stepSls, stepSst, stepSla, bareZ, evX, evL, evB, rd, get, subG, memG, freshG, notInG, hyps, gob, impP, allP, partD, partOf, isOne, isPtr, nth, takeN, dropN, cellsD, lenB, fillD, thirds, entN, setE, sizeE, addE, setL, setN, putE, env0, eqCs, eqAux, eqC, bA, bO, bN, bE, negB, kEq, isShr, lendL, lend, frz, frzL, zRow, closed, closedL, rowsOf, binI, retK, retG, atRet, retD, lendO, resL, resD, oneD, renD, renL, renE, renEs, rho, putAll, entsN, List.append, List.nil_append, List.cons_append, List.append_nil, cond, Nat.reduceBEq, Nat.reduceAdd, Nat.beq]
      refine ⟨fun _ => by simp only [fits]; omega, fun _ => by simp only [fits]; omega, ?_⟩
      refine ⟨fun h => by simp [iL] at h, fun _ => ?_⟩
      refine ⟨by simp only [fits]; omega, ?_⟩
      exact again (ih ⟨j + 1, by omega⟩ (by dsimp only; omega)) ⟨rfl, rfl, rfl, trivial⟩ ⟨rfl, rfl, trivial⟩ rfl rfl
  · trivial

def withoutR (l : List Kd) (n : Int) : List Kd := l.filter fun k => !decide (k.n = n)
def stWo (l : List Kd) (n : Int) (x : KsX) : St := ⟨[(0, [], .ls 5 (kL l)), (1, [], .int .i64 n), (5, [], .own 1 x.v), (6, [], .int .i64 x.i)], [.arr 63 5 0 [], .arr 63 5 x.v (kL (withoutR (l.take x.i) n))]⟩
theorem sp_law29_without {l : List Kd} (hl : l.length < 1000000) (n : Int) : TSp 21 [.ls 5 (kL l), .int .i64 n] (.ls 5 (kL (withoutR l n))) := by
  refine spo_law29_without (by rfl) ?_
  dsimp only [c_law29_without, r_law29_without, run_skip, run_reg, plainB, ifB_true, run_seq, run_blk, run_exit, run_ret, run_ite, iteR, regK, thenK_nrm, thenK_exit, thenK_ret, thenR_nrm, thenR_exit, thenR_ret, blkK, keepS, keepE, runOps_nil, runOps_cons, goG_some, fpOk, foot, entOf, allN, memN, goOn_ok, goOn_call, goOn_row, goOn_arr, goOn_ask, goOn_put, goOn_prm, goOn_callK, goOn_callC, goOn_all, guardP, guardO, notInO, stepF, stepLd, stepSt, stepIxs, stepIxa, stepLen, stepApp, stepCpy, stepPick, stepSls, stepSst, stepSla, bareZ, evX, evL, evB, rd, get, subG, memG, freshG, notInG, hyps, gob, impP, allP, partD, partOf, isOne, isPtr, nth, takeN, dropN, cellsD, lenB, fillD, thirds, entN, setE, sizeE, addE, setL, setN, putE, env0, eqCs, eqAux, eqC, bA, bO, bN, bE, negB, kEq, isShr, lendL, lend, frz, frzL, zRow, closed, closedL, rowsOf, binI, retK, retG, atRet, retD, lendO, resL, resD, oneD, renD, renL, renE, renEs, rho, putAll, entsN, List.append, List.nil_append, List.cons_append, List.append_nil, cond, Nat.reduceBEq, Nat.reduceAdd, Nat.beq]
  refine loop_ind (α := {x : KsX // x.i ≤ l.length}) (fun x => stWo l n x.1) (fun x => l.length - x.1.i) ?_ ⟨⟨0, 0⟩, by simp⟩ rfl
  rintro ⟨⟨i, v⟩, hi⟩ I ih
  dsimp only at hi
  dsimp only [stWo, run_skip, run_reg, plainB, ifB_true, run_seq, run_blk, run_exit, run_ret, run_ite, iteR, regK, thenK_nrm, thenK_exit, thenK_ret, thenR_nrm, thenR_exit, thenR_ret, blkK, keepS, keepE, runOps_nil, runOps_cons, goG_some, fpOk, foot, entOf, allN, memN, goOn_ok, goOn_call, goOn_row, goOn_arr, goOn_ask, goOn_put, goOn_prm, goOn_callK, goOn_callC, goOn_all, guardP, guardO, notInO, stepF, stepLd, stepSt, stepIxs, stepIxa, stepLen, stepApp, stepCpy, stepPick, stepSls, stepSst, stepSla, bareZ, evX, evL, evB, rd, get, subG, memG, freshG, notInG, hyps, gob, impP, allP, partD, partOf, isOne, isPtr, nth, takeN, dropN, cellsD, lenB, fillD, thirds, entN, setE, sizeE, addE, setL, setN, putE, env0, eqCs, eqAux, eqC, bA, bO, bN, bE, negB, kEq, isShr, lendL, lend, frz, frzL, zRow, closed, closedL, rowsOf, binI, retK, retG, atRet, retD, lendO, resL, resD, oneD, renD, renL, renE, renEs, rho, putAll, entsN, List.append, List.nil_append, List.cons_append, List.append_nil, cond, Nat.reduceBEq, Nat.reduceAdd, Nat.beq]
  rw [kL_len]
  refine ⟨fun hj => ?_, fun hj => ?_⟩
  · have hj : i < l.length := by simp at hj; omega
    refine ⟨⟨rfl, by omega, by (try rw [kL_len]); omega⟩, row_intro _ (.int .i64 l[i].n) (kL_at hj) rfl ?_⟩
    dsimp only [run_skip, run_reg, plainB, ifB_true, run_seq, run_blk, run_exit, run_ret, run_ite, iteR, regK, thenK_nrm, thenK_exit, thenK_ret, thenR_nrm, thenR_exit, thenR_ret, blkK, keepS, keepE, runOps_nil, runOps_cons, goG_some, fpOk, foot, entOf, allN, memN, goOn_ok, goOn_call, goOn_row, goOn_arr, goOn_ask, goOn_put, goOn_prm, goOn_callK, goOn_callC, goOn_all, guardP, guardO, notInO, stepF, stepLd, stepSt, stepIxs, stepIxa, stepLen, stepApp, stepCpy, stepPick, stepSls, stepSst, stepSla, bareZ, evX, evL, evB, rd, get, subG, memG, freshG, notInG, hyps, gob, impP, allP, partD, partOf, isOne, isPtr, nth, takeN, dropN, cellsD, lenB, fillD, thirds, entN, setE, sizeE, addE, setL, setN, putE, env0, eqCs, eqAux, eqC, bA, bO, bN, bE, negB, kEq, isShr, lendL, lend, frz, frzL, zRow, closed, closedL, rowsOf, binI, retK, retG, atRet, retD, lendO, resL, resD, oneD, renD, renL, renE, renEs, rho, putAll, entsN, List.append, List.nil_append, List.cons_append, List.append_nil, cond, Nat.reduceBEq, Nat.reduceAdd, Nat.beq]
    have hs : withoutR (l.take (i + 1)) n = withoutR (l.take i) n ++ (if l[i].n = n then [] else [l[i]]) := by
      rw [List.take_succ_eq_append_getElem hj]
      unfold withoutR
      rw [List.filter_append]
      by_cases h : l[i].n = n <;> simp [h]
    have hlen : (withoutR (l.take i) n).length ≤ l.length := Nat.le_trans (List.length_filter_le ..) (by simp; omega)
    by_cases hn : l[i].n = n
    · refine ⟨fun h => by simp [hn] at h, fun _ => ?_⟩
      refine ⟨by simp only [fits]; omega, ?_⟩
      rw [if_pos hn, List.append_nil] at hs
      rw [← hs]
      exact again (ih ⟨⟨i + 1, v⟩, by dsimp only; omega⟩ (by dsimp only; omega)) ⟨rfl, rfl, rfl, rfl, trivial⟩ ⟨rfl, rfl, trivial⟩ rfl rfl
    · refine ⟨fun _ => ?_, fun h => by simp [hn] at h⟩
      refine ⟨⟨rfl, by omega, by (try rw [kL_len]); omega⟩, row_intro _ (kdD l[i]) (kL_at hj) rfl ?_⟩
      unfold kdD
      dsimp only [run_skip, run_reg, plainB, ifB_true, run_seq, run_blk, run_exit, run_ret, run_ite, iteR, regK, thenK_nrm, thenK_exit, thenK_ret, thenR_nrm, thenR_exit, thenR_ret, blkK, keepS, keepE, runOps_nil, runOps_cons, goG_some, fpOk, foot, entOf, allN, memN, goOn_ok, goOn_call, goOn_row, goOn_arr, goOn_ask, goOn_put, goOn_prm, goOn_callK, goOn_callC, goOn_all, guardP, guardO, notInO, stepF, stepLd, stepSt, stepIxs, stepIxa, stepLen, stepApp, stepCpy, stepPick, stepSls, stepSst, stepSla, bareZ, evX, evL, evB, rd, get, subG, memG, freshG, notInG, hyps, gob, impP, allP, partD, partOf, isOne, isPtr, nth, takeN, dropN, cellsD, lenB, fillD, thirds, entN, setE, sizeE, addE, setL, setN, putE, env0, eqCs, eqAux, eqC, bA, bO, bN, bE, negB, kEq, isShr, lendL, lend, frz, frzL, zRow, closed, closedL, rowsOf, binI, retK, retG, atRet, retD, lendO, resL, resD, oneD, renD, renL, renE, renEs, rho, putAll, entsN, List.append, List.nil_append, List.cons_append, List.append_nil, cond, Nat.reduceBEq, Nat.reduceAdd, Nat.beq]
      rw [kL_len]
      refine ⟨⟨rfl, rfl, rfl, rfl, by simp; omega⟩, ?_⟩
      rw [if_neg hn] at hs
      rw [show kL (withoutR (l.take i) n) ++ [D.agg [.int .i64 l[i].n, .int .i64 l[i].at'.x, .int .i64 l[i].at'.y, .int .i64 l[i].at'.w, .int .i64 l[i].at'.h]] = kL (withoutR (l.take (i + 1)) n) by rw [hs]; simp [kL, kdD]]
      refine ⟨by simp only [fits]; omega, ?_⟩
      exact again (ih ⟨⟨i + 1, v + 1⟩, by dsimp only; omega⟩ (by dsimp only; omega)) ⟨rfl, rfl, rfl, rfl, trivial⟩ ⟨rfl, rfl, trivial⟩ rfl rfl
  · have hj : i = l.length := by simp at hj; omega
    subst hj
    rw [List.take_length]
    exact ⟨rfl, rfl⟩
end Go.AM
