
/- Chapter 29: Circulate, and the tree behind it. -/
import Derived.Test.YthcfahdogpjkeaaX5
set_option linter.all false
namespace Go.AM
open Go Go.Proofs

def circI (t : TT) (p : Int) (up : Bool) (m : Ats) : Int := if up then findT (fun a b => hidesT t m b a) (kidsT t p) (kidsT t p) else findT (fun a b => hidesT t m a b) (kidsT t p) (kidsT t p).reverse
def circT (t : TT) (p : Int) (up : Bool) (m : Ats) : TT × Int × Bool :=
  if circI t p up m = 0 then (t, 0, false) else (placeT t (circI t p up m) (if up then (kidsT t p).length - 1 else 0), circI t p up m, true)
theorem circ_mem {t : TT} {p : Int} {up : Bool} {m : Ats} : circI t p up m = 0 ∨ circI t p up m ∈ kidsT t p := by
  unfold circI
  cases up
  · rcases findT_mem (H := fun a b => hidesT t m a b) (k := kidsT t p) (l := (kidsT t p).reverse) with h | h
    · exact .inl h
    · exact .inr (by simpa using h)
  · exact findT_mem

theorem sp_stack_Circulate {t : TT} (h : t.Reg) {m : Ats} (hm : m.Ok) (p : Int) (up : Bool) : TSp 22 [tD t, .int .u32 p, .bool up, mpD .u32 (aKV m)] (.tup [tD (circT t p up m).1, .int .u32 (circT t p up m).2.1, .bool (circT t p up m).2.2]) := by
  refine spo_stack_Circulate (by rfl) ?_
  have hki := sp_tree_Kids h.ok p
  have htD : ∀ t : TT, tD t = .agg [mpD .u32 (kKV t.kids), mpD .u32 (uKV t.up)] := fun _ => rfl
  have hkl : (kidsT t p).length < 1000000 := by have := h.ok.kl p; omega
  have hf2 := sm_Circ_1 (l := kidsT t p) (k := kidsT t p) (H := fun a b => hidesT t m b a) hkl hkl (fun a b => sm_Circ_2 h.ok hm a b)
  have hf3 := sm_Circ_1 (l := (kidsT t p).reverse) (k := kidsT t p) (H := fun a b => hidesT t m a b) (by simpa using hkl) hkl (fun a b => sm_Circ_3 h.ok hm a b)
  have hpl : circI t p up m ≠ 0 → TSp 39 [tD t, .int .u32 (circI t p up m), .int .i64 (if up then ((kidsT t p).length : Int) - 1 else 0)] (.tup [tD (placeT t (circI t p up m) (if up then (kidsT t p).length - 1 else 0)), .int .i64 0]) := fun h0 => by
    have hmem := (circ_mem (t := t) (p := p) (up := up) (m := m)).resolve_left h0
    have hu := h.up hmem
    have hne : 0 < (kidsT t p).length := List.length_pos_of_mem hmem
    have hoc : otherC t (circI t p up m) = 0 := by
      unfold otherC
      rw [if_neg (fun e => by rw [e, h.root] at hu; cases hu), if_neg]
      unfold hasT
      rw [hu]; simp
    have := sp_tree_Place (i := if up then (kidsT t p).length - 1 else 0) h.ok hoc hu (by split <;> omega) (nd_off (h.nd p) hmem)
    rw [show ((if up then (kidsT t p).length - 1 else 0 : Nat) : Int) = (if up then ((kidsT t p).length : Int) - 1 else 0) by split <;> omega] at this
    exact this
  have hci : circI t p up m = if up then findT (fun a b => hidesT t m b a) (kidsT t p) (kidsT t p) else findT (fun a b => hidesT t m a b) (kidsT t p) (kidsT t p).reverse := rfl
  unfold circT
  generalize circI t p up m = c at *
  generalize placeT t c (if up then (kidsT t p).length - 1 else 0) = t2 at *
  rw [htD t, htD t2] at *
  dsimp only [c_stack_Circulate, r_stack_Circulate, Mc, run_skip, run_reg, plainB, ifB_true, run_seq, run_blk, run_exit, run_ret, run_ite, iteR, regK, thenK_nrm, thenK_exit, thenK_ret, thenR_nrm, thenR_exit, thenR_ret, blkK, keepS, keepE, runOps_nil, runOps_cons, goG_some, fpOk, foot, entOf, allN, memN, goOn_ok, goOn_call, goOn_row, goOn_arr, goOn_ask, goOn_put, goOn_prm, goOn_callK, goOn_callC, goOn_all, guardP, guardO, notInO, stepF, stepLd, stepSt, stepIxs, stepIxa, stepLen, stepApp, stepCpy, stepPick, stepSls, stepSst, stepSla, bareZ, evX, evL, evB, rd, get, subG, memG, freshG, notInG, hyps, gob, impP, allP, partD, partOf, isOne, isPtr, nth, takeN, dropN, cellsD, lenB, fillD, thirds, entN, setE, sizeE, addE, setL, setN, putE, env0, eqCs, eqAux, eqC, bA, bO, bN, bE, negB, kEq, isShr, lendL, lend, frz, frzL, zRow, closed, closedL, rowsOf, binI, retK, retG, atRet, retD, lendO, resL, resD, oneD, renD, renL, renE, renEs, rho, putAll, entsN, List.append, List.nil_append, List.cons_append, List.append_nil, cond, Nat.reduceBEq, Nat.reduceAdd, Nat.beq] at *
  refine call_pure hki ?_
  dsimp only [run_skip, run_reg, plainB, ifB_true, run_seq, run_blk, run_exit, run_ret, run_ite, iteR, regK, thenK_nrm, thenK_exit, thenK_ret, thenR_nrm, thenR_exit, thenR_ret, blkK, keepS, keepE, runOps_nil, runOps_cons, goG_some, fpOk, foot, entOf, allN, memN, goOn_ok, goOn_call, goOn_row, goOn_arr, goOn_ask, goOn_put, goOn_prm, goOn_callK, goOn_callC, goOn_all, guardP, guardO, notInO, stepF, stepLd, stepSt, stepIxs, stepIxa, stepLen, stepApp, stepCpy, stepPick, stepSls, stepSst, stepSla, bareZ, evX, evL, evB, rd, get, subG, memG, freshG, notInG, hyps, gob, impP, allP, partD, partOf, isOne, isPtr, nth, takeN, dropN, cellsD, lenB, fillD, thirds, entN, setE, sizeE, addE, setL, setN, putE, env0, eqCs, eqAux, eqC, bA, bO, bN, bE, negB, kEq, isShr, lendL, lend, frz, frzL, zRow, closed, closedL, rowsOf, binI, retK, retG, atRet, retD, lendO, resL, resD, oneD, renD, renL, renE, renEs, rho, putAll, entsN, List.append, List.nil_append, List.cons_append, List.append_nil, cond, Nat.reduceBEq, Nat.reduceAdd, Nat.beq]
  cases up
  · refine ⟨nofun, fun _ => ?_⟩
    refine call_own [] (sm_slices_Clone hkl) rfl rfl ?_
    dsimp only [run_skip, run_reg, plainB, ifB_true, run_seq, run_blk, run_exit, run_ret, run_ite, iteR, regK, thenK_nrm, thenK_exit, thenK_ret, thenR_nrm, thenR_exit, thenR_ret, blkK, keepS, keepE, runOps_nil, runOps_cons, goG_some, fpOk, foot, entOf, allN, memN, goOn_ok, goOn_call, goOn_row, goOn_arr, goOn_ask, goOn_put, goOn_prm, goOn_callK, goOn_callC, goOn_all, guardP, guardO, notInO, stepF, stepLd, stepSt, stepIxs, stepIxa, stepLen, stepApp, stepCpy, stepPick, stepSls, stepSst, stepSla, bareZ, evX, evL, evB, rd, get, subG, memG, freshG, notInG, hyps, gob, impP, allP, partD, partOf, isOne, isPtr, nth, takeN, dropN, cellsD, lenB, fillD, thirds, entN, setE, sizeE, addE, setL, setN, putE, env0, eqCs, eqAux, eqC, bA, bO, bN, bE, negB, kEq, isShr, lendL, lend, frz, frzL, zRow, closed, closedL, rowsOf, binI, retK, retG, atRet, retD, lendO, resL, resD, oneD, renD, renL, renE, renEs, rho, putAll, entsN, List.append, List.nil_append, List.cons_append, List.append_nil, cond, Nat.reduceBEq, Nat.reduceAdd, Nat.beq]
    refine call_own [4] (sm_slices_Reverse hkl) rfl rfl ?_
    dsimp only [run_skip, run_reg, plainB, ifB_true, run_seq, run_blk, run_exit, run_ret, run_ite, iteR, regK, thenK_nrm, thenK_exit, thenK_ret, thenR_nrm, thenR_exit, thenR_ret, blkK, keepS, keepE, runOps_nil, runOps_cons, goG_some, fpOk, foot, entOf, allN, memN, goOn_ok, goOn_call, goOn_row, goOn_arr, goOn_ask, goOn_put, goOn_prm, goOn_callK, goOn_callC, goOn_all, guardP, guardO, notInO, stepF, stepLd, stepSt, stepIxs, stepIxa, stepLen, stepApp, stepCpy, stepPick, stepSls, stepSst, stepSla, bareZ, evX, evL, evB, rd, get, subG, memG, freshG, notInG, hyps, gob, impP, allP, partD, partOf, isOne, isPtr, nth, takeN, dropN, cellsD, lenB, fillD, thirds, entN, setE, sizeE, addE, setL, setN, putE, env0, eqCs, eqAux, eqC, bA, bO, bN, bE, negB, kEq, isShr, lendL, lend, frz, frzL, zRow, closed, closedL, rowsOf, binI, retK, retG, atRet, retD, lendO, resL, resD, oneD, renD, renL, renE, renEs, rho, putAll, entsN, List.append, List.nil_append, List.cons_append, List.append_nil, cond, Nat.reduceBEq, Nat.reduceAdd, Nat.beq]
    refine ⟨rfl, ?_⟩
    refine call_look [0, 1, 2, 3] hf3 rfl rfl rfl ?_
    dsimp only [run_skip, run_reg, plainB, ifB_true, run_seq, run_blk, run_exit, run_ret, run_ite, iteR, regK, thenK_nrm, thenK_exit, thenK_ret, thenR_nrm, thenR_exit, thenR_ret, blkK, keepS, keepE, runOps_nil, runOps_cons, goG_some, fpOk, foot, entOf, allN, memN, goOn_ok, goOn_call, goOn_row, goOn_arr, goOn_ask, goOn_put, goOn_prm, goOn_callK, goOn_callC, goOn_all, guardP, guardO, notInO, stepF, stepLd, stepSt, stepIxs, stepIxa, stepLen, stepApp, stepCpy, stepPick, stepSls, stepSst, stepSla, bareZ, evX, evL, evB, rd, get, subG, memG, freshG, notInG, hyps, gob, impP, allP, partD, partOf, isOne, isPtr, nth, takeN, dropN, cellsD, lenB, fillD, thirds, entN, setE, sizeE, addE, setL, setN, putE, env0, eqCs, eqAux, eqC, bA, bO, bN, bE, negB, kEq, isShr, lendL, lend, frz, frzL, zRow, closed, closedL, rowsOf, binI, retK, retG, atRet, retD, lendO, resL, resD, oneD, renD, renL, renE, renEs, rho, putAll, entsN, List.append, List.nil_append, List.cons_append, List.append_nil, cond, Nat.reduceBEq, Nat.reduceAdd, Nat.beq]
    simp only [Bool.false_eq_true, if_false] at hci hpl ⊢
    rw [← hci]
    by_cases h0 : c = 0
    · rw [if_pos h0]
      refine ⟨fun _ => by first | rfl | trivial, fun h => by simp [h0] at h⟩
    rw [if_neg h0]
    refine ⟨fun h => by simp [h0] at h, fun _ => ?_⟩
    refine call_pure (hpl h0) ?_
    dsimp only [run_skip, run_reg, plainB, ifB_true, run_seq, run_blk, run_exit, run_ret, run_ite, iteR, regK, thenK_nrm, thenK_exit, thenK_ret, thenR_nrm, thenR_exit, thenR_ret, blkK, keepS, keepE, runOps_nil, runOps_cons, goG_some, fpOk, foot, entOf, allN, memN, goOn_ok, goOn_call, goOn_row, goOn_arr, goOn_ask, goOn_put, goOn_prm, goOn_callK, goOn_callC, goOn_all, guardP, guardO, notInO, stepF, stepLd, stepSt, stepIxs, stepIxa, stepLen, stepApp, stepCpy, stepPick, stepSls, stepSst, stepSla, bareZ, evX, evL, evB, rd, get, subG, memG, freshG, notInG, hyps, gob, impP, allP, partD, partOf, isOne, isPtr, nth, takeN, dropN, cellsD, lenB, fillD, thirds, entN, setE, sizeE, addE, setL, setN, putE, env0, eqCs, eqAux, eqC, bA, bO, bN, bE, negB, kEq, isShr, lendL, lend, frz, frzL, zRow, closed, closedL, rowsOf, binI, retK, retG, atRet, retD, lendO, resL, resD, oneD, renD, renL, renE, renEs, rho, putAll, entsN, List.append, List.nil_append, List.cons_append, List.append_nil, cond, Nat.reduceBEq, Nat.reduceAdd, Nat.beq]
    exact ⟨nofun, fun _ => by first | rfl | trivial⟩
  · refine ⟨fun _ => ?_, nofun⟩
    refine call_look [0, 1, 2, 3] hf2 rfl rfl rfl ?_
    dsimp only [run_skip, run_reg, plainB, ifB_true, run_seq, run_blk, run_exit, run_ret, run_ite, iteR, regK, thenK_nrm, thenK_exit, thenK_ret, thenR_nrm, thenR_exit, thenR_ret, blkK, keepS, keepE, runOps_nil, runOps_cons, goG_some, fpOk, foot, entOf, allN, memN, goOn_ok, goOn_call, goOn_row, goOn_arr, goOn_ask, goOn_put, goOn_prm, goOn_callK, goOn_callC, goOn_all, guardP, guardO, notInO, stepF, stepLd, stepSt, stepIxs, stepIxa, stepLen, stepApp, stepCpy, stepPick, stepSls, stepSst, stepSla, bareZ, evX, evL, evB, rd, get, subG, memG, freshG, notInG, hyps, gob, impP, allP, partD, partOf, isOne, isPtr, nth, takeN, dropN, cellsD, lenB, fillD, thirds, entN, setE, sizeE, addE, setL, setN, putE, env0, eqCs, eqAux, eqC, bA, bO, bN, bE, negB, kEq, isShr, lendL, lend, frz, frzL, zRow, closed, closedL, rowsOf, binI, retK, retG, atRet, retD, lendO, resL, resD, oneD, renD, renL, renE, renEs, rho, putAll, entsN, List.append, List.nil_append, List.cons_append, List.append_nil, cond, Nat.reduceBEq, Nat.reduceAdd, Nat.beq]
    rw [iL_len]
    refine ⟨by simp only [fits]; omega, ?_⟩
    simp only [if_true] at hci hpl ⊢
    rw [← hci]
    by_cases h0 : c = 0
    · rw [if_pos h0]
      refine ⟨fun _ => by first | rfl | trivial, fun h => by simp [h0] at h⟩
    rw [if_neg h0]
    refine ⟨fun h => by simp [h0] at h, fun _ => ?_⟩
    refine call_pure (hpl h0) ?_
    dsimp only [run_skip, run_reg, plainB, ifB_true, run_seq, run_blk, run_exit, run_ret, run_ite, iteR, regK, thenK_nrm, thenK_exit, thenK_ret, thenR_nrm, thenR_exit, thenR_ret, blkK, keepS, keepE, runOps_nil, runOps_cons, goG_some, fpOk, foot, entOf, allN, memN, goOn_ok, goOn_call, goOn_row, goOn_arr, goOn_ask, goOn_put, goOn_prm, goOn_callK, goOn_callC, goOn_all, guardP, guardO, notInO, stepF, stepLd, stepSt, stepIxs, stepIxa, stepLen, stepApp, stepCpy, stepPick, stepSls, stepSst, stepSla, bareZ, evX, evL, evB, rd, get, subG, memG, freshG, notInG, hyps, gob, impP, allP, partD, partOf, isOne, isPtr, nth, takeN, dropN, cellsD, lenB, fillD, thirds, entN, setE, sizeE, addE, setL, setN, putE, env0, eqCs, eqAux, eqC, bA, bO, bN, bE, negB, kEq, isShr, lendL, lend, frz, frzL, zRow, closed, closedL, rowsOf, binI, retK, retG, atRet, retD, lendO, resL, resD, oneD, renD, renL, renE, renEs, rho, putAll, entsN, List.append, List.nil_append, List.cons_append, List.append_nil, cond, Nat.reduceBEq, Nat.reduceAdd, Nat.beq]
    exact ⟨nofun, fun _ => by first | rfl | trivial⟩
end Go.AM
