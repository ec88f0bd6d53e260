
/- Chapter 54: acts, and the document's buffer. -/
import Derived.Test.YtnhogggpchcbjaaT2
set_option linter.all false
namespace Go.AM
open Go Go.Proofs

structure Rb where
  L : List Bs
  at_ : Int
def sL (l : List Bs) : List D := l.map .str
theorem sL_len (l : List Bs) : (sL l).length = l.length := by simp [sL]
theorem sL_at {l : List Bs} {i : Nat} {t : Bs} (h : l[i]? = some t) : (sL l)[i]? = some (.str t) := by simp [sL, h]
def rbD (d : Rb) : D := .agg [.ls 1 (sL d.L), .int .i64 d.at_]
def textR (d : Rb) : Bs := d.L.getD d.at_.toNat []
structure RbOk (d : Rb) : Prop where
  ne : 0 < d.L.length ∧ d.L.length ≤ 257
  lo : 0 ≤ d.at_
  hi : d.at_ < d.L.length
theorem RbOk.get {d : Rb} (h : RbOk d) : d.L[d.at_.toNat]? = some (textR d) := by
  have h1 := h.lo; have h2 := h.hi
  unfold textR
  simp [List.getElem?_eq_getElem (by omega : d.at_.toNat < d.L.length)]
theorem sp_ref54_Text {d : Rb} (h : RbOk d) : TSp 22 [rbD d] (.str (textR d)) := by
  refine spo_ref54_Text (by rfl) ?_
  dsimp only [c_ref54_Text, r_ref54_Text, rbD, run_skip, run_reg, plainB, ifB_true, run_seq, run_blk, run_exit, run_ret, run_ite, iteR, regK, thenK_nrm, thenK_exit, thenK_ret, thenR_nrm, thenR_exit, thenR_ret, blkK, keepS, keepE, runOps_nil, runOps_cons, goG_some, fpOk, foot, entOf, allN, memN, goOn_ok, goOn_call, goOn_row, goOn_arr, goOn_ask, goOn_put, guardP, guardO, notInO, stepF, stepLd, stepSt, stepIxs, stepIxa, stepLen, stepApp, stepCpy, stepPick, stepSls, stepSst, stepSla, evX, evL, evB, rd, get, subG, memG, freshG, notInG, hyps, gob, impP, allP, partD, partOf, isOne, isPtr, nth, takeN, dropN, cellsD, lenB, fillD, thirds, entN, setE, sizeE, addE, setL, setN, putE, env0, eqCs, eqAux, eqC, bA, bO, bN, bE, negB, kEq, isShr, lendL, lend, frz, frzL, zRow, closed, closedL, rowsOf, binI, retK, retG, atRet, retD, lendO, resL, resD, oneD, renD, renL, renE, renEs, rho, putAll, entsN, List.append, List.nil_append, List.cons_append, List.append_nil, cond, Nat.reduceBEq, Nat.reduceAdd, Nat.beq]
  rw [sL_len]
  have h0 := h.ne; have h1 := h.lo; have h2 := h.hi
  refine ⟨fun h => by simp at h; rw [h] at h0; simp at h0, fun _ => ?_⟩
  refine ⟨⟨rfl, h1, h2⟩, row_intro _ _ (sL_at h.get) rfl ?_⟩
  dsimp only [run_skip, run_reg, plainB, ifB_true, run_seq, run_blk, run_exit, run_ret, run_ite, iteR, regK, thenK_nrm, thenK_exit, thenK_ret, thenR_nrm, thenR_exit, thenR_ret, blkK, keepS, keepE, runOps_nil, runOps_cons, goG_some, fpOk, foot, entOf, allN, memN, goOn_ok, goOn_call, goOn_row, goOn_arr, goOn_ask, goOn_put, guardP, guardO, notInO, stepF, stepLd, stepSt, stepIxs, stepIxa, stepLen, stepApp, stepCpy, stepPick, stepSls, stepSst, stepSla, evX, evL, evB, rd, get, subG, memG, freshG, notInG, hyps, gob, impP, allP, partD, partOf, isOne, isPtr, nth, takeN, dropN, cellsD, lenB, fillD, thirds, entN, setE, sizeE, addE, setL, setN, putE, env0, eqCs, eqAux, eqC, bA, bO, bN, bE, negB, kEq, isShr, lendL, lend, frz, frzL, zRow, closed, closedL, rowsOf, binI, retK, retG, atRet, retD, lendO, resL, resD, oneD, renD, renL, renE, renEs, rho, putAll, entsN, List.append, List.nil_append, List.cons_append, List.append_nil, cond, Nat.reduceBEq, Nat.reduceAdd, Nat.beq]

def withL (d : Rb) (s : Bs) : List Bs := if decide (257 < ((d.L.take (d.at_ + 1).toNat ++ [s]).length : Int)) then (d.L.take (d.at_ + 1).toNat ++ [s]).drop 1 else d.L.take (d.at_ + 1).toNat ++ [s]
def withR (d : Rb) (s : Bs) : Rb := ⟨withL d s, (withL d s).length - 1⟩
theorem sp_ref54_With {d : Rb} {s : Bs} (h : RbOk d) : TSp 49 [rbD d, .str s] (rbD (withR d s)) := by
  refine spo_ref54_With (by rfl) ?_
  dsimp only [c_ref54_With, r_ref54_With, rbD, run_skip, run_reg, plainB, ifB_true, run_seq, run_blk, run_exit, run_ret, run_ite, iteR, regK, thenK_nrm, thenK_exit, thenK_ret, thenR_nrm, thenR_exit, thenR_ret, blkK, keepS, keepE, runOps_nil, runOps_cons, goG_some, fpOk, foot, entOf, allN, memN, goOn_ok, goOn_call, goOn_row, goOn_arr, goOn_ask, goOn_put, guardP, guardO, notInO, stepF, stepLd, stepSt, stepIxs, stepIxa, stepLen, stepApp, stepCpy, stepPick, stepSls, stepSst, stepSla, evX, evL, evB, rd, get, subG, memG, freshG, notInG, hyps, gob, impP, allP, partD, partOf, isOne, isPtr, nth, takeN, dropN, cellsD, lenB, fillD, thirds, entN, setE, sizeE, addE, setL, setN, putE, env0, eqCs, eqAux, eqC, bA, bO, bN, bE, negB, kEq, isShr, lendL, lend, frz, frzL, zRow, closed, closedL, rowsOf, binI, retK, retG, atRet, retD, lendO, resL, resD, oneD, renD, renL, renE, renEs, rho, putAll, entsN, List.append, List.nil_append, List.cons_append, List.append_nil, cond, Nat.reduceBEq, Nat.reduceAdd, Nat.beq]
  simp only [sL_len]
  have h0 := h.ne; have h1 := h.lo; have h2 := h.hi
  refine ⟨fun h => by simp at h; rw [h] at h0; simp at h0, fun _ => ?_⟩
  have e : List.drop (Int.toNat 0) (List.take (d.at_ + 1).toNat (sL d.L)) = sL (d.L.take (d.at_ + 1).toNat) := by simp [sL, List.map_take]
  rw [e]
  refine ⟨by simp only [fits]; omega, ⟨trivial, by omega, by omega, by omega⟩, ⟨trivial, trivial, trivial, trivial, by simp [sL]; omega⟩, ⟨trivial, trivial, trivial, trivial, by simp [sL]; omega⟩, ?_⟩
  have e2 : sL (d.L.take (d.at_ + 1).toNat) ++ [D.str s] = sL (d.L.take (d.at_ + 1).toNat ++ [s]) := by simp [sL]
  rw [e2]
  unfold withR withL
  generalize hm : d.L.take (d.at_ + 1).toNat ++ [s] = m
  have hml : m.length ≤ 258 ∧ 1 ≤ m.length := by rw [← hm]; simp; omega
  rw [sL_len]
  refine ⟨trivial, fun h => ?_, fun h => ?_⟩
  · rw [if_pos h]
    refine ⟨⟨trivial, trivial, by omega, by omega, by omega⟩, ?_⟩
    have e3 : List.drop (Int.toNat 1) (List.take ((m.length : Nat) : Int).toNat (sL m)) = sL (m.drop 1) := by
      rw [Int.toNat_natCast, List.take_of_length_le (by rw [sL_len]; exact Nat.le_refl _)]; simp [sL, List.map_drop]
    rw [e3, sL_len]
    refine ⟨by simp only [fits]; simp; omega, ?_⟩
    rfl
  · rw [if_neg (by rw [h]; simp)]
    exact ⟨trivial, by simp only [fits]; omega, trivial, rfl⟩

def insR (d : Rb) (at_ : Int) (s : Bs) : Rb × Int :=
  if decide (s = []) then (d, 13) else if decide (at_ < 0) || decide (((textR d).length : Int) < at_) then (d, 1) else if !rightB s then (d, 2) else if decide (65536 < ((textR d).length : Int) + s.length) then (d, 4) else (withR d ((textR d).take at_.toNat ++ s ++ (textR d).drop at_.toNat), 0)
def delR (d : Rb) (f t : Int) : Rb × Int :=
  if decide (f < 0) || decide (t < f) || decide (((textR d).length : Int) < t) then (d, 1) else if decide (f = t) then (d, 13) else (withR d ((textR d).take f.toNat ++ (textR d).drop t.toNat), 0)
def retR (x : Rb × Int) : D := .tup [rbD x.1, .int .i64 x.2]
theorem sp_ref54_Insert {d : Rb} {at_ : Int} {s : Bs} (h : RbOk d) (ht : (textR d).length ≤ 1000000) (hs : s.length < 9223372036850000000) : TSp 38 [rbD d, .int .i64 at_, .str s] (retR (insR d at_ s)) := by
  refine spo_ref54_Insert (by rfl) ?_
  dsimp only [c_ref54_Insert, r_ref54_Insert, rbD, run_skip, run_reg, plainB, ifB_true, run_seq, run_blk, run_exit, run_ret, run_ite, iteR, regK, thenK_nrm, thenK_exit, thenK_ret, thenR_nrm, thenR_exit, thenR_ret, blkK, keepS, keepE, runOps_nil, runOps_cons, goG_some, fpOk, foot, entOf, allN, memN, goOn_ok, goOn_call, goOn_row, goOn_arr, goOn_ask, goOn_put, guardP, guardO, notInO, stepF, stepLd, stepSt, stepIxs, stepIxa, stepLen, stepApp, stepCpy, stepPick, stepSls, stepSst, stepSla, evX, evL, evB, rd, get, subG, memG, freshG, notInG, hyps, gob, impP, allP, partD, partOf, isOne, isPtr, nth, takeN, dropN, cellsD, lenB, fillD, thirds, entN, setE, sizeE, addE, setL, setN, putE, env0, eqCs, eqAux, eqC, bA, bO, bN, bE, negB, kEq, isShr, lendL, lend, frz, frzL, zRow, closed, closedL, rowsOf, binI, retK, retG, atRet, retD, lendO, resL, resD, oneD, renD, renL, renE, renEs, rho, putAll, entsN, List.append, List.nil_append, List.cons_append, List.append_nil, cond, Nat.reduceBEq, Nat.reduceAdd, Nat.beq]
  refine call_pure (sp_ref54_Text h) ?_
  dsimp only [rbD, run_skip, run_reg, plainB, ifB_true, run_seq, run_blk, run_exit, run_ret, run_ite, iteR, regK, thenK_nrm, thenK_exit, thenK_ret, thenR_nrm, thenR_exit, thenR_ret, blkK, keepS, keepE, runOps_nil, runOps_cons, goG_some, fpOk, foot, entOf, allN, memN, goOn_ok, goOn_call, goOn_row, goOn_arr, goOn_ask, goOn_put, guardP, guardO, notInO, stepF, stepLd, stepSt, stepIxs, stepIxa, stepLen, stepApp, stepCpy, stepPick, stepSls, stepSst, stepSla, evX, evL, evB, rd, get, subG, memG, freshG, notInG, hyps, gob, impP, allP, partD, partOf, isOne, isPtr, nth, takeN, dropN, cellsD, lenB, fillD, thirds, entN, setE, sizeE, addE, setL, setN, putE, env0, eqCs, eqAux, eqC, bA, bO, bN, bE, negB, kEq, isShr, lendL, lend, frz, frzL, zRow, closed, closedL, rowsOf, binI, retK, retG, atRet, retD, lendO, resL, resD, oneD, renD, renL, renE, renEs, rho, putAll, entsN, List.append, List.nil_append, List.cons_append, List.append_nil, cond, Nat.reduceBEq, Nat.reduceAdd, Nat.beq]
  unfold insR
  refine ⟨fun h => ?_, fun h => ?_⟩
  · rw [if_pos h]; rfl
  rw [if_neg (by rw [h]; simp)]
  refine ⟨fun h => ?_, fun h2 => ?_⟩
  · rw [if_pos h]; rfl
  rw [if_neg (by rw [h2]; simp)]
  refine call_pure (sp_ref54_Form (by omega)) ?_
  dsimp only [run_skip, run_reg, plainB, ifB_true, run_seq, run_blk, run_exit, run_ret, run_ite, iteR, regK, thenK_nrm, thenK_exit, thenK_ret, thenR_nrm, thenR_exit, thenR_ret, blkK, keepS, keepE, runOps_nil, runOps_cons, goG_some, fpOk, foot, entOf, allN, memN, goOn_ok, goOn_call, goOn_row, goOn_arr, goOn_ask, goOn_put, guardP, guardO, notInO, stepF, stepLd, stepSt, stepIxs, stepIxa, stepLen, stepApp, stepCpy, stepPick, stepSls, stepSst, stepSla, evX, evL, evB, rd, get, subG, memG, freshG, notInG, hyps, gob, impP, allP, partD, partOf, isOne, isPtr, nth, takeN, dropN, cellsD, lenB, fillD, thirds, entN, setE, sizeE, addE, setL, setN, putE, env0, eqCs, eqAux, eqC, bA, bO, bN, bE, negB, kEq, isShr, lendL, lend, frz, frzL, zRow, closed, closedL, rowsOf, binI, retK, retG, atRet, retD, lendO, resL, resD, oneD, renD, renL, renE, renEs, rho, putAll, entsN, List.append, List.nil_append, List.cons_append, List.append_nil, cond, Nat.reduceBEq, Nat.reduceAdd, Nat.beq]
  refine ⟨fun h => ?_, fun h => ?_⟩
  · rw [if_pos h]; rfl
  rw [if_neg (by rw [h]; simp)]
  refine ⟨by simp only [fits]; omega, fun h => ?_, fun h3 => ?_⟩
  · rw [if_pos h]; rfl
  rw [if_neg (by rw [h3]; simp)]
  simp only [Bool.or_eq_false_iff, decide_eq_false_iff_not] at h2 h3
  rw [sst_lo, show List.drop at_.toNat (List.take (((textR d).length : Nat) : Int).toNat (textR d)) = (textR d).drop at_.toNat by rw [Int.toNat_natCast, List.take_length]]
  refine ⟨⟨by omega, by omega, by omega⟩, by simp only [List.length_take]; omega, ⟨by omega, by omega, by omega⟩, by simp only [List.length_take, List.length_append, List.length_drop]; omega, ?_⟩
  refine call_pure (sp_ref54_With ‹RbOk d›) ?_
  dsimp only [rbD, run_skip, run_reg, plainB, ifB_true, run_seq, run_blk, run_exit, run_ret, run_ite, iteR, regK, thenK_nrm, thenK_exit, thenK_ret, thenR_nrm, thenR_exit, thenR_ret, blkK, keepS, keepE, runOps_nil, runOps_cons, goG_some, fpOk, foot, entOf, allN, memN, goOn_ok, goOn_call, goOn_row, goOn_arr, goOn_ask, goOn_put, guardP, guardO, notInO, stepF, stepLd, stepSt, stepIxs, stepIxa, stepLen, stepApp, stepCpy, stepPick, stepSls, stepSst, stepSla, evX, evL, evB, rd, get, subG, memG, freshG, notInG, hyps, gob, impP, allP, partD, partOf, isOne, isPtr, nth, takeN, dropN, cellsD, lenB, fillD, thirds, entN, setE, sizeE, addE, setL, setN, putE, env0, eqCs, eqAux, eqC, bA, bO, bN, bE, negB, kEq, isShr, lendL, lend, frz, frzL, zRow, closed, closedL, rowsOf, binI, retK, retG, atRet, retD, lendO, resL, resD, oneD, renD, renL, renE, renEs, rho, putAll, entsN, List.append, List.nil_append, List.cons_append, List.append_nil, cond, Nat.reduceBEq, Nat.reduceAdd, Nat.beq]
  rfl
theorem sp_ref54_Delete {d : Rb} {f t : Int} (h : RbOk d) (ht : (textR d).length ≤ 1000000) : TSp 39 [rbD d, .int .i64 f, .int .i64 t] (retR (delR d f t)) := by
  refine spo_ref54_Delete (by rfl) ?_
  dsimp only [c_ref54_Delete, r_ref54_Delete, rbD, run_skip, run_reg, plainB, ifB_true, run_seq, run_blk, run_exit, run_ret, run_ite, iteR, regK, thenK_nrm, thenK_exit, thenK_ret, thenR_nrm, thenR_exit, thenR_ret, blkK, keepS, keepE, runOps_nil, runOps_cons, goG_some, fpOk, foot, entOf, allN, memN, goOn_ok, goOn_call, goOn_row, goOn_arr, goOn_ask, goOn_put, guardP, guardO, notInO, stepF, stepLd, stepSt, stepIxs, stepIxa, stepLen, stepApp, stepCpy, stepPick, stepSls, stepSst, stepSla, evX, evL, evB, rd, get, subG, memG, freshG, notInG, hyps, gob, impP, allP, partD, partOf, isOne, isPtr, nth, takeN, dropN, cellsD, lenB, fillD, thirds, entN, setE, sizeE, addE, setL, setN, putE, env0, eqCs, eqAux, eqC, bA, bO, bN, bE, negB, kEq, isShr, lendL, lend, frz, frzL, zRow, closed, closedL, rowsOf, binI, retK, retG, atRet, retD, lendO, resL, resD, oneD, renD, renL, renE, renEs, rho, putAll, entsN, List.append, List.nil_append, List.cons_append, List.append_nil, cond, Nat.reduceBEq, Nat.reduceAdd, Nat.beq]
  refine call_pure (sp_ref54_Text h) ?_
  dsimp only [rbD, run_skip, run_reg, plainB, ifB_true, run_seq, run_blk, run_exit, run_ret, run_ite, iteR, regK, thenK_nrm, thenK_exit, thenK_ret, thenR_nrm, thenR_exit, thenR_ret, blkK, keepS, keepE, runOps_nil, runOps_cons, goG_some, fpOk, foot, entOf, allN, memN, goOn_ok, goOn_call, goOn_row, goOn_arr, goOn_ask, goOn_put, guardP, guardO, notInO, stepF, stepLd, stepSt, stepIxs, stepIxa, stepLen, stepApp, stepCpy, stepPick, stepSls, stepSst, stepSla, evX, evL, evB, rd, get, subG, memG, freshG, notInG, hyps, gob, impP, allP, partD, partOf, isOne, isPtr, nth, takeN, dropN, cellsD, lenB, fillD, thirds, entN, setE, sizeE, addE, setL, setN, putE, env0, eqCs, eqAux, eqC, bA, bO, bN, bE, negB, kEq, isShr, lendL, lend, frz, frzL, zRow, closed, closedL, rowsOf, binI, retK, retG, atRet, retD, lendO, resL, resD, oneD, renD, renL, renE, renEs, rho, putAll, entsN, List.append, List.nil_append, List.cons_append, List.append_nil, cond, Nat.reduceBEq, Nat.reduceAdd, Nat.beq]
  unfold delR
  refine ⟨fun h => ?_, fun h2 => ?_⟩
  · rw [if_pos h]; rfl
  rw [if_neg (by rw [h2]; simp)]
  refine ⟨fun h => ?_, fun h => ?_⟩
  · rw [if_pos h]; rfl
  rw [if_neg (by rw [h]; simp)]
  simp only [Bool.or_eq_false_iff, decide_eq_false_iff_not] at h2
  rw [sst_lo, show List.drop t.toNat (List.take (((textR d).length : Nat) : Int).toNat (textR d)) = (textR d).drop t.toNat by rw [Int.toNat_natCast, List.take_length]]
  refine ⟨⟨by omega, by omega, by omega⟩, ⟨by omega, by omega, by omega⟩, by simp only [List.length_take, List.length_drop]; omega, ?_⟩
  refine call_pure (sp_ref54_With ‹RbOk d›) ?_
  dsimp only [rbD, run_skip, run_reg, plainB, ifB_true, run_seq, run_blk, run_exit, run_ret, run_ite, iteR, regK, thenK_nrm, thenK_exit, thenK_ret, thenR_nrm, thenR_exit, thenR_ret, blkK, keepS, keepE, runOps_nil, runOps_cons, goG_some, fpOk, foot, entOf, allN, memN, goOn_ok, goOn_call, goOn_row, goOn_arr, goOn_ask, goOn_put, guardP, guardO, notInO, stepF, stepLd, stepSt, stepIxs, stepIxa, stepLen, stepApp, stepCpy, stepPick, stepSls, stepSst, stepSla, evX, evL, evB, rd, get, subG, memG, freshG, notInG, hyps, gob, impP, allP, partD, partOf, isOne, isPtr, nth, takeN, dropN, cellsD, lenB, fillD, thirds, entN, setE, sizeE, addE, setL, setN, putE, env0, eqCs, eqAux, eqC, bA, bO, bN, bE, negB, kEq, isShr, lendL, lend, frz, frzL, zRow, closed, closedL, rowsOf, binI, retK, retG, atRet, retD, lendO, resL, resD, oneD, renD, renL, renE, renEs, rho, putAll, entsN, List.append, List.nil_append, List.cons_append, List.append_nil, cond, Nat.reduceBEq, Nat.reduceAdd, Nat.beq]
  rfl
end Go.AM
