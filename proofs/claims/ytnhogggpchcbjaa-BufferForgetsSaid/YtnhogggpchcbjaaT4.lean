
/- Chapter 54: acts. -/
import Derived.Test.YtnhogggpchcbjaaT3
set_option linter.all false
namespace Go.AM
open Go Go.Proofs

structure Ac where
  do_ : Int
  a : Int
  b : Int
  s : Bs
def acD (a : Ac) : D := .agg [.int .u8 a.do_, .int .i64 a.a, .int .i64 a.b, .str a.s]
def aL (l : List Ac) : List D := l.map acD
theorem aL_len (l : List Ac) : (aL l).length = l.length := by simp [aL]
theorem aL_at {l : List Ac} {i : Nat} (h : i < l.length) : (aL l)[i]? = some (acD l[i]) := by simp [aL, h]

structure Good (b : Bu) : Prop where
  ok : BuOk b
  undo : ∀ one, b.past.getLast? = some one → (0 ≤ one.at_ ∧ one.at_ + one.in_.length ≤ b.text.length) ∧ one.out.length ≤ 1000000
  redo : ∀ one, b.again.getLast? = some one → (0 ≤ one.at_ ∧ one.at_ + one.out.length ≤ b.text.length) ∧ one.in_.length ≤ 1000000
def playB (a : Ac) (b : Bu) : Bu × Int × Bool :=
  if decide (a.do_ % 4 = 0) then ((insB b a.a a.s).1, (insB b a.a a.s).2, decide ((insB b a.a a.s).2 = 0))
  else if decide (a.do_ % 4 = 1) then ((delB b a.a a.b).1, (delB b a.a a.b).2, decide ((delB b a.a a.b).2 = 0))
  else if decide (a.do_ % 4 = 2) then ((undoB b).1, 0, (undoB b).2)
  else ((redoB b).1, 0, (redoB b).2)
def retP (x : Bu × Int × Bool) : D := .tup [buD x.1, .int .i64 x.2.1, .bool x.2.2]
theorem sp_law54_Act_Play {a : Ac} {b : Bu} (h : Good b) (hs : a.s.length < 9223372036850000000) (h0 : 0 ≤ a.do_) : TSp 16 [acD a, buD b] (retP (playB a b)) := by
  refine spo_law54_Act_Play (by rfl) ?_
  dsimp only [c_law54_Act_Play, r_law54_Act_Play, acD, buD, run_skip, run_reg, plainB, ifB_true, run_seq, run_blk, run_exit, run_ret, run_ite, iteR, regK, thenK_nrm, thenK_exit, thenK_ret, thenR_nrm, thenR_exit, thenR_ret, blkK, keepS, keepE, runOps_nil, runOps_cons, goG_some, fpOk, foot, entOf, allN, memN, goOn_ok, goOn_call, goOn_row, goOn_arr, goOn_ask, goOn_put, guardP, guardO, notInO, stepF, stepLd, stepSt, stepIxs, stepIxa, stepLen, stepApp, stepCpy, stepPick, stepSls, stepSst, stepSla, evX, evL, evB, rd, get, subG, memG, freshG, notInG, hyps, gob, impP, allP, partD, partOf, isOne, isPtr, nth, takeN, dropN, cellsD, lenB, fillD, thirds, entN, setE, sizeE, addE, setL, setN, putE, env0, eqCs, eqAux, eqC, bA, bO, bN, bE, negB, kEq, isShr, lendL, lend, frz, frzL, zRow, closed, closedL, rowsOf, binI, retK, retG, atRet, retD, lendO, resL, resD, oneD, renD, renL, renE, renEs, rho, putAll, entsN, List.append, List.nil_append, List.cons_append, List.append_nil, cond, Nat.reduceBEq, Nat.reduceAdd, Nat.beq]
  unfold playB
  refine ⟨⟨h0, by omega⟩, fun h4 => ?_, fun h4 => ?_⟩
  · rw [if_pos h4]
    refine call_pure (sp_buffer_Buffer_Insert (b := b) h.ok (by omega)) ?_
    dsimp only [retB, buD, run_skip, run_reg, plainB, ifB_true, run_seq, run_blk, run_exit, run_ret, run_ite, iteR, regK, thenK_nrm, thenK_exit, thenK_ret, thenR_nrm, thenR_exit, thenR_ret, blkK, keepS, keepE, runOps_nil, runOps_cons, goG_some, fpOk, foot, entOf, allN, memN, goOn_ok, goOn_call, goOn_row, goOn_arr, goOn_ask, goOn_put, guardP, guardO, notInO, stepF, stepLd, stepSt, stepIxs, stepIxa, stepLen, stepApp, stepCpy, stepPick, stepSls, stepSst, stepSla, evX, evL, evB, rd, get, subG, memG, freshG, notInG, hyps, gob, impP, allP, partD, partOf, isOne, isPtr, nth, takeN, dropN, cellsD, lenB, fillD, thirds, entN, setE, sizeE, addE, setL, setN, putE, env0, eqCs, eqAux, eqC, bA, bO, bN, bE, negB, kEq, isShr, lendL, lend, frz, frzL, zRow, closed, closedL, rowsOf, binI, retK, retG, atRet, retD, lendO, resL, resD, oneD, renD, renL, renE, renEs, rho, putAll, entsN, List.append, List.nil_append, List.cons_append, List.append_nil, cond, Nat.reduceBEq, Nat.reduceAdd, Nat.beq]
    rfl
  rw [if_neg (by rw [h4]; simp)]
  refine ⟨fun h4 => ?_, fun h4 => ?_⟩
  · rw [if_pos h4]
    refine call_pure (sp_buffer_Buffer_Delete (b := b) h.ok) ?_
    dsimp only [retB, buD, run_skip, run_reg, plainB, ifB_true, run_seq, run_blk, run_exit, run_ret, run_ite, iteR, regK, thenK_nrm, thenK_exit, thenK_ret, thenR_nrm, thenR_exit, thenR_ret, blkK, keepS, keepE, runOps_nil, runOps_cons, goG_some, fpOk, foot, entOf, allN, memN, goOn_ok, goOn_call, goOn_row, goOn_arr, goOn_ask, goOn_put, guardP, guardO, notInO, stepF, stepLd, stepSt, stepIxs, stepIxa, stepLen, stepApp, stepCpy, stepPick, stepSls, stepSst, stepSla, evX, evL, evB, rd, get, subG, memG, freshG, notInG, hyps, gob, impP, allP, partD, partOf, isOne, isPtr, nth, takeN, dropN, cellsD, lenB, fillD, thirds, entN, setE, sizeE, addE, setL, setN, putE, env0, eqCs, eqAux, eqC, bA, bO, bN, bE, negB, kEq, isShr, lendL, lend, frz, frzL, zRow, closed, closedL, rowsOf, binI, retK, retG, atRet, retD, lendO, resL, resD, oneD, renD, renL, renE, renEs, rho, putAll, entsN, List.append, List.nil_append, List.cons_append, List.append_nil, cond, Nat.reduceBEq, Nat.reduceAdd, Nat.beq]
    rfl
  rw [if_neg (by rw [h4]; simp)]
  refine ⟨fun h4 => ?_, fun h4 => ?_⟩
  · rw [if_pos h4]
    refine call_pure (sp_buffer_Buffer_Undo (b := b) h.ok h.undo) ?_
    dsimp only [retO, buD, run_skip, run_reg, plainB, ifB_true, run_seq, run_blk, run_exit, run_ret, run_ite, iteR, regK, thenK_nrm, thenK_exit, thenK_ret, thenR_nrm, thenR_exit, thenR_ret, blkK, keepS, keepE, runOps_nil, runOps_cons, goG_some, fpOk, foot, entOf, allN, memN, goOn_ok, goOn_call, goOn_row, goOn_arr, goOn_ask, goOn_put, guardP, guardO, notInO, stepF, stepLd, stepSt, stepIxs, stepIxa, stepLen, stepApp, stepCpy, stepPick, stepSls, stepSst, stepSla, evX, evL, evB, rd, get, subG, memG, freshG, notInG, hyps, gob, impP, allP, partD, partOf, isOne, isPtr, nth, takeN, dropN, cellsD, lenB, fillD, thirds, entN, setE, sizeE, addE, setL, setN, putE, env0, eqCs, eqAux, eqC, bA, bO, bN, bE, negB, kEq, isShr, lendL, lend, frz, frzL, zRow, closed, closedL, rowsOf, binI, retK, retG, atRet, retD, lendO, resL, resD, oneD, renD, renL, renE, renEs, rho, putAll, entsN, List.append, List.nil_append, List.cons_append, List.append_nil, cond, Nat.reduceBEq, Nat.reduceAdd, Nat.beq]
    rfl
  · rw [if_neg (by rw [h4]; simp)]
    refine call_pure (sp_buffer_Buffer_Redo (b := b) h.ok h.redo) ?_
    dsimp only [retO, buD, run_skip, run_reg, plainB, ifB_true, run_seq, run_blk, run_exit, run_ret, run_ite, iteR, regK, thenK_nrm, thenK_exit, thenK_ret, thenR_nrm, thenR_exit, thenR_ret, blkK, keepS, keepE, runOps_nil, runOps_cons, goG_some, fpOk, foot, entOf, allN, memN, goOn_ok, goOn_call, goOn_row, goOn_arr, goOn_ask, goOn_put, guardP, guardO, notInO, stepF, stepLd, stepSt, stepIxs, stepIxa, stepLen, stepApp, stepCpy, stepPick, stepSls, stepSst, stepSla, evX, evL, evB, rd, get, subG, memG, freshG, notInG, hyps, gob, impP, allP, partD, partOf, isOne, isPtr, nth, takeN, dropN, cellsD, lenB, fillD, thirds, entN, setE, sizeE, addE, setL, setN, putE, env0, eqCs, eqAux, eqC, bA, bO, bN, bE, negB, kEq, isShr, lendL, lend, frz, frzL, zRow, closed, closedL, rowsOf, binI, retK, retG, atRet, retD, lendO, resL, resD, oneD, renD, renL, renE, renEs, rho, putAll, entsN, List.append, List.nil_append, List.cons_append, List.append_nil, cond, Nat.reduceBEq, Nat.reduceAdd, Nat.beq]
    rfl

def refA (a : Ac) (d : Rb) : Rb × Int × Bool :=
  if decide (a.do_ % 4 = 0) then ((insR d a.a a.s).1, (insR d a.a a.s).2, decide ((insR d a.a a.s).2 = 0))
  else if decide (a.do_ % 4 = 1) then ((delR d a.a a.b).1, (delR d a.a a.b).2, decide ((delR d a.a a.b).2 = 0))
  else if decide (a.do_ % 4 = 2) then (if decide (d.at_ = 0) then (d, 0, false) else (⟨d.L, d.at_ - 1⟩, 0, true))
  else if decide ((d.L.length : Int) ≤ d.at_ + 1) then (d, 0, false) else (⟨d.L, d.at_ + 1⟩, 0, true)
def retQ (x : Rb × Int × Bool) : D := .tup [rbD x.1, .int .i64 x.2.1, .bool x.2.2]
theorem sp_law54_Act_Ref {a : Ac} {d : Rb} (h : RbOk d) (ht : (textR d).length ≤ 1000000) (hs : a.s.length < 9223372036850000000) (h0 : 0 ≤ a.do_) : TSp 21 [acD a, rbD d] (retQ (refA a d)) := by
  refine spo_law54_Act_Ref (by rfl) ?_
  dsimp only [c_law54_Act_Ref, r_law54_Act_Ref, acD, rbD, run_skip, run_reg, plainB, ifB_true, run_seq, run_blk, run_exit, run_ret, run_ite, iteR, regK, thenK_nrm, thenK_exit, thenK_ret, thenR_nrm, thenR_exit, thenR_ret, blkK, keepS, keepE, runOps_nil, runOps_cons, goG_some, fpOk, foot, entOf, allN, memN, goOn_ok, goOn_call, goOn_row, goOn_arr, goOn_ask, goOn_put, guardP, guardO, notInO, stepF, stepLd, stepSt, stepIxs, stepIxa, stepLen, stepApp, stepCpy, stepPick, stepSls, stepSst, stepSla, evX, evL, evB, rd, get, subG, memG, freshG, notInG, hyps, gob, impP, allP, partD, partOf, isOne, isPtr, nth, takeN, dropN, cellsD, lenB, fillD, thirds, entN, setE, sizeE, addE, setL, setN, putE, env0, eqCs, eqAux, eqC, bA, bO, bN, bE, negB, kEq, isShr, lendL, lend, frz, frzL, zRow, closed, closedL, rowsOf, binI, retK, retG, atRet, retD, lendO, resL, resD, oneD, renD, renL, renE, renEs, rho, putAll, entsN, List.append, List.nil_append, List.cons_append, List.append_nil, cond, Nat.reduceBEq, Nat.reduceAdd, Nat.beq]
  unfold refA
  refine ⟨⟨h0, by omega⟩, fun h4 => ?_, fun h4 => ?_⟩
  · rw [if_pos h4]
    refine call_pure (sp_ref54_Insert (d := d) h ht (by omega)) ?_
    dsimp only [retR, rbD, run_skip, run_reg, plainB, ifB_true, run_seq, run_blk, run_exit, run_ret, run_ite, iteR, regK, thenK_nrm, thenK_exit, thenK_ret, thenR_nrm, thenR_exit, thenR_ret, blkK, keepS, keepE, runOps_nil, runOps_cons, goG_some, fpOk, foot, entOf, allN, memN, goOn_ok, goOn_call, goOn_row, goOn_arr, goOn_ask, goOn_put, guardP, guardO, notInO, stepF, stepLd, stepSt, stepIxs, stepIxa, stepLen, stepApp, stepCpy, stepPick, stepSls, stepSst, stepSla, evX, evL, evB, rd, get, subG, memG, freshG, notInG, hyps, gob, impP, allP, partD, partOf, isOne, isPtr, nth, takeN, dropN, cellsD, lenB, fillD, thirds, entN, setE, sizeE, addE, setL, setN, putE, env0, eqCs, eqAux, eqC, bA, bO, bN, bE, negB, kEq, isShr, lendL, lend, frz, frzL, zRow, closed, closedL, rowsOf, binI, retK, retG, atRet, retD, lendO, resL, resD, oneD, renD, renL, renE, renEs, rho, putAll, entsN, List.append, List.nil_append, List.cons_append, List.append_nil, cond, Nat.reduceBEq, Nat.reduceAdd, Nat.beq]
    rfl
  rw [if_neg (by rw [h4]; simp)]
  refine ⟨fun h4 => ?_, fun h4 => ?_⟩
  · rw [if_pos h4]
    refine call_pure (sp_ref54_Delete (d := d) h ht) ?_
    dsimp only [retR, rbD, run_skip, run_reg, plainB, ifB_true, run_seq, run_blk, run_exit, run_ret, run_ite, iteR, regK, thenK_nrm, thenK_exit, thenK_ret, thenR_nrm, thenR_exit, thenR_ret, blkK, keepS, keepE, runOps_nil, runOps_cons, goG_some, fpOk, foot, entOf, allN, memN, goOn_ok, goOn_call, goOn_row, goOn_arr, goOn_ask, goOn_put, guardP, guardO, notInO, stepF, stepLd, stepSt, stepIxs, stepIxa, stepLen, stepApp, stepCpy, stepPick, stepSls, stepSst, stepSla, evX, evL, evB, rd, get, subG, memG, freshG, notInG, hyps, gob, impP, allP, partD, partOf, isOne, isPtr, nth, takeN, dropN, cellsD, lenB, fillD, thirds, entN, setE, sizeE, addE, setL, setN, putE, env0, eqCs, eqAux, eqC, bA, bO, bN, bE, negB, kEq, isShr, lendL, lend, frz, frzL, zRow, closed, closedL, rowsOf, binI, retK, retG, atRet, retD, lendO, resL, resD, oneD, renD, renL, renE, renEs, rho, putAll, entsN, List.append, List.nil_append, List.cons_append, List.append_nil, cond, Nat.reduceBEq, Nat.reduceAdd, Nat.beq]
    rfl
  rw [if_neg (by rw [h4]; simp)]
  have hh := h.hi; have hn := h.ne; have hlo := h.lo
  refine ⟨fun h4 => ?_, fun h4 => ?_⟩
  · rw [if_pos h4]
    refine ⟨fun h => ?_, fun h => ?_⟩
    · rw [if_pos h]; rfl
    · rw [if_neg (by rw [h]; simp)]
      exact ⟨by simp only [fits]; omega, rfl⟩
  · rw [if_neg (by rw [h4]; simp)]
    rw [sL_len]
    refine ⟨by simp only [fits]; omega, fun h => ?_, fun h => ?_⟩
    · rw [if_pos h]; rfl
    · rw [if_neg (by rw [h]; simp)]
      exact ⟨by simp only [fits]; omega, rfl⟩

def fewA (s : Bs) (l : List Ac) : Bool := l.all (fun a => !decide (60 < (a.s.length : Int))) && (decide ((s.length : Int) ≤ 300) && decide ((l.length : Int) ≤ 40))
theorem sp_law54_Few {s : Bs} {l : List Ac} (hl : l.length < 9223372036854775808) : TSp 15 [.str s, .ls 4 (aL l)] (.bool (fewA s l)) := by
  refine spo_law54_Few (by rfl) ?_
  dsimp only [c_law54_Few, r_law54_Few, run_skip, run_reg, plainB, ifB_true, run_seq, run_blk, run_exit, run_ret, run_ite, iteR, regK, thenK_nrm, thenK_exit, thenK_ret, thenR_nrm, thenR_exit, thenR_ret, blkK, keepS, keepE, runOps_nil, runOps_cons, goG_some, fpOk, foot, entOf, allN, memN, goOn_ok, goOn_call, goOn_row, goOn_arr, goOn_ask, goOn_put, guardP, guardO, notInO, stepF, stepLd, stepSt, stepIxs, stepIxa, stepLen, stepApp, stepCpy, stepPick, stepSls, stepSst, stepSla, evX, evL, evB, rd, get, subG, memG, freshG, notInG, hyps, gob, impP, allP, partD, partOf, isOne, isPtr, nth, takeN, dropN, cellsD, lenB, fillD, thirds, entN, setE, sizeE, addE, setL, setN, putE, env0, eqCs, eqAux, eqC, bA, bO, bN, bE, negB, kEq, isShr, lendL, lend, frz, frzL, zRow, closed, closedL, rowsOf, binI, retK, retG, atRet, retD, lendO, resL, resD, oneD, renD, renL, renE, renEs, rho, putAll, entsN, List.append, List.nil_append, List.cons_append, List.append_nil, cond, Nat.reduceBEq, Nat.reduceAdd, Nat.beq]
  rw [aL_len]
  refine loop_ind (α := {i : Nat // i ≤ l.length ∧ (l.take i).all (fun a => !decide (60 < (a.s.length : Int))) = true}) (fun i => ⟨[(0, [], .str s), (1, [], .ls 4 (aL l)), (7, [], .ls 4 (aL l)), (8, [], .int .i64 l.length), (9, [], .int .i64 i.1)], []⟩) (fun i => l.length - i.1) ?_ ⟨0, by simp⟩ rfl
  rintro ⟨i, h1, h2⟩ I ih
  dsimp only [run_skip, run_reg, plainB, ifB_true, run_seq, run_blk, run_exit, run_ret, run_ite, iteR, regK, thenK_nrm, thenK_exit, thenK_ret, thenR_nrm, thenR_exit, thenR_ret, blkK, keepS, keepE, runOps_nil, runOps_cons, goG_some, fpOk, foot, entOf, allN, memN, goOn_ok, goOn_call, goOn_row, goOn_arr, goOn_ask, goOn_put, guardP, guardO, notInO, stepF, stepLd, stepSt, stepIxs, stepIxa, stepLen, stepApp, stepCpy, stepPick, stepSls, stepSst, stepSla, evX, evL, evB, rd, get, subG, memG, freshG, notInG, hyps, gob, impP, allP, partD, partOf, isOne, isPtr, nth, takeN, dropN, cellsD, lenB, fillD, thirds, entN, setE, sizeE, addE, setL, setN, putE, env0, eqCs, eqAux, eqC, bA, bO, bN, bE, negB, kEq, isShr, lendL, lend, frz, frzL, zRow, closed, closedL, rowsOf, binI, retK, retG, atRet, retD, lendO, resL, resD, oneD, renD, renL, renE, renEs, rho, putAll, entsN, List.append, List.nil_append, List.cons_append, List.append_nil, cond, Nat.reduceBEq, Nat.reduceAdd, Nat.beq]
  refine ⟨fun hi => ?_, fun hi => ?_⟩
  · have hi : i < l.length := by simpa using hi
    refine ⟨⟨rfl, by omega, by rw [aL_len]; omega⟩, row_intro _ _ (aL_at hi) rfl ?_⟩
    have e : l.take (i + 1) = l.take i ++ [l[i]] := List.take_succ_eq_append_getElem hi
    have hm := List.getElem_mem hi
    generalize l[i] = a at *
    dsimp only [acD, run_skip, run_reg, plainB, ifB_true, run_seq, run_blk, run_exit, run_ret, run_ite, iteR, regK, thenK_nrm, thenK_exit, thenK_ret, thenR_nrm, thenR_exit, thenR_ret, blkK, keepS, keepE, runOps_nil, runOps_cons, goG_some, fpOk, foot, entOf, allN, memN, goOn_ok, goOn_call, goOn_row, goOn_arr, goOn_ask, goOn_put, guardP, guardO, notInO, stepF, stepLd, stepSt, stepIxs, stepIxa, stepLen, stepApp, stepCpy, stepPick, stepSls, stepSst, stepSla, evX, evL, evB, rd, get, subG, memG, freshG, notInG, hyps, gob, impP, allP, partD, partOf, isOne, isPtr, nth, takeN, dropN, cellsD, lenB, fillD, thirds, entN, setE, sizeE, addE, setL, setN, putE, env0, eqCs, eqAux, eqC, bA, bO, bN, bE, negB, kEq, isShr, lendL, lend, frz, frzL, zRow, closed, closedL, rowsOf, binI, retK, retG, atRet, retD, lendO, resL, resD, oneD, renD, renL, renE, renEs, rho, putAll, entsN, List.append, List.nil_append, List.cons_append, List.append_nil, cond, Nat.reduceBEq, Nat.reduceAdd, Nat.beq]
    refine ⟨fun hb => ?_, fun hb => ?_⟩
    · have : fewA s l = false := by
        unfold fewA
        rw [Bool.and_eq_false_iff]
        left
        rw [List.all_eq_false]
        exact ⟨a, hm, by simp only [hb]; simp⟩
      rw [this]
    · refine ⟨by simp only [fits]; omega, ?_⟩
      refine again (ih ⟨i + 1, by omega, by rw [e, List.all_append, h2]; simp only [List.all_cons, hb]; rfl⟩ (by dsimp only; omega)) ?_ ?_ rfl rfl
      · exact ⟨rfl, rfl, rfl, rfl, rfl, trivial⟩
      · exact trivial
  · have hi : i = l.length := by simp at hi; omega
    subst hi
    rw [List.take_length] at h2
    rw [aL_len]
    unfold fewA
    rw [h2]; rfl
theorem few_all {s : Bs} {l : List Ac} (h : fewA s l = true) : (s.length ≤ 300 ∧ l.length ≤ 40) ∧ ∀ a ∈ l, a.s.length ≤ 60 := by
  unfold fewA at h
  simp only [Bool.and_eq_true, decide_eq_true_eq] at h
  exact ⟨⟨by omega, by omega⟩, fun a ha => by have := List.all_eq_true.1 h.1 a ha; simp at this; omega⟩
end Go.AM
