
/- Chapter 29: the modes' ways. -/
import Derived.Test.YthcfahdogpjkeaaX2
import Derived.Test.YthcfahdogpjkeaaX0
set_option linter.all false
namespace Go.AM
open Go Go.Proofs

def qD (l : List Int) (al : Bool) (a : Int) : D := .agg [.bool al, .int .i64 l.length, .int .i64 a, .fn 34 [.box 8 0, .box 0 0, .box 1 0, .box 3 0], .fn 36 [.box 8 0, .box 0 0, .box 1 0, .box 3 0]]
section
variable {t : TT} {id sib : Int} {m : Ats} {l : List Int} {al : Bool} {a : Int}
def hidden29 (t : TT) (id sib : Int) (m : Ats) (l : List Int) (al : Bool) : Bool := someB al sib l fun w => hidesT t m w id
def hiding29 (t : TT) (id sib : Int) (m : Ats) (l : List Int) (al : Bool) : Bool := someB al sib l fun w => hidesT t m id w
def idK : List Nat := [0, 1, 2, 3, 4, 5, 6, 7, 8, 9, 10]

theorem sm_ways_1 (h : t.Ok) (hm : m.Ok) (hl : l.length < 1000000) : TSpM 56 [qD l al a] (M29 t id sib m l al a) (.tup [.int .i64 l.length, .bool (hidden29 t id sib m l al)]) (M29 t id sib m l al a) := by
  refine spm_stack_ways_1 (by rfl) ?_
  have hh := sm_Restack_3 (t := t) (id := id) (sib := sib) (m := m) (al := al) (a := a) h hm hl
  dsimp only [c_stack_ways_1, r_stack_ways_1, qD, M29, run_skip, run_reg, plainB, ifB_true, run_seq, run_blk, run_exit, run_ret, run_ite, iteR, regK, thenK_nrm, thenK_exit, thenK_ret, thenR_nrm, thenR_exit, thenR_ret, blkK, keepS, keepE, runOps_nil, runOps_cons, goG_some, fpOk, foot, entOf, allN, memN, goOn_ok, goOn_call, goOn_row, goOn_arr, goOn_ask, goOn_put, goOn_prm, goOn_callK, goOn_callC, goOn_all, guardP, guardO, notInO, stepF, stepLd, stepSt, stepIxs, stepIxa, stepLen, stepApp, stepCpy, stepPick, stepSls, stepSst, stepSla, bareZ, evX, evL, evB, rd, get, subG, memG, freshG, notInG, hyps, gob, impP, allP, partD, partOf, isOne, isPtr, nth, takeN, dropN, cellsD, lenB, fillD, thirds, entN, setE, sizeE, addE, setL, setN, putE, env0, eqCs, eqAux, eqC, bA, bO, bN, bE, negB, kEq, isShr, lendL, lend, frz, frzL, zRow, closed, closedL, rowsOf, binI, retK, retG, atRet, retD, lendO, resL, resD, oneD, renD, renL, renE, renEs, rho, putAll, entsN, List.append, List.nil_append, List.cons_append, List.append_nil, cond, Nat.reduceBEq, Nat.reduceAdd, Nat.beq] at *
  refine call_look [0, 1, 2, 3, 4, 5, 6, 7, 8, 9, 10] hh rfl rfl rfl ?_
  dsimp only [run_skip, run_reg, plainB, ifB_true, run_seq, run_blk, run_exit, run_ret, run_ite, iteR, regK, thenK_nrm, thenK_exit, thenK_ret, thenR_nrm, thenR_exit, thenR_ret, blkK, keepS, keepE, runOps_nil, runOps_cons, goG_some, fpOk, foot, entOf, allN, memN, goOn_ok, goOn_call, goOn_row, goOn_arr, goOn_ask, goOn_put, goOn_prm, goOn_callK, goOn_callC, goOn_all, guardP, guardO, notInO, stepF, stepLd, stepSt, stepIxs, stepIxa, stepLen, stepApp, stepCpy, stepPick, stepSls, stepSst, stepSla, bareZ, evX, evL, evB, rd, get, subG, memG, freshG, notInG, hyps, gob, impP, allP, partD, partOf, isOne, isPtr, nth, takeN, dropN, cellsD, lenB, fillD, thirds, entN, setE, sizeE, addE, setL, setN, putE, env0, eqCs, eqAux, eqC, bA, bO, bN, bE, negB, kEq, isShr, lendL, lend, frz, frzL, zRow, closed, closedL, rowsOf, binI, retK, retG, atRet, retD, lendO, resL, resD, oneD, renD, renL, renE, renEs, rho, putAll, entsN, List.append, List.nil_append, List.cons_append, List.append_nil, cond, Nat.reduceBEq, Nat.reduceAdd, Nat.beq]
  exact Rt.cut (Nat.le_refl _) ⟨rfl, rfl, rfl, rfl, rfl, rfl, rfl, rfl, rfl, rfl, rfl, trivial⟩ rfl rfl
theorem sm_ways_2 (h : t.Ok) (hm : m.Ok) (hl : l.length < 1000000) : TSpM 57 [qD l al a] (M29 t id sib m l al a) (.tup [.int .i64 0, .bool (hiding29 t id sib m l al)]) (M29 t id sib m l al a) := by
  refine spm_stack_ways_2 (by rfl) ?_
  have hh := sm_Restack_4 (t := t) (id := id) (sib := sib) (m := m) (al := al) (a := a) h hm hl
  dsimp only [c_stack_ways_2, r_stack_ways_2, qD, M29, run_skip, run_reg, plainB, ifB_true, run_seq, run_blk, run_exit, run_ret, run_ite, iteR, regK, thenK_nrm, thenK_exit, thenK_ret, thenR_nrm, thenR_exit, thenR_ret, blkK, keepS, keepE, runOps_nil, runOps_cons, goG_some, fpOk, foot, entOf, allN, memN, goOn_ok, goOn_call, goOn_row, goOn_arr, goOn_ask, goOn_put, goOn_prm, goOn_callK, goOn_callC, goOn_all, guardP, guardO, notInO, stepF, stepLd, stepSt, stepIxs, stepIxa, stepLen, stepApp, stepCpy, stepPick, stepSls, stepSst, stepSla, bareZ, evX, evL, evB, rd, get, subG, memG, freshG, notInG, hyps, gob, impP, allP, partD, partOf, isOne, isPtr, nth, takeN, dropN, cellsD, lenB, fillD, thirds, entN, setE, sizeE, addE, setL, setN, putE, env0, eqCs, eqAux, eqC, bA, bO, bN, bE, negB, kEq, isShr, lendL, lend, frz, frzL, zRow, closed, closedL, rowsOf, binI, retK, retG, atRet, retD, lendO, resL, resD, oneD, renD, renL, renE, renEs, rho, putAll, entsN, List.append, List.nil_append, List.cons_append, List.append_nil, cond, Nat.reduceBEq, Nat.reduceAdd, Nat.beq] at *
  refine call_look [0, 1, 2, 3, 4, 5, 6, 7, 8, 9, 10] hh rfl rfl rfl ?_
  dsimp only [run_skip, run_reg, plainB, ifB_true, run_seq, run_blk, run_exit, run_ret, run_ite, iteR, regK, thenK_nrm, thenK_exit, thenK_ret, thenR_nrm, thenR_exit, thenR_ret, blkK, keepS, keepE, runOps_nil, runOps_cons, goG_some, fpOk, foot, entOf, allN, memN, goOn_ok, goOn_call, goOn_row, goOn_arr, goOn_ask, goOn_put, goOn_prm, goOn_callK, goOn_callC, goOn_all, guardP, guardO, notInO, stepF, stepLd, stepSt, stepIxs, stepIxa, stepLen, stepApp, stepCpy, stepPick, stepSls, stepSst, stepSla, bareZ, evX, evL, evB, rd, get, subG, memG, freshG, notInG, hyps, gob, impP, allP, partD, partOf, isOne, isPtr, nth, takeN, dropN, cellsD, lenB, fillD, thirds, entN, setE, sizeE, addE, setL, setN, putE, env0, eqCs, eqAux, eqC, bA, bO, bN, bE, negB, kEq, isShr, lendL, lend, frz, frzL, zRow, closed, closedL, rowsOf, binI, retK, retG, atRet, retD, lendO, resL, resD, oneD, renD, renL, renE, renEs, rho, putAll, entsN, List.append, List.nil_append, List.cons_append, List.append_nil, cond, Nat.reduceBEq, Nat.reduceAdd, Nat.beq]
  exact Rt.cut (Nat.le_refl _) ⟨rfl, rfl, rfl, rfl, rfl, rfl, rfl, rfl, rfl, rfl, rfl, trivial⟩ rfl rfl
theorem sm_ways_3 (ha : fits .i64 (a + 1)) : TSpM 58 [qD l al a] (M29 t id sib m l al a) (.tup [.int .i64 (if al then (l.length : Int) else a + 1), .bool true]) (M29 t id sib m l al a) := by
  refine spm_stack_ways_3 (by rfl) ?_
  dsimp only [c_stack_ways_3, r_stack_ways_3, qD, M29, run_skip, run_reg, plainB, ifB_true, run_seq, run_blk, run_exit, run_ret, run_ite, iteR, regK, thenK_nrm, thenK_exit, thenK_ret, thenR_nrm, thenR_exit, thenR_ret, blkK, keepS, keepE, runOps_nil, runOps_cons, goG_some, fpOk, foot, entOf, allN, memN, goOn_ok, goOn_call, goOn_row, goOn_arr, goOn_ask, goOn_put, goOn_prm, goOn_callK, goOn_callC, goOn_all, guardP, guardO, notInO, stepF, stepLd, stepSt, stepIxs, stepIxa, stepLen, stepApp, stepCpy, stepPick, stepSls, stepSst, stepSla, bareZ, evX, evL, evB, rd, get, subG, memG, freshG, notInG, hyps, gob, impP, allP, partD, partOf, isOne, isPtr, nth, takeN, dropN, cellsD, lenB, fillD, thirds, entN, setE, sizeE, addE, setL, setN, putE, env0, eqCs, eqAux, eqC, bA, bO, bN, bE, negB, kEq, isShr, lendL, lend, frz, frzL, zRow, closed, closedL, rowsOf, binI, retK, retG, atRet, retD, lendO, resL, resD, oneD, renD, renL, renE, renEs, rho, putAll, entsN, List.append, List.nil_append, List.cons_append, List.append_nil, cond, Nat.reduceBEq, Nat.reduceAdd, Nat.beq] at *
  cases al
  · refine ⟨nofun, fun _ => ⟨ha, ?_⟩⟩
    exact Rt.cut (Nat.le_refl _) ⟨rfl, rfl, rfl, rfl, rfl, rfl, rfl, rfl, rfl, rfl, rfl, trivial⟩ rfl rfl
  · refine ⟨fun _ => ?_, nofun⟩
    exact Rt.cut (Nat.le_refl _) ⟨rfl, rfl, rfl, rfl, rfl, rfl, rfl, rfl, rfl, rfl, rfl, trivial⟩ rfl rfl
theorem sm_ways_4 : TSpM 59 [qD l al a] (M29 t id sib m l al a) (.tup [.int .i64 (if al then 0 else a), .bool true]) (M29 t id sib m l al a) := by
  refine spm_stack_ways_4 (by rfl) ?_
  dsimp only [c_stack_ways_4, r_stack_ways_4, qD, M29, run_skip, run_reg, plainB, ifB_true, run_seq, run_blk, run_exit, run_ret, run_ite, iteR, regK, thenK_nrm, thenK_exit, thenK_ret, thenR_nrm, thenR_exit, thenR_ret, blkK, keepS, keepE, runOps_nil, runOps_cons, goG_some, fpOk, foot, entOf, allN, memN, goOn_ok, goOn_call, goOn_row, goOn_arr, goOn_ask, goOn_put, goOn_prm, goOn_callK, goOn_callC, goOn_all, guardP, guardO, notInO, stepF, stepLd, stepSt, stepIxs, stepIxa, stepLen, stepApp, stepCpy, stepPick, stepSls, stepSst, stepSla, bareZ, evX, evL, evB, rd, get, subG, memG, freshG, notInG, hyps, gob, impP, allP, partD, partOf, isOne, isPtr, nth, takeN, dropN, cellsD, lenB, fillD, thirds, entN, setE, sizeE, addE, setL, setN, putE, env0, eqCs, eqAux, eqC, bA, bO, bN, bE, negB, kEq, isShr, lendL, lend, frz, frzL, zRow, closed, closedL, rowsOf, binI, retK, retG, atRet, retD, lendO, resL, resD, oneD, renD, renL, renE, renEs, rho, putAll, entsN, List.append, List.nil_append, List.cons_append, List.append_nil, cond, Nat.reduceBEq, Nat.reduceAdd, Nat.beq] at *
  cases al
  · refine ⟨nofun, fun _ => ?_⟩
    exact Rt.cut (Nat.le_refl _) ⟨rfl, rfl, rfl, rfl, rfl, rfl, rfl, rfl, rfl, rfl, rfl, trivial⟩ rfl rfl
  · refine ⟨fun _ => ?_, nofun⟩
    exact Rt.cut (Nat.le_refl _) ⟨rfl, rfl, rfl, rfl, rfl, rfl, rfl, rfl, rfl, rfl, rfl, trivial⟩ rfl rfl
theorem sm_ways_5 (h : t.Ok) (hm : m.Ok) (hl : l.length < 1000000) : TSpM 60 [qD l al a, .box 9 0, .box 10 0] (M29 t id sib m l al a) (.tup [.int .i64 (if hidden29 t id sib m l al then (l.length : Int) else 0), .bool (hidden29 t id sib m l al || hiding29 t id sib m l al)]) (M29 t id sib m l al a) := by
  refine spm_stack_ways_5 (by rfl) ?_
  have h1 := sm_ways_1 (t := t) (id := id) (sib := sib) (m := m) (al := al) (a := a) h hm hl
  have h2 := sm_ways_2 (t := t) (id := id) (sib := sib) (m := m) (al := al) (a := a) h hm hl
  dsimp only [c_stack_ways_5, r_stack_ways_5, qD, M29, run_skip, run_reg, plainB, ifB_true, run_seq, run_blk, run_exit, run_ret, run_ite, iteR, regK, thenK_nrm, thenK_exit, thenK_ret, thenR_nrm, thenR_exit, thenR_ret, blkK, keepS, keepE, runOps_nil, runOps_cons, goG_some, fpOk, foot, entOf, allN, memN, goOn_ok, goOn_call, goOn_row, goOn_arr, goOn_ask, goOn_put, goOn_prm, goOn_callK, goOn_callC, goOn_all, guardP, guardO, notInO, stepF, stepLd, stepSt, stepIxs, stepIxa, stepLen, stepApp, stepCpy, stepPick, stepSls, stepSst, stepSla, bareZ, evX, evL, evB, rd, get, subG, memG, freshG, notInG, hyps, gob, impP, allP, partD, partOf, isOne, isPtr, nth, takeN, dropN, cellsD, lenB, fillD, thirds, entN, setE, sizeE, addE, setL, setN, putE, env0, eqCs, eqAux, eqC, bA, bO, bN, bE, negB, kEq, isShr, lendL, lend, frz, frzL, zRow, closed, closedL, rowsOf, binI, retK, retG, atRet, retD, lendO, resL, resD, oneD, renD, renL, renE, renEs, rho, putAll, entsN, List.append, List.nil_append, List.cons_append, List.append_nil, cond, Nat.reduceBEq, Nat.reduceAdd, Nat.beq] at *
  refine call_look [0, 1, 2, 3, 4, 5, 6, 7, 8, 9, 10] h1 rfl rfl rfl ?_
  dsimp only [run_skip, run_reg, plainB, ifB_true, run_seq, run_blk, run_exit, run_ret, run_ite, iteR, regK, thenK_nrm, thenK_exit, thenK_ret, thenR_nrm, thenR_exit, thenR_ret, blkK, keepS, keepE, runOps_nil, runOps_cons, goG_some, fpOk, foot, entOf, allN, memN, goOn_ok, goOn_call, goOn_row, goOn_arr, goOn_ask, goOn_put, goOn_prm, goOn_callK, goOn_callC, goOn_all, guardP, guardO, notInO, stepF, stepLd, stepSt, stepIxs, stepIxa, stepLen, stepApp, stepCpy, stepPick, stepSls, stepSst, stepSla, bareZ, evX, evL, evB, rd, get, subG, memG, freshG, notInG, hyps, gob, impP, allP, partD, partOf, isOne, isPtr, nth, takeN, dropN, cellsD, lenB, fillD, thirds, entN, setE, sizeE, addE, setL, setN, putE, env0, eqCs, eqAux, eqC, bA, bO, bN, bE, negB, kEq, isShr, lendL, lend, frz, frzL, zRow, closed, closedL, rowsOf, binI, retK, retG, atRet, retD, lendO, resL, resD, oneD, renD, renL, renE, renEs, rho, putAll, entsN, List.append, List.nil_append, List.cons_append, List.append_nil, cond, Nat.reduceBEq, Nat.reduceAdd, Nat.beq]
  cases hidden29 t id sib m l al
  · refine ⟨nofun, fun _ => ?_⟩
    refine call_look [0, 1, 2, 3, 4, 5, 6, 7, 8, 9, 10] h2 rfl rfl rfl ?_
    dsimp only [run_skip, run_reg, plainB, ifB_true, run_seq, run_blk, run_exit, run_ret, run_ite, iteR, regK, thenK_nrm, thenK_exit, thenK_ret, thenR_nrm, thenR_exit, thenR_ret, blkK, keepS, keepE, runOps_nil, runOps_cons, goG_some, fpOk, foot, entOf, allN, memN, goOn_ok, goOn_call, goOn_row, goOn_arr, goOn_ask, goOn_put, goOn_prm, goOn_callK, goOn_callC, goOn_all, guardP, guardO, notInO, stepF, stepLd, stepSt, stepIxs, stepIxa, stepLen, stepApp, stepCpy, stepPick, stepSls, stepSst, stepSla, bareZ, evX, evL, evB, rd, get, subG, memG, freshG, notInG, hyps, gob, impP, allP, partD, partOf, isOne, isPtr, nth, takeN, dropN, cellsD, lenB, fillD, thirds, entN, setE, sizeE, addE, setL, setN, putE, env0, eqCs, eqAux, eqC, bA, bO, bN, bE, negB, kEq, isShr, lendL, lend, frz, frzL, zRow, closed, closedL, rowsOf, binI, retK, retG, atRet, retD, lendO, resL, resD, oneD, renD, renL, renE, renEs, rho, putAll, entsN, List.append, List.nil_append, List.cons_append, List.append_nil, cond, Nat.reduceBEq, Nat.reduceAdd, Nat.beq]
    exact Rt.cut (Nat.le_refl _) ⟨rfl, rfl, rfl, rfl, rfl, rfl, rfl, rfl, rfl, rfl, rfl, trivial⟩ rfl rfl
  · refine ⟨fun _ => ?_, nofun⟩
    exact Rt.cut (Nat.le_refl _) ⟨rfl, rfl, rfl, rfl, rfl, rfl, rfl, rfl, rfl, rfl, rfl, trivial⟩ rfl rfl

/-- The ways, by their modes. -/
def wayF : Int → Nat := fun mode => if mode = 0 then 58 else if mode = 1 then 59 else if mode = 2 then 56 else if mode = 3 then 57 else 60
def wayC : Int → List D := fun mode => if mode = 4 then [.box 9 0, .box 10 0] else []
def wayR (t : TT) (id sib : Int) (m : Ats) (l : List Int) (al : Bool) (a mode : Int) : Int × Bool :=
  if mode = 0 then (if al then (l.length : Int) else a + 1, true)
  else if mode = 1 then (if al then 0 else a, true)
  else if mode = 2 then (l.length, hidden29 t id sib m l al)
  else if mode = 3 then (0, hiding29 t id sib m l al)
  else (if hidden29 t id sib m l al then (l.length : Int) else 0, hidden29 t id sib m l al || hiding29 t id sib m l al)
theorem sm_way (h : t.Ok) (hm : m.Ok) (hl : l.length < 1000000) (ha : fits .i64 (a + 1)) {mode : Int} (h0 : 0 ≤ mode) (h4 : mode ≤ 4) : TSpM (wayF mode) (qD l al a :: wayC mode) (M29 t id sib m l al a) (.tup [.int .i64 (wayR t id sib m l al a mode).1, .bool (wayR t id sib m l al a mode).2]) (M29 t id sib m l al a) := by
  have : mode = 0 ∨ mode = 1 ∨ mode = 2 ∨ mode = 3 ∨ mode = 4 := by omega
  rcases this with rfl | rfl | rfl | rfl | rfl
  · exact sm_ways_3 ha
  · exact sm_ways_4
  · exact sm_ways_1 h hm hl
  · exact sm_ways_2 h hm hl
  · exact sm_ways_5 h hm hl
theorem way_at {mode : Int} (h0 : 0 ≤ mode) (h4 : mode ≤ 4) : partD [.fn 58 [], .fn 59 [], .fn 56 [], .fn 57 [], .fn 60 [.box 9 0, .box 10 0]] (mode.toNat * 1) (some 1) = some (.agg [.fn (wayF mode) (wayC mode)]) := by
  have : mode = 0 ∨ mode = 1 ∨ mode = 2 ∨ mode = 3 ∨ mode = 4 := by omega
  rcases this with rfl | rfl | rfl | rfl | rfl <;> rfl
theorem sm_ways : TSpM 38 [] [] (.agg [.fn 58 [], .fn 59 [], .fn 56 [], .fn 57 [], .fn 60 [.box 0 0, .box 1 0]]) [.cells [.fn 56 []], .cells [.fn 57 []]] := by
  refine spm_stack_ways (by rfl) ?_
  dsimp only [c_stack_ways, r_stack_ways, run_skip, run_reg, plainB, ifB_true, run_seq, run_blk, run_exit, run_ret, run_ite, iteR, regK, thenK_nrm, thenK_exit, thenK_ret, thenR_nrm, thenR_exit, thenR_ret, blkK, keepS, keepE, runOps_nil, runOps_cons, goG_some, fpOk, foot, entOf, allN, memN, goOn_ok, goOn_call, goOn_row, goOn_arr, goOn_ask, goOn_put, goOn_prm, goOn_callK, goOn_callC, goOn_all, guardP, guardO, notInO, stepF, stepLd, stepSt, stepIxs, stepIxa, stepLen, stepApp, stepCpy, stepPick, stepSls, stepSst, stepSla, bareZ, evX, evL, evB, rd, get, subG, memG, freshG, notInG, hyps, gob, impP, allP, partD, partOf, isOne, isPtr, nth, takeN, dropN, cellsD, lenB, fillD, thirds, entN, setE, sizeE, addE, setL, setN, putE, env0, eqCs, eqAux, eqC, bA, bO, bN, bE, negB, kEq, isShr, lendL, lend, frz, frzL, zRow, closed, closedL, rowsOf, binI, retK, retG, atRet, retD, lendO, resL, resD, oneD, renD, renL, renE, renEs, rho, putAll, entsN, List.append, List.nil_append, List.cons_append, List.append_nil, cond, Nat.reduceBEq, Nat.reduceAdd, Nat.beq]
  exact Rt.pick [1, 2] rfl rfl rfl
end

/-- What DeleteFunc leaves, as rows that nobody writes. -/
theorem sm_Delete29 {l : List Int} (hne : l ≠ []) (hl : l.length < 1000000) {ver : Nat} {id : Int} :
    TSpM 28 [.own 0 ver, .fn 30 [.box 1 0]] [.arr 37 1 ver (iL l), .cells [.int .u32 id]] (.ls 1 (iL (l.filter fun x => !decide (x = id)))) [.gone, .cells [.int .u32 id]] :=
  (sm_DeleteFunc29 hne hl).to (Rt.frz (q := [ver + 1 = ver + 1]) (by rfl) (by simp))
end Go.AM
