
/- Chapter 54: BufferForgets. -/
import Derived.Test.YtnhogggpchcbjaaT15
set_option linter.all false
namespace Go.AM
open Go Go.Proofs Go.RowKit

theorem right_app (a b : Bs) : rightB (a ++ b) = (rightB a && rightB b) := by unfold rightB; rw [List.all_append]
theorem right_rep {s : Bs} (h : rightB s = true) : ∀ c, rightB (Lib.repeatL s c) = true
  | 0 => rfl
  | c + 1 => by simp only [Lib.repeatL]; rw [right_app, h, right_rep h c]; rfl
/-- So many texts, each one byte longer than the one ahead. -/
structure Grow (L : List Bs) (i : Nat) : Prop where
  len : L.length = min i 256 + 1
  at_ : ∀ j t, L[j]? = some t → t.length + min i 256 = i + j
theorem grow_step {L : List Bs} {i : Nat} (h : Grow L i) {x : Bs} (hx : x.length = i + 1) : Grow (withR ⟨L, (L.length : Int) - 1⟩ x).L (i + 1) ∧ (withR ⟨L, (L.length : Int) - 1⟩ x).at_ = ((withR ⟨L, (L.length : Int) - 1⟩ x).L.length : Int) - 1 := by
  have hl := h.len
  refine ⟨?_, rfl⟩
  show Grow (withL ⟨L, (L.length : Int) - 1⟩ x) (i + 1)
  unfold withL
  dsimp only
  rw [show ((L.length : Int) - 1 + 1).toNat = L.length by omega, List.take_length]
  have hget : ∀ j t, (L ++ [x])[j]? = some t → t.length + min i 256 = i + j := fun j t ht => by
    rw [List.getElem?_append] at ht
    split at ht
    · exact h.at_ j t ht
    · rename_i hj
      have hj2 : j - L.length = 0 := by
        have := (List.getElem?_eq_some_iff.1 ht).1; simp at this; omega
      rw [hj2] at ht
      simp at ht; subst ht
      omega
  by_cases hi : i < 256
  · rw [if_neg (by simp; omega)]
    exact ⟨by simp; omega, fun j t ht => by have := hget j t ht; omega⟩
  · rw [if_pos (by simp; omega)]
    refine ⟨by simp; omega, fun j t ht => ?_⟩
    rw [List.getElem?_drop] at ht
    have := hget _ t ht
    omega

theorem sp_law54_BufferForgets : TSp 9 [] (.bool true) := by
  refine spo_law54_BufferForgets (by rfl) ?_
  dsimp only [c_law54_BufferForgets, r_law54_BufferForgets, run_skip, run_reg, plainB, ifB_true, run_seq, run_blk, run_exit, run_ret, run_ite, iteR, regK, thenK_nrm, thenK_exit, thenK_ret, thenR_nrm, thenR_exit, thenR_ret, blkK, keepS, keepE, runOps_nil, runOps_cons, goG_some, fpOk, foot, entOf, allN, memN, goOn_ok, goOn_call, goOn_row, goOn_arr, goOn_ask, goOn_put, guardP, guardO, notInO, stepF, stepLd, stepSt, stepIxs, stepIxa, stepLen, stepApp, stepCpy, stepPick, stepSls, stepSst, stepSla, evX, evL, evB, rd, get, subG, memG, freshG, notInG, hyps, gob, impP, allP, partD, partOf, isOne, isPtr, nth, takeN, dropN, cellsD, lenB, fillD, thirds, entN, setE, sizeE, addE, setL, setN, putE, env0, eqCs, eqAux, eqC, bA, bO, bN, bE, negB, kEq, isShr, lendL, lend, frz, frzL, zRow, closed, closedL, rowsOf, binI, retK, retG, atRet, retD, lendO, resL, resD, oneD, renD, renL, renE, renEs, rho, putAll, entsN, List.append, List.nil_append, List.cons_append, List.append_nil, cond, Nat.reduceBEq, Nat.reduceAdd, Nat.beq]
  refine call_pure (sp_buffer_New (s := []) (by decide)) ?_
  rw [new_ok (s := []) (by decide) (by decide)]
  dsimp only [retB, buD, run_skip, run_reg, plainB, ifB_true, run_seq, run_blk, run_exit, run_ret, run_ite, iteR, regK, thenK_nrm, thenK_exit, thenK_ret, thenR_nrm, thenR_exit, thenR_ret, blkK, keepS, keepE, runOps_nil, runOps_cons, goG_some, fpOk, foot, entOf, allN, memN, goOn_ok, goOn_call, goOn_row, goOn_arr, goOn_ask, goOn_put, guardP, guardO, notInO, stepF, stepLd, stepSt, stepIxs, stepIxa, stepLen, stepApp, stepCpy, stepPick, stepSls, stepSst, stepSla, evX, evL, evB, rd, get, subG, memG, freshG, notInG, hyps, gob, impP, allP, partD, partOf, isOne, isPtr, nth, takeN, dropN, cellsD, lenB, fillD, thirds, entN, setE, sizeE, addE, setL, setN, putE, env0, eqCs, eqAux, eqC, bA, bO, bN, bE, negB, kEq, isShr, lendL, lend, frz, frzL, zRow, closed, closedL, rowsOf, binI, retK, retG, atRet, retD, lendO, resL, resD, oneD, renD, renL, renE, renEs, rho, putAll, entsN, List.append, List.nil_append, List.cons_append, List.append_nil, cond, Nat.reduceBEq, Nat.reduceAdd, Nat.beq]
  refine loop_ind (α := {x : Nat × Bu × List Bs // x.1 ≤ 300 ∧ Rel x.2.1 ⟨x.2.2, (x.2.2.length : Int) - 1⟩ x.1 ∧ Grow x.2.2 x.1})
    (fun x => ⟨[(1, [], .box 0 0), (2, [], .int .i64 0), (20, [], .int .i64 x.1.1)], [.cells [.ls 3 (x.1.2.1.past.map spD), .ls 3 (x.1.2.1.again.map spD), .str x.1.2.1.text]]⟩) (fun x => 300 - x.1.1) ?_ ⟨(0, ⟨[], [], []⟩, [[]]), by omega, rel_new [], ⟨rfl, fun j t h => by cases j <;> simp at h; subst h; rfl⟩⟩ rfl
  rintro ⟨⟨i, b, L⟩, hi, hr, hgr⟩ I ih
  dsimp only at hi hr hgr
  dsimp only [run_skip, run_reg, plainB, ifB_true, run_seq, run_blk, run_exit, run_ret, run_ite, iteR, regK, thenK_nrm, thenK_exit, thenK_ret, thenR_nrm, thenR_exit, thenR_ret, blkK, keepS, keepE, runOps_nil, runOps_cons, goG_some, fpOk, foot, entOf, allN, memN, goOn_ok, goOn_call, goOn_row, goOn_arr, goOn_ask, goOn_put, guardP, guardO, notInO, stepF, stepLd, stepSt, stepIxs, stepIxa, stepLen, stepApp, stepCpy, stepPick, stepSls, stepSst, stepSla, evX, evL, evB, rd, get, subG, memG, freshG, notInG, hyps, gob, impP, allP, partD, partOf, isOne, isPtr, nth, takeN, dropN, cellsD, lenB, fillD, thirds, entN, setE, sizeE, addE, setL, setN, putE, env0, eqCs, eqAux, eqC, bA, bO, bN, bE, negB, kEq, isShr, lendL, lend, frz, frzL, zRow, closed, closedL, rowsOf, binI, retK, retG, atRet, retD, lendO, resL, resD, oneD, renD, renL, renE, renEs, rho, putAll, entsN, List.append, List.nil_append, List.cons_append, List.append_nil, cond, Nat.reduceBEq, Nat.reduceAdd, Nat.beq]
  have hg := hr.good (by omega)
  have htx : b.text.length = i := by
    have h1 := hr.rb.get
    have h2 := hgr.len
    rw [hr.tx] at h1
    have h3 := hgr.at_ _ _ h1
    dsimp only at h3
    omega
  refine ⟨fun hin => ?_, fun hin => ?_⟩
  · have hin : i < 300 := by simp at hin; omega
    refine call_pure (sp_buffer_Buffer_Insert (b := b) (at_ := 0) (s := [97]) hg.ok (by simp)) ?_
    dsimp only [retB, buD, run_skip, run_reg, plainB, ifB_true, run_seq, run_blk, run_exit, run_ret, run_ite, iteR, regK, thenK_nrm, thenK_exit, thenK_ret, thenR_nrm, thenR_exit, thenR_ret, blkK, keepS, keepE, runOps_nil, runOps_cons, goG_some, fpOk, foot, entOf, allN, memN, goOn_ok, goOn_call, goOn_row, goOn_arr, goOn_ask, goOn_put, guardP, guardO, notInO, stepF, stepLd, stepSt, stepIxs, stepIxa, stepLen, stepApp, stepCpy, stepPick, stepSls, stepSst, stepSla, evX, evL, evB, rd, get, subG, memG, freshG, notInG, hyps, gob, impP, allP, partD, partOf, isOne, isPtr, nth, takeN, dropN, cellsD, lenB, fillD, thirds, entN, setE, sizeE, addE, setL, setN, putE, env0, eqCs, eqAux, eqC, bA, bO, bN, bE, negB, kEq, isShr, lendL, lend, frz, frzL, zRow, closed, closedL, rowsOf, binI, retK, retG, atRet, retD, lendO, resL, resD, oneD, renD, renL, renE, renEs, rho, putAll, entsN, List.append, List.nil_append, List.cons_append, List.append_nil, cond, Nat.reduceBEq, Nat.reduceAdd, Nat.beq]
    obtain ⟨h1, h2⟩ := hr.ins 0 [97]
    have e := insR_ok (d := ⟨L, (L.length : Int) - 1⟩) (at_ := 0) (s := [97]) (by simp) (by rw [hr.tx]; omega) (by decide) (by rw [hr.tx]; simp; omega)
    rw [hr.tx] at e
    obtain ⟨h3, h4⟩ := grow_step hgr (x := b.text.take (Int.toNat 0) ++ [97] ++ b.text.drop (Int.toNat 0)) (by simp; omega)
    rw [e] at h1 h2
    dsimp only at h1 h2
    rw [← h1]
    refine ⟨fun h => absurd h (by simp), fun _ => ?_⟩
    refine ⟨by simp only [fits]; omega, ?_⟩
    refine again (ih ⟨(i + 1, (insB b 0 [97]).1, (withR ⟨L, (L.length : Int) - 1⟩ (b.text.take (Int.toNat 0) ++ [97] ++ b.text.drop (Int.toNat 0))).L), by dsimp only; omega, h2.to (by dsimp only; rw [← h4]), h3⟩ (by dsimp only; omega)) ?_ ?_ rfl rfl
    · exact ⟨rfl, rfl, rfl, trivial⟩
    · exact ⟨rfl, trivial⟩
  have hi : i = 300 := by simp at hin; omega
  subst hi
  clear ih I
  have hlen := hgr.len
  refine loop_ind (α := {x : Nat × Bu // x.1 ≤ 256 ∧ Rel x.2 ⟨L, 256 - (x.1 : Int)⟩ 300})
    (fun x => ⟨[(1, [], .box 0 0), (2, [], .int .i64 0), (5, [], .int .i64 x.1.1)], [.cells [.ls 3 (x.1.2.past.map spD), .ls 3 (x.1.2.again.map spD), .str x.1.2.text]]⟩) (fun x => 256 - x.1.1) ?_ ⟨(0, b), by dsimp only; omega, hr.to (by dsimp only; rw [show (L.length : Int) - 1 = 256 - ((0 : Nat) : Int) by omega])⟩ rfl
  rintro ⟨⟨n, c⟩, hn, hrc⟩ J jh
  dsimp only at hn hrc
  dsimp only [run_skip, run_reg, plainB, ifB_true, run_seq, run_blk, run_exit, run_ret, run_ite, iteR, regK, thenK_nrm, thenK_exit, thenK_ret, thenR_nrm, thenR_exit, thenR_ret, blkK, keepS, keepE, runOps_nil, runOps_cons, goG_some, fpOk, foot, entOf, allN, memN, goOn_ok, goOn_call, goOn_row, goOn_arr, goOn_ask, goOn_put, guardP, guardO, notInO, stepF, stepLd, stepSt, stepIxs, stepIxa, stepLen, stepApp, stepCpy, stepPick, stepSls, stepSst, stepSla, evX, evL, evB, rd, get, subG, memG, freshG, notInG, hyps, gob, impP, allP, partD, partOf, isOne, isPtr, nth, takeN, dropN, cellsD, lenB, fillD, thirds, entN, setE, sizeE, addE, setL, setN, putE, env0, eqCs, eqAux, eqC, bA, bO, bN, bE, negB, kEq, isShr, lendL, lend, frz, frzL, zRow, closed, closedL, rowsOf, binI, retK, retG, atRet, retD, lendO, resL, resD, oneD, renD, renL, renE, renEs, rho, putAll, entsN, List.append, List.nil_append, List.cons_append, List.append_nil, cond, Nat.reduceBEq, Nat.reduceAdd, Nat.beq]
  have hgc := hrc.good (by omega)
  have hu := hrc.undo
  dsimp only at hu
  refine ⟨fun _ => ?_, fun h => absurd h (by simp; omega)⟩
  refine call_pure (sp_buffer_Buffer_Undo (b := c) hgc.ok hgc.undo) ?_
  dsimp only [retO, buD, run_skip, run_reg, plainB, ifB_true, run_seq, run_blk, run_exit, run_ret, run_ite, iteR, regK, thenK_nrm, thenK_exit, thenK_ret, thenR_nrm, thenR_exit, thenR_ret, blkK, keepS, keepE, runOps_nil, runOps_cons, goG_some, fpOk, foot, entOf, allN, memN, goOn_ok, goOn_call, goOn_row, goOn_arr, goOn_ask, goOn_put, guardP, guardO, notInO, stepF, stepLd, stepSt, stepIxs, stepIxa, stepLen, stepApp, stepCpy, stepPick, stepSls, stepSst, stepSla, evX, evL, evB, rd, get, subG, memG, freshG, notInG, hyps, gob, impP, allP, partD, partOf, isOne, isPtr, nth, takeN, dropN, cellsD, lenB, fillD, thirds, entN, setE, sizeE, addE, setL, setN, putE, env0, eqCs, eqAux, eqC, bA, bO, bN, bE, negB, kEq, isShr, lendL, lend, frz, frzL, zRow, closed, closedL, rowsOf, binI, retK, retG, atRet, retD, lendO, resL, resD, oneD, renD, renL, renE, renEs, rho, putAll, entsN, List.append, List.nil_append, List.cons_append, List.append_nil, cond, Nat.reduceBEq, Nat.reduceAdd, Nat.beq]
  refine ⟨fun hb => ?_, fun hb => ?_⟩
  rotate_left
  · have hin : n < 256 := by
      by_cases h : n < 256
      · exact h
      · rw [if_pos (by omega)] at hu
        rw [hu] at hb; simp at hb
    rw [if_neg (by omega)] at hu
    refine ⟨by simp only [fits]; omega, ?_⟩
    refine again (jh ⟨(n + 1, (undoB c).1), by dsimp only; omega, hu.2.to (by dsimp only; rw [show (256 : Int) - (n : Int) - 1 = 256 - ((n + 1 : Nat) : Int) by omega])⟩ (by dsimp only; omega)) ?_ ?_ rfl rfl
    · exact ⟨rfl, rfl, rfl, trivial⟩
    · exact ⟨rfl, trivial⟩
  have hin : n = 256 := by
    by_cases h : n = 256
    · exact h
    · rw [if_neg (by omega)] at hu
      rw [hu.1] at hb; simp at hb
  subst hin
  have h44 : c.text.length = 44 := by
    have h1 := hrc.rb.get
    rw [hrc.tx] at h1
    have h3 := hgr.at_ _ _ h1
    dsimp only at h3
    omega
  have r1 : (Lib.repeatL [120] 65536).length = 65536 := Lib.repeatL_length [120] 65536
  have r2 : (Lib.repeatL [120] 65537).length = 65537 := Lib.repeatL_length [120] 65537
  have r3 : (Lib.repeatL [9] 65537).length = 65537 := Lib.repeatL_length [9] 65537
  have q1 : rightB (Lib.repeatL [120] 65536) = true := right_rep (by decide) _
  have hn2 : ∀ {s : Bs}, s.length = 65537 → newB s = (bu0, 4) := fun h => by unfold newB; rw [if_pos (by omega)]
  refine call_pure (sp_strings_Repeat (s := [120]) (c := 65536) (by omega) (by simp)) ?_
  generalize Lib.repeatL [120] 65536 = u1 at *
  dsimp only [run_skip, run_reg, plainB, ifB_true, run_seq, run_blk, run_exit, run_ret, run_ite, iteR, regK, thenK_nrm, thenK_exit, thenK_ret, thenR_nrm, thenR_exit, thenR_ret, blkK, keepS, keepE, runOps_nil, runOps_cons, goG_some, fpOk, foot, entOf, allN, memN, goOn_ok, goOn_call, goOn_row, goOn_arr, goOn_ask, goOn_put, guardP, guardO, notInO, stepF, stepLd, stepSt, stepIxs, stepIxa, stepLen, stepApp, stepCpy, stepPick, stepSls, stepSst, stepSla, evX, evL, evB, rd, get, subG, memG, freshG, notInG, hyps, gob, impP, allP, partD, partOf, isOne, isPtr, nth, takeN, dropN, cellsD, lenB, fillD, thirds, entN, setE, sizeE, addE, setL, setN, putE, env0, eqCs, eqAux, eqC, bA, bO, bN, bE, negB, kEq, isShr, lendL, lend, frz, frzL, zRow, closed, closedL, rowsOf, binI, retK, retG, atRet, retD, lendO, resL, resD, oneD, renD, renL, renE, renEs, rho, putAll, entsN, List.append, List.nil_append, List.cons_append, List.append_nil, cond, Nat.reduceBEq, Nat.reduceAdd, Nat.beq]
  refine call_pure (sp_buffer_New (s := u1) (by omega)) ?_
  rw [new_ok (by omega) q1]
  dsimp only [retB, buD, run_skip, run_reg, plainB, ifB_true, run_seq, run_blk, run_exit, run_ret, run_ite, iteR, regK, thenK_nrm, thenK_exit, thenK_ret, thenR_nrm, thenR_exit, thenR_ret, blkK, keepS, keepE, runOps_nil, runOps_cons, goG_some, fpOk, foot, entOf, allN, memN, goOn_ok, goOn_call, goOn_row, goOn_arr, goOn_ask, goOn_put, guardP, guardO, notInO, stepF, stepLd, stepSt, stepIxs, stepIxa, stepLen, stepApp, stepCpy, stepPick, stepSls, stepSst, stepSla, evX, evL, evB, rd, get, subG, memG, freshG, notInG, hyps, gob, impP, allP, partD, partOf, isOne, isPtr, nth, takeN, dropN, cellsD, lenB, fillD, thirds, entN, setE, sizeE, addE, setL, setN, putE, env0, eqCs, eqAux, eqC, bA, bO, bN, bE, negB, kEq, isShr, lendL, lend, frz, frzL, zRow, closed, closedL, rowsOf, binI, retK, retG, atRet, retD, lendO, resL, resD, oneD, renD, renL, renE, renEs, rho, putAll, entsN, List.append, List.nil_append, List.cons_append, List.append_nil, cond, Nat.reduceBEq, Nat.reduceAdd, Nat.beq]
  refine call_pure (sp_strings_Repeat (s := [120]) (c := 65537) (by omega) (by simp)) ?_
  generalize Lib.repeatL [120] 65537 = u2 at *
  dsimp only [run_skip, run_reg, plainB, ifB_true, run_seq, run_blk, run_exit, run_ret, run_ite, iteR, regK, thenK_nrm, thenK_exit, thenK_ret, thenR_nrm, thenR_exit, thenR_ret, blkK, keepS, keepE, runOps_nil, runOps_cons, goG_some, fpOk, foot, entOf, allN, memN, goOn_ok, goOn_call, goOn_row, goOn_arr, goOn_ask, goOn_put, guardP, guardO, notInO, stepF, stepLd, stepSt, stepIxs, stepIxa, stepLen, stepApp, stepCpy, stepPick, stepSls, stepSst, stepSla, evX, evL, evB, rd, get, subG, memG, freshG, notInG, hyps, gob, impP, allP, partD, partOf, isOne, isPtr, nth, takeN, dropN, cellsD, lenB, fillD, thirds, entN, setE, sizeE, addE, setL, setN, putE, env0, eqCs, eqAux, eqC, bA, bO, bN, bE, negB, kEq, isShr, lendL, lend, frz, frzL, zRow, closed, closedL, rowsOf, binI, retK, retG, atRet, retD, lendO, resL, resD, oneD, renD, renL, renE, renEs, rho, putAll, entsN, List.append, List.nil_append, List.cons_append, List.append_nil, cond, Nat.reduceBEq, Nat.reduceAdd, Nat.beq]
  refine call_pure (sp_buffer_New (s := u2) (by omega)) ?_
  rw [hn2 r2]
  dsimp only [retB, buD, bu0, run_skip, run_reg, plainB, ifB_true, run_seq, run_blk, run_exit, run_ret, run_ite, iteR, regK, thenK_nrm, thenK_exit, thenK_ret, thenR_nrm, thenR_exit, thenR_ret, blkK, keepS, keepE, runOps_nil, runOps_cons, goG_some, fpOk, foot, entOf, allN, memN, goOn_ok, goOn_call, goOn_row, goOn_arr, goOn_ask, goOn_put, guardP, guardO, notInO, stepF, stepLd, stepSt, stepIxs, stepIxa, stepLen, stepApp, stepCpy, stepPick, stepSls, stepSst, stepSla, evX, evL, evB, rd, get, subG, memG, freshG, notInG, hyps, gob, impP, allP, partD, partOf, isOne, isPtr, nth, takeN, dropN, cellsD, lenB, fillD, thirds, entN, setE, sizeE, addE, setL, setN, putE, env0, eqCs, eqAux, eqC, bA, bO, bN, bE, negB, kEq, isShr, lendL, lend, frz, frzL, zRow, closed, closedL, rowsOf, binI, retK, retG, atRet, retD, lendO, resL, resD, oneD, renD, renL, renE, renEs, rho, putAll, entsN, List.append, List.nil_append, List.cons_append, List.append_nil, cond, Nat.reduceBEq, Nat.reduceAdd, Nat.beq]
  refine call_pure (sp_buffer_Buffer_Insert (b := ⟨[], [], u1⟩) (at_ := 3) (s := [121]) ⟨by simp, by simp, by dsimp only; omega⟩ (by simp)) ?_
  have hin4 : (insB ⟨[], [], u1⟩ 3 [121]).2 = 4 := by
    unfold insB
    rw [if_neg (by simp), if_neg (by simp; omega), if_neg (by decide), if_pos (by simp; omega)]
  dsimp only [retB, buD, run_skip, run_reg, plainB, ifB_true, run_seq, run_blk, run_exit, run_ret, run_ite, iteR, regK, thenK_nrm, thenK_exit, thenK_ret, thenR_nrm, thenR_exit, thenR_ret, blkK, keepS, keepE, runOps_nil, runOps_cons, goG_some, fpOk, foot, entOf, allN, memN, goOn_ok, goOn_call, goOn_row, goOn_arr, goOn_ask, goOn_put, guardP, guardO, notInO, stepF, stepLd, stepSt, stepIxs, stepIxa, stepLen, stepApp, stepCpy, stepPick, stepSls, stepSst, stepSla, evX, evL, evB, rd, get, subG, memG, freshG, notInG, hyps, gob, impP, allP, partD, partOf, isOne, isPtr, nth, takeN, dropN, cellsD, lenB, fillD, thirds, entN, setE, sizeE, addE, setL, setN, putE, env0, eqCs, eqAux, eqC, bA, bO, bN, bE, negB, kEq, isShr, lendL, lend, frz, frzL, zRow, closed, closedL, rowsOf, binI, retK, retG, atRet, retD, lendO, resL, resD, oneD, renD, renL, renE, renEs, rho, putAll, entsN, List.append, List.nil_append, List.cons_append, List.append_nil, cond, Nat.reduceBEq, Nat.reduceAdd, Nat.beq]
  rw [hin4]
  refine call_pure (sp_strings_Repeat (s := [9]) (c := 65537) (by omega) (by simp)) ?_
  generalize Lib.repeatL [9] 65537 = u3 at *
  dsimp only [run_skip, run_reg, plainB, ifB_true, run_seq, run_blk, run_exit, run_ret, run_ite, iteR, regK, thenK_nrm, thenK_exit, thenK_ret, thenR_nrm, thenR_exit, thenR_ret, blkK, keepS, keepE, runOps_nil, runOps_cons, goG_some, fpOk, foot, entOf, allN, memN, goOn_ok, goOn_call, goOn_row, goOn_arr, goOn_ask, goOn_put, guardP, guardO, notInO, stepF, stepLd, stepSt, stepIxs, stepIxa, stepLen, stepApp, stepCpy, stepPick, stepSls, stepSst, stepSla, evX, evL, evB, rd, get, subG, memG, freshG, notInG, hyps, gob, impP, allP, partD, partOf, isOne, isPtr, nth, takeN, dropN, cellsD, lenB, fillD, thirds, entN, setE, sizeE, addE, setL, setN, putE, env0, eqCs, eqAux, eqC, bA, bO, bN, bE, negB, kEq, isShr, lendL, lend, frz, frzL, zRow, closed, closedL, rowsOf, binI, retK, retG, atRet, retD, lendO, resL, resD, oneD, renD, renL, renE, renEs, rho, putAll, entsN, List.append, List.nil_append, List.cons_append, List.append_nil, cond, Nat.reduceBEq, Nat.reduceAdd, Nat.beq]
  refine call_pure (sp_buffer_New (s := u3) (by omega)) ?_
  rw [hn2 r3]
  dsimp only [retB, buD, bu0, run_skip, run_reg, plainB, ifB_true, run_seq, run_blk, run_exit, run_ret, run_ite, iteR, regK, thenK_nrm, thenK_exit, thenK_ret, thenR_nrm, thenR_exit, thenR_ret, blkK, keepS, keepE, runOps_nil, runOps_cons, goG_some, fpOk, foot, entOf, allN, memN, goOn_ok, goOn_call, goOn_row, goOn_arr, goOn_ask, goOn_put, guardP, guardO, notInO, stepF, stepLd, stepSt, stepIxs, stepIxa, stepLen, stepApp, stepCpy, stepPick, stepSls, stepSst, stepSla, evX, evL, evB, rd, get, subG, memG, freshG, notInG, hyps, gob, impP, allP, partD, partOf, isOne, isPtr, nth, takeN, dropN, cellsD, lenB, fillD, thirds, entN, setE, sizeE, addE, setL, setN, putE, env0, eqCs, eqAux, eqC, bA, bO, bN, bE, negB, kEq, isShr, lendL, lend, frz, frzL, zRow, closed, closedL, rowsOf, binI, retK, retG, atRet, retD, lendO, resL, resD, oneD, renD, renL, renE, renEs, rho, putAll, entsN, List.append, List.nil_append, List.cons_append, List.append_nil, cond, Nat.reduceBEq, Nat.reduceAdd, Nat.beq]
  refine call_pure (fun _ => sp_buffer_Buffer_Len (b := c)) ?_
  dsimp only [buD, run_skip, run_reg, plainB, ifB_true, run_seq, run_blk, run_exit, run_ret, run_ite, iteR, regK, thenK_nrm, thenK_exit, thenK_ret, thenR_nrm, thenR_exit, thenR_ret, blkK, keepS, keepE, runOps_nil, runOps_cons, goG_some, fpOk, foot, entOf, allN, memN, goOn_ok, goOn_call, goOn_row, goOn_arr, goOn_ask, goOn_put, guardP, guardO, notInO, stepF, stepLd, stepSt, stepIxs, stepIxa, stepLen, stepApp, stepCpy, stepPick, stepSls, stepSst, stepSla, evX, evL, evB, rd, get, subG, memG, freshG, notInG, hyps, gob, impP, allP, partD, partOf, isOne, isPtr, nth, takeN, dropN, cellsD, lenB, fillD, thirds, entN, setE, sizeE, addE, setL, setN, putE, env0, eqCs, eqAux, eqC, bA, bO, bN, bE, negB, kEq, isShr, lendL, lend, frz, frzL, zRow, closed, closedL, rowsOf, binI, retK, retG, atRet, retD, lendO, resL, resD, oneD, renD, renL, renE, renEs, rho, putAll, entsN, List.append, List.nil_append, List.cons_append, List.append_nil, cond, Nat.reduceBEq, Nat.reduceAdd, Nat.beq]
  refine call_pure (fun _ => sp_buffer_Buffer_Len (b := ⟨[], [], u1⟩)) ?_
  dsimp only [buD, run_skip, run_reg, plainB, ifB_true, run_seq, run_blk, run_exit, run_ret, run_ite, iteR, regK, thenK_nrm, thenK_exit, thenK_ret, thenR_nrm, thenR_exit, thenR_ret, blkK, keepS, keepE, runOps_nil, runOps_cons, goG_some, fpOk, foot, entOf, allN, memN, goOn_ok, goOn_call, goOn_row, goOn_arr, goOn_ask, goOn_put, guardP, guardO, notInO, stepF, stepLd, stepSt, stepIxs, stepIxa, stepLen, stepApp, stepCpy, stepPick, stepSls, stepSst, stepSla, evX, evL, evB, rd, get, subG, memG, freshG, notInG, hyps, gob, impP, allP, partD, partOf, isOne, isPtr, nth, takeN, dropN, cellsD, lenB, fillD, thirds, entN, setE, sizeE, addE, setL, setN, putE, env0, eqCs, eqAux, eqC, bA, bO, bN, bE, negB, kEq, isShr, lendL, lend, frz, frzL, zRow, closed, closedL, rowsOf, binI, retK, retG, atRet, retD, lendO, resL, resD, oneD, renD, renL, renE, renEs, rho, putAll, entsN, List.append, List.nil_append, List.cons_append, List.append_nil, cond, Nat.reduceBEq, Nat.reduceAdd, Nat.beq]
  refine call_pure (fun _ => sp_law54_awake) ?_
  dsimp only [run_skip, run_reg, plainB, ifB_true, run_seq, run_blk, run_exit, run_ret, run_ite, iteR, regK, thenK_nrm, thenK_exit, thenK_ret, thenR_nrm, thenR_exit, thenR_ret, blkK, keepS, keepE, runOps_nil, runOps_cons, goG_some, fpOk, foot, entOf, allN, memN, goOn_ok, goOn_call, goOn_row, goOn_arr, goOn_ask, goOn_put, guardP, guardO, notInO, stepF, stepLd, stepSt, stepIxs, stepIxa, stepLen, stepApp, stepCpy, stepPick, stepSls, stepSst, stepSla, evX, evL, evB, rd, get, subG, memG, freshG, notInG, hyps, gob, impP, allP, partD, partOf, isOne, isPtr, nth, takeN, dropN, cellsD, lenB, fillD, thirds, entN, setE, sizeE, addE, setL, setN, putE, env0, eqCs, eqAux, eqC, bA, bO, bN, bE, negB, kEq, isShr, lendL, lend, frz, frzL, zRow, closed, closedL, rowsOf, binI, retK, retG, atRet, retD, lendO, resL, resD, oneD, renD, renL, renE, renEs, rho, putAll, entsN, List.append, List.nil_append, List.cons_append, List.append_nil, cond, Nat.reduceBEq, Nat.reduceAdd, Nat.beq]
  exact congrArg D.bool (by rw [h44, r1]; simp)
end Go.AM
