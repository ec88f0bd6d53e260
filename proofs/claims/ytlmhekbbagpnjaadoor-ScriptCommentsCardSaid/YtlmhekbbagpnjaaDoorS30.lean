
/- Chapter 63: ScriptComments walked. -/
import Derived.Test.YtlmhekbbagpnjaaDoorS27
import Derived.Test.YtlmhekbbagpnjaaDoorS25
import Derived.Test.YtlmhekbbagpnjaaDoorS20
import Derived.Test.YtlmhekbbagpnjaaDoorS19
set_option linter.all false
set_option maxRecDepth 100000
namespace Go.AM
open Go Go.Proofs Go.RowKit

theorem sameB_shift : ∀ {l : List Cm} {e : Nat}, sameB false l (l.map (shiftC e)) = true
  | [], _ => rfl
  | c :: l, e => by simp [sameB, sameC, bN, shiftC, sameB_shift (l := l) (e := e)]
theorem Chkd.sizes' {c : Cm} (h : Chkd c) : c.nums.length < 9223372036854775808 ∧ c.words.length < 9223372036854775808 := by
  obtain ⟨k, hg⟩ := h.good
  have h1 := hg.ok.nums
  have h2 := hg.ok.words
  exact ⟨by omega, by omega⟩
theorem sp_law63_ScriptComments {s n : Bs} {b a : Int} (hb : 0 ≤ b ∧ b ≤ 255) (ha : 0 ≤ a ∧ a ≤ 255) : TSp 6 [.str s, .str n, .int .u8 b, .int .u8 a] (.bool true) := by
  refine spo_law63_ScriptComments (by rfl) ?_
  dsimp only [c_law63_ScriptComments, r_law63_ScriptComments, run_skip, run_reg, plainB, ifB_true, run_seq, run_blk, run_exit, run_ret, run_ite, iteR, regK, thenK_nrm, thenK_exit, thenK_ret, thenR_nrm, thenR_exit, thenR_ret, blkK, keepS, keepE, runOps_nil, runOps_cons, goG_some, fpOk, foot, entOf, allN, memN, goOn_ok, goOn_call, goOn_row, goOn_arr, goOn_ask, goOn_put, goOn_prm, goOn_callK, goOn_callC, goOn_all, guardP, guardO, notInO, stepF, stepLd, stepSt, stepIxs, stepIxa, stepLen, stepApp, stepCpy, stepPick, stepSls, stepSst, stepSla, bareZ, evX, evL, evB, rd, get, subG, memG, freshG, notInG, hyps, gob, impP, allP, partD, partOf, isOne, isPtr, nth, takeN, dropN, cellsD, lenB, fillD, thirds, entN, setE, sizeE, addE, setL, setN, putE, env0, eqCs, eqAux, eqC, bA, bO, bN, bE, negB, kEq, isShr, lendL, lend, frz, frzL, zRow, closed, closedL, rowsOf, binI, retK, retG, atRet, retD, lendO, resL, resD, oneD, renD, renL, renE, renEs, rho, putAll, entsN, List.append, List.nil_append, List.cons_append, List.append_nil, cond, Nat.reduceBEq, Nat.reduceAdd, Nat.beq]
  refine call_pure sp_law63_awake ?_
  dsimp only [run_skip, run_reg, plainB, ifB_true, run_seq, run_blk, run_exit, run_ret, run_ite, iteR, regK, thenK_nrm, thenK_exit, thenK_ret, thenR_nrm, thenR_exit, thenR_ret, blkK, keepS, keepE, runOps_nil, runOps_cons, goG_some, fpOk, foot, entOf, allN, memN, goOn_ok, goOn_call, goOn_row, goOn_arr, goOn_ask, goOn_put, goOn_prm, goOn_callK, goOn_callC, goOn_all, guardP, guardO, notInO, stepF, stepLd, stepSt, stepIxs, stepIxa, stepLen, stepApp, stepCpy, stepPick, stepSls, stepSst, stepSla, bareZ, evX, evL, evB, rd, get, subG, memG, freshG, notInG, hyps, gob, impP, allP, partD, partOf, isOne, isPtr, nth, takeN, dropN, cellsD, lenB, fillD, thirds, entN, setE, sizeE, addE, setL, setN, putE, env0, eqCs, eqAux, eqC, bA, bO, bN, bE, negB, kEq, isShr, lendL, lend, frz, frzL, zRow, closed, closedL, rowsOf, binI, retK, retG, atRet, retD, lendO, resL, resD, oneD, renD, renL, renE, renEs, rho, putAll, entsN, List.append, List.nil_append, List.cons_append, List.append_nil, cond, Nat.reduceBEq, Nat.reduceAdd, Nat.beq]
  refine ⟨fun h => by simp at h, fun _ => ⟨fun _ => rfl, fun hl => ?_⟩⟩
  simp only [Bool.or_eq_false_iff, decide_eq_false_iff_not] at hl
  have hs : s.length ≤ 8000 := by omega
  have hn : n.length ≤ 100 := by omega
  refine loop_ind (α := {i : Nat // i ≤ n.length ∧ (10 : UInt8) ∉ n.take i}) (fun i => ⟨[(0, [], .str s), (1, [], .str n), (2, [], .int .u8 b), (3, [], .int .u8 a), (9, [], .int .i64 i.1)], []⟩) (fun i => n.length - i.1) ?_ ⟨0, by simp⟩ rfl
  rintro ⟨i, h1, h2⟩ I ih
  dsimp only [run_skip, run_reg, plainB, ifB_true, run_seq, run_blk, run_exit, run_ret, run_ite, iteR, regK, thenK_nrm, thenK_exit, thenK_ret, thenR_nrm, thenR_exit, thenR_ret, blkK, keepS, keepE, runOps_nil, runOps_cons, goG_some, fpOk, foot, entOf, allN, memN, goOn_ok, goOn_call, goOn_row, goOn_arr, goOn_ask, goOn_put, goOn_prm, goOn_callK, goOn_callC, goOn_all, guardP, guardO, notInO, stepF, stepLd, stepSt, stepIxs, stepIxa, stepLen, stepApp, stepCpy, stepPick, stepSls, stepSst, stepSla, bareZ, evX, evL, evB, rd, get, subG, memG, freshG, notInG, hyps, gob, impP, allP, partD, partOf, isOne, isPtr, nth, takeN, dropN, cellsD, lenB, fillD, thirds, entN, setE, sizeE, addE, setL, setN, putE, env0, eqCs, eqAux, eqC, bA, bO, bN, bE, negB, kEq, isShr, lendL, lend, frz, frzL, zRow, closed, closedL, rowsOf, binI, retK, retG, atRet, retD, lendO, resL, resD, oneD, renD, renL, renE, renEs, rho, putAll, entsN, List.append, List.nil_append, List.cons_append, List.append_nil, cond, Nat.reduceBEq, Nat.reduceAdd, Nat.beq]
  refine ⟨fun hi => ?_, fun hi => ?_⟩
  · have hi : i < n.length := by simpa using hi
    refine ⟨⟨by omega, by omega⟩, fun h10 => rfl, fun h10 => ?_⟩
    refine ⟨by simp only [fits]; omega, ?_⟩
    refine again (ih ⟨i + 1, by omega, by
      rw [List.take_succ_eq_append_getElem hi]
      intro hm
      rcases List.mem_append.1 hm with hm | hm
      · exact h2 hm
      · simp only [List.mem_singleton] at hm
        have e : n.getD (i : Int).toNat 0 = n[i] := by simp [hi]
        rw [e, ← hm] at h10
        simp at h10⟩ (by dsimp only; omega)) ?_ ?_ rfl rfl
    · exact ⟨rfl, rfl, rfl, rfl, rfl, trivial⟩
    · trivial
  have hi : i = n.length := by simp at hi; omega
  subst hi
  rw [List.take_length] at h2
  obtain ⟨nb, rfl⟩ : ∃ nb : Nat, b = nb := ⟨b.toNat, by omega⟩
  obtain ⟨na, rfl⟩ : ∃ na : Nat, a = na := ⟨a.toNat, by omega⟩
  clear ih
  refine loop_ind (α := {k : Nat // k ≤ nb % 5}) (fun k => ⟨[(0, [], .str s), (1, [], .str n), (2, [], .int .u8 nb), (3, [], .int .u8 na), (10, [], .str (preT n k.1)), (11, [], .int .i64 (2 * k.1 : Nat)), (12, [], .int .i64 k.1)], []⟩) (fun k => nb % 5 - k.1) ?_ ⟨0, by simp⟩ rfl
  rintro ⟨k, k1⟩ I2 ih2
  dsimp only [run_skip, run_reg, plainB, ifB_true, run_seq, run_blk, run_exit, run_ret, run_ite, iteR, regK, thenK_nrm, thenK_exit, thenK_ret, thenR_nrm, thenR_exit, thenR_ret, blkK, keepS, keepE, runOps_nil, runOps_cons, goG_some, fpOk, foot, entOf, allN, memN, goOn_ok, goOn_call, goOn_row, goOn_arr, goOn_ask, goOn_put, goOn_prm, goOn_callK, goOn_callC, goOn_all, guardP, guardO, notInO, stepF, stepLd, stepSt, stepIxs, stepIxa, stepLen, stepApp, stepCpy, stepPick, stepSls, stepSst, stepSla, bareZ, evX, evL, evB, rd, get, subG, memG, freshG, notInG, hyps, gob, impP, allP, partD, partOf, isOne, isPtr, nth, takeN, dropN, cellsD, lenB, fillD, thirds, entN, setE, sizeE, addE, setL, setN, putE, env0, eqCs, eqAux, eqC, bA, bO, bN, bE, negB, kEq, isShr, lendL, lend, frz, frzL, zRow, closed, closedL, rowsOf, binI, retK, retG, atRet, retD, lendO, resL, resD, oneD, renD, renL, renE, renEs, rho, putAll, entsN, List.append, List.nil_append, List.cons_append, List.append_nil, cond, Nat.reduceBEq, Nat.reduceAdd, Nat.beq]
  have hpl := preT_len n k
  have hk4 : k ≤ 4 := by omega
  have hkm : k * (n.length + 3) ≤ 4 * (n.length + 3) := Nat.mul_le_mul_right _ hk4
  have h210 : [(10 : UInt8), 35].length = 2 := rfl
  have h110 : [(10 : UInt8)].length = 1 := rfl
  refine ⟨by simp only [fits]; omega, ⟨by omega, by omega⟩, fun hk => ?_, fun hk => ?_⟩
  · have hk : k < nb % 5 := by simp only [decide_eq_true_eq] at hk; omega
    refine ⟨by omega, by rw [List.length_append]; omega, by rw [List.length_append, List.length_append]; omega, by simp only [fits]; omega, by simp only [fits]; omega, ?_⟩
    refine again (ih2 ⟨k + 1, by omega⟩ (by dsimp only; omega)) ?_ ?_ rfl rfl
    · exact ⟨rfl, rfl, rfl, rfl, rfl, rfl, rfl, trivial⟩
    · trivial
  have hk : k = nb % 5 := by simp only [decide_eq_false_iff_not] at hk; omega
  clear ih2
  refine ⟨by omega, by rw [List.length_append]; omega, ?_⟩
  have hbl : (preT n k ++ s ++ [10]).length = (preT n k).length + s.length + 1 := by simp [Nat.add_assoc]
  generalize hbase : preT n k ++ s ++ [10] = base at *
  refine loop_ind (α := {j : Nat // j ≤ na % 5}) (fun j => ⟨[(0, [], .str s), (1, [], .str n), (3, [], .int .u8 na), (10, [], .str (postT n base j.1)), (11, [], .int .i64 (2 * k : Nat)), (13, [], .int .i64 j.1)], []⟩) (fun j => na % 5 - j.1) ?_ ⟨0, by simp⟩ rfl
  rintro ⟨j, j1⟩ I3 ih3
  dsimp only [run_skip, run_reg, plainB, ifB_true, run_seq, run_blk, run_exit, run_ret, run_ite, iteR, regK, thenK_nrm, thenK_exit, thenK_ret, thenR_nrm, thenR_exit, thenR_ret, blkK, keepS, keepE, runOps_nil, runOps_cons, goG_some, fpOk, foot, entOf, allN, memN, goOn_ok, goOn_call, goOn_row, goOn_arr, goOn_ask, goOn_put, goOn_prm, goOn_callK, goOn_callC, goOn_all, guardP, guardO, notInO, stepF, stepLd, stepSt, stepIxs, stepIxa, stepLen, stepApp, stepCpy, stepPick, stepSls, stepSst, stepSla, bareZ, evX, evL, evB, rd, get, subG, memG, freshG, notInG, hyps, gob, impP, allP, partD, partOf, isOne, isPtr, nth, takeN, dropN, cellsD, lenB, fillD, thirds, entN, setE, sizeE, addE, setL, setN, putE, env0, eqCs, eqAux, eqC, bA, bO, bN, bE, negB, kEq, isShr, lendL, lend, frz, frzL, zRow, closed, closedL, rowsOf, binI, retK, retG, atRet, retD, lendO, resL, resD, oneD, renD, renL, renE, renEs, rho, putAll, entsN, List.append, List.nil_append, List.cons_append, List.append_nil, cond, Nat.reduceBEq, Nat.reduceAdd, Nat.beq]
  have hpo := postT_len n base j
  have hj4 : j ≤ 4 := by omega
  have hjm : j * (n.length + 3) ≤ 4 * (n.length + 3) := Nat.mul_le_mul_right _ hj4
  have h235 : [(35 : UInt8), 32].length = 2 := rfl
  refine ⟨by simp only [fits]; omega, ⟨by omega, by omega⟩, fun hj => ?_, fun hj => ?_⟩
  · have hj : j < na % 5 := by simp only [decide_eq_true_eq] at hj; omega
    refine ⟨by omega, by rw [List.length_append]; omega, by rw [List.length_append, List.length_append]; omega, by simp only [fits]; omega, ?_⟩
    refine again (ih3 ⟨j + 1, by omega⟩ (by dsimp only; omega)) ?_ ?_ rfl rfl
    · exact ⟨rfl, rfl, rfl, rfl, rfl, rfl, trivial⟩
    · trivial
  have hj : j = na % 5 := by simp only [decide_eq_false_iff_not] at hj; omega
  clear ih3
  have hpc := parse_comments (f := lineP) hs hn h2 hk4 hj4
  rw [hbase] at hpc
  obtain ⟨p1, p2⟩ := parse_ok (s := s) (by omega)
  obtain ⟨p3, p4⟩ := parse_lines (f := lineP) s
  refine call_pure (sp_script_Parse (s := s) (by omega)) ?_
  dsimp only [resP, run_skip, run_reg, plainB, ifB_true, run_seq, run_blk, run_exit, run_ret, run_ite, iteR, regK, thenK_nrm, thenK_exit, thenK_ret, thenR_nrm, thenR_exit, thenR_ret, blkK, keepS, keepE, runOps_nil, runOps_cons, goG_some, fpOk, foot, entOf, allN, memN, goOn_ok, goOn_call, goOn_row, goOn_arr, goOn_ask, goOn_put, goOn_prm, goOn_callK, goOn_callC, goOn_all, guardP, guardO, notInO, stepF, stepLd, stepSt, stepIxs, stepIxa, stepLen, stepApp, stepCpy, stepPick, stepSls, stepSst, stepSla, bareZ, evX, evL, evB, rd, get, subG, memG, freshG, notInG, hyps, gob, impP, allP, partD, partOf, isOne, isPtr, nth, takeN, dropN, cellsD, lenB, fillD, thirds, entN, setE, sizeE, addE, setL, setN, putE, env0, eqCs, eqAux, eqC, bA, bO, bN, bE, negB, kEq, isShr, lendL, lend, frz, frzL, zRow, closed, closedL, rowsOf, binI, retK, retG, atRet, retD, lendO, resL, resD, oneD, renD, renL, renE, renEs, rho, putAll, entsN, List.append, List.nil_append, List.cons_append, List.append_nil, cond, Nat.reduceBEq, Nat.reduceAdd, Nat.beq]
  refine call_pure (sp_script_Parse (s := postT n base j) (by omega)) ?_
  dsimp only [resP, run_skip, run_reg, plainB, ifB_true, run_seq, run_blk, run_exit, run_ret, run_ite, iteR, regK, thenK_nrm, thenK_exit, thenK_ret, thenR_nrm, thenR_exit, thenR_ret, blkK, keepS, keepE, runOps_nil, runOps_cons, goG_some, fpOk, foot, entOf, allN, memN, goOn_ok, goOn_call, goOn_row, goOn_arr, goOn_ask, goOn_put, goOn_prm, goOn_callK, goOn_callC, goOn_all, guardP, guardO, notInO, stepF, stepLd, stepSt, stepIxs, stepIxa, stepLen, stepApp, stepCpy, stepPick, stepSls, stepSst, stepSla, bareZ, evX, evL, evB, rd, get, subG, memG, freshG, notInG, hyps, gob, impP, allP, partD, partOf, isOne, isPtr, nth, takeN, dropN, cellsD, lenB, fillD, thirds, entN, setE, sizeE, addE, setL, setN, putE, env0, eqCs, eqAux, eqC, bA, bO, bN, bE, negB, kEq, isShr, lendL, lend, frz, frzL, zRow, closed, closedL, rowsOf, binI, retK, retG, atRet, retD, lendO, resL, resD, oneD, renD, renL, renE, renEs, rho, putAll, entsN, List.append, List.nil_append, List.cons_append, List.append_nil, cond, Nat.reduceBEq, Nat.reduceAdd, Nat.beq]
  rw [hpc]
  unfold shiftR
  generalize parseW lineP s = R at *
  obtain ⟨l, ln, e⟩ := R
  dsimp only at p1 p2 p3 p4 ⊢
  simp only [cL_len, List.length_map]
  have hmap : (l.map (shiftC (2 * k))).length = l.length := List.length_map ..
  refine ⟨fun _ _ => by simp only [fits]; omega, fun h => ?_, fun _ => ?_⟩
  · exfalso
    revert h
    by_cases h0 : ln = 0 <;> simp [h0]
  refine loop_ind (α := {i : Nat // i ≤ l.length}) (fun i => ⟨[(11, [], .int .i64 (2 * k : Nat)), (14, [], .ls 4 (cL l)), (17, [], .ls 4 (cL (l.map (shiftC (2 * k))))), (20, [], .int .i64 i.1)], []⟩) (fun i => l.length - i.1) ?_ ⟨0, by simp⟩ rfl
  rintro ⟨i, i1⟩ I4 ih4
  dsimp only [run_skip, run_reg, plainB, ifB_true, run_seq, run_blk, run_exit, run_ret, run_ite, iteR, regK, thenK_nrm, thenK_exit, thenK_ret, thenR_nrm, thenR_exit, thenR_ret, blkK, keepS, keepE, runOps_nil, runOps_cons, goG_some, fpOk, foot, entOf, allN, memN, goOn_ok, goOn_call, goOn_row, goOn_arr, goOn_ask, goOn_put, goOn_prm, goOn_callK, goOn_callC, goOn_all, guardP, guardO, notInO, stepF, stepLd, stepSt, stepIxs, stepIxa, stepLen, stepApp, stepCpy, stepPick, stepSls, stepSst, stepSla, bareZ, evX, evL, evB, rd, get, subG, memG, freshG, notInG, hyps, gob, impP, allP, partD, partOf, isOne, isPtr, nth, takeN, dropN, cellsD, lenB, fillD, thirds, entN, setE, sizeE, addE, setL, setN, putE, env0, eqCs, eqAux, eqC, bA, bO, bN, bE, negB, kEq, isShr, lendL, lend, frz, frzL, zRow, closed, closedL, rowsOf, binI, retK, retG, atRet, retD, lendO, resL, resD, oneD, renD, renL, renE, renEs, rho, putAll, entsN, List.append, List.nil_append, List.cons_append, List.append_nil, cond, Nat.reduceBEq, Nat.reduceAdd, Nat.beq]
  simp only [cL_len]
  refine ⟨fun hi => ?_, fun hi => ?_⟩
  · have hi : i < l.length := by simpa using hi
    have hrow : (cL l)[(i : Int).toNat]? = some (cmD l[i]) := by rw [Int.toNat_natCast]; exact cL_at hi
    have hrow' : (cL (l.map (shiftC (2 * k))))[(i : Int).toNat]? = some (cmD (shiftC (2 * k) l[i])) := by
      rw [Int.toNat_natCast, cL_at (by rw [hmap]; exact hi), List.getElem_map]
    have hln := p4 _ (List.getElem_mem hi)
    generalize l[i] = c at hrow hrow' hln
    refine ⟨⟨trivial, by omega, by rw [hmap]; omega⟩, row_intro _ (.int .i64 (c.line + (2 * k : Nat))) (show _ = some (D.agg [.int .i64 (c.line + (2 * k : Nat)), .int .i64 c.op, .ls 1 (nL c.nums), .ls 1 (sL c.words)]) from hrow') rfl ?_⟩
    dsimp only [run_skip, run_reg, plainB, ifB_true, run_seq, run_blk, run_exit, run_ret, run_ite, iteR, regK, thenK_nrm, thenK_exit, thenK_ret, thenR_nrm, thenR_exit, thenR_ret, blkK, keepS, keepE, runOps_nil, runOps_cons, goG_some, fpOk, foot, entOf, allN, memN, goOn_ok, goOn_call, goOn_row, goOn_arr, goOn_ask, goOn_put, goOn_prm, goOn_callK, goOn_callC, goOn_all, guardP, guardO, notInO, stepF, stepLd, stepSt, stepIxs, stepIxa, stepLen, stepApp, stepCpy, stepPick, stepSls, stepSst, stepSla, bareZ, evX, evL, evB, rd, get, subG, memG, freshG, notInG, hyps, gob, impP, allP, partD, partOf, isOne, isPtr, nth, takeN, dropN, cellsD, lenB, fillD, thirds, entN, setE, sizeE, addE, setL, setN, putE, env0, eqCs, eqAux, eqC, bA, bO, bN, bE, negB, kEq, isShr, lendL, lend, frz, frzL, zRow, closed, closedL, rowsOf, binI, retK, retG, atRet, retD, lendO, resL, resD, oneD, renD, renL, renE, renEs, rho, putAll, entsN, List.append, List.nil_append, List.cons_append, List.append_nil, cond, Nat.reduceBEq, Nat.reduceAdd, Nat.beq]
    refine ⟨⟨rfl, by omega, by rw [cL_len]; omega⟩, row_intro _ (.int .i64 c.line) (show _ = some (D.agg [.int .i64 c.line, .int .i64 c.op, .ls 1 (nL c.nums), .ls 1 (sL c.words)]) from hrow) rfl ?_⟩
    dsimp only [run_skip, run_reg, plainB, ifB_true, run_seq, run_blk, run_exit, run_ret, run_ite, iteR, regK, thenK_nrm, thenK_exit, thenK_ret, thenR_nrm, thenR_exit, thenR_ret, blkK, keepS, keepE, runOps_nil, runOps_cons, goG_some, fpOk, foot, entOf, allN, memN, goOn_ok, goOn_call, goOn_row, goOn_arr, goOn_ask, goOn_put, goOn_prm, goOn_callK, goOn_callC, goOn_all, guardP, guardO, notInO, stepF, stepLd, stepSt, stepIxs, stepIxa, stepLen, stepApp, stepCpy, stepPick, stepSls, stepSst, stepSla, bareZ, evX, evL, evB, rd, get, subG, memG, freshG, notInG, hyps, gob, impP, allP, partD, partOf, isOne, isPtr, nth, takeN, dropN, cellsD, lenB, fillD, thirds, entN, setE, sizeE, addE, setL, setN, putE, env0, eqCs, eqAux, eqC, bA, bO, bN, bE, negB, kEq, isShr, lendL, lend, frz, frzL, zRow, closed, closedL, rowsOf, binI, retK, retG, atRet, retD, lendO, resL, resD, oneD, renD, renL, renE, renEs, rho, putAll, entsN, List.append, List.nil_append, List.cons_append, List.append_nil, cond, Nat.reduceBEq, Nat.reduceAdd, Nat.beq]
    refine ⟨by simp only [fits]; omega, fun h => by simp at h, fun _ => ?_⟩
    refine ⟨by simp only [fits]; omega, ?_⟩
    refine again (ih4 ⟨i + 1, by omega⟩ (by dsimp only; omega)) ?_ ?_ rfl rfl
    · exact ⟨rfl, rfl, rfl, rfl, trivial⟩
    · trivial
  · have hi : i = l.length := by simp at hi; omega
    refine call_pure (sp_law63_of (by omega)) ?_
    dsimp only [run_skip, run_reg, plainB, ifB_true, run_seq, run_blk, run_exit, run_ret, run_ite, iteR, regK, thenK_nrm, thenK_exit, thenK_ret, thenR_nrm, thenR_exit, thenR_ret, blkK, keepS, keepE, runOps_nil, runOps_cons, goG_some, fpOk, foot, entOf, allN, memN, goOn_ok, goOn_call, goOn_row, goOn_arr, goOn_ask, goOn_put, goOn_prm, goOn_callK, goOn_callC, goOn_all, guardP, guardO, notInO, stepF, stepLd, stepSt, stepIxs, stepIxa, stepLen, stepApp, stepCpy, stepPick, stepSls, stepSst, stepSla, bareZ, evX, evL, evB, rd, get, subG, memG, freshG, notInG, hyps, gob, impP, allP, partD, partOf, isOne, isPtr, nth, takeN, dropN, cellsD, lenB, fillD, thirds, entN, setE, sizeE, addE, setL, setN, putE, env0, eqCs, eqAux, eqC, bA, bO, bN, bE, negB, kEq, isShr, lendL, lend, frz, frzL, zRow, closed, closedL, rowsOf, binI, retK, retG, atRet, retD, lendO, resL, resD, oneD, renD, renL, renE, renEs, rho, putAll, entsN, List.append, List.nil_append, List.cons_append, List.append_nil, cond, Nat.reduceBEq, Nat.reduceAdd, Nat.beq]
    refine call_pure (sp_law63_of (by omega)) ?_
    dsimp only [run_skip, run_reg, plainB, ifB_true, run_seq, run_blk, run_exit, run_ret, run_ite, iteR, regK, thenK_nrm, thenK_exit, thenK_ret, thenR_nrm, thenR_exit, thenR_ret, blkK, keepS, keepE, runOps_nil, runOps_cons, goG_some, fpOk, foot, entOf, allN, memN, goOn_ok, goOn_call, goOn_row, goOn_arr, goOn_ask, goOn_put, goOn_prm, goOn_callK, goOn_callC, goOn_all, guardP, guardO, notInO, stepF, stepLd, stepSt, stepIxs, stepIxa, stepLen, stepApp, stepCpy, stepPick, stepSls, stepSst, stepSla, bareZ, evX, evL, evB, rd, get, subG, memG, freshG, notInG, hyps, gob, impP, allP, partD, partOf, isOne, isPtr, nth, takeN, dropN, cellsD, lenB, fillD, thirds, entN, setE, sizeE, addE, setL, setN, putE, env0, eqCs, eqAux, eqC, bA, bO, bN, bE, negB, kEq, isShr, lendL, lend, frz, frzL, zRow, closed, closedL, rowsOf, binI, retK, retG, atRet, retD, lendO, resL, resD, oneD, renD, renL, renE, renEs, rho, putAll, entsN, List.append, List.nil_append, List.cons_append, List.append_nil, cond, Nat.reduceBEq, Nat.reduceAdd, Nat.beq]
    refine call_pure (sp_ref63_Same (by omega) fun c hc => (p2 c hc).sizes') ?_
    dsimp only [run_skip, run_reg, plainB, ifB_true, run_seq, run_blk, run_exit, run_ret, run_ite, iteR, regK, thenK_nrm, thenK_exit, thenK_ret, thenR_nrm, thenR_exit, thenR_ret, blkK, keepS, keepE, runOps_nil, runOps_cons, goG_some, fpOk, foot, entOf, allN, memN, goOn_ok, goOn_call, goOn_row, goOn_arr, goOn_ask, goOn_put, goOn_prm, goOn_callK, goOn_callC, goOn_all, guardP, guardO, notInO, stepF, stepLd, stepSt, stepIxs, stepIxa, stepLen, stepApp, stepCpy, stepPick, stepSls, stepSst, stepSla, bareZ, evX, evL, evB, rd, get, subG, memG, freshG, notInG, hyps, gob, impP, allP, partD, partOf, isOne, isPtr, nth, takeN, dropN, cellsD, lenB, fillD, thirds, entN, setE, sizeE, addE, setL, setN, putE, env0, eqCs, eqAux, eqC, bA, bO, bN, bE, negB, kEq, isShr, lendL, lend, frz, frzL, zRow, closed, closedL, rowsOf, binI, retK, retG, atRet, retD, lendO, resL, resD, oneD, renD, renL, renE, renEs, rho, putAll, entsN, List.append, List.nil_append, List.cons_append, List.append_nil, cond, Nat.reduceBEq, Nat.reduceAdd, Nat.beq]
    rw [sameB_shift]
end Go.AM
namespace Go.Proofs.YtlmhekbbagpnjaaDoor
open Go.ChangeShapes Go.WideShapes Go.ChangeAt Go.RowKit Go.Joins Go.AM
theorem scriptComments_law {dl : List D} (h : ShL Tryd.prog 8 [9, 9, 5, 5] dl) : Sp Tryd.prog gtab 6 dl (.bool true) := by
  obtain ⟨d1, _, rfl, h1, d2, _, rfl, h2, d3, _, rfl, h3, d4, _, rfl, h4, rfl⟩ := h
  obtain ⟨s, rfl, _⟩ := sh_str (by kernel_rfl) h1
  obtain ⟨n, rfl, _⟩ := sh_str (by kernel_rfl) h2
  obtain ⟨b, rfl, hb⟩ := sh_int (k := .u8) Tryd.underlying5 h3
  obtain ⟨a, rfl, ha⟩ := sh_int (k := .u8) Tryd.underlying5 h4
  simp only [fits] at hb ha
  exact sp_law63_ScriptComments (by omega) (by omega)
end Go.Proofs.YtlmhekbbagpnjaaDoor
