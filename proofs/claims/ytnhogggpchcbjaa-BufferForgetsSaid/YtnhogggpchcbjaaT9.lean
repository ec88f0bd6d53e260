
/- Chapter 54: lines: contracts. -/
import Derived.Test.YtnhogggpchcbjaaT8
set_option linter.all false
namespace Go.AM
open Go Go.Proofs Go.RowKit

theorem repl2 {K : Kn} {pl : Pl} {a b : D} {vs : List Value} (h : RepL K pl [a, b] vs) : ∃ x y, vs = [x, y] ∧ Rep K pl a x ∧ Rep K pl b y := by
  simp only [RepL] at h
  obtain ⟨x, _, rfl, h1, y, _, rfl, h2, rfl⟩ := h
  exact ⟨x, y, rfl, h1, h2⟩
theorem sp_strings_Count {s : Bs} : TSp 40 [.str s, .str [10]] (.int .i64 (s.count 10 : Nat)) := by
  refine Sp_of_calls ⟨Try.f40, by kernel_rfl, by kernel_rfl, by kernel_rfl⟩ fun K pl w vs h => ?_
  obtain ⟨x, y, hv, h1, h2⟩ := repl2 h
  simp only [Rep] at h1 h2
  subst h1 h2
  have : vs = #[.string ⟨s.toArray⟩, .string ⟨#[10]⟩] := by rw [← Array.toArray_toList (xs := vs), hv]
  subst this
  refine (count_calls ⟨s.toArray⟩ 10 w).mono ?_
  rintro e w' ⟨rfl, rfl⟩
  exact ⟨_, rfl, rfl, by simp only [Rep, Lib.countByte]⟩
theorem sp_stringslite_IndexByte {s : Bs} : TSp 61 [.str s, .int .u8 10] (.int .i64 (Lib.indexByte s 10)) := by
  refine Sp_of_calls ⟨Try.f61, by kernel_rfl, by kernel_rfl, by kernel_rfl⟩ fun K pl w vs h => ?_
  obtain ⟨x, y, hv, h1, h2⟩ := repl2 h
  simp only [Rep] at h1 h2
  subst h1 h2
  have : vs = #[.string ⟨s.toArray⟩, .int .u8 10] := by rw [← Array.toArray_toList (xs := vs), hv]
  subst this
  refine (index_calls ⟨s.toArray⟩ 10 w).mono ?_
  rintro e w' ⟨rfl, rfl⟩
  exact ⟨_, rfl, rfl, by simp only [Rep]; rfl⟩
theorem sp_strings_IndexByte {s : Bs} : TSp 54 [.str s, .int .u8 10] (.int .i64 (Lib.indexByte s 10)) := by
  refine spo_strings_IndexByte (by rfl) ?_
  dsimp only [c_strings_IndexByte, r_strings_IndexByte, run_skip, run_reg, plainB, ifB_true, run_seq, run_blk, run_exit, run_ret, run_ite, iteR, regK, thenK_nrm, thenK_exit, thenK_ret, thenR_nrm, thenR_exit, thenR_ret, blkK, keepS, keepE, runOps_nil, runOps_cons, goG_some, fpOk, foot, entOf, allN, memN, goOn_ok, goOn_call, goOn_row, goOn_arr, goOn_ask, goOn_put, guardP, guardO, notInO, stepF, stepLd, stepSt, stepIxs, stepIxa, stepLen, stepApp, stepCpy, stepPick, stepSls, stepSst, stepSla, evX, evL, evB, rd, get, subG, memG, freshG, notInG, hyps, gob, impP, allP, partD, partOf, isOne, isPtr, nth, takeN, dropN, cellsD, lenB, fillD, thirds, entN, setE, sizeE, addE, setL, setN, putE, env0, eqCs, eqAux, eqC, bA, bO, bN, bE, negB, kEq, isShr, lendL, lend, frz, frzL, zRow, closed, closedL, rowsOf, binI, retK, retG, atRet, retD, lendO, resL, resD, oneD, renD, renL, renE, renEs, rho, putAll, entsN, List.append, List.nil_append, List.cons_append, List.append_nil, cond, Nat.reduceBEq, Nat.reduceAdd, Nat.beq]
  refine call_pure sp_stringslite_IndexByte ?_
  dsimp only [run_skip, run_reg, plainB, ifB_true, run_seq, run_blk, run_exit, run_ret, run_ite, iteR, regK, thenK_nrm, thenK_exit, thenK_ret, thenR_nrm, thenR_exit, thenR_ret, blkK, keepS, keepE, runOps_nil, runOps_cons, goG_some, fpOk, foot, entOf, allN, memN, goOn_ok, goOn_call, goOn_row, goOn_arr, goOn_ask, goOn_put, guardP, guardO, notInO, stepF, stepLd, stepSt, stepIxs, stepIxa, stepLen, stepApp, stepCpy, stepPick, stepSls, stepSst, stepSla, evX, evL, evB, rd, get, subG, memG, freshG, notInG, hyps, gob, impP, allP, partD, partOf, isOne, isPtr, nth, takeN, dropN, cellsD, lenB, fillD, thirds, entN, setE, sizeE, addE, setL, setN, putE, env0, eqCs, eqAux, eqC, bA, bO, bN, bE, negB, kEq, isShr, lendL, lend, frz, frzL, zRow, closed, closedL, rowsOf, binI, retK, retG, atRet, retD, lendO, resL, resD, oneD, renD, renL, renE, renEs, rho, putAll, entsN, List.append, List.nil_append, List.cons_append, List.append_nil, cond, Nat.reduceBEq, Nat.reduceAdd, Nat.beq]
theorem sp_bytealg_LastIndexByteString {s : Bs} {c : UInt8} (hs : s.length < 9223372036854775808) : TSp 53 [.str s, .int .u8 c.toNat] (.int .i64 (lastN s c s.length)) := by
  refine spo_internal_bytealg_LastIndexByteString (by rfl) ?_
  dsimp only [c_internal_bytealg_LastIndexByteString, r_internal_bytealg_LastIndexByteString, run_skip, run_reg, plainB, ifB_true, run_seq, run_blk, run_exit, run_ret, run_ite, iteR, regK, thenK_nrm, thenK_exit, thenK_ret, thenR_nrm, thenR_exit, thenR_ret, blkK, keepS, keepE, runOps_nil, runOps_cons, goG_some, fpOk, foot, entOf, allN, memN, goOn_ok, goOn_call, goOn_row, goOn_arr, goOn_ask, goOn_put, guardP, guardO, notInO, stepF, stepLd, stepSt, stepIxs, stepIxa, stepLen, stepApp, stepCpy, stepPick, stepSls, stepSst, stepSla, evX, evL, evB, rd, get, subG, memG, freshG, notInG, hyps, gob, impP, allP, partD, partOf, isOne, isPtr, nth, takeN, dropN, cellsD, lenB, fillD, thirds, entN, setE, sizeE, addE, setL, setN, putE, env0, eqCs, eqAux, eqC, bA, bO, bN, bE, negB, kEq, isShr, lendL, lend, frz, frzL, zRow, closed, closedL, rowsOf, binI, retK, retG, atRet, retD, lendO, resL, resD, oneD, renD, renL, renE, renEs, rho, putAll, entsN, List.append, List.nil_append, List.cons_append, List.append_nil, cond, Nat.reduceBEq, Nat.reduceAdd, Nat.beq]
  refine ⟨by simp only [fits]; omega, ?_⟩
  refine loop_ind (α := {n : Nat // n ≤ s.length ∧ lastN s c n = lastN s c s.length}) (fun n => ⟨[(0, [], .str s), (1, [], .int .u8 c.toNat), (5, [], .int .i64 ((n.1 : Int) - 1))], []⟩) (fun n => n.1) ?_ ⟨s.length, Nat.le_refl _, rfl⟩ rfl
  rintro ⟨n, h1, h2⟩ I ih
  dsimp only [run_skip, run_reg, plainB, ifB_true, run_seq, run_blk, run_exit, run_ret, run_ite, iteR, regK, thenK_nrm, thenK_exit, thenK_ret, thenR_nrm, thenR_exit, thenR_ret, blkK, keepS, keepE, runOps_nil, runOps_cons, goG_some, fpOk, foot, entOf, allN, memN, goOn_ok, goOn_call, goOn_row, goOn_arr, goOn_ask, goOn_put, guardP, guardO, notInO, stepF, stepLd, stepSt, stepIxs, stepIxa, stepLen, stepApp, stepCpy, stepPick, stepSls, stepSst, stepSla, evX, evL, evB, rd, get, subG, memG, freshG, notInG, hyps, gob, impP, allP, partD, partOf, isOne, isPtr, nth, takeN, dropN, cellsD, lenB, fillD, thirds, entN, setE, sizeE, addE, setL, setN, putE, env0, eqCs, eqAux, eqC, bA, bO, bN, bE, negB, kEq, isShr, lendL, lend, frz, frzL, zRow, closed, closedL, rowsOf, binI, retK, retG, atRet, retD, lendO, resL, resD, oneD, renD, renL, renE, renEs, rho, putAll, entsN, List.append, List.nil_append, List.cons_append, List.append_nil, cond, Nat.reduceBEq, Nat.reduceAdd, Nat.beq]
  refine ⟨fun hn => ?_, fun hn => ?_⟩
  · obtain ⟨m, rfl⟩ : ∃ m, n = m + 1 := ⟨n - 1, by simp at hn; omega⟩
    have em : ((m + 1 : Nat) : Int) - 1 = m := by omega
    rw [em]
    simp only [lastN] at h2
    refine ⟨⟨by omega, by omega⟩, fun he => ?_, fun he => ?_⟩
    · have he : s.getD m 0 = c := by
        simp only [Int.toNat_natCast, decide_eq_true_eq] at he
        exact UInt8.toNat_inj.1 (by omega)
      rw [if_pos he] at h2; rw [← h2]
    · have he : ¬ s.getD m 0 = c := by
        simp only [Int.toNat_natCast, decide_eq_false_iff_not] at he
        exact fun e => he (by rw [e])
      rw [if_neg he] at h2
      refine ⟨by simp only [fits]; omega, ?_⟩
      refine again (ih ⟨m, by omega, h2⟩ (by dsimp only; omega)) ?_ ?_ rfl rfl
      · exact ⟨rfl, rfl, rfl, trivial⟩
      · exact trivial
  · have : n = 0 := by simp at hn; omega
    subst this
    rw [← h2]; rfl
theorem sp_strings_LastIndexByte {s : Bs} (hs : s.length < 9223372036854775808) : TSp 41 [.str s, .int .u8 10] (.int .i64 (lastN s 10 s.length)) := by
  refine spo_strings_LastIndexByte (by rfl) ?_
  dsimp only [c_strings_LastIndexByte, r_strings_LastIndexByte, run_skip, run_reg, plainB, ifB_true, run_seq, run_blk, run_exit, run_ret, run_ite, iteR, regK, thenK_nrm, thenK_exit, thenK_ret, thenR_nrm, thenR_exit, thenR_ret, blkK, keepS, keepE, runOps_nil, runOps_cons, goG_some, fpOk, foot, entOf, allN, memN, goOn_ok, goOn_call, goOn_row, goOn_arr, goOn_ask, goOn_put, guardP, guardO, notInO, stepF, stepLd, stepSt, stepIxs, stepIxa, stepLen, stepApp, stepCpy, stepPick, stepSls, stepSst, stepSla, evX, evL, evB, rd, get, subG, memG, freshG, notInG, hyps, gob, impP, allP, partD, partOf, isOne, isPtr, nth, takeN, dropN, cellsD, lenB, fillD, thirds, entN, setE, sizeE, addE, setL, setN, putE, env0, eqCs, eqAux, eqC, bA, bO, bN, bE, negB, kEq, isShr, lendL, lend, frz, frzL, zRow, closed, closedL, rowsOf, binI, retK, retG, atRet, retD, lendO, resL, resD, oneD, renD, renL, renE, renEs, rho, putAll, entsN, List.append, List.nil_append, List.cons_append, List.append_nil, cond, Nat.reduceBEq, Nat.reduceAdd, Nat.beq]
  refine call_pure (sp_bytealg_LastIndexByteString (c := 10) hs) ?_
  dsimp only [run_skip, run_reg, plainB, ifB_true, run_seq, run_blk, run_exit, run_ret, run_ite, iteR, regK, thenK_nrm, thenK_exit, thenK_ret, thenR_nrm, thenR_exit, thenR_ret, blkK, keepS, keepE, runOps_nil, runOps_cons, goG_some, fpOk, foot, entOf, allN, memN, goOn_ok, goOn_call, goOn_row, goOn_arr, goOn_ask, goOn_put, guardP, guardO, notInO, stepF, stepLd, stepSt, stepIxs, stepIxa, stepLen, stepApp, stepCpy, stepPick, stepSls, stepSst, stepSla, evX, evL, evB, rd, get, subG, memG, freshG, notInG, hyps, gob, impP, allP, partD, partOf, isOne, isPtr, nth, takeN, dropN, cellsD, lenB, fillD, thirds, entN, setE, sizeE, addE, setL, setN, putE, env0, eqCs, eqAux, eqC, bA, bO, bN, bE, negB, kEq, isShr, lendL, lend, frz, frzL, zRow, closed, closedL, rowsOf, binI, retK, retG, atRet, retD, lendO, resL, resD, oneD, renD, renL, renE, renEs, rho, putAll, entsN, List.append, List.nil_append, List.cons_append, List.append_nil, cond, Nat.reduceBEq, Nat.reduceAdd, Nat.beq]

theorem sp_buffer_Buffer_Lines {b : Bu} (hb : b.text.length ≤ 65536) : TSp 26 [buD b] (.int .i64 (lnL b.text).length) := by
  refine spo_buffer_Buffer_Lines (by rfl) ?_
  dsimp only [c_buffer_Buffer_Lines, r_buffer_Buffer_Lines, buD, run_skip, run_reg, plainB, ifB_true, run_seq, run_blk, run_exit, run_ret, run_ite, iteR, regK, thenK_nrm, thenK_exit, thenK_ret, thenR_nrm, thenR_exit, thenR_ret, blkK, keepS, keepE, runOps_nil, runOps_cons, goG_some, fpOk, foot, entOf, allN, memN, goOn_ok, goOn_call, goOn_row, goOn_arr, goOn_ask, goOn_put, guardP, guardO, notInO, stepF, stepLd, stepSt, stepIxs, stepIxa, stepLen, stepApp, stepCpy, stepPick, stepSls, stepSst, stepSla, evX, evL, evB, rd, get, subG, memG, freshG, notInG, hyps, gob, impP, allP, partD, partOf, isOne, isPtr, nth, takeN, dropN, cellsD, lenB, fillD, thirds, entN, setE, sizeE, addE, setL, setN, putE, env0, eqCs, eqAux, eqC, bA, bO, bN, bE, negB, kEq, isShr, lendL, lend, frz, frzL, zRow, closed, closedL, rowsOf, binI, retK, retG, atRet, retD, lendO, resL, resD, oneD, renD, renL, renE, renEs, rho, putAll, entsN, List.append, List.nil_append, List.cons_append, List.append_nil, cond, Nat.reduceBEq, Nat.reduceAdd, Nat.beq]
  refine call_pure sp_strings_Count ?_
  dsimp only [run_skip, run_reg, plainB, ifB_true, run_seq, run_blk, run_exit, run_ret, run_ite, iteR, regK, thenK_nrm, thenK_exit, thenK_ret, thenR_nrm, thenR_exit, thenR_ret, blkK, keepS, keepE, runOps_nil, runOps_cons, goG_some, fpOk, foot, entOf, allN, memN, goOn_ok, goOn_call, goOn_row, goOn_arr, goOn_ask, goOn_put, guardP, guardO, notInO, stepF, stepLd, stepSt, stepIxs, stepIxa, stepLen, stepApp, stepCpy, stepPick, stepSls, stepSst, stepSla, evX, evL, evB, rd, get, subG, memG, freshG, notInG, hyps, gob, impP, allP, partD, partOf, isOne, isPtr, nth, takeN, dropN, cellsD, lenB, fillD, thirds, entN, setE, sizeE, addE, setL, setN, putE, env0, eqCs, eqAux, eqC, bA, bO, bN, bE, negB, kEq, isShr, lendL, lend, frz, frzL, zRow, closed, closedL, rowsOf, binI, retK, retG, atRet, retD, lendO, resL, resD, oneD, renD, renL, renE, renEs, rho, putAll, entsN, List.append, List.nil_append, List.cons_append, List.append_nil, cond, Nat.reduceBEq, Nat.reduceAdd, Nat.beq]
  have : b.text.count 10 ≤ b.text.length := List.count_le_length
  rw [lnL_len]
  exact ⟨by simp only [fits]; omega, by simp⟩

theorem sp_buffer_Buffer_bounds {b : Bu} {n : Nat} {x : Bs} (hb : b.text.length ≤ 65536) (hx : (lnL b.text)[n]? = some x) : TSp 42 [buD b, .int .i64 n] (.tup [.int .i64 (posL (lnL b.text) n : Nat), .int .i64 ((posL (lnL b.text) n : Nat) + x.length)]) := by
  refine spo_buffer_Buffer_bounds (by rfl) ?_
  dsimp only [c_buffer_Buffer_bounds, r_buffer_Buffer_bounds, buD, run_skip, run_reg, plainB, ifB_true, run_seq, run_blk, run_exit, run_ret, run_ite, iteR, regK, thenK_nrm, thenK_exit, thenK_ret, thenR_nrm, thenR_exit, thenR_ret, blkK, keepS, keepE, runOps_nil, runOps_cons, goG_some, fpOk, foot, entOf, allN, memN, goOn_ok, goOn_call, goOn_row, goOn_arr, goOn_ask, goOn_put, guardP, guardO, notInO, stepF, stepLd, stepSt, stepIxs, stepIxa, stepLen, stepApp, stepCpy, stepPick, stepSls, stepSst, stepSla, evX, evL, evB, rd, get, subG, memG, freshG, notInG, hyps, gob, impP, allP, partD, partOf, isOne, isPtr, nth, takeN, dropN, cellsD, lenB, fillD, thirds, entN, setE, sizeE, addE, setL, setN, putE, env0, eqCs, eqAux, eqC, bA, bO, bN, bE, negB, kEq, isShr, lendL, lend, frz, frzL, zRow, closed, closedL, rowsOf, binI, retK, retG, atRet, retD, lendO, resL, resD, oneD, renD, renL, renE, renEs, rho, putAll, entsN, List.append, List.nil_append, List.cons_append, List.append_nil, cond, Nat.reduceBEq, Nat.reduceAdd, Nat.beq]
  have hn := (List.getElem?_eq_some_iff.1 hx).1
  have hlt := lnL_len b.text
  have hct : b.text.count 10 ≤ b.text.length := List.count_le_length
  refine loop_ind (α := {i : Nat // i ≤ n}) (fun i => ⟨[(2, [], .box 0 0), (6, [], .int .i64 (posL (lnL b.text) i.1 : Nat)), (8, [], .int .i64 n), (9, [], .int .i64 i.1)], [.cells [.ls 3 (b.past.map spD), .ls 3 (b.again.map spD), .str b.text]]⟩) (fun i => n - i.1) ?_ ⟨0, by omega⟩ ?_
  · rintro ⟨i, hi⟩ I ih
    dsimp only [run_skip, run_reg, plainB, ifB_true, run_seq, run_blk, run_exit, run_ret, run_ite, iteR, regK, thenK_nrm, thenK_exit, thenK_ret, thenR_nrm, thenR_exit, thenR_ret, blkK, keepS, keepE, runOps_nil, runOps_cons, goG_some, fpOk, foot, entOf, allN, memN, goOn_ok, goOn_call, goOn_row, goOn_arr, goOn_ask, goOn_put, guardP, guardO, notInO, stepF, stepLd, stepSt, stepIxs, stepIxa, stepLen, stepApp, stepCpy, stepPick, stepSls, stepSst, stepSla, evX, evL, evB, rd, get, subG, memG, freshG, notInG, hyps, gob, impP, allP, partD, partOf, isOne, isPtr, nth, takeN, dropN, cellsD, lenB, fillD, thirds, entN, setE, sizeE, addE, setL, setN, putE, env0, eqCs, eqAux, eqC, bA, bO, bN, bE, negB, kEq, isShr, lendL, lend, frz, frzL, zRow, closed, closedL, rowsOf, binI, retK, retG, atRet, retD, lendO, resL, resD, oneD, renD, renL, renE, renEs, rho, putAll, entsN, List.append, List.nil_append, List.cons_append, List.append_nil, cond, Nat.reduceBEq, Nat.reduceAdd, Nat.beq]
    have hxi : (lnL b.text)[i]? = some ((lnL b.text)[i]'(by omega)) := List.getElem?_eq_getElem (by omega)
    obtain ⟨u, h1, h2, h3⟩ := pos_index hxi
    have hsst : List.drop (posL (lnL b.text) i : Int).toNat (List.take ((b.text.length : Nat) : Int).toNat b.text) = b.text.drop (posL (lnL b.text) i) := by rw [Int.toNat_natCast, Int.toNat_natCast, List.take_length]
    have hps := pos_succ hxi
    rw [hsst]
    refine ⟨fun hin => ?_, fun hin => ?_⟩
    · have hin : i < n := by simpa using hin
      rw [if_pos (by omega)] at h3
      generalize (lnL b.text)[i]'(by omega) = y at *
      refine ⟨⟨by omega, by omega, by omega⟩, ?_⟩
      refine call_pure sp_strings_IndexByte ?_
      dsimp only [run_skip, run_reg, plainB, ifB_true, run_seq, run_blk, run_exit, run_ret, run_ite, iteR, regK, thenK_nrm, thenK_exit, thenK_ret, thenR_nrm, thenR_exit, thenR_ret, blkK, keepS, keepE, runOps_nil, runOps_cons, goG_some, fpOk, foot, entOf, allN, memN, goOn_ok, goOn_call, goOn_row, goOn_arr, goOn_ask, goOn_put, guardP, guardO, notInO, stepF, stepLd, stepSt, stepIxs, stepIxa, stepLen, stepApp, stepCpy, stepPick, stepSls, stepSst, stepSla, evX, evL, evB, rd, get, subG, memG, freshG, notInG, hyps, gob, impP, allP, partD, partOf, isOne, isPtr, nth, takeN, dropN, cellsD, lenB, fillD, thirds, entN, setE, sizeE, addE, setL, setN, putE, env0, eqCs, eqAux, eqC, bA, bO, bN, bE, negB, kEq, isShr, lendL, lend, frz, frzL, zRow, closed, closedL, rowsOf, binI, retK, retG, atRet, retD, lendO, resL, resD, oneD, renD, renL, renE, renEs, rho, putAll, entsN, List.append, List.nil_append, List.cons_append, List.append_nil, cond, Nat.reduceBEq, Nat.reduceAdd, Nat.beq]
      rw [h3]
      refine ⟨by simp only [fits]; omega, by simp only [fits]; omega, by simp only [fits]; omega, ?_⟩
      refine again (ih ⟨i + 1, by omega⟩ (by dsimp only; omega)) ?_ ?_ rfl rfl
      · refine ⟨rfl, ?_, rfl, rfl, trivial⟩
        rw [hps]
        show _ = some ([], D.int .i64 ((posL (lnL b.text) i + y.length + 1 : Nat) : Int))
        rw [show ((posL (lnL b.text) i + y.length + 1 : Nat) : Int) = (posL (lnL b.text) i : Int) + ((y.length : Int) + 1) by omega]
        rfl
      · exact ⟨rfl, trivial⟩
    · have hin : i = n := by simp at hin; omega
      subst hin
      rw [hx] at hxi
      have hxe := Option.some.inj hxi
      rw [← hxe] at h1 h2 h3
      refine ⟨⟨by omega, by omega, by omega⟩, ?_⟩
      refine call_pure sp_strings_IndexByte ?_
      dsimp only [run_skip, run_reg, plainB, ifB_true, run_seq, run_blk, run_exit, run_ret, run_ite, iteR, regK, thenK_nrm, thenK_exit, thenK_ret, thenR_nrm, thenR_exit, thenR_ret, blkK, keepS, keepE, runOps_nil, runOps_cons, goG_some, fpOk, foot, entOf, allN, memN, goOn_ok, goOn_call, goOn_row, goOn_arr, goOn_ask, goOn_put, guardP, guardO, notInO, stepF, stepLd, stepSt, stepIxs, stepIxa, stepLen, stepApp, stepCpy, stepPick, stepSls, stepSst, stepSla, evX, evL, evB, rd, get, subG, memG, freshG, notInG, hyps, gob, impP, allP, partD, partOf, isOne, isPtr, nth, takeN, dropN, cellsD, lenB, fillD, thirds, entN, setE, sizeE, addE, setL, setN, putE, env0, eqCs, eqAux, eqC, bA, bO, bN, bE, negB, kEq, isShr, lendL, lend, frz, frzL, zRow, closed, closedL, rowsOf, binI, retK, retG, atRet, retD, lendO, resL, resD, oneD, renD, renL, renE, renEs, rho, putAll, entsN, List.append, List.nil_append, List.cons_append, List.append_nil, cond, Nat.reduceBEq, Nat.reduceAdd, Nat.beq]
      rw [h3]
      by_cases hlast : i + 1 < (lnL b.text).length
      · rw [if_pos hlast]
        refine ⟨fun _ => ⟨by simp only [fits]; omega, rfl⟩, fun h => by simp at h⟩
      · rw [if_neg hlast]
        refine ⟨fun h => by simp at h, fun _ => ?_⟩
        rw [if_neg hlast] at h3
        obtain ⟨h4, h5⟩ := pos_drop i b.text hn
        have hl1 : (lnL (b.text.drop (posL (lnL b.text) i))).length = 1 := by rw [h4]; simp; omega
        rw [lnL_len] at hl1
        have hno : (10 : UInt8) ∉ b.text.drop (posL (lnL b.text) i) := List.count_eq_zero.1 (by omega)
        have e := lnL_no hno
        rw [h4] at e
        have e2 : ((lnL b.text).drop i)[0]? = some x := by rw [List.getElem?_drop]; simpa using hx
        rw [e] at e2
        simp at e2
        have : x.length = b.text.length - posL (lnL b.text) i := by rw [← e2]; simp
        rw [show ((posL (lnL b.text) i : Nat) : Int) + x.length = b.text.length by omega]
  · rw [posL_zero]; rfl
end Go.AM
