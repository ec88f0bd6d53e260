
/- Chapter 63: what the document prints. -/
import Derived.Test.YtlmhekbbagpnjaaDoorS20
set_option linter.all false
namespace Go.AM
open Go Go.Proofs Go.RowKit

theorem dec_small {u : Nat} (h : u < 10) : Lib.decDigits u = [UInt8.ofNat (48 + u)] := by
  unfold Lib.decDigits
  rw [dif_pos h]
theorem dec_big {u : Nat} (h : 10 ≤ u) : Lib.decDigits u = Lib.decDigits (u / 10) ++ [UInt8.ofNat (48 + u % 10)] := by
  rw [Lib.decDigits]
  rw [dif_neg (by omega)]
theorem byte_str {m : Nat} (h : m < 256) : IsStr [.int .u8 m] (.str [UInt8.ofNat m]) := ⟨[UInt8.ofNat m], by simp [bytesD]; omega, rfl⟩
theorem sp_tens_pos {n : Nat} (hn : n < 1000000000000) : TSp 47 [.int .i64 n] (.str (Lib.itoa n)) := by
  have hi : Lib.itoa (n : Int) = Lib.decDigits n := by unfold Lib.itoa; rw [if_neg (by omega), Int.toNat_natCast]
  rw [hi]
  refine spo_ref63_tens (by rfl) ?_
  dsimp only [c_ref63_tens, r_ref63_tens, run_skip, run_reg, plainB, ifB_true, run_seq, run_blk, run_exit, run_ret, run_ite, iteR, regK, thenK_nrm, thenK_exit, thenK_ret, thenR_nrm, thenR_exit, thenR_ret, blkK, keepS, keepE, runOps_nil, runOps_cons, goG_some, fpOk, foot, entOf, allN, memN, goOn_ok, goOn_call, goOn_row, goOn_arr, goOn_ask, goOn_put, goOn_prm, goOn_callK, goOn_callC, goOn_all, guardP, guardO, notInO, stepF, stepLd, stepSt, stepIxs, stepIxa, stepLen, stepApp, stepCpy, stepPick, stepSls, stepSst, stepSla, bareZ, evX, evL, evB, rd, get, subG, memG, freshG, notInG, hyps, gob, impP, allP, partD, partOf, isOne, isPtr, nth, takeN, dropN, cellsD, lenB, fillD, thirds, entN, setE, sizeE, addE, setL, setN, putE, env0, eqCs, eqAux, eqC, bA, bO, bN, bE, negB, kEq, isShr, lendL, lend, frz, frzL, zRow, closed, closedL, rowsOf, binI, retK, retG, atRet, retD, lendO, resL, resD, oneD, renD, renL, renE, renEs, rho, putAll, entsN, List.append, List.nil_append, List.cons_append, List.append_nil, cond, Nat.reduceBEq, Nat.reduceAdd, Nat.beq]
  refine ⟨fun h => by simp at h; omega, fun _ => ?_⟩
  refine loop_ind (α := {x : Nat × Bs // x.1 < 1000000000000 ∧ Lib.decDigits x.1 ++ x.2 = Lib.decDigits n}) (fun x => ⟨[(0, [], .int .i64 x.1.1), (3, [], .str x.1.2)], []⟩) (fun x => x.1.1) ?_ ⟨(n, []), hn, by simp⟩ rfl
  rintro ⟨⟨m, s⟩, h1, h2⟩ I ih
  dsimp only at h1 h2
  have hsl : s.length ≤ 12 := by
    have h3 := decDigits_len n 11 (by have : (10 : Nat) ^ (11 + 1) = 1000000000000 := by decide
                                      omega)
    rw [← h2] at h3; simp at h3; omega
  dsimp only [run_skip, run_reg, plainB, ifB_true, run_seq, run_blk, run_exit, run_ret, run_ite, iteR, regK, thenK_nrm, thenK_exit, thenK_ret, thenR_nrm, thenR_exit, thenR_ret, blkK, keepS, keepE, runOps_nil, runOps_cons, goG_some, fpOk, foot, entOf, allN, memN, goOn_ok, goOn_call, goOn_row, goOn_arr, goOn_ask, goOn_put, goOn_prm, goOn_callK, goOn_callC, goOn_all, guardP, guardO, notInO, stepF, stepLd, stepSt, stepIxs, stepIxa, stepLen, stepApp, stepCpy, stepPick, stepSls, stepSst, stepSla, bareZ, evX, evL, evB, rd, get, subG, memG, freshG, notInG, hyps, gob, impP, allP, partD, partOf, isOne, isPtr, nth, takeN, dropN, cellsD, lenB, fillD, thirds, entN, setE, sizeE, addE, setL, setN, putE, env0, eqCs, eqAux, eqC, bA, bO, bN, bE, negB, kEq, isShr, lendL, lend, frz, frzL, zRow, closed, closedL, rowsOf, binI, retK, retG, atRet, retD, lendO, resL, resD, oneD, renD, renL, renE, renEs, rho, putAll, entsN, List.append, List.nil_append, List.cons_append, List.append_nil, cond, Nat.reduceBEq, Nat.reduceAdd, Nat.beq]
  refine ⟨fun hm => ?_, fun hm => ?_⟩
  · have hm : 9 < m := by simp at hm; omega
    have e1 : (48 + (m : Int) % 10) = ((48 + m % 10 : Nat) : Int) := by omega
    rw [e1]
    refine ⟨⟨by omega, by omega⟩, by simp only [fits]; omega, by simp only [fits]; omega, rfl, ask_intro (.str [UInt8.ofNat (48 + m % 10)]) (byte_str (by omega)) ?_⟩
    dsimp only [run_skip, run_reg, plainB, ifB_true, run_seq, run_blk, run_exit, run_ret, run_ite, iteR, regK, thenK_nrm, thenK_exit, thenK_ret, thenR_nrm, thenR_exit, thenR_ret, blkK, keepS, keepE, runOps_nil, runOps_cons, goG_some, fpOk, foot, entOf, allN, memN, goOn_ok, goOn_call, goOn_row, goOn_arr, goOn_ask, goOn_put, goOn_prm, goOn_callK, goOn_callC, goOn_all, guardP, guardO, notInO, stepF, stepLd, stepSt, stepIxs, stepIxa, stepLen, stepApp, stepCpy, stepPick, stepSls, stepSst, stepSla, bareZ, evX, evL, evB, rd, get, subG, memG, freshG, notInG, hyps, gob, impP, allP, partD, partOf, isOne, isPtr, nth, takeN, dropN, cellsD, lenB, fillD, thirds, entN, setE, sizeE, addE, setL, setN, putE, env0, eqCs, eqAux, eqC, bA, bO, bN, bE, negB, kEq, isShr, lendL, lend, frz, frzL, zRow, closed, closedL, rowsOf, binI, retK, retG, atRet, retD, lendO, resL, resD, oneD, renD, renL, renE, renEs, rho, putAll, entsN, List.append, List.nil_append, List.cons_append, List.append_nil, cond, Nat.reduceBEq, Nat.reduceAdd, Nat.beq]
    rw [show ((m : Int) / 10) = ((m / 10 : Nat) : Int) by omega]
    refine ⟨by simp; omega, ⟨by omega, by omega, by simp only [fits]; omega⟩, ?_⟩
    refine again (ih ⟨(m / 10, [UInt8.ofNat (48 + m % 10)] ++ s), by dsimp only; omega, by dsimp only; rw [← h2, dec_big (u := m) (by omega)]; simp⟩ (by dsimp only; omega)) ?_ ?_ rfl rfl
    · exact ⟨rfl, rfl, trivial⟩
    · trivial
  · have hm : m < 10 := by simp at hm; omega
    have e1 : (48 + (m : Int)) = ((48 + m : Nat) : Int) := by omega
    rw [e1]
    refine ⟨by simp only [fits]; omega, by simp only [fits]; omega, rfl, ask_intro (.str [UInt8.ofNat (48 + m)]) (byte_str (by omega)) ?_⟩
    dsimp only [run_skip, run_reg, plainB, ifB_true, run_seq, run_blk, run_exit, run_ret, run_ite, iteR, regK, thenK_nrm, thenK_exit, thenK_ret, thenR_nrm, thenR_exit, thenR_ret, blkK, keepS, keepE, runOps_nil, runOps_cons, goG_some, fpOk, foot, entOf, allN, memN, goOn_ok, goOn_call, goOn_row, goOn_arr, goOn_ask, goOn_put, goOn_prm, goOn_callK, goOn_callC, goOn_all, guardP, guardO, notInO, stepF, stepLd, stepSt, stepIxs, stepIxa, stepLen, stepApp, stepCpy, stepPick, stepSls, stepSst, stepSla, bareZ, evX, evL, evB, rd, get, subG, memG, freshG, notInG, hyps, gob, impP, allP, partD, partOf, isOne, isPtr, nth, takeN, dropN, cellsD, lenB, fillD, thirds, entN, setE, sizeE, addE, setL, setN, putE, env0, eqCs, eqAux, eqC, bA, bO, bN, bE, negB, kEq, isShr, lendL, lend, frz, frzL, zRow, closed, closedL, rowsOf, binI, retK, retG, atRet, retD, lendO, resL, resD, oneD, renD, renL, renE, renEs, rho, putAll, entsN, List.append, List.nil_append, List.cons_append, List.append_nil, cond, Nat.reduceBEq, Nat.reduceAdd, Nat.beq]
    rw [← h2, dec_small hm]
    exact ⟨by simp; omega, rfl⟩
theorem sp_ref63_tens {n : Int} (hn : inR n = true) : TSp 47 [.int .i64 n] (.str (Lib.itoa n)) := by
  simp only [inR, Bool.and_eq_true, decide_eq_true_eq] at hn
  rcases Int.lt_or_le n 0 with h | h
  · obtain ⟨m, hm⟩ : ∃ m : Nat, -n = m := ⟨(-n).toNat, by omega⟩
    have e : Lib.itoa n = 45 :: Lib.itoa (m : Int) := by
      unfold Lib.itoa
      rw [if_pos h, if_neg (by omega), Int.toNat_natCast]
      congr 2; omega
    rw [e]
    refine spo_ref63_tens (by rfl) ?_
    dsimp only [c_ref63_tens, r_ref63_tens, run_skip, run_reg, plainB, ifB_true, run_seq, run_blk, run_exit, run_ret, run_ite, iteR, regK, thenK_nrm, thenK_exit, thenK_ret, thenR_nrm, thenR_exit, thenR_ret, blkK, keepS, keepE, runOps_nil, runOps_cons, goG_some, fpOk, foot, entOf, allN, memN, goOn_ok, goOn_call, goOn_row, goOn_arr, goOn_ask, goOn_put, goOn_prm, goOn_callK, goOn_callC, goOn_all, guardP, guardO, notInO, stepF, stepLd, stepSt, stepIxs, stepIxa, stepLen, stepApp, stepCpy, stepPick, stepSls, stepSst, stepSla, bareZ, evX, evL, evB, rd, get, subG, memG, freshG, notInG, hyps, gob, impP, allP, partD, partOf, isOne, isPtr, nth, takeN, dropN, cellsD, lenB, fillD, thirds, entN, setE, sizeE, addE, setL, setN, putE, env0, eqCs, eqAux, eqC, bA, bO, bN, bE, negB, kEq, isShr, lendL, lend, frz, frzL, zRow, closed, closedL, rowsOf, binI, retK, retG, atRet, retD, lendO, resL, resD, oneD, renD, renL, renE, renEs, rho, putAll, entsN, List.append, List.nil_append, List.cons_append, List.append_nil, cond, Nat.reduceBEq, Nat.reduceAdd, Nat.beq]
    refine ⟨fun _ => ⟨by simp only [fits]; omega, ?_⟩, fun h2 => by simp at h2; omega⟩
    rw [hm]
    refine call_pure (sp_tens_pos (n := m) (by omega)) ?_
    dsimp only [run_skip, run_reg, plainB, ifB_true, run_seq, run_blk, run_exit, run_ret, run_ite, iteR, regK, thenK_nrm, thenK_exit, thenK_ret, thenR_nrm, thenR_exit, thenR_ret, blkK, keepS, keepE, runOps_nil, runOps_cons, goG_some, fpOk, foot, entOf, allN, memN, goOn_ok, goOn_call, goOn_row, goOn_arr, goOn_ask, goOn_put, goOn_prm, goOn_callK, goOn_callC, goOn_all, guardP, guardO, notInO, stepF, stepLd, stepSt, stepIxs, stepIxa, stepLen, stepApp, stepCpy, stepPick, stepSls, stepSst, stepSla, bareZ, evX, evL, evB, rd, get, subG, memG, freshG, notInG, hyps, gob, impP, allP, partD, partOf, isOne, isPtr, nth, takeN, dropN, cellsD, lenB, fillD, thirds, entN, setE, sizeE, addE, setL, setN, putE, env0, eqCs, eqAux, eqC, bA, bO, bN, bE, negB, kEq, isShr, lendL, lend, frz, frzL, zRow, closed, closedL, rowsOf, binI, retK, retG, atRet, retD, lendO, resL, resD, oneD, renD, renL, renE, renEs, rho, putAll, entsN, List.append, List.nil_append, List.cons_append, List.append_nil, cond, Nat.reduceBEq, Nat.reduceAdd, Nat.beq]
    have h3 := decDigits_len m 11 (by have : (10 : Nat) ^ (11 + 1) = 1000000000000 := by decide
                                      omega)
    have h4 : Lib.itoa (m : Int) = Lib.decDigits m := by unfold Lib.itoa; rw [if_neg (by omega), Int.toNat_natCast]
    exact ⟨by rw [h4]; simp; omega, rfl⟩
  · obtain ⟨m, rfl⟩ : ∃ m : Nat, n = m := ⟨n.toNat, by omega⟩
    exact sp_tens_pos (by omega)

/-- Numbers, one behind the other, a space ahead of each. -/
def tailT (l : List Bs) : Bs := l.flatMap fun x => 32 :: x
theorem tailT_app (a b : List Bs) : tailT (a ++ b) = tailT a ++ tailT b := by simp [tailT]
def wordT (w : Bs) : Bs := 32 :: w
/-- What stands ahead of a number. -/
def midT (op : Int) (i : Nat) (w : Bs) : Bs := if decide (op = 3) && decide ((i : Int) = 2) then wordT w else []
def numsA (op : Int) (w : Bs) (nums : List Int) : Nat → Bs
  | 0 => []
  | i + 1 => numsA op w nums i ++ midT op i w ++ wordT (Lib.itoa (nums.getD i 0))
def endT (op : Int) (n : Nat) (w : Bs) : Bs := if decide (op = 5) || decide (op = 12) || decide (op = 3) && decide ((n : Int) = 2) then wordT w else []
def lineB (c : Cm) : Bs := nameS c.op ++ (if decide (c.op = 1) then wordT (c.words.getD 0 []) else []) ++ numsA c.op (c.words.getD 0 []) c.nums c.nums.length ++ endT c.op c.nums.length (c.words.getD 0 []) ++ [10]
theorem midT_len (op : Int) (i : Nat) (w : Bs) : (midT op i w).length ≤ w.length + 1 := by
  unfold midT wordT; split <;> simp
theorem numsA_len {op : Int} {w : Bs} {nums : List Int} (hr : allR nums = true) : ∀ i, i ≤ nums.length → (numsA op w nums i).length ≤ i * (w.length + 13)
  | 0, _ => by simp [numsA]
  | i + 1, h => by
    have h1 := numsA_len (op := op) (w := w) hr i (by omega)
    have h2 := midT_len op i w
    have h3 : (Lib.itoa (nums.getD i 0)).length ≤ 11 := by
      rw [List.getD_eq_getElem?_getD, List.getElem?_eq_getElem (by omega)]
      exact itoa_len (allR_at hr (by omega))
    simp only [numsA, List.length_append, wordT, List.length_cons]
    rw [Nat.succ_mul]; omega
theorem sp_ref63_line {c : Cm} {k : Nat} (hg : Good c k) (hr : allR c.nums = true) (hwl : (c.words.getD 0 []).length ≤ 8000) : TSp 32 [cmD c] (.str (lineB c)) := by
  have hk := hg.lt
  have hop := hg.op
  obtain ⟨b1, b2⟩ := built_len hg.op hg.built
  obtain ⟨a1, a2, a3, a4⟩ := ahead_le hk
  have hnl : c.nums.length ≤ 100 := by omega
  have hwd : (c.op = 1 ∨ c.op = 3 ∨ c.op = 5 ∨ c.op = 12) → 0 < c.words.length := fun h => by
    have := built_word hg.op hg.built (by
      rw [hop] at h
      rcases sixteen hk with rfl | rfl | rfl | rfl | rfl | rfl | rfl | rfl | rfl | rfl | rfl | rfl | rfl | rfl | rfl | rfl <;> first | rfl | (simp at h))
    omega
  refine spo_ref63_line (by rfl) ?_
  dsimp only [c_ref63_line, r_ref63_line, cmD, run_skip, run_reg, plainB, ifB_true, run_seq, run_blk, run_exit, run_ret, run_ite, iteR, regK, thenK_nrm, thenK_exit, thenK_ret, thenR_nrm, thenR_exit, thenR_ret, blkK, keepS, keepE, runOps_nil, runOps_cons, goG_some, fpOk, foot, entOf, allN, memN, goOn_ok, goOn_call, goOn_row, goOn_arr, goOn_ask, goOn_put, goOn_prm, goOn_callK, goOn_callC, goOn_all, guardP, guardO, notInO, stepF, stepLd, stepSt, stepIxs, stepIxa, stepLen, stepApp, stepCpy, stepPick, stepSls, stepSst, stepSla, bareZ, evX, evL, evB, rd, get, subG, memG, freshG, notInG, hyps, gob, impP, allP, partD, partOf, isOne, isPtr, nth, takeN, dropN, cellsD, lenB, fillD, thirds, entN, setE, sizeE, addE, setL, setN, putE, env0, eqCs, eqAux, eqC, bA, bO, bN, bE, negB, kEq, isShr, lendL, lend, frz, frzL, zRow, closed, closedL, rowsOf, binI, retK, retG, atRet, retD, lendO, resL, resD, oneD, renD, renL, renE, renEs, rho, putAll, entsN, List.append, List.nil_append, List.cons_append, List.append_nil, cond, Nat.reduceBEq, Nat.reduceAdd, Nat.beq]
  refine call_pure sp_ref63_Names ?_
  dsimp only [run_skip, run_reg, plainB, ifB_true, run_seq, run_blk, run_exit, run_ret, run_ite, iteR, regK, thenK_nrm, thenK_exit, thenK_ret, thenR_nrm, thenR_exit, thenR_ret, blkK, keepS, keepE, runOps_nil, runOps_cons, goG_some, fpOk, foot, entOf, allN, memN, goOn_ok, goOn_call, goOn_row, goOn_arr, goOn_ask, goOn_put, goOn_prm, goOn_callK, goOn_callC, goOn_all, guardP, guardO, notInO, stepF, stepLd, stepSt, stepIxs, stepIxa, stepLen, stepApp, stepCpy, stepPick, stepSls, stepSst, stepSla, bareZ, evX, evL, evB, rd, get, subG, memG, freshG, notInG, hyps, gob, impP, allP, partD, partOf, isOne, isPtr, nth, takeN, dropN, cellsD, lenB, fillD, thirds, entN, setE, sizeE, addE, setL, setN, putE, env0, eqCs, eqAux, eqC, bA, bO, bN, bE, negB, kEq, isShr, lendL, lend, frz, frzL, zRow, closed, closedL, rowsOf, binI, retK, retG, atRet, retD, lendO, resL, resD, oneD, renD, renL, renE, renEs, rho, putAll, entsN, List.append, List.nil_append, List.cons_append, List.append_nil, cond, Nat.reduceBEq, Nat.reduceAdd, Nat.beq]
  have hnm : (sL nmL).length = 16 := rfl
  refine ⟨⟨rfl, by omega, by rw [hnm]; omega⟩, row_intro _ (.str (nameS c.op)) (show _ = some (D.str (nameS c.op)) from by rw [hop, Int.toNat_natCast, nm_at hk, nameS_sh hk]) rfl ?_⟩
  dsimp only [run_skip, run_reg, plainB, ifB_true, run_seq, run_blk, run_exit, run_ret, run_ite, iteR, regK, thenK_nrm, thenK_exit, thenK_ret, thenR_nrm, thenR_exit, thenR_ret, blkK, keepS, keepE, runOps_nil, runOps_cons, goG_some, fpOk, foot, entOf, allN, memN, goOn_ok, goOn_call, goOn_row, goOn_arr, goOn_ask, goOn_put, goOn_prm, goOn_callK, goOn_callC, goOn_all, guardP, guardO, notInO, stepF, stepLd, stepSt, stepIxs, stepIxa, stepLen, stepApp, stepCpy, stepPick, stepSls, stepSst, stepSla, bareZ, evX, evL, evB, rd, get, subG, memG, freshG, notInG, hyps, gob, impP, allP, partD, partOf, isOne, isPtr, nth, takeN, dropN, cellsD, lenB, fillD, thirds, entN, setE, sizeE, addE, setL, setN, putE, env0, eqCs, eqAux, eqC, bA, bO, bN, bE, negB, kEq, isShr, lendL, lend, frz, frzL, zRow, closed, closedL, rowsOf, binI, retK, retG, atRet, retD, lendO, resL, resD, oneD, renD, renL, renE, renEs, rho, putAll, entsN, List.append, List.nil_append, List.cons_append, List.append_nil, cond, Nat.reduceBEq, Nat.reduceAdd, Nat.beq]
  have hnl6 : (nameS c.op).length ≤ 6 := by rw [hop, nameS_sh hk]; exact a4
  unfold lineB
  generalize hw0 : c.words.getD 0 [] = w0 at *
  have hwr : 0 < c.words.length → (sL c.words)[Int.toNat 0]? = some (.str w0) := fun h => by rw [words_row h, hw0]
  refine ⟨fun q1 => ?a, fun q1 => ?b⟩
  case' a =>
    have e : nameS c.op ++ (if decide (c.op = 1) then wordT w0 else []) = nameS c.op ++ [32] ++ w0 := by rw [if_pos q1]; simp [wordT]
    have hwp := hwd (.inl (by simpa using q1))
    refine ⟨by simp; omega, ⟨rfl, by omega, by rw [sL_len]; omega⟩, row_intro _ (.str w0) (hwr hwp) rfl ?_⟩
    dsimp only [run_skip, run_reg, plainB, ifB_true, run_seq, run_blk, run_exit, run_ret, run_ite, iteR, regK, thenK_nrm, thenK_exit, thenK_ret, thenR_nrm, thenR_exit, thenR_ret, blkK, keepS, keepE, runOps_nil, runOps_cons, goG_some, fpOk, foot, entOf, allN, memN, goOn_ok, goOn_call, goOn_row, goOn_arr, goOn_ask, goOn_put, goOn_prm, goOn_callK, goOn_callC, goOn_all, guardP, guardO, notInO, stepF, stepLd, stepSt, stepIxs, stepIxa, stepLen, stepApp, stepCpy, stepPick, stepSls, stepSst, stepSla, bareZ, evX, evL, evB, rd, get, subG, memG, freshG, notInG, hyps, gob, impP, allP, partD, partOf, isOne, isPtr, nth, takeN, dropN, cellsD, lenB, fillD, thirds, entN, setE, sizeE, addE, setL, setN, putE, env0, eqCs, eqAux, eqC, bA, bO, bN, bE, negB, kEq, isShr, lendL, lend, frz, frzL, zRow, closed, closedL, rowsOf, binI, retK, retG, atRet, retD, lendO, resL, resD, oneD, renD, renL, renE, renEs, rho, putAll, entsN, List.append, List.nil_append, List.cons_append, List.append_nil, cond, Nat.reduceBEq, Nat.reduceAdd, Nat.beq]
    refine ⟨by simp; omega, ?_⟩
    have hal : (nameS c.op ++ [32] ++ w0).length ≤ 8007 := by simp; omega
    rw [e]
    clear e
    generalize nameS c.op ++ [32] ++ w0 = a0 at *
  case' b =>
    have e : nameS c.op ++ (if decide (c.op = 1) then wordT w0 else []) = nameS c.op := by rw [if_neg (by rw [q1]; simp)]; simp
    have hal : (nameS c.op).length ≤ 8007 := by omega
    rw [e]
    clear e
    generalize nameS c.op = a0 at *
  all_goals
    refine loop_ind (α := {i : Nat // i ≤ c.nums.length}) (fun i => ⟨[(1, [], .box 0 0), (3, [], .str (a0 ++ numsA c.op w0 c.nums i.1)), (4, [], .int .i64 i.1)], [.cells [.int .i64 c.line, .int .i64 c.op, .ls 1 (nL c.nums), .ls 1 (sL c.words)]]⟩) (fun i => c.nums.length - i.1) ?_ ⟨0, by omega⟩ (by simp [numsA])
    rintro ⟨i, h1⟩ I ih
    have hnA := numsA_len (op := c.op) (w := w0) hr i h1
    have hnB : i * (w0.length + 13) ≤ 100 * 8013 := Nat.mul_le_mul (by omega) (by omega)
    dsimp only [run_skip, run_reg, plainB, ifB_true, run_seq, run_blk, run_exit, run_ret, run_ite, iteR, regK, thenK_nrm, thenK_exit, thenK_ret, thenR_nrm, thenR_exit, thenR_ret, blkK, keepS, keepE, runOps_nil, runOps_cons, goG_some, fpOk, foot, entOf, allN, memN, goOn_ok, goOn_call, goOn_row, goOn_arr, goOn_ask, goOn_put, goOn_prm, goOn_callK, goOn_callC, goOn_all, guardP, guardO, notInO, stepF, stepLd, stepSt, stepIxs, stepIxa, stepLen, stepApp, stepCpy, stepPick, stepSls, stepSst, stepSla, bareZ, evX, evL, evB, rd, get, subG, memG, freshG, notInG, hyps, gob, impP, allP, partD, partOf, isOne, isPtr, nth, takeN, dropN, cellsD, lenB, fillD, thirds, entN, setE, sizeE, addE, setL, setN, putE, env0, eqCs, eqAux, eqC, bA, bO, bN, bE, negB, kEq, isShr, lendL, lend, frz, frzL, zRow, closed, closedL, rowsOf, binI, retK, retG, atRet, retD, lendO, resL, resD, oneD, renD, renL, renE, renEs, rho, putAll, entsN, List.append, List.nil_append, List.cons_append, List.append_nil, cond, Nat.reduceBEq, Nat.reduceAdd, Nat.beq]
    simp only [nL_len]
    refine ⟨fun hi => ?_, fun hi => ?_⟩
    · have hi : i < c.nums.length := by simpa using hi
      have hrow : (nL c.nums)[(i : Int).toNat]? = some (.int .i64 c.nums[i]) := by rw [Int.toNat_natCast]; exact nL_at hi
      have hin := allR_at hr hi
      have hil := itoa_len hin
      have hgd : c.nums.getD i 0 = c.nums[i] := by rw [List.getD_eq_getElem?_getD, List.getElem?_eq_getElem hi]; rfl
      refine ⟨fun hm => ?_, fun hm => ?_⟩
      · have hwp := hwd (.inr (.inl (by simp only [Bool.and_eq_true, decide_eq_true_eq] at hm; exact hm.1)))
        refine ⟨by simp; omega, ⟨trivial, by omega, by rw [sL_len]; omega⟩, row_intro _ (.str w0) (hwr hwp) rfl ?_⟩
        dsimp only [run_skip, run_reg, plainB, ifB_true, run_seq, run_blk, run_exit, run_ret, run_ite, iteR, regK, thenK_nrm, thenK_exit, thenK_ret, thenR_nrm, thenR_exit, thenR_ret, blkK, keepS, keepE, runOps_nil, runOps_cons, goG_some, fpOk, foot, entOf, allN, memN, goOn_ok, goOn_call, goOn_row, goOn_arr, goOn_ask, goOn_put, goOn_prm, goOn_callK, goOn_callC, goOn_all, guardP, guardO, notInO, stepF, stepLd, stepSt, stepIxs, stepIxa, stepLen, stepApp, stepCpy, stepPick, stepSls, stepSst, stepSla, bareZ, evX, evL, evB, rd, get, subG, memG, freshG, notInG, hyps, gob, impP, allP, partD, partOf, isOne, isPtr, nth, takeN, dropN, cellsD, lenB, fillD, thirds, entN, setE, sizeE, addE, setL, setN, putE, env0, eqCs, eqAux, eqC, bA, bO, bN, bE, negB, kEq, isShr, lendL, lend, frz, frzL, zRow, closed, closedL, rowsOf, binI, retK, retG, atRet, retD, lendO, resL, resD, oneD, renD, renL, renE, renEs, rho, putAll, entsN, List.append, List.nil_append, List.cons_append, List.append_nil, cond, Nat.reduceBEq, Nat.reduceAdd, Nat.beq]
        refine ⟨by simp; omega, by simp; omega, ⟨rfl, by omega, by rw [nL_len]; omega⟩, row_intro _ _ hrow rfl ?_⟩
        dsimp only [run_skip, run_reg, plainB, ifB_true, run_seq, run_blk, run_exit, run_ret, run_ite, iteR, regK, thenK_nrm, thenK_exit, thenK_ret, thenR_nrm, thenR_exit, thenR_ret, blkK, keepS, keepE, runOps_nil, runOps_cons, goG_some, fpOk, foot, entOf, allN, memN, goOn_ok, goOn_call, goOn_row, goOn_arr, goOn_ask, goOn_put, goOn_prm, goOn_callK, goOn_callC, goOn_all, guardP, guardO, notInO, stepF, stepLd, stepSt, stepIxs, stepIxa, stepLen, stepApp, stepCpy, stepPick, stepSls, stepSst, stepSla, bareZ, evX, evL, evB, rd, get, subG, memG, freshG, notInG, hyps, gob, impP, allP, partD, partOf, isOne, isPtr, nth, takeN, dropN, cellsD, lenB, fillD, thirds, entN, setE, sizeE, addE, setL, setN, putE, env0, eqCs, eqAux, eqC, bA, bO, bN, bE, negB, kEq, isShr, lendL, lend, frz, frzL, zRow, closed, closedL, rowsOf, binI, retK, retG, atRet, retD, lendO, resL, resD, oneD, renD, renL, renE, renEs, rho, putAll, entsN, List.append, List.nil_append, List.cons_append, List.append_nil, cond, Nat.reduceBEq, Nat.reduceAdd, Nat.beq]
        refine call_pure (sp_ref63_tens hin) ?_
        dsimp only [run_skip, run_reg, plainB, ifB_true, run_seq, run_blk, run_exit, run_ret, run_ite, iteR, regK, thenK_nrm, thenK_exit, thenK_ret, thenR_nrm, thenR_exit, thenR_ret, blkK, keepS, keepE, runOps_nil, runOps_cons, goG_some, fpOk, foot, entOf, allN, memN, goOn_ok, goOn_call, goOn_row, goOn_arr, goOn_ask, goOn_put, goOn_prm, goOn_callK, goOn_callC, goOn_all, guardP, guardO, notInO, stepF, stepLd, stepSt, stepIxs, stepIxa, stepLen, stepApp, stepCpy, stepPick, stepSls, stepSst, stepSla, bareZ, evX, evL, evB, rd, get, subG, memG, freshG, notInG, hyps, gob, impP, allP, partD, partOf, isOne, isPtr, nth, takeN, dropN, cellsD, lenB, fillD, thirds, entN, setE, sizeE, addE, setL, setN, putE, env0, eqCs, eqAux, eqC, bA, bO, bN, bE, negB, kEq, isShr, lendL, lend, frz, frzL, zRow, closed, closedL, rowsOf, binI, retK, retG, atRet, retD, lendO, resL, resD, oneD, renD, renL, renE, renEs, rho, putAll, entsN, List.append, List.nil_append, List.cons_append, List.append_nil, cond, Nat.reduceBEq, Nat.reduceAdd, Nat.beq]
        refine ⟨by simp; omega, by simp only [fits]; omega, ?_⟩
        refine again (n0 := 0) (ih ⟨i + 1, by omega⟩ (by dsimp only; omega)) ?_ ?_ rfl rfl
        · refine ⟨rfl, ?_, rfl, trivial⟩
          dsimp only [get]
          simp only [numsA, midT, hm, if_true, wordT, hgd]
          simp
        · exact ⟨rfl, trivial⟩
      · refine ⟨by simp; omega, ⟨trivial, by omega, by omega⟩, row_intro _ _ hrow rfl ?_⟩
        dsimp only [run_skip, run_reg, plainB, ifB_true, run_seq, run_blk, run_exit, run_ret, run_ite, iteR, regK, thenK_nrm, thenK_exit, thenK_ret, thenR_nrm, thenR_exit, thenR_ret, blkK, keepS, keepE, runOps_nil, runOps_cons, goG_some, fpOk, foot, entOf, allN, memN, goOn_ok, goOn_call, goOn_row, goOn_arr, goOn_ask, goOn_put, goOn_prm, goOn_callK, goOn_callC, goOn_all, guardP, guardO, notInO, stepF, stepLd, stepSt, stepIxs, stepIxa, stepLen, stepApp, stepCpy, stepPick, stepSls, stepSst, stepSla, bareZ, evX, evL, evB, rd, get, subG, memG, freshG, notInG, hyps, gob, impP, allP, partD, partOf, isOne, isPtr, nth, takeN, dropN, cellsD, lenB, fillD, thirds, entN, setE, sizeE, addE, setL, setN, putE, env0, eqCs, eqAux, eqC, bA, bO, bN, bE, negB, kEq, isShr, lendL, lend, frz, frzL, zRow, closed, closedL, rowsOf, binI, retK, retG, atRet, retD, lendO, resL, resD, oneD, renD, renL, renE, renEs, rho, putAll, entsN, List.append, List.nil_append, List.cons_append, List.append_nil, cond, Nat.reduceBEq, Nat.reduceAdd, Nat.beq]
        refine call_pure (sp_ref63_tens hin) ?_
        dsimp only [run_skip, run_reg, plainB, ifB_true, run_seq, run_blk, run_exit, run_ret, run_ite, iteR, regK, thenK_nrm, thenK_exit, thenK_ret, thenR_nrm, thenR_exit, thenR_ret, blkK, keepS, keepE, runOps_nil, runOps_cons, goG_some, fpOk, foot, entOf, allN, memN, goOn_ok, goOn_call, goOn_row, goOn_arr, goOn_ask, goOn_put, goOn_prm, goOn_callK, goOn_callC, goOn_all, guardP, guardO, notInO, stepF, stepLd, stepSt, stepIxs, stepIxa, stepLen, stepApp, stepCpy, stepPick, stepSls, stepSst, stepSla, bareZ, evX, evL, evB, rd, get, subG, memG, freshG, notInG, hyps, gob, impP, allP, partD, partOf, isOne, isPtr, nth, takeN, dropN, cellsD, lenB, fillD, thirds, entN, setE, sizeE, addE, setL, setN, putE, env0, eqCs, eqAux, eqC, bA, bO, bN, bE, negB, kEq, isShr, lendL, lend, frz, frzL, zRow, closed, closedL, rowsOf, binI, retK, retG, atRet, retD, lendO, resL, resD, oneD, renD, renL, renE, renEs, rho, putAll, entsN, List.append, List.nil_append, List.cons_append, List.append_nil, cond, Nat.reduceBEq, Nat.reduceAdd, Nat.beq]
        refine ⟨by simp; omega, by simp only [fits]; omega, ?_⟩
        refine again (n0 := 0) (ih ⟨i + 1, by omega⟩ (by dsimp only; omega)) ?_ ?_ rfl rfl
        · refine ⟨rfl, ?_, rfl, trivial⟩
          dsimp only [get]
          simp only [numsA, midT, hm, wordT, hgd]
          simp
        · exact ⟨rfl, trivial⟩
    · have hi : i = c.nums.length := by simp at hi; omega
      subst hi
      refine ⟨fun he => ?_, fun he => ?_⟩
      · have hwp := hwd (by
          simp only [Bool.or_eq_true, Bool.and_eq_true, decide_eq_true_eq] at he
          rcases he with (he | he) | he
          · exact .inr (.inr (.inl he))
          · exact .inr (.inr (.inr he))
          · exact .inr (.inl he.1))
        refine ⟨by simp; omega, ⟨trivial, by omega, by rw [sL_len]; omega⟩, row_intro _ (.str w0) (hwr hwp) rfl ?_⟩
        dsimp only [run_skip, run_reg, plainB, ifB_true, run_seq, run_blk, run_exit, run_ret, run_ite, iteR, regK, thenK_nrm, thenK_exit, thenK_ret, thenR_nrm, thenR_exit, thenR_ret, blkK, keepS, keepE, runOps_nil, runOps_cons, goG_some, fpOk, foot, entOf, allN, memN, goOn_ok, goOn_call, goOn_row, goOn_arr, goOn_ask, goOn_put, goOn_prm, goOn_callK, goOn_callC, goOn_all, guardP, guardO, notInO, stepF, stepLd, stepSt, stepIxs, stepIxa, stepLen, stepApp, stepCpy, stepPick, stepSls, stepSst, stepSla, bareZ, evX, evL, evB, rd, get, subG, memG, freshG, notInG, hyps, gob, impP, allP, partD, partOf, isOne, isPtr, nth, takeN, dropN, cellsD, lenB, fillD, thirds, entN, setE, sizeE, addE, setL, setN, putE, env0, eqCs, eqAux, eqC, bA, bO, bN, bE, negB, kEq, isShr, lendL, lend, frz, frzL, zRow, closed, closedL, rowsOf, binI, retK, retG, atRet, retD, lendO, resL, resD, oneD, renD, renL, renE, renEs, rho, putAll, entsN, List.append, List.nil_append, List.cons_append, List.append_nil, cond, Nat.reduceBEq, Nat.reduceAdd, Nat.beq]
        refine ⟨by simp; omega, by simp; omega, ?_⟩
        unfold endT
        rw [he]
        simp [wordT]
      · refine ⟨by simp; omega, ?_⟩
        unfold endT
        rw [he]
        simp
end Go.AM
