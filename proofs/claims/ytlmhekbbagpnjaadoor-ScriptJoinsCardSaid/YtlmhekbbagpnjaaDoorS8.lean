
/- Chapter 63: numbers. -/
import Derived.Test.YtlmhekbbagpnjaaDoorS7
set_option linter.all false
namespace Go.AM
open Go Go.Proofs Go.RowKit

def dg (b : UInt8) : Bool := !(decide ((b.toNat : Int) < 48) || decide (57 < (b.toNat : Int)))
def allDg (s : Bs) : Bool := s.all dg
theorem dg_take {s : Bs} {i : Nat} (h : i < s.length) : allDg (s.take (i + 1)) = (allDg (s.take i) && dg s[i]) := by
  unfold allDg; rw [List.take_succ_eq_append_getElem h, List.all_append]; simp
theorem dg_bad {s : Bs} {i : Nat} (h : i < s.length) (hb : dg s[i] = false) : allDg s = false := by
  unfold allDg
  rw [List.all_eq_false]
  exact ⟨_, List.getElem_mem h, by simp [hb]⟩
def belowB (w : Bs) : Bool := preB w [45]
def digs (w : Bs) : Bs := if belowB w then w.drop 1 else w
def badN (b : Bool) (d : Bs) : Bool := decide (d = []) || (decide (((d.getD 0 0).toNat : Int) = 48) && (b || decide (1 < (d.length : Int))))
def isNum (w : Bs) : Bool := !badN (belowB w) (digs w) && allDg (digs w)
/-- What digits spell. -/
def stepV (a : Nat) (c : UInt8) : Nat := a * 10 + (c.toNat - 48)
def valA (acc : Nat) (d : Bs) : Nat := d.foldl stepV acc
theorem valA_nil (acc : Nat) : valA acc [] = acc := List.foldl_nil
theorem valA_cons (acc : Nat) (c : UInt8) (r : Bs) : valA acc (c :: r) = valA (acc * 10 + (c.toNat - 48)) r := List.foldl_cons ..
theorem valA_app (a b : Bs) (acc : Nat) : valA acc (a ++ b) = valA (valA acc a) b := List.foldl_append ..
theorem valA_le (d : Bs) (acc : Nat) : acc ≤ valA acc d := by
  induction d generalizing acc with
  | nil => rw [valA_nil]; exact Nat.le_refl _
  | cons c r ih => rw [valA_cons]; have := ih (acc * 10 + (c.toNat - 48)); omega
theorem valA_lt : ∀ (d : Bs) (acc k : Nat), allDg d = true → acc < 10 ^ k → valA acc d < 10 ^ (k + d.length)
  | [], acc, k, _, h => by rw [valA_nil]; simpa using h
  | c :: r, acc, k, hd, h => by
    simp only [allDg, List.all_cons, Bool.and_eq_true] at hd
    have hc : c.toNat - 48 < 10 := by
      have := hd.1
      simp only [dg, Bool.not_eq_true', Bool.or_eq_false_iff, decide_eq_false_iff_not] at this
      omega
    have := valA_lt r (acc * 10 + (c.toNat - 48)) (k + 1) hd.2 (by rw [Nat.pow_succ]; omega)
    rw [valA_cons, List.length_cons]
    rwa [show k + (r.length + 1) = k + 1 + r.length by omega]
theorem valA_ge : ∀ (d : Bs) (acc k : Nat), 10 ^ k ≤ acc → 10 ^ (k + d.length) ≤ valA acc d
  | [], acc, k, h => by rw [valA_nil]; simpa using h
  | c :: r, acc, k, h => by
    have := valA_ge r (acc * 10 + (c.toNat - 48)) (k + 1) (by rw [Nat.pow_succ]; omega)
    rw [valA_cons, List.length_cons]
    rwa [show k + (r.length + 1) = k + 1 + r.length by omega]
def numP (w : Bs) : Int := if belowB w then (if valA 0 (digs w) ≤ 9223372036854775808 then -(valA 0 (digs w) : Int) else 9223372036854775807) else (if valA 0 (digs w) < 9223372036854775808 then (valA 0 (digs w) : Int) else 9223372036854775807)
def magR (d : Bs) : Int := if d.length ≤ 12 then (valA 0 d : Int) else 1000000000000
def numR (w : Bs) : Int := if belowB w then -magR (digs w) else magR (digs w)

theorem parseM_dg {M : Nat} (hM : M = 18446744073709551615) : ∀ (d : Bs) (acc : Nat), allDg d = true → acc ≤ M → Lib.parseUintM M acc d = if valA acc d ≤ M then .ok (valA acc d) else .range
  | [], acc, _, h => by rw [valA_nil]; simp [Lib.parseUintM, h]
  | c :: r, acc, hd, h => by
    simp only [allDg, List.all_cons, Bool.and_eq_true] at hd
    have hc : 48 ≤ c.toNat ∧ c.toNat ≤ 57 := by
      have := hd.1
      simp only [dg, Bool.not_eq_true', Bool.or_eq_false_iff, decide_eq_false_iff_not] at this
      omega
    have hv := valA_le r (acc * 10 + (c.toNat - 48))
    rw [valA_cons, Lib.parseUintM, if_pos hc]
    by_cases h1 : 1844674407370955162 ≤ acc
    · rw [if_pos h1, if_neg (by omega)]
    · rw [if_neg h1]
      by_cases h2 : M < acc * 10 + (c.toNat - 48)
      · rw [if_pos h2, if_neg (by omega)]
      · rw [if_neg h2]
        exact parseM_dg hM r _ hd.2 (by omega)
theorem parse_num {w : Bs} (h : isNum w = true) : (∃ v, Lib.parseIntB 64 w = .ok v ∧ numP w = v) ∨ (Lib.parseIntB 64 w = .range ∧ numP w = 9223372036854775807) := by
  simp only [isNum, Bool.and_eq_true, Bool.not_eq_true', badN, Bool.or_eq_false_iff, decide_eq_false_iff_not] at h
  obtain ⟨⟨h1, h2⟩, h3⟩ := h
  cases hw : w with
  | nil => subst hw; simp [digs, belowB, preB] at h1
  | cons c r =>
    have hM : (2 ^ 64 - 1 : Nat) = 18446744073709551615 := by decide
    by_cases hc : c = 45
    · subst hc
      have hb : belowB w = true := by rw [hw]; simp [belowB, preB]
      have hd : digs w = r := by unfold digs; rw [hb, hw]; rfl
      rw [hd] at h1 h3
      have hn : (45 : UInt8).toNat = 45 := rfl
      have hp := parseM_dg hM r 0 h3 (Nat.zero_le _)
      unfold numP
      rw [← hw, hb, hd]
      simp only [if_true]
      rw [hw]
      unfold Lib.parseIntB
      simp only [hn, or_true, if_true, Lib.parseUintB, h1, if_false]
      rw [hp]
      by_cases h4 : valA 0 r ≤ 18446744073709551615
      · rw [hM, if_pos h4]
        by_cases h5 : valA 0 r ≤ 9223372036854775808
        · left
          rw [if_pos h5]
          refine ⟨_, ?_, rfl⟩
          have : ¬ (2 ^ (64 - 1) < valA 0 r) := by simp; omega
          simp [this]
        · right
          rw [if_neg h5]
          have : 2 ^ (64 - 1) < valA 0 r := by simp; omega
          simp [this]
      · right
        rw [hM, if_neg h4, if_neg (by omega)]
        exact ⟨rfl, rfl⟩
    · have hb : belowB w = false := by rw [hw]; simp [belowB, preB, hc]
      have hd : digs w = w := by unfold digs; rw [hb]; rfl
      rw [hd, hw] at h1 h3
      have hc3 : 48 ≤ c.toNat := by
        simp only [allDg, List.all_cons, Bool.and_eq_true] at h3
        have := h3.1
        simp only [dg, Bool.not_eq_true', Bool.or_eq_false_iff, decide_eq_false_iff_not] at this
        omega
      have hn : ¬ (c.toNat = 43 ∨ c.toNat = 45) := by omega
      have hn2 : ¬ c.toNat = 45 := by omega
      have hp := parseM_dg hM (c :: r) 0 h3 (Nat.zero_le _)
      unfold numP
      rw [← hw, hb, hd, hw]
      simp only [Bool.false_eq_true, if_false]
      unfold Lib.parseIntB
      simp only [if_neg hn, Lib.parseUintB, if_neg h1]
      rw [hp]
      by_cases h4 : valA 0 (c :: r) ≤ 18446744073709551615
      · rw [hM, if_pos h4]
        by_cases h5 : valA 0 (c :: r) < 9223372036854775808
        · left
          rw [if_pos h5]
          refine ⟨_, ?_, rfl⟩
          have : ¬ (2 ^ (64 - 1) ≤ valA 0 (c :: r)) := by simp; omega
          simp [this, hn2]
        · right
          rw [if_neg h5]
          have : 2 ^ (64 - 1) ≤ valA 0 (c :: r) := by simp; omega
          simp [this, hn2]
      · right
        rw [hM, if_neg h4, if_neg (by omega)]
        exact ⟨rfl, rfl⟩

def numD (f : Bs → Int) (w : Bs) : D := .tup [.int .i64 (if isNum w then f w else 0), .bool (isNum w)]
theorem sp_script_number {w : Bs} (hs : w.length < 100000000) : TSp 36 [.str w] (numD numP w) := by
  refine spo_script_number (by rfl) ?_
  dsimp only [c_script_number, r_script_number, run_skip, run_reg, plainB, ifB_true, run_seq, run_blk, run_exit, run_ret, run_ite, iteR, regK, thenK_nrm, thenK_exit, thenK_ret, thenR_nrm, thenR_exit, thenR_ret, blkK, keepS, keepE, runOps_nil, runOps_cons, goG_some, fpOk, foot, entOf, allN, memN, goOn_ok, goOn_call, goOn_row, goOn_arr, goOn_ask, goOn_put, goOn_prm, goOn_callK, goOn_callC, goOn_all, guardP, guardO, notInO, stepF, stepLd, stepSt, stepIxs, stepIxa, stepLen, stepApp, stepCpy, stepPick, stepSls, stepSst, stepSla, bareZ, evX, evL, evB, rd, get, subG, memG, freshG, notInG, hyps, gob, impP, allP, partD, partOf, isOne, isPtr, nth, takeN, dropN, cellsD, lenB, fillD, thirds, entN, setE, sizeE, addE, setL, setN, putE, env0, eqCs, eqAux, eqC, bA, bO, bN, bE, negB, kEq, isShr, lendL, lend, frz, frzL, zRow, closed, closedL, rowsOf, binI, retK, retG, atRet, retD, lendO, resL, resD, oneD, renD, renL, renE, renEs, rho, putAll, entsN, List.append, List.nil_append, List.cons_append, List.append_nil, cond, Nat.reduceBEq, Nat.reduceAdd, Nat.beq]
  refine call_pure sp_CutPrefix ?_
  dsimp only [run_skip, run_reg, plainB, ifB_true, run_seq, run_blk, run_exit, run_ret, run_ite, iteR, regK, thenK_nrm, thenK_exit, thenK_ret, thenR_nrm, thenR_exit, thenR_ret, blkK, keepS, keepE, runOps_nil, runOps_cons, goG_some, fpOk, foot, entOf, allN, memN, goOn_ok, goOn_call, goOn_row, goOn_arr, goOn_ask, goOn_put, goOn_prm, goOn_callK, goOn_callC, goOn_all, guardP, guardO, notInO, stepF, stepLd, stepSt, stepIxs, stepIxa, stepLen, stepApp, stepCpy, stepPick, stepSls, stepSst, stepSla, bareZ, evX, evL, evB, rd, get, subG, memG, freshG, notInG, hyps, gob, impP, allP, partD, partOf, isOne, isPtr, nth, takeN, dropN, cellsD, lenB, fillD, thirds, entN, setE, sizeE, addE, setL, setN, putE, env0, eqCs, eqAux, eqC, bA, bO, bN, bE, negB, kEq, isShr, lendL, lend, frz, frzL, zRow, closed, closedL, rowsOf, binI, retK, retG, atRet, retD, lendO, resL, resD, oneD, renD, renL, renE, renEs, rho, putAll, entsN, List.append, List.nil_append, List.cons_append, List.append_nil, cond, Nat.reduceBEq, Nat.reduceAdd, Nat.beq]
  change _
  have hdig : (if preB w [45] then w.drop ([45] : Bs).length else w) = digs w := rfl
  rw [hdig]
  rw [show preB w [45] = belowB w from rfl]
  have hdl : (digs w).length < 100000000 := by unfold digs; split <;> (try simp) <;> omega
  have hbad : badN (belowB w) (digs w) = (decide (digs w = []) || (decide ((((digs w).getD (Int.toNat 0) 0).toNat : Int) = 48) && (belowB w || decide (1 < ((digs w).length : Int))))) := rfl
  rw [← hbad]
  refine ⟨fun h => ?_, fun h => ?_, fun h => ?_⟩
  · have : 0 < (digs w).length := List.length_pos_iff.2 (by simpa using h)
    exact ⟨by omega, by omega⟩
  · simp [numD, isNum, h]
  refine loop_ind (α := {i : Nat // i ≤ (digs w).length ∧ allDg ((digs w).take i) = true}) (fun i => ⟨[(0, [], .str w), (4, [], .str (digs w)), (30, [], .int .i64 (digs w).length), (31, [], .int .i64 i.1)], []⟩) (fun i => (digs w).length - i.1) ?_ ⟨0, by simp [allDg]⟩ rfl
  rintro ⟨i, h1, h2⟩ I ih
  dsimp only [run_skip, run_reg, plainB, ifB_true, run_seq, run_blk, run_exit, run_ret, run_ite, iteR, regK, thenK_nrm, thenK_exit, thenK_ret, thenR_nrm, thenR_exit, thenR_ret, blkK, keepS, keepE, runOps_nil, runOps_cons, goG_some, fpOk, foot, entOf, allN, memN, goOn_ok, goOn_call, goOn_row, goOn_arr, goOn_ask, goOn_put, goOn_prm, goOn_callK, goOn_callC, goOn_all, guardP, guardO, notInO, stepF, stepLd, stepSt, stepIxs, stepIxa, stepLen, stepApp, stepCpy, stepPick, stepSls, stepSst, stepSla, bareZ, evX, evL, evB, rd, get, subG, memG, freshG, notInG, hyps, gob, impP, allP, partD, partOf, isOne, isPtr, nth, takeN, dropN, cellsD, lenB, fillD, thirds, entN, setE, sizeE, addE, setL, setN, putE, env0, eqCs, eqAux, eqC, bA, bO, bN, bE, negB, kEq, isShr, lendL, lend, frz, frzL, zRow, closed, closedL, rowsOf, binI, retK, retG, atRet, retD, lendO, resL, resD, oneD, renD, renL, renE, renEs, rho, putAll, entsN, List.append, List.nil_append, List.cons_append, List.append_nil, cond, Nat.reduceBEq, Nat.reduceAdd, Nat.beq]
  refine ⟨fun hi => ?_, fun hi => ?_⟩
  · have hi : i < (digs w).length := by simpa using hi
    have g : (0 : Int) ≤ i ∧ (i : Int) < (digs w).length := ⟨by omega, by omega⟩
    have e : (digs w).getD (i : Int).toNat 0 = (digs w)[i] := by simp [hi]
    refine ⟨g, fun _ => g, ?_⟩
    rw [e]
    refine ⟨fun hb => ?_, fun hb => ?_⟩
    · have : dg (digs w)[i] = false := by unfold dg; rw [hb]; rfl
      simp [numD, isNum, dg_bad hi this]
    · have : dg (digs w)[i] = true := by unfold dg; rw [hb]; rfl
      refine ⟨by simp only [fits]; omega, ?_⟩
      refine again (ih ⟨i + 1, by omega, by rw [dg_take hi, h2, this]; rfl⟩ (by dsimp only; omega)) ?_ ?_ rfl rfl
      · exact ⟨rfl, rfl, rfl, rfl, trivial⟩
      · exact trivial
  · have hi : i = (digs w).length := by simp at hi; omega
    subst hi
    rw [List.take_length] at h2
    have hn : isNum w = true := by unfold isNum; rw [h, h2]; rfl
    rcases parse_num hn with ⟨v, h3, h4⟩ | ⟨h3, h4⟩
    · refine call_pure (sp_ParseInt_ok (by omega) h3) ?_
      dsimp only [run_skip, run_reg, plainB, ifB_true, run_seq, run_blk, run_exit, run_ret, run_ite, iteR, regK, thenK_nrm, thenK_exit, thenK_ret, thenR_nrm, thenR_exit, thenR_ret, blkK, keepS, keepE, runOps_nil, runOps_cons, goG_some, fpOk, foot, entOf, allN, memN, goOn_ok, goOn_call, goOn_row, goOn_arr, goOn_ask, goOn_put, goOn_prm, goOn_callK, goOn_callC, goOn_all, guardP, guardO, notInO, stepF, stepLd, stepSt, stepIxs, stepIxa, stepLen, stepApp, stepCpy, stepPick, stepSls, stepSst, stepSla, bareZ, evX, evL, evB, rd, get, subG, memG, freshG, notInG, hyps, gob, impP, allP, partD, partOf, isOne, isPtr, nth, takeN, dropN, cellsD, lenB, fillD, thirds, entN, setE, sizeE, addE, setL, setN, putE, env0, eqCs, eqAux, eqC, bA, bO, bN, bE, negB, kEq, isShr, lendL, lend, frz, frzL, zRow, closed, closedL, rowsOf, binI, retK, retG, atRet, retD, lendO, resL, resD, oneD, renD, renL, renE, renEs, rho, putAll, entsN, List.append, List.nil_append, List.cons_append, List.append_nil, cond, Nat.reduceBEq, Nat.reduceAdd, Nat.beq]
      refine prm_look (.bool false) (pr_ilk (i := true) Tryd.underlying62) ?_
      dsimp only [run_skip, run_reg, plainB, ifB_true, run_seq, run_blk, run_exit, run_ret, run_ite, iteR, regK, thenK_nrm, thenK_exit, thenK_ret, thenR_nrm, thenR_exit, thenR_ret, blkK, keepS, keepE, runOps_nil, runOps_cons, goG_some, fpOk, foot, entOf, allN, memN, goOn_ok, goOn_call, goOn_row, goOn_arr, goOn_ask, goOn_put, goOn_prm, goOn_callK, goOn_callC, goOn_all, guardP, guardO, notInO, stepF, stepLd, stepSt, stepIxs, stepIxa, stepLen, stepApp, stepCpy, stepPick, stepSls, stepSst, stepSla, bareZ, evX, evL, evB, rd, get, subG, memG, freshG, notInG, hyps, gob, impP, allP, partD, partOf, isOne, isPtr, nth, takeN, dropN, cellsD, lenB, fillD, thirds, entN, setE, sizeE, addE, setL, setN, putE, env0, eqCs, eqAux, eqC, bA, bO, bN, bE, negB, kEq, isShr, lendL, lend, frz, frzL, zRow, closed, closedL, rowsOf, binI, retK, retG, atRet, retD, lendO, resL, resD, oneD, renD, renL, renE, renEs, rho, putAll, entsN, List.append, List.nil_append, List.cons_append, List.append_nil, cond, Nat.reduceBEq, Nat.reduceAdd, Nat.beq]
      simp [numD, hn, h4]
    · refine call_pure (sp_ParseInt_range (by omega) h3) ?_
      dsimp only [run_skip, run_reg, plainB, ifB_true, run_seq, run_blk, run_exit, run_ret, run_ite, iteR, regK, thenK_nrm, thenK_exit, thenK_ret, thenR_nrm, thenR_exit, thenR_ret, blkK, keepS, keepE, runOps_nil, runOps_cons, goG_some, fpOk, foot, entOf, allN, memN, goOn_ok, goOn_call, goOn_row, goOn_arr, goOn_ask, goOn_put, goOn_prm, goOn_callK, goOn_callC, goOn_all, guardP, guardO, notInO, stepF, stepLd, stepSt, stepIxs, stepIxa, stepLen, stepApp, stepCpy, stepPick, stepSls, stepSst, stepSla, bareZ, evX, evL, evB, rd, get, subG, memG, freshG, notInG, hyps, gob, impP, allP, partD, partOf, isOne, isPtr, nth, takeN, dropN, cellsD, lenB, fillD, thirds, entN, setE, sizeE, addE, setL, setN, putE, env0, eqCs, eqAux, eqC, bA, bO, bN, bE, negB, kEq, isShr, lendL, lend, frz, frzL, zRow, closed, closedL, rowsOf, binI, retK, retG, atRet, retD, lendO, resL, resD, oneD, renD, renL, renE, renEs, rho, putAll, entsN, List.append, List.nil_append, List.cons_append, List.append_nil, cond, Nat.reduceBEq, Nat.reduceAdd, Nat.beq]
      refine prm_look (.bool true) (pr_ilk (i := false) Tryd.underlying62) ?_
      dsimp only [run_skip, run_reg, plainB, ifB_true, run_seq, run_blk, run_exit, run_ret, run_ite, iteR, regK, thenK_nrm, thenK_exit, thenK_ret, thenR_nrm, thenR_exit, thenR_ret, blkK, keepS, keepE, runOps_nil, runOps_cons, goG_some, fpOk, foot, entOf, allN, memN, goOn_ok, goOn_call, goOn_row, goOn_arr, goOn_ask, goOn_put, goOn_prm, goOn_callK, goOn_callC, goOn_all, guardP, guardO, notInO, stepF, stepLd, stepSt, stepIxs, stepIxa, stepLen, stepApp, stepCpy, stepPick, stepSls, stepSst, stepSla, bareZ, evX, evL, evB, rd, get, subG, memG, freshG, notInG, hyps, gob, impP, allP, partD, partOf, isOne, isPtr, nth, takeN, dropN, cellsD, lenB, fillD, thirds, entN, setE, sizeE, addE, setL, setN, putE, env0, eqCs, eqAux, eqC, bA, bO, bN, bE, negB, kEq, isShr, lendL, lend, frz, frzL, zRow, closed, closedL, rowsOf, binI, retK, retG, atRet, retD, lendO, resL, resD, oneD, renD, renL, renE, renEs, rho, putAll, entsN, List.append, List.nil_append, List.cons_append, List.append_nil, cond, Nat.reduceBEq, Nat.reduceAdd, Nat.beq]
      simp [numD, hn, h4]
def numD2 (b : Bool) (d : Bs) : D := .tup [.int .i64 (if !badN b d && allDg d then (if b then -magR d else magR d) else 0), .bool (!badN b d && allDg d)]
theorem badN_eq (b : Bool) (d : Bs) : (decide ((d.length : Int) = 0) || decide (1 < (d.length : Int)) && decide (((d.getD (Int.toNat 0) 0).toNat : Int) = 48) || b && decide (d = [48])) = badN b d := by
  unfold badN
  rw [show Int.toNat 0 = 0 from rfl]
  match d with
  | [] => simp
  | [c] =>
    have : ((c.toNat : Int) = 48) ↔ c = 48 := ⟨fun h => UInt8.toNat_inj.1 (by show c.toNat = 48; omega), fun h => by subst h; rfl⟩
    cases b <;> simp [this]
  | c :: c2 :: r =>
    have : (1 : Int) < ((c :: c2 :: r).length : Int) := by simp; omega
    have h0 : ¬ (((c :: c2 :: r).length : Int) = 0) := by simp; omega
    simp only [this, h0]
    cases b <;> simp
theorem magR_bd (d : Bs) (hd : allDg d = true) : 0 ≤ magR d ∧ magR d ≤ 1000000000000 := by
  unfold magR
  split
  · rename_i h
    have := valA_lt d 0 0 hd (by decide)
    have h2 : 10 ^ (0 + d.length) ≤ 10 ^ 12 := Nat.pow_le_pow_right (by decide) (by omega)
    have h3 : (10 : Nat) ^ 12 = 1000000000000 := by decide
    omega
  · omega
theorem sp_ref63_number {w : Bs} (hs : w.length < 100000000) : TSp 39 [.str w] (numD numR w) := by
  refine spo_ref63_number (by rfl) ?_
  dsimp only [c_ref63_number, r_ref63_number, run_skip, run_reg, plainB, ifB_true, run_seq, run_blk, run_exit, run_ret, run_ite, iteR, regK, thenK_nrm, thenK_exit, thenK_ret, thenR_nrm, thenR_exit, thenR_ret, blkK, keepS, keepE, runOps_nil, runOps_cons, goG_some, fpOk, foot, entOf, allN, memN, goOn_ok, goOn_call, goOn_row, goOn_arr, goOn_ask, goOn_put, goOn_prm, goOn_callK, goOn_callC, goOn_all, guardP, guardO, notInO, stepF, stepLd, stepSt, stepIxs, stepIxa, stepLen, stepApp, stepCpy, stepPick, stepSls, stepSst, stepSla, bareZ, evX, evL, evB, rd, get, subG, memG, freshG, notInG, hyps, gob, impP, allP, partD, partOf, isOne, isPtr, nth, takeN, dropN, cellsD, lenB, fillD, thirds, entN, setE, sizeE, addE, setL, setN, putE, env0, eqCs, eqAux, eqC, bA, bO, bN, bE, negB, kEq, isShr, lendL, lend, frz, frzL, zRow, closed, closedL, rowsOf, binI, retK, retG, atRet, retD, lendO, resL, resD, oneD, renD, renL, renE, renEs, rho, putAll, entsN, List.append, List.nil_append, List.cons_append, List.append_nil, cond, Nat.reduceBEq, Nat.reduceAdd, Nat.beq]
  have hbe : (decide (0 < (w.length : Int)) && decide (((w.getD (Int.toNat 0) 0).toNat : Int) = 45)) = belowB w := by
    unfold belowB preB
    match w with
    | [] => rfl
    | c :: r =>
      have : ((c.toNat : Int) = 45) ↔ c = 45 := ⟨fun h => UInt8.toNat_inj.1 (by show c.toNat = 45; omega), fun h => by subst h; rfl⟩
      simp [this]
  simp only [hbe]
  rw [show numD numR w = numD2 (belowB w) (digs w) from rfl]
  refine ⟨fun h => ?z, fun h => ?a, fun h => ?b⟩
  case z => simp only [decide_eq_true_eq] at h; exact ⟨by omega, h⟩
  case' a =>
    have hd : digs w = w.drop 1 := by unfold digs; rw [h]; rfl
    have h1 : 0 < w.length := by rw [h] at hbe; simp only [Bool.and_eq_true, decide_eq_true_eq] at hbe; omega
    have e : List.drop (Int.toNat 1) (List.take (w.length : Int).toNat w) = digs w := by rw [Int.toNat_natCast, List.take_length, hd]; rfl
    have hdl : (digs w).length < 100000000 := by rw [hd]; simp; omega
    rw [e]
    refine ⟨⟨by omega, by omega, by omega⟩, ?_⟩
    clear e hd h1 h hbe hs
    generalize digs w = d at *
    generalize belowB w = b at *
  case' b =>
    have hd : digs w = w := by unfold digs; rw [h]; rfl
    rw [hd]
    clear hd hbe h
    generalize belowB w = b
    revert hs
    generalize w = d
    intro hdl
  all_goals
    simp only [badN_eq]
    refine ⟨fun h _ => ?_, fun h => ?_, fun h => ?_⟩
    · simp only [decide_eq_true_eq] at h; exact ⟨by omega, by omega⟩
    · simp [numD2, h]
    refine loop_ind (α := {i : Nat // i ≤ d.length ∧ allDg (d.take i) = true}) (fun i => ⟨[(0, [], .str d), (4, [], .bool b), (5, [], .int .i64 (magR (d.take i.1))), (6, [], .int .i64 i.1)], []⟩) (fun i => d.length - i.1) ?_ ⟨0, by simp [allDg]⟩ rfl
    rintro ⟨i, h1, h2⟩ I ih
    dsimp only [run_skip, run_reg, plainB, ifB_true, run_seq, run_blk, run_exit, run_ret, run_ite, iteR, regK, thenK_nrm, thenK_exit, thenK_ret, thenR_nrm, thenR_exit, thenR_ret, blkK, keepS, keepE, runOps_nil, runOps_cons, goG_some, fpOk, foot, entOf, allN, memN, goOn_ok, goOn_call, goOn_row, goOn_arr, goOn_ask, goOn_put, goOn_prm, goOn_callK, goOn_callC, goOn_all, guardP, guardO, notInO, stepF, stepLd, stepSt, stepIxs, stepIxa, stepLen, stepApp, stepCpy, stepPick, stepSls, stepSst, stepSla, bareZ, evX, evL, evB, rd, get, subG, memG, freshG, notInG, hyps, gob, impP, allP, partD, partOf, isOne, isPtr, nth, takeN, dropN, cellsD, lenB, fillD, thirds, entN, setE, sizeE, addE, setL, setN, putE, env0, eqCs, eqAux, eqC, bA, bO, bN, bE, negB, kEq, isShr, lendL, lend, frz, frzL, zRow, closed, closedL, rowsOf, binI, retK, retG, atRet, retD, lendO, resL, resD, oneD, renD, renL, renE, renEs, rho, putAll, entsN, List.append, List.nil_append, List.cons_append, List.append_nil, cond, Nat.reduceBEq, Nat.reduceAdd, Nat.beq]
    obtain ⟨m1, m2⟩ := magR_bd _ h2
    refine ⟨fun hi => ?_, fun hi => ?_⟩
    · have hi : i < d.length := by simpa using hi
      have g : (0 : Int) ≤ i ∧ (i : Int) < d.length := ⟨by omega, by omega⟩
      have e : d.getD (i : Int).toNat 0 = d[i] := by simp [hi]
      refine ⟨g, fun _ => g, ?_⟩
      rw [e]
      refine ⟨fun hb => ?_, fun hb => ?_⟩
      · have : dg d[i] = false := by unfold dg; rw [hb]; rfl
        simp [numD2, dg_bad hi this]
      · have hdg : dg d[i] = true := by unfold dg; rw [hb]; rfl
        have ha : allDg (d.take (i + 1)) = true := by rw [dg_take hi, h2, hdg]; rfl
        simp only [Bool.or_eq_false_iff, decide_eq_false_iff_not] at hb
        have hl1 : (d.take i).length = i := by simp; omega
        have hl2 : (d.take (i + 1)).length = i + 1 := by simp; omega
        have hg : i < 12 → 10 * magR (d.take i) + (d[i].toNat : Int) - 48 = magR (d.take (i + 1)) := fun hlt => by
          unfold magR
          rw [hl1, hl2, if_pos (by omega), if_pos (by omega), List.take_succ_eq_append_getElem hi, valA_app, valA_cons, valA_nil]
          omega
        have hg2 : ¬ i < 12 → magR (d.take (i + 1)) = 1000000000000 := fun hlt => by
          unfold magR
          rw [hl2, if_neg (by omega)]
        refine ⟨fun hlt => ?_, fun hlt => ?_⟩
        · simp only [decide_eq_true_eq] at hlt
          refine ⟨by simp only [fits]; omega, g, by simp only [fits]; omega, by simp only [fits]; omega, by simp only [fits]; omega, ?_⟩
          rw [hg (by omega)]
          refine ⟨by simp only [fits]; omega, ?_⟩
          refine again (n0 := 0) (ih ⟨i + 1, by omega, ha⟩ (by dsimp only; omega)) ?_ ?_ rfl rfl
          · exact ⟨rfl, rfl, rfl, rfl, trivial⟩
          · exact trivial
        · simp only [decide_eq_false_iff_not] at hlt
          refine ⟨by simp only [fits]; omega, ?_⟩
          refine again (ih ⟨i + 1, by omega, ha⟩ (by dsimp only; omega)) ?_ ?_ rfl rfl
          · refine ⟨rfl, rfl, ?_, rfl, trivial⟩
            dsimp only; rw [hg2 (by omega)]; rfl
          · exact trivial
    · have hi : i = d.length := by simp at hi; omega
      subst hi
      rw [List.take_length] at h2 m1 m2 ⊢
      refine ⟨fun hb => ?_, fun hb => ?_⟩
      · refine ⟨by simp only [fits]; omega, ?_⟩
        subst hb; simp [numD2, h, h2]
      · subst hb; simp [numD2, h, h2]
end Go.AM
