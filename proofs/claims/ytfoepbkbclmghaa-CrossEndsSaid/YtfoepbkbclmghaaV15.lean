
/- Chapter 36: the document's way. -/
import Derived.Test.YtfoepbkbclmghaaV14
set_option linter.all false
namespace Go.AM
open Go Go.Proofs

def tailN : Nat → C → C
  | 0, c => c
  | n + 1, .seq _ r => tailN n r
  | _, c => c
def outS (b : List Int) (bt : Int) (en : Bool) (l : List Int) : List Stp := (l.filter fun x => !decide (x ∈ b)).map (mkS en bt)
def refU (a b : List Int) (fi bt : Int) : List Stp := match a with
  | [] => []
  | x :: r => ⟨x, false, fi⟩ :: outS b bt false r
def refD (b a : List Int) (la bt : Int) : List Stp := match b with
  | [] => []
  | x :: r => outS a bt true r.reverse ++ [⟨x, true, la⟩]
def refK (a b : List Int) (f g : Int) : Int × Int × Int := if g ∈ a then (0, 2, 1) else if f ∈ b then (2, 0, 1) else (3, 3, 4)
def refS (a b : List Int) (f g : Int) : List Stp :=
  if f = g ∨ (a = [] ∧ b = []) then [] else refU a b (refK a b f g).1 (refK a b f g).2.2 ++ refD b a (refK a b f g).2.1 (refK a b f g).2.2

theorem outS_snoc (b : List Int) (bt : Int) (en : Bool) (l : List Int) (x : Int) : outS b bt en (l ++ [x]) = outS b bt en l ++ (if x ∈ b then [] else [mkS en bt x]) := by
  unfold outS
  by_cases h : x ∈ b <;> simp [List.filter_append, h]
theorem refU_snoc {l : List Int} (hl : l ≠ []) (b : List Int) (fi bt x : Int) : refU (l ++ [x]) b fi bt = refU l b fi bt ++ (if x ∈ b then [] else [mkS false bt x]) := by
  cases l with
  | nil => exact absurd rfl hl
  | cons y r => simp [refU, outS_snoc]
theorem outS_len (b : List Int) (bt : Int) (en : Bool) (l : List Int) : (outS b bt en l).length ≤ l.length := by
  unfold outS; rw [List.length_map]; exact List.length_filter_le _ _
theorem refU_len (a b : List Int) (fi bt : Int) : (refU a b fi bt).length ≤ a.length := by
  cases a with
  | nil => simp [refU]
  | cons x r => have := outS_len b bt false r; simp [refU]; omega
def dnS (b a : List Int) (la bt : Int) (k : Nat) : List Stp := if k = 0 then refD b a la bt else outS a bt true (b.drop k).reverse
theorem dnS_last {b : List Int} (h : 0 < b.length) (a : List Int) (la bt : Int) : dnS b a la bt 0 = dnS b a la bt 1 ++ [⟨b[0], true, la⟩] := by
  cases b with
  | nil => simp at h
  | cons x r => simp [dnS, refD]
theorem dnS_step {b : List Int} {k : Nat} (h : k < b.length) (h0 : 0 < k) (a : List Int) (la bt : Int) : dnS b a la bt k = dnS b a la bt (k + 1) ++ (if b[k] ∈ a then [] else [mkS true bt b[k]]) := by
  unfold dnS
  rw [if_neg (by omega), if_neg (by omega), drop_at h, List.reverse_cons, outS_snoc]
theorem dnS_len (b a : List Int) (la bt : Int) (k : Nat) : (dnS b a la bt k).length ≤ b.length := by
  unfold dnS
  split
  · cases b with
    | nil => simp [refD]
    | cons x r => have := outS_len a bt true r.reverse; simp [refD] at this ⊢; omega
  · have := outS_len a bt true (b.drop k).reverse; simp at this ⊢; omega

def stRU (a b : List Int) (fi la bt : Int) (v i : Nat) : St := ⟨[(7, [], .ls 1 (iL a)), (8, [], .ls 1 (iL b)), (9, [], .int .i64 fi), (10, [], .int .i64 la), (11, [], .int .i64 bt), (12, [], .own 1 v), (41, [], .ls 1 (iL a)), (42, [], .int .i64 a.length), (43, [], .int .i64 i)], [.arr 57 3 0 [], .arr 57 3 v (sL (refU (a.take i) b fi bt))]⟩
def stRD (a b : List Int) (fi la bt : Int) (v k : Nat) : St := ⟨[(7, [], .ls 1 (iL a)), (8, [], .ls 1 (iL b)), (10, [], .int .i64 la), (11, [], .int .i64 bt), (12, [], .own 1 v), (15, [], .int .i64 ((k : Int) - 1))], [.arr 57 3 0 [], .arr 57 3 v (sL (refU a b fi bt ++ dnS b a la bt k))]⟩
theorem ref_tail {a b : List Int} (ha : a.length < 100000) (hb : b.length < 100000) (fi la bt : Int) : run TSpC gtab 0 (tailN 7 c_ref36_Path) (retK r_ref36_Path (· = .ls 3 (sL (refU a b fi bt ++ refD b a la bt))))
    ⟨[(7, [], .ls 1 (iL a)), (8, [], .ls 1 (iL b)), (9, [], .int .i64 fi), (10, [], .int .i64 la), (11, [], .int .i64 bt), (12, [], .own 1 0)], [.arr 57 3 0 [], .arr 57 3 0 []]⟩ := by
  dsimp only [tailN, c_ref36_Path, r_ref36_Path, run_skip, run_reg, plainB, ifB_true, run_seq, run_blk, run_exit, run_ret, run_ite, iteR, regK, thenK_nrm, thenK_exit, thenK_ret, thenR_nrm, thenR_exit, thenR_ret, blkK, keepS, keepE, runOps_nil, runOps_cons, goG_some, fpOk, foot, entOf, allN, memN, goOn_ok, goOn_call, goOn_row, goOn_arr, goOn_ask, goOn_put, goOn_prm, goOn_callK, goOn_all, guardP, guardO, notInO, stepF, stepLd, stepSt, stepIxs, stepIxa, stepLen, stepApp, stepCpy, stepPick, stepSls, stepSst, stepSla, bareZ, evX, evL, evB, rd, get, subG, memG, freshG, notInG, hyps, gob, impP, allP, partD, partOf, isOne, isPtr, nth, takeN, dropN, cellsD, lenB, fillD, thirds, entN, setE, sizeE, addE, setL, setN, putE, env0, eqCs, eqAux, eqC, bA, bO, bN, bE, negB, kEq, isShr, lendL, lend, frz, frzL, zRow, closed, closedL, rowsOf, binI, retK, retG, atRet, retD, lendO, resL, resD, oneD, renD, renL, renE, renEs, rho, putAll, entsN, List.append, List.nil_append, List.cons_append, List.append_nil, cond, Nat.reduceBEq, Nat.reduceAdd, Nat.beq]
  rw [iL_len]
  refine loop_ind (α := {x : Nat × Nat // x.2 ≤ a.length}) (fun x => stRU a b fi la bt x.1.1 x.1.2) (fun x => a.length - x.1.2) ?_ ⟨(0, 0), by simp⟩ rfl
  rintro ⟨⟨v, i⟩, hi⟩ I ih
  dsimp only at hi
  dsimp only [stRU, run_skip, run_reg, plainB, ifB_true, run_seq, run_blk, run_exit, run_ret, run_ite, iteR, regK, thenK_nrm, thenK_exit, thenK_ret, thenR_nrm, thenR_exit, thenR_ret, blkK, keepS, keepE, runOps_nil, runOps_cons, goG_some, fpOk, foot, entOf, allN, memN, goOn_ok, goOn_call, goOn_row, goOn_arr, goOn_ask, goOn_put, goOn_prm, goOn_callK, goOn_all, guardP, guardO, notInO, stepF, stepLd, stepSt, stepIxs, stepIxa, stepLen, stepApp, stepCpy, stepPick, stepSls, stepSst, stepSla, bareZ, evX, evL, evB, rd, get, subG, memG, freshG, notInG, hyps, gob, impP, allP, partD, partOf, isOne, isPtr, nth, takeN, dropN, cellsD, lenB, fillD, thirds, entN, setE, sizeE, addE, setL, setN, putE, env0, eqCs, eqAux, eqC, bA, bO, bN, bE, negB, kEq, isShr, lendL, lend, frz, frzL, zRow, closed, closedL, rowsOf, binI, retK, retG, atRet, retD, lendO, resL, resD, oneD, renD, renL, renE, renEs, rho, putAll, entsN, List.append, List.nil_append, List.cons_append, List.append_nil, cond, Nat.reduceBEq, Nat.reduceAdd, Nat.beq]
  refine ⟨fun hj => ?_, fun hj => ?_⟩
  · have hj : i < a.length := by simp at hj; omega
    have hul := refU_len (a.take i) b fi bt
    simp only [List.length_take] at hul
    refine ⟨⟨rfl, by omega, by rw [iL_len]; omega⟩, row_intro _ _ (iL_at hj) rfl ?_⟩
    dsimp only [run_skip, run_reg, plainB, ifB_true, run_seq, run_blk, run_exit, run_ret, run_ite, iteR, regK, thenK_nrm, thenK_exit, thenK_ret, thenR_nrm, thenR_exit, thenR_ret, blkK, keepS, keepE, runOps_nil, runOps_cons, goG_some, fpOk, foot, entOf, allN, memN, goOn_ok, goOn_call, goOn_row, goOn_arr, goOn_ask, goOn_put, goOn_prm, goOn_callK, goOn_all, guardP, guardO, notInO, stepF, stepLd, stepSt, stepIxs, stepIxa, stepLen, stepApp, stepCpy, stepPick, stepSls, stepSst, stepSla, bareZ, evX, evL, evB, rd, get, subG, memG, freshG, notInG, hyps, gob, impP, allP, partD, partOf, isOne, isPtr, nth, takeN, dropN, cellsD, lenB, fillD, thirds, entN, setE, sizeE, addE, setL, setN, putE, env0, eqCs, eqAux, eqC, bA, bO, bN, bE, negB, kEq, isShr, lendL, lend, frz, frzL, zRow, closed, closedL, rowsOf, binI, retK, retG, atRet, retD, lendO, resL, resD, oneD, renD, renL, renE, renEs, rho, putAll, entsN, List.append, List.nil_append, List.cons_append, List.append_nil, cond, Nat.reduceBEq, Nat.reduceAdd, Nat.beq]
    by_cases h0 : i = 0
    · subst h0
      refine ⟨fun _ => ?_, fun h => by simp at h⟩
      refine ⟨⟨rfl, rfl, rfl, rfl, by rw [sL_len]; simp only [List.length_cons, List.length_nil]; omega⟩, ?_⟩
      have e : sL (refU (a.take 0) b fi bt) ++ [D.agg [.int .u32 a[0], .bool false, .int .i64 fi]] = sL (refU (a.take (0 + 1)) b fi bt) := by
        cases a with
        | nil => simp at hj
        | cons y r => simp [refU, outS, sL, stD]
      rw [e]
      refine ⟨by simp only [fits]; omega, ?_⟩
      exact again (ih ⟨(v + 1, 1), by dsimp only; omega⟩ (by dsimp only; omega)) ⟨rfl, rfl, rfl, rfl, rfl, rfl, rfl, rfl, rfl, trivial⟩ ⟨rfl, rfl, trivial⟩ rfl rfl
    · refine ⟨fun h => by simp at h; omega, fun _ => ?_⟩
      refine call_pure (sp_ref36_in (by omega)) ?_
      dsimp only [run_skip, run_reg, plainB, ifB_true, run_seq, run_blk, run_exit, run_ret, run_ite, iteR, regK, thenK_nrm, thenK_exit, thenK_ret, thenR_nrm, thenR_exit, thenR_ret, blkK, keepS, keepE, runOps_nil, runOps_cons, goG_some, fpOk, foot, entOf, allN, memN, goOn_ok, goOn_call, goOn_row, goOn_arr, goOn_ask, goOn_put, goOn_prm, goOn_callK, goOn_all, guardP, guardO, notInO, stepF, stepLd, stepSt, stepIxs, stepIxa, stepLen, stepApp, stepCpy, stepPick, stepSls, stepSst, stepSla, bareZ, evX, evL, evB, rd, get, subG, memG, freshG, notInG, hyps, gob, impP, allP, partD, partOf, isOne, isPtr, nth, takeN, dropN, cellsD, lenB, fillD, thirds, entN, setE, sizeE, addE, setL, setN, putE, env0, eqCs, eqAux, eqC, bA, bO, bN, bE, negB, kEq, isShr, lendL, lend, frz, frzL, zRow, closed, closedL, rowsOf, binI, retK, retG, atRet, retD, lendO, resL, resD, oneD, renD, renL, renE, renEs, rho, putAll, entsN, List.append, List.nil_append, List.cons_append, List.append_nil, cond, Nat.reduceBEq, Nat.reduceAdd, Nat.beq]
      have hsn := refU_snoc (l := a.take i) (fun e => by have := congrArg List.length e; rw [List.length_take] at this; simp only [List.length_nil] at this; omega) b fi bt a[i]
      rw [← List.take_succ_eq_append_getElem hj] at hsn
      by_cases hin : a[i] ∈ b
      · rw [if_pos hin, List.append_nil] at hsn
        refine ⟨fun h => by simp [hin] at h, fun _ => ?_⟩
        refine ⟨by simp only [fits]; omega, ?_⟩
        rw [← hsn]
        exact again (ih ⟨(v, i + 1), by dsimp only; omega⟩ (by dsimp only; omega)) ⟨rfl, rfl, rfl, rfl, rfl, rfl, rfl, rfl, rfl, trivial⟩ ⟨rfl, rfl, trivial⟩ rfl rfl
      · rw [if_neg hin] at hsn
        refine ⟨fun _ => ?_, fun h => by simp [hin] at h⟩
        refine ⟨⟨rfl, rfl, rfl, rfl, by rw [sL_len]; simp only [List.length_cons, List.length_nil]; omega⟩, ?_⟩
        rw [show sL (refU (a.take i) b fi bt) ++ [D.agg [.int .u32 a[i], .bool false, .int .i64 bt]] = sL (refU (a.take (i + 1)) b fi bt) by rw [hsn, ← sL_app]; rfl]
        refine ⟨by simp only [fits]; omega, ?_⟩
        exact again (ih ⟨(v + 1, i + 1), by dsimp only; omega⟩ (by dsimp only; omega)) ⟨rfl, rfl, rfl, rfl, rfl, rfl, rfl, rfl, rfl, trivial⟩ ⟨rfl, rfl, trivial⟩ rfl rfl
  · have hj : i = a.length := by simp at hj; omega
    subst hj
    rw [List.take_length, iL_len]
    refine ⟨by simp only [fits]; omega, ?_⟩
    have hul := refU_len a b fi bt
    refine loop_ind (α := {x : Nat × Nat // x.2 ≤ b.length}) (fun x => stRD a b fi la bt x.1.1 x.1.2) (fun x => x.1.2) ?_ ⟨(v, b.length), by simp⟩ ?_
    · rintro ⟨⟨v, k⟩, hk⟩ I ih
      dsimp only at hk
      dsimp only [stRD, run_skip, run_reg, plainB, ifB_true, run_seq, run_blk, run_exit, run_ret, run_ite, iteR, regK, thenK_nrm, thenK_exit, thenK_ret, thenR_nrm, thenR_exit, thenR_ret, blkK, keepS, keepE, runOps_nil, runOps_cons, goG_some, fpOk, foot, entOf, allN, memN, goOn_ok, goOn_call, goOn_row, goOn_arr, goOn_ask, goOn_put, goOn_prm, goOn_callK, goOn_all, guardP, guardO, notInO, stepF, stepLd, stepSt, stepIxs, stepIxa, stepLen, stepApp, stepCpy, stepPick, stepSls, stepSst, stepSla, bareZ, evX, evL, evB, rd, get, subG, memG, freshG, notInG, hyps, gob, impP, allP, partD, partOf, isOne, isPtr, nth, takeN, dropN, cellsD, lenB, fillD, thirds, entN, setE, sizeE, addE, setL, setN, putE, env0, eqCs, eqAux, eqC, bA, bO, bN, bE, negB, kEq, isShr, lendL, lend, frz, frzL, zRow, closed, closedL, rowsOf, binI, retK, retG, atRet, retD, lendO, resL, resD, oneD, renD, renL, renE, renEs, rho, putAll, entsN, List.append, List.nil_append, List.cons_append, List.append_nil, cond, Nat.reduceBEq, Nat.reduceAdd, Nat.beq]
      refine ⟨fun hj => ?_, fun hj => ?_⟩
      · have hj : 0 < k := by simp at hj; omega
        obtain ⟨k, rfl⟩ : ∃ j, k = j + 1 := ⟨k - 1, by omega⟩
        have hkk : ((k + 1 : Nat) : Int) - 1 = k := by omega
        rw [hkk]
        have hdl := dnS_len b a la bt (k + 1)
        have hd1 := dnS_len b a la bt 1
        by_cases h0 : k = 0
        · subst h0
          refine ⟨fun _ => ?_, fun h => by simp at h⟩
          refine ⟨⟨rfl, by omega, by rw [iL_len]; omega⟩, row_intro _ _ (iL_at (i := 0) (by omega)) rfl ?_⟩
          dsimp only [run_skip, run_reg, plainB, ifB_true, run_seq, run_blk, run_exit, run_ret, run_ite, iteR, regK, thenK_nrm, thenK_exit, thenK_ret, thenR_nrm, thenR_exit, thenR_ret, blkK, keepS, keepE, runOps_nil, runOps_cons, goG_some, fpOk, foot, entOf, allN, memN, goOn_ok, goOn_call, goOn_row, goOn_arr, goOn_ask, goOn_put, goOn_prm, goOn_callK, goOn_all, guardP, guardO, notInO, stepF, stepLd, stepSt, stepIxs, stepIxa, stepLen, stepApp, stepCpy, stepPick, stepSls, stepSst, stepSla, bareZ, evX, evL, evB, rd, get, subG, memG, freshG, notInG, hyps, gob, impP, allP, partD, partOf, isOne, isPtr, nth, takeN, dropN, cellsD, lenB, fillD, thirds, entN, setE, sizeE, addE, setL, setN, putE, env0, eqCs, eqAux, eqC, bA, bO, bN, bE, negB, kEq, isShr, lendL, lend, frz, frzL, zRow, closed, closedL, rowsOf, binI, retK, retG, atRet, retD, lendO, resL, resD, oneD, renD, renL, renE, renEs, rho, putAll, entsN, List.append, List.nil_append, List.cons_append, List.append_nil, cond, Nat.reduceBEq, Nat.reduceAdd, Nat.beq]
          refine ⟨⟨rfl, rfl, rfl, rfl, by rw [sL_len]; simp only [List.length_append, List.length_cons, List.length_nil]; omega⟩, ?_⟩
          rw [show sL (refU a b fi bt ++ dnS b a la bt 1) ++ [D.agg [.int .u32 b[0], .bool true, .int .i64 la]] = sL (refU a b fi bt ++ dnS b a la bt 0) by rw [dnS_last (by omega), ← sL_app, ← sL_app, ← sL_app, List.append_assoc]; rfl]
          refine ⟨by simp only [fits]; omega, ?_⟩
          exact again (ih ⟨(v + 1, 0), by dsimp only; omega⟩ (by dsimp only; omega)) ⟨rfl, rfl, rfl, rfl, rfl, rfl, trivial⟩ ⟨rfl, rfl, trivial⟩ rfl rfl
        · refine ⟨fun h => by simp at h; omega, fun _ => ?_⟩
          refine ⟨⟨rfl, by omega, by rw [iL_len]; omega⟩, row_intro _ _ (iL_at (i := k) (by omega)) rfl ?_⟩
          dsimp only [run_skip, run_reg, plainB, ifB_true, run_seq, run_blk, run_exit, run_ret, run_ite, iteR, regK, thenK_nrm, thenK_exit, thenK_ret, thenR_nrm, thenR_exit, thenR_ret, blkK, keepS, keepE, runOps_nil, runOps_cons, goG_some, fpOk, foot, entOf, allN, memN, goOn_ok, goOn_call, goOn_row, goOn_arr, goOn_ask, goOn_put, goOn_prm, goOn_callK, goOn_all, guardP, guardO, notInO, stepF, stepLd, stepSt, stepIxs, stepIxa, stepLen, stepApp, stepCpy, stepPick, stepSls, stepSst, stepSla, bareZ, evX, evL, evB, rd, get, subG, memG, freshG, notInG, hyps, gob, impP, allP, partD, partOf, isOne, isPtr, nth, takeN, dropN, cellsD, lenB, fillD, thirds, entN, setE, sizeE, addE, setL, setN, putE, env0, eqCs, eqAux, eqC, bA, bO, bN, bE, negB, kEq, isShr, lendL, lend, frz, frzL, zRow, closed, closedL, rowsOf, binI, retK, retG, atRet, retD, lendO, resL, resD, oneD, renD, renL, renE, renEs, rho, putAll, entsN, List.append, List.nil_append, List.cons_append, List.append_nil, cond, Nat.reduceBEq, Nat.reduceAdd, Nat.beq]
          refine call_pure (sp_ref36_in (by omega)) ?_
          dsimp only [run_skip, run_reg, plainB, ifB_true, run_seq, run_blk, run_exit, run_ret, run_ite, iteR, regK, thenK_nrm, thenK_exit, thenK_ret, thenR_nrm, thenR_exit, thenR_ret, blkK, keepS, keepE, runOps_nil, runOps_cons, goG_some, fpOk, foot, entOf, allN, memN, goOn_ok, goOn_call, goOn_row, goOn_arr, goOn_ask, goOn_put, goOn_prm, goOn_callK, goOn_all, guardP, guardO, notInO, stepF, stepLd, stepSt, stepIxs, stepIxa, stepLen, stepApp, stepCpy, stepPick, stepSls, stepSst, stepSla, bareZ, evX, evL, evB, rd, get, subG, memG, freshG, notInG, hyps, gob, impP, allP, partD, partOf, isOne, isPtr, nth, takeN, dropN, cellsD, lenB, fillD, thirds, entN, setE, sizeE, addE, setL, setN, putE, env0, eqCs, eqAux, eqC, bA, bO, bN, bE, negB, kEq, isShr, lendL, lend, frz, frzL, zRow, closed, closedL, rowsOf, binI, retK, retG, atRet, retD, lendO, resL, resD, oneD, renD, renL, renE, renEs, rho, putAll, entsN, List.append, List.nil_append, List.cons_append, List.append_nil, cond, Nat.reduceBEq, Nat.reduceAdd, Nat.beq]
          have hst := dnS_step (b := b) (k := k) (by omega) (by omega) a la bt
          by_cases hin : b[k] ∈ a
          · rw [if_pos hin, List.append_nil] at hst
            refine ⟨fun h => by simp [hin] at h, fun _ => ?_⟩
            refine ⟨by simp only [fits]; omega, ?_⟩
            rw [← hst]
            exact again (ih ⟨(v, k), by dsimp only; omega⟩ (by dsimp only; omega)) ⟨rfl, rfl, rfl, rfl, rfl, rfl, trivial⟩ ⟨rfl, rfl, trivial⟩ rfl rfl
          · rw [if_neg hin] at hst
            refine ⟨fun _ => ?_, fun h => by simp [hin] at h⟩
            refine ⟨⟨rfl, by omega, by rw [iL_len]; omega⟩, row_intro _ _ (iL_at (i := k) (by omega)) rfl ?_⟩
            dsimp only [run_skip, run_reg, plainB, ifB_true, run_seq, run_blk, run_exit, run_ret, run_ite, iteR, regK, thenK_nrm, thenK_exit, thenK_ret, thenR_nrm, thenR_exit, thenR_ret, blkK, keepS, keepE, runOps_nil, runOps_cons, goG_some, fpOk, foot, entOf, allN, memN, goOn_ok, goOn_call, goOn_row, goOn_arr, goOn_ask, goOn_put, goOn_prm, goOn_callK, goOn_all, guardP, guardO, notInO, stepF, stepLd, stepSt, stepIxs, stepIxa, stepLen, stepApp, stepCpy, stepPick, stepSls, stepSst, stepSla, bareZ, evX, evL, evB, rd, get, subG, memG, freshG, notInG, hyps, gob, impP, allP, partD, partOf, isOne, isPtr, nth, takeN, dropN, cellsD, lenB, fillD, thirds, entN, setE, sizeE, addE, setL, setN, putE, env0, eqCs, eqAux, eqC, bA, bO, bN, bE, negB, kEq, isShr, lendL, lend, frz, frzL, zRow, closed, closedL, rowsOf, binI, retK, retG, atRet, retD, lendO, resL, resD, oneD, renD, renL, renE, renEs, rho, putAll, entsN, List.append, List.nil_append, List.cons_append, List.append_nil, cond, Nat.reduceBEq, Nat.reduceAdd, Nat.beq]
            refine ⟨⟨rfl, rfl, rfl, rfl, by rw [sL_len]; simp only [List.length_append, List.length_cons, List.length_nil]; omega⟩, ?_⟩
            rw [show sL (refU a b fi bt ++ dnS b a la bt (k + 1)) ++ [D.agg [.int .u32 b[k], .bool true, .int .i64 bt]] = sL (refU a b fi bt ++ dnS b a la bt k) by rw [hst, ← sL_app, ← sL_app, ← sL_app, List.append_assoc]; rfl]
            refine ⟨by simp only [fits]; omega, ?_⟩
            exact again (ih ⟨(v + 1, k), by dsimp only; omega⟩ (by dsimp only; omega)) ⟨rfl, rfl, rfl, rfl, rfl, rfl, trivial⟩ ⟨rfl, rfl, trivial⟩ rfl rfl
      · have hj : k = 0 := by simp at hj; omega
        subst hj
        exact ⟨rfl, by simp [dnS]⟩
    · unfold stRD
      have : dnS b a la bt b.length = [] := by
        unfold dnS
        split
        · rename_i e; have := List.eq_nil_of_length_eq_zero e; subst this; rfl
        · simp [outS]
      rw [this, List.append_nil]

theorem sp_ref36_Path {L : Nodes} {f g : Int} {a b : List Int} (hA : TSp 15 [.ls 2 (nD L), .int .u32 f] (.ls 1 (iL a))) (hB : TSp 15 [.ls 2 (nD L), .int .u32 g] (.ls 1 (iL b))) (ha : a.length < 100000) (hb : b.length < 100000) :
    TSp 13 [.ls 2 (nD L), .int .u32 f, .int .u32 g] (.ls 3 (sL (refS a b f g))) := by
  refine spo_ref36_Path (by rfl) ?_
  dsimp only [c_ref36_Path, r_ref36_Path, run_skip, run_reg, plainB, ifB_true, run_seq, run_blk, run_exit, run_ret, run_ite, iteR, regK, thenK_nrm, thenK_exit, thenK_ret, thenR_nrm, thenR_exit, thenR_ret, blkK, keepS, keepE, runOps_nil, runOps_cons, goG_some, fpOk, foot, entOf, allN, memN, goOn_ok, goOn_call, goOn_row, goOn_arr, goOn_ask, goOn_put, goOn_prm, goOn_callK, goOn_all, guardP, guardO, notInO, stepF, stepLd, stepSt, stepIxs, stepIxa, stepLen, stepApp, stepCpy, stepPick, stepSls, stepSst, stepSla, bareZ, evX, evL, evB, rd, get, subG, memG, freshG, notInG, hyps, gob, impP, allP, partD, partOf, isOne, isPtr, nth, takeN, dropN, cellsD, lenB, fillD, thirds, entN, setE, sizeE, addE, setL, setN, putE, env0, eqCs, eqAux, eqC, bA, bO, bN, bE, negB, kEq, isShr, lendL, lend, frz, frzL, zRow, closed, closedL, rowsOf, binI, retK, retG, atRet, retD, lendO, resL, resD, oneD, renD, renL, renE, renEs, rho, putAll, entsN, List.append, List.nil_append, List.cons_append, List.append_nil, cond, Nat.reduceBEq, Nat.reduceAdd, Nat.beq]
  refine call_pure hA ?_
  dsimp only [run_skip, run_reg, plainB, ifB_true, run_seq, run_blk, run_exit, run_ret, run_ite, iteR, regK, thenK_nrm, thenK_exit, thenK_ret, thenR_nrm, thenR_exit, thenR_ret, blkK, keepS, keepE, runOps_nil, runOps_cons, goG_some, fpOk, foot, entOf, allN, memN, goOn_ok, goOn_call, goOn_row, goOn_arr, goOn_ask, goOn_put, goOn_prm, goOn_callK, goOn_all, guardP, guardO, notInO, stepF, stepLd, stepSt, stepIxs, stepIxa, stepLen, stepApp, stepCpy, stepPick, stepSls, stepSst, stepSla, bareZ, evX, evL, evB, rd, get, subG, memG, freshG, notInG, hyps, gob, impP, allP, partD, partOf, isOne, isPtr, nth, takeN, dropN, cellsD, lenB, fillD, thirds, entN, setE, sizeE, addE, setL, setN, putE, env0, eqCs, eqAux, eqC, bA, bO, bN, bE, negB, kEq, isShr, lendL, lend, frz, frzL, zRow, closed, closedL, rowsOf, binI, retK, retG, atRet, retD, lendO, resL, resD, oneD, renD, renL, renE, renEs, rho, putAll, entsN, List.append, List.nil_append, List.cons_append, List.append_nil, cond, Nat.reduceBEq, Nat.reduceAdd, Nat.beq]
  refine call_pure hB ?_
  dsimp only [run_skip, run_reg, plainB, ifB_true, run_seq, run_blk, run_exit, run_ret, run_ite, iteR, regK, thenK_nrm, thenK_exit, thenK_ret, thenR_nrm, thenR_exit, thenR_ret, blkK, keepS, keepE, runOps_nil, runOps_cons, goG_some, fpOk, foot, entOf, allN, memN, goOn_ok, goOn_call, goOn_row, goOn_arr, goOn_ask, goOn_put, goOn_prm, goOn_callK, goOn_all, guardP, guardO, notInO, stepF, stepLd, stepSt, stepIxs, stepIxa, stepLen, stepApp, stepCpy, stepPick, stepSls, stepSst, stepSla, bareZ, evX, evL, evB, rd, get, subG, memG, freshG, notInG, hyps, gob, impP, allP, partD, partOf, isOne, isPtr, nth, takeN, dropN, cellsD, lenB, fillD, thirds, entN, setE, sizeE, addE, setL, setN, putE, env0, eqCs, eqAux, eqC, bA, bO, bN, bE, negB, kEq, isShr, lendL, lend, frz, frzL, zRow, closed, closedL, rowsOf, binI, retK, retG, atRet, retD, lendO, resL, resD, oneD, renD, renL, renE, renEs, rho, putAll, entsN, List.append, List.nil_append, List.cons_append, List.append_nil, cond, Nat.reduceBEq, Nat.reduceAdd, Nat.beq]
  rw [iL_len, iL_len]
  unfold refS
  have e0 : (f = g ∨ (a = [] ∧ b = [])) ↔ (f = g ∨ (a.length = 0 ∧ b.length = 0)) := by simp [List.length_eq_zero_iff]
  have tl := fun fi la bt => ref_tail (a := a) (b := b) ha hb fi la bt
  dsimp only [tailN, c_ref36_Path, r_ref36_Path, run_skip, run_reg, plainB, ifB_true, run_seq, run_blk, run_exit, run_ret, run_ite, iteR, regK, thenK_nrm, thenK_exit, thenK_ret, thenR_nrm, thenR_exit, thenR_ret, blkK, keepS, keepE, runOps_nil, runOps_cons, goG_some, fpOk, foot, entOf, allN, memN, goOn_ok, goOn_call, goOn_row, goOn_arr, goOn_ask, goOn_put, goOn_prm, goOn_callK, goOn_all, guardP, guardO, notInO, stepF, stepLd, stepSt, stepIxs, stepIxa, stepLen, stepApp, stepCpy, stepPick, stepSls, stepSst, stepSla, bareZ, evX, evL, evB, rd, get, subG, memG, freshG, notInG, hyps, gob, impP, allP, partD, partOf, isOne, isPtr, nth, takeN, dropN, cellsD, lenB, fillD, thirds, entN, setE, sizeE, addE, setL, setN, putE, env0, eqCs, eqAux, eqC, bA, bO, bN, bE, negB, kEq, isShr, lendL, lend, frz, frzL, zRow, closed, closedL, rowsOf, binI, retK, retG, atRet, retD, lendO, resL, resD, oneD, renD, renL, renE, renEs, rho, putAll, entsN, List.append, List.nil_append, List.cons_append, List.append_nil, cond, Nat.reduceBEq, Nat.reduceAdd, Nat.beq] at tl
  refine ⟨fun h => ?_, fun h => ?_⟩
  · rw [if_pos (e0.2 (by simpa using h))]
    exact ⟨rfl, rfl⟩
  rw [if_neg (fun e => by simp at h; rcases e with e | ⟨e1, e2⟩ <;> simp_all)]
  refine call_pure (sp_ref36_in (by omega)) ?_
  dsimp only [run_skip, run_reg, plainB, ifB_true, run_seq, run_blk, run_exit, run_ret, run_ite, iteR, regK, thenK_nrm, thenK_exit, thenK_ret, thenR_nrm, thenR_exit, thenR_ret, blkK, keepS, keepE, runOps_nil, runOps_cons, goG_some, fpOk, foot, entOf, allN, memN, goOn_ok, goOn_call, goOn_row, goOn_arr, goOn_ask, goOn_put, goOn_prm, goOn_callK, goOn_all, guardP, guardO, notInO, stepF, stepLd, stepSt, stepIxs, stepIxa, stepLen, stepApp, stepCpy, stepPick, stepSls, stepSst, stepSla, bareZ, evX, evL, evB, rd, get, subG, memG, freshG, notInG, hyps, gob, impP, allP, partD, partOf, isOne, isPtr, nth, takeN, dropN, cellsD, lenB, fillD, thirds, entN, setE, sizeE, addE, setL, setN, putE, env0, eqCs, eqAux, eqC, bA, bO, bN, bE, negB, kEq, isShr, lendL, lend, frz, frzL, zRow, closed, closedL, rowsOf, binI, retK, retG, atRet, retD, lendO, resL, resD, oneD, renD, renL, renE, renEs, rho, putAll, entsN, List.append, List.nil_append, List.cons_append, List.append_nil, cond, Nat.reduceBEq, Nat.reduceAdd, Nat.beq]
  unfold refK
  by_cases h1 : g ∈ a
  · rw [if_pos h1]
    by_cases h2 : f ∈ b
    · refine ⟨fun _ => ?_, fun h => by simp [h2] at h⟩
      refine call_pure (sp_ref36_in (by omega)) ?_
      dsimp only [run_skip, run_reg, plainB, ifB_true, run_seq, run_blk, run_exit, run_ret, run_ite, iteR, regK, thenK_nrm, thenK_exit, thenK_ret, thenR_nrm, thenR_exit, thenR_ret, blkK, keepS, keepE, runOps_nil, runOps_cons, goG_some, fpOk, foot, entOf, allN, memN, goOn_ok, goOn_call, goOn_row, goOn_arr, goOn_ask, goOn_put, goOn_prm, goOn_callK, goOn_all, guardP, guardO, notInO, stepF, stepLd, stepSt, stepIxs, stepIxa, stepLen, stepApp, stepCpy, stepPick, stepSls, stepSst, stepSla, bareZ, evX, evL, evB, rd, get, subG, memG, freshG, notInG, hyps, gob, impP, allP, partD, partOf, isOne, isPtr, nth, takeN, dropN, cellsD, lenB, fillD, thirds, entN, setE, sizeE, addE, setL, setN, putE, env0, eqCs, eqAux, eqC, bA, bO, bN, bE, negB, kEq, isShr, lendL, lend, frz, frzL, zRow, closed, closedL, rowsOf, binI, retK, retG, atRet, retD, lendO, resL, resD, oneD, renD, renL, renE, renEs, rho, putAll, entsN, List.append, List.nil_append, List.cons_append, List.append_nil, cond, Nat.reduceBEq, Nat.reduceAdd, Nat.beq]
      refine ⟨fun _ => ?_, fun h => by simp [h1] at h⟩
      exact tl 0 2 1
    · refine ⟨fun h => by simp [h2] at h, fun _ => ?_⟩
      refine call_pure (sp_ref36_in (by omega)) ?_
      dsimp only [run_skip, run_reg, plainB, ifB_true, run_seq, run_blk, run_exit, run_ret, run_ite, iteR, regK, thenK_nrm, thenK_exit, thenK_ret, thenR_nrm, thenR_exit, thenR_ret, blkK, keepS, keepE, runOps_nil, runOps_cons, goG_some, fpOk, foot, entOf, allN, memN, goOn_ok, goOn_call, goOn_row, goOn_arr, goOn_ask, goOn_put, goOn_prm, goOn_callK, goOn_all, guardP, guardO, notInO, stepF, stepLd, stepSt, stepIxs, stepIxa, stepLen, stepApp, stepCpy, stepPick, stepSls, stepSst, stepSla, bareZ, evX, evL, evB, rd, get, subG, memG, freshG, notInG, hyps, gob, impP, allP, partD, partOf, isOne, isPtr, nth, takeN, dropN, cellsD, lenB, fillD, thirds, entN, setE, sizeE, addE, setL, setN, putE, env0, eqCs, eqAux, eqC, bA, bO, bN, bE, negB, kEq, isShr, lendL, lend, frz, frzL, zRow, closed, closedL, rowsOf, binI, retK, retG, atRet, retD, lendO, resL, resD, oneD, renD, renL, renE, renEs, rho, putAll, entsN, List.append, List.nil_append, List.cons_append, List.append_nil, cond, Nat.reduceBEq, Nat.reduceAdd, Nat.beq]
      refine ⟨fun _ => ?_, fun h => by simp [h1] at h⟩
      exact tl 0 2 1
  · rw [if_neg h1]
    by_cases h2 : f ∈ b
    · rw [if_pos h2]
      refine ⟨fun _ => ?_, fun h => by simp [h2] at h⟩
      refine call_pure (sp_ref36_in (by omega)) ?_
      dsimp only [run_skip, run_reg, plainB, ifB_true, run_seq, run_blk, run_exit, run_ret, run_ite, iteR, regK, thenK_nrm, thenK_exit, thenK_ret, thenR_nrm, thenR_exit, thenR_ret, blkK, keepS, keepE, runOps_nil, runOps_cons, goG_some, fpOk, foot, entOf, allN, memN, goOn_ok, goOn_call, goOn_row, goOn_arr, goOn_ask, goOn_put, goOn_prm, goOn_callK, goOn_all, guardP, guardO, notInO, stepF, stepLd, stepSt, stepIxs, stepIxa, stepLen, stepApp, stepCpy, stepPick, stepSls, stepSst, stepSla, bareZ, evX, evL, evB, rd, get, subG, memG, freshG, notInG, hyps, gob, impP, allP, partD, partOf, isOne, isPtr, nth, takeN, dropN, cellsD, lenB, fillD, thirds, entN, setE, sizeE, addE, setL, setN, putE, env0, eqCs, eqAux, eqC, bA, bO, bN, bE, negB, kEq, isShr, lendL, lend, frz, frzL, zRow, closed, closedL, rowsOf, binI, retK, retG, atRet, retD, lendO, resL, resD, oneD, renD, renL, renE, renEs, rho, putAll, entsN, List.append, List.nil_append, List.cons_append, List.append_nil, cond, Nat.reduceBEq, Nat.reduceAdd, Nat.beq]
      refine ⟨fun h => by simp [h1] at h, fun _ => ?_⟩
      exact tl 2 0 1
    · rw [if_neg h2]
      refine ⟨fun h => by simp [h2] at h, fun _ => ?_⟩
      refine call_pure (sp_ref36_in (by omega)) ?_
      dsimp only [run_skip, run_reg, plainB, ifB_true, run_seq, run_blk, run_exit, run_ret, run_ite, iteR, regK, thenK_nrm, thenK_exit, thenK_ret, thenR_nrm, thenR_exit, thenR_ret, blkK, keepS, keepE, runOps_nil, runOps_cons, goG_some, fpOk, foot, entOf, allN, memN, goOn_ok, goOn_call, goOn_row, goOn_arr, goOn_ask, goOn_put, goOn_prm, goOn_callK, goOn_all, guardP, guardO, notInO, stepF, stepLd, stepSt, stepIxs, stepIxa, stepLen, stepApp, stepCpy, stepPick, stepSls, stepSst, stepSla, bareZ, evX, evL, evB, rd, get, subG, memG, freshG, notInG, hyps, gob, impP, allP, partD, partOf, isOne, isPtr, nth, takeN, dropN, cellsD, lenB, fillD, thirds, entN, setE, sizeE, addE, setL, setN, putE, env0, eqCs, eqAux, eqC, bA, bO, bN, bE, negB, kEq, isShr, lendL, lend, frz, frzL, zRow, closed, closedL, rowsOf, binI, retK, retG, atRet, retD, lendO, resL, resD, oneD, renD, renL, renE, renEs, rho, putAll, entsN, List.append, List.nil_append, List.cons_append, List.append_nil, cond, Nat.reduceBEq, Nat.reduceAdd, Nat.beq]
      refine ⟨fun h => by simp [h1] at h, fun _ => ?_⟩
      exact tl 3 3 4
end Go.AM
