
/- Chapter 29: the document's functions. -/
import Derived.Test.YthcfahdogpjkeaaX6
set_option linter.all false
namespace Go.AM
open Go Go.Proofs

theorem sp_ref13_Counts {r : Rc} (hr : r.In) : TSp 66 [rD r] (.bool (!emptyB r)) := by
  refine spo_ref13_Counts (by rfl) ?_
  dsimp only [c_ref13_Counts, r_ref13_Counts, rD, run_skip, run_reg, plainB, ifB_true, run_seq, run_blk, run_exit, run_ret, run_ite, iteR, regK, thenK_nrm, thenK_exit, thenK_ret, thenR_nrm, thenR_exit, thenR_ret, blkK, keepS, keepE, runOps_nil, runOps_cons, goG_some, fpOk, foot, entOf, allN, memN, goOn_ok, goOn_call, goOn_row, goOn_arr, goOn_ask, goOn_put, goOn_prm, goOn_callK, goOn_callC, goOn_all, guardP, guardO, notInO, stepF, stepLd, stepSt, stepIxs, stepIxa, stepLen, stepApp, stepCpy, stepPick, stepSls, stepSst, stepSla, bareZ, evX, evL, evB, rd, get, subG, memG, freshG, notInG, hyps, gob, impP, allP, partD, partOf, isOne, isPtr, nth, takeN, dropN, cellsD, lenB, fillD, thirds, entN, setE, sizeE, addE, setL, setN, putE, env0, eqCs, eqAux, eqC, bA, bO, bN, bE, negB, kEq, isShr, lendL, lend, frz, frzL, zRow, closed, closedL, rowsOf, binI, retK, retG, atRet, retD, lendO, resL, resD, oneD, renD, renL, renE, renEs, rho, putAll, entsN, List.append, List.nil_append, List.cons_append, List.append_nil, cond, Nat.reduceBEq, Nat.reduceAdd, Nat.beq]
  obtain ⟨h1, h2, h3, h4⟩ := hr
  simp only [fits] at h1 h2 h3 h4
  have key : ∀ b, (b = true ↔ Vr r) → (!emptyB r) = b := fun b hb => by
    cases b
    · have : ¬ Vr r := fun h => by simpa using hb.2 h
      have : emptyB r = true := by
        cases he : emptyB r
        · exact absurd (empty_iff.1 he) this
        · rfl
      simp [this]
    · have := empty_iff.2 (hb.1 rfl)
      simp [this]
  refine ⟨fun h => ?_, fun h => ?_⟩
  · rw [key false]
    simp only [Bool.or_eq_true, decide_eq_true_eq] at h
    simp only [Vr, Bool.false_eq_true, false_iff]
    omega
  · simp only [Bool.or_eq_false_iff, decide_eq_false_iff_not] at h
    refine ⟨by simp only [fits]; omega, fun _ => by simp only [fits]; omega, ?_⟩
    refine congrArg D.bool (key _ ?_).symm
    simp only [Vr, Bool.and_eq_true, decide_eq_true_eq]
    omega

def meetB (a b : Rc) : Bool := !emptyB a && !emptyB b && decide (a.x < b.x + b.w) && decide (b.x < a.x + a.w) && decide (a.y < b.y + b.h) && decide (b.y < a.y + a.h)
theorem meet_cross (a b : Rc) : meetB a b = !emptyB (crossR a b) := by
  unfold meetB crossR
  cases ha : emptyB a
  case true => simp; rfl
  cases hb : emptyB b
  case true => simp; rfl
  simp only [Bool.or_false, Bool.false_eq_true, if_false, Bool.not_false, Bool.true_and]
  have h1 := empty_iff.1 ha
  have h2 := empty_iff.1 hb
  simp only [Vr] at h1 h2
  unfold betweenR
  by_cases hc : (decide (min (a.x + a.w) (b.x + b.w) ≤ max a.x b.x) || decide (min (a.y + a.h) (b.y + b.h) ≤ max a.y b.y)) = true
  · rw [if_pos hc]
    simp only [Bool.or_eq_true, decide_eq_true_eq] at hc
    rw [show emptyB .o = true by decide]
    rw [Bool.not_true, Bool.eq_false_iff]
    simp only [ne_eq, Bool.and_eq_true, decide_eq_true_eq]
    omega
  · rw [if_neg hc]
    simp only [Bool.or_eq_true, decide_eq_true_eq, not_or] at hc
    rw [(empty_iff.2 (by simp only [Vr]; omega) : emptyB _ = false)]
    simp only [Bool.not_false, Bool.and_eq_true, decide_eq_true_eq]
    omega

theorem sp_ref29_meet {a b : Rc} (ha : a.In) (hb : b.In) : TSp 46 [rD a, rD b] (.bool (meetB a b)) := by
  refine spo_ref29_meet (by rfl) ?_
  have h1 := sp_ref13_Counts ha
  have h2 := sp_ref13_Counts hb
  dsimp only [c_ref29_meet, r_ref29_meet, rD, run_skip, run_reg, plainB, ifB_true, run_seq, run_blk, run_exit, run_ret, run_ite, iteR, regK, thenK_nrm, thenK_exit, thenK_ret, thenR_nrm, thenR_exit, thenR_ret, blkK, keepS, keepE, runOps_nil, runOps_cons, goG_some, fpOk, foot, entOf, allN, memN, goOn_ok, goOn_call, goOn_row, goOn_arr, goOn_ask, goOn_put, goOn_prm, goOn_callK, goOn_callC, goOn_all, guardP, guardO, notInO, stepF, stepLd, stepSt, stepIxs, stepIxa, stepLen, stepApp, stepCpy, stepPick, stepSls, stepSst, stepSla, bareZ, evX, evL, evB, rd, get, subG, memG, freshG, notInG, hyps, gob, impP, allP, partD, partOf, isOne, isPtr, nth, takeN, dropN, cellsD, lenB, fillD, thirds, entN, setE, sizeE, addE, setL, setN, putE, env0, eqCs, eqAux, eqC, bA, bO, bN, bE, negB, kEq, isShr, lendL, lend, frz, frzL, zRow, closed, closedL, rowsOf, binI, retK, retG, atRet, retD, lendO, resL, resD, oneD, renD, renL, renE, renEs, rho, putAll, entsN, List.append, List.nil_append, List.cons_append, List.append_nil, cond, Nat.reduceBEq, Nat.reduceAdd, Nat.beq] at *
  refine call_pure h1 ?_
  dsimp only [run_skip, run_reg, plainB, ifB_true, run_seq, run_blk, run_exit, run_ret, run_ite, iteR, regK, thenK_nrm, thenK_exit, thenK_ret, thenR_nrm, thenR_exit, thenR_ret, blkK, keepS, keepE, runOps_nil, runOps_cons, goG_some, fpOk, foot, entOf, allN, memN, goOn_ok, goOn_call, goOn_row, goOn_arr, goOn_ask, goOn_put, goOn_prm, goOn_callK, goOn_callC, goOn_all, guardP, guardO, notInO, stepF, stepLd, stepSt, stepIxs, stepIxa, stepLen, stepApp, stepCpy, stepPick, stepSls, stepSst, stepSla, bareZ, evX, evL, evB, rd, get, subG, memG, freshG, notInG, hyps, gob, impP, allP, partD, partOf, isOne, isPtr, nth, takeN, dropN, cellsD, lenB, fillD, thirds, entN, setE, sizeE, addE, setL, setN, putE, env0, eqCs, eqAux, eqC, bA, bO, bN, bE, negB, kEq, isShr, lendL, lend, frz, frzL, zRow, closed, closedL, rowsOf, binI, retK, retG, atRet, retD, lendO, resL, resD, oneD, renD, renL, renE, renEs, rho, putAll, entsN, List.append, List.nil_append, List.cons_append, List.append_nil, cond, Nat.reduceBEq, Nat.reduceAdd, Nat.beq]
  refine call_pure (fun _ => h2) ?_
  dsimp only [run_skip, run_reg, plainB, ifB_true, run_seq, run_blk, run_exit, run_ret, run_ite, iteR, regK, thenK_nrm, thenK_exit, thenK_ret, thenR_nrm, thenR_exit, thenR_ret, blkK, keepS, keepE, runOps_nil, runOps_cons, goG_some, fpOk, foot, entOf, allN, memN, goOn_ok, goOn_call, goOn_row, goOn_arr, goOn_ask, goOn_put, goOn_prm, goOn_callK, goOn_callC, goOn_all, guardP, guardO, notInO, stepF, stepLd, stepSt, stepIxs, stepIxa, stepLen, stepApp, stepCpy, stepPick, stepSls, stepSst, stepSla, bareZ, evX, evL, evB, rd, get, subG, memG, freshG, notInG, hyps, gob, impP, allP, partD, partOf, isOne, isPtr, nth, takeN, dropN, cellsD, lenB, fillD, thirds, entN, setE, sizeE, addE, setL, setN, putE, env0, eqCs, eqAux, eqC, bA, bO, bN, bE, negB, kEq, isShr, lendL, lend, frz, frzL, zRow, closed, closedL, rowsOf, binI, retK, retG, atRet, retD, lendO, resL, resD, oneD, renD, renL, renE, renEs, rho, putAll, entsN, List.append, List.nil_append, List.cons_append, List.append_nil, cond, Nat.reduceBEq, Nat.reduceAdd, Nat.beq]
  unfold meetB
  have va : ∀ {r : Rc}, (!emptyB r) = true → Vr r := fun h => empty_iff.1 (by simpa using h)
  refine ⟨fun h => ?_, fun h => ?_, fun h => ?_, fun h => ?_, rfl⟩ <;> simp only [Bool.and_eq_true] at h <;> (have e1 := va (r := a) (by simp only [h])) <;> (have e2 := va (r := b) (by simp only [h])) <;> simp only [Vr] at e1 e2 <;> simp only [fits] <;> omega

structure Kd where
  n : Int
  at' : Rc
instance : Inhabited Kd := ⟨⟨0, .o⟩⟩
def kdD (k : Kd) : D := .agg [.int .i64 k.n, .int .i64 k.at'.x, .int .i64 k.at'.y, .int .i64 k.at'.w, .int .i64 k.at'.h]
def kL (l : List Kd) : List D := l.map kdD
theorem kL_len (l : List Kd) : (kL l).length = l.length := by simp [kL]
theorem kL_at {l : List Kd} {i : Nat} (h : i < l.length) : (kL l)[i]? = some (kdD l[i]) := by simp [kL, h]
theorem kL_app (a b : List Kd) : kL a ++ kL b = kL (a ++ b) := by simp [kL]
def nums (l : List Kd) : List Int := l.map (·.n)
theorem nums_len (l : List Kd) : (nums l).length = l.length := by simp [nums]
theorem nums_at {l : List Kd} {i : Nat} (h : i < l.length) : (nums l)[i]'(by rw [nums_len]; exact h) = l[i].n := by simp [nums]
def Ins (l : List Kd) : Prop := ∀ k ∈ l, k.at'.In
def kAt (l : List Kd) (i : Int) : Kd := l.getD i.toNat default
theorem kAt_eq {l : List Kd} {i : Nat} (h : i < l.length) : kAt l i = l[i] := by
  unfold kAt
  rw [show ((i : Int)).toNat = i by omega, List.getD_eq_getElem?_getD, List.getElem?_eq_getElem h]; rfl

def stPl (l : List Kd) (n : Int) (i : Nat) : St := ⟨[(0, [], .ls 5 (kL l)), (1, [], .int .i64 n), (5, [], .int .i64 i)], []⟩
theorem sp_ref29_Place {l : List Kd} {n : Int} (hl : l.length < 1000000) : TSp 13 [.ls 5 (kL l), .int .i64 n] (.int .i64 (idxF (nums l) n 0)) := by
  refine spo_ref29_Place (by rfl) ?_
  dsimp only [c_ref29_Place, r_ref29_Place, run_skip, run_reg, plainB, ifB_true, run_seq, run_blk, run_exit, run_ret, run_ite, iteR, regK, thenK_nrm, thenK_exit, thenK_ret, thenR_nrm, thenR_exit, thenR_ret, blkK, keepS, keepE, runOps_nil, runOps_cons, goG_some, fpOk, foot, entOf, allN, memN, goOn_ok, goOn_call, goOn_row, goOn_arr, goOn_ask, goOn_put, goOn_prm, goOn_callK, goOn_callC, goOn_all, guardP, guardO, notInO, stepF, stepLd, stepSt, stepIxs, stepIxa, stepLen, stepApp, stepCpy, stepPick, stepSls, stepSst, stepSla, bareZ, evX, evL, evB, rd, get, subG, memG, freshG, notInG, hyps, gob, impP, allP, partD, partOf, isOne, isPtr, nth, takeN, dropN, cellsD, lenB, fillD, thirds, entN, setE, sizeE, addE, setL, setN, putE, env0, eqCs, eqAux, eqC, bA, bO, bN, bE, negB, kEq, isShr, lendL, lend, frz, frzL, zRow, closed, closedL, rowsOf, binI, retK, retG, atRet, retD, lendO, resL, resD, oneD, renD, renL, renE, renEs, rho, putAll, entsN, List.append, List.nil_append, List.cons_append, List.append_nil, cond, Nat.reduceBEq, Nat.reduceAdd, Nat.beq]
  refine loop_ind (α := {i : Nat // i ≤ l.length ∧ idxF ((nums l).drop i) n i = idxF (nums l) n 0}) (fun i => stPl l n i.1) (fun i => l.length - i.1) ?_ ⟨0, by simp⟩ rfl
  rintro ⟨i, hi, hv⟩ I ih
  dsimp only [stPl, run_skip, run_reg, plainB, ifB_true, run_seq, run_blk, run_exit, run_ret, run_ite, iteR, regK, thenK_nrm, thenK_exit, thenK_ret, thenR_nrm, thenR_exit, thenR_ret, blkK, keepS, keepE, runOps_nil, runOps_cons, goG_some, fpOk, foot, entOf, allN, memN, goOn_ok, goOn_call, goOn_row, goOn_arr, goOn_ask, goOn_put, goOn_prm, goOn_callK, goOn_callC, goOn_all, guardP, guardO, notInO, stepF, stepLd, stepSt, stepIxs, stepIxa, stepLen, stepApp, stepCpy, stepPick, stepSls, stepSst, stepSla, bareZ, evX, evL, evB, rd, get, subG, memG, freshG, notInG, hyps, gob, impP, allP, partD, partOf, isOne, isPtr, nth, takeN, dropN, cellsD, lenB, fillD, thirds, entN, setE, sizeE, addE, setL, setN, putE, env0, eqCs, eqAux, eqC, bA, bO, bN, bE, negB, kEq, isShr, lendL, lend, frz, frzL, zRow, closed, closedL, rowsOf, binI, retK, retG, atRet, retD, lendO, resL, resD, oneD, renD, renL, renE, renEs, rho, putAll, entsN, List.append, List.nil_append, List.cons_append, List.append_nil, cond, Nat.reduceBEq, Nat.reduceAdd, Nat.beq]
  rw [kL_len]
  refine ⟨fun hj => ?_, fun hj => ?_⟩
  · have hj : i < l.length := by simp at hj; omega
    refine ⟨⟨rfl, by omega, by omega⟩, row_intro _ (.int .i64 l[i].n) (kL_at hj) rfl ?_⟩
    dsimp only [run_skip, run_reg, plainB, ifB_true, run_seq, run_blk, run_exit, run_ret, run_ite, iteR, regK, thenK_nrm, thenK_exit, thenK_ret, thenR_nrm, thenR_exit, thenR_ret, blkK, keepS, keepE, runOps_nil, runOps_cons, goG_some, fpOk, foot, entOf, allN, memN, goOn_ok, goOn_call, goOn_row, goOn_arr, goOn_ask, goOn_put, goOn_prm, goOn_callK, goOn_callC, goOn_all, guardP, guardO, notInO, stepF, stepLd, stepSt, stepIxs, stepIxa, stepLen, stepApp, stepCpy, stepPick, stepSls, stepSst, stepSla, bareZ, evX, evL, evB, rd, get, subG, memG, freshG, notInG, hyps, gob, impP, allP, partD, partOf, isOne, isPtr, nth, takeN, dropN, cellsD, lenB, fillD, thirds, entN, setE, sizeE, addE, setL, setN, putE, env0, eqCs, eqAux, eqC, bA, bO, bN, bE, negB, kEq, isShr, lendL, lend, frz, frzL, zRow, closed, closedL, rowsOf, binI, retK, retG, atRet, retD, lendO, resL, resD, oneD, renD, renL, renE, renEs, rho, putAll, entsN, List.append, List.nil_append, List.cons_append, List.append_nil, cond, Nat.reduceBEq, Nat.reduceAdd, Nat.beq]
    rw [drop_at (by rw [nums_len]; exact hj)] at hv
    simp only [idxF] at hv
    rw [nums_at hj] at hv
    by_cases he : n = l[i].n
    · rw [if_pos he] at hv
      refine ⟨fun _ => ?_, fun h => by simp [he] at h⟩
      exact congrArg (D.int .i64) hv
    · rw [if_neg he] at hv
      refine ⟨fun h => by simp at h; exact absurd h.symm he, fun _ => ?_⟩
      refine ⟨by simp only [fits]; omega, ?_⟩
      exact again (ih ⟨i + 1, by omega, by rw [← hv]; rfl⟩ (by dsimp only; omega)) ⟨rfl, rfl, rfl, trivial⟩ trivial rfl rfl
  · have hj : i = l.length := by simp at hj; omega
    subst hj
    rw [List.drop_of_length_le (by rw [nums_len]; omega)] at hv
    exact congrArg (D.int .i64) hv

def hidR (l : List Kd) (i k : Int) : Bool := decide (k < i) && meetB (kAt l i).at' (kAt l k).at'
theorem sp_ref29_Hides {l : List Kd} (hi : Ins l) {i k : Int} (h : k < i → 0 ≤ k ∧ i < l.length) : TSp 20 [.ls 5 (kL l), .int .i64 i, .int .i64 k] (.bool (hidR l i k)) := by
  refine spo_ref29_Hides (by rfl) ?_
  dsimp only [c_ref29_Hides, r_ref29_Hides, run_skip, run_reg, plainB, ifB_true, run_seq, run_blk, run_exit, run_ret, run_ite, iteR, regK, thenK_nrm, thenK_exit, thenK_ret, thenR_nrm, thenR_exit, thenR_ret, blkK, keepS, keepE, runOps_nil, runOps_cons, goG_some, fpOk, foot, entOf, allN, memN, goOn_ok, goOn_call, goOn_row, goOn_arr, goOn_ask, goOn_put, goOn_prm, goOn_callK, goOn_callC, goOn_all, guardP, guardO, notInO, stepF, stepLd, stepSt, stepIxs, stepIxa, stepLen, stepApp, stepCpy, stepPick, stepSls, stepSst, stepSla, bareZ, evX, evL, evB, rd, get, subG, memG, freshG, notInG, hyps, gob, impP, allP, partD, partOf, isOne, isPtr, nth, takeN, dropN, cellsD, lenB, fillD, thirds, entN, setE, sizeE, addE, setL, setN, putE, env0, eqCs, eqAux, eqC, bA, bO, bN, bE, negB, kEq, isShr, lendL, lend, frz, frzL, zRow, closed, closedL, rowsOf, binI, retK, retG, atRet, retD, lendO, resL, resD, oneD, renD, renL, renE, renEs, rho, putAll, entsN, List.append, List.nil_append, List.cons_append, List.append_nil, cond, Nat.reduceBEq, Nat.reduceAdd, Nat.beq]
  have hd : ∀ j : Int, decide (k < i) = true → (j = i ∨ j = k) → j.toNat < l.length := fun j h1 h2 => by
    have := h (by simpa using h1)
    simp at h1
    rcases h2 with rfl | rfl <;> omega
  have hr : ∀ j : Int, decide (k < i) = true → (j = i ∨ j = k) → (kL l)[j.toNat]? = some (kdD (kAt l j)) := fun j h1 h2 => by
    have := hd j h1 h2
    rw [kL_at this]
    unfold kAt
    rw [List.getD_eq_getElem?_getD, List.getElem?_eq_getElem this]; rfl
  have hin : ∀ j : Int, decide (k < i) = true → (j = i ∨ j = k) → (kAt l j).at'.In := fun j h1 h2 => by
    have := hd j h1 h2
    unfold kAt
    rw [List.getD_eq_getElem?_getD, List.getElem?_eq_getElem this]
    exact hi _ (List.getElem_mem this)
  rw [kL_len]
  refine ⟨fun h1 => ⟨rfl, by have := h (by simpa using h1); simp at h1; omega, by have := h (by simpa using h1); omega⟩, ?_⟩
  refine row_intro _ (rD (kAt l i).at') (fun h1 => hr i h1 (.inl rfl)) rfl ?_
  dsimp only [run_skip, run_reg, plainB, ifB_true, run_seq, run_blk, run_exit, run_ret, run_ite, iteR, regK, thenK_nrm, thenK_exit, thenK_ret, thenR_nrm, thenR_exit, thenR_ret, blkK, keepS, keepE, runOps_nil, runOps_cons, goG_some, fpOk, foot, entOf, allN, memN, goOn_ok, goOn_call, goOn_row, goOn_arr, goOn_ask, goOn_put, goOn_prm, goOn_callK, goOn_callC, goOn_all, guardP, guardO, notInO, stepF, stepLd, stepSt, stepIxs, stepIxa, stepLen, stepApp, stepCpy, stepPick, stepSls, stepSst, stepSla, bareZ, evX, evL, evB, rd, get, subG, memG, freshG, notInG, hyps, gob, impP, allP, partD, partOf, isOne, isPtr, nth, takeN, dropN, cellsD, lenB, fillD, thirds, entN, setE, sizeE, addE, setL, setN, putE, env0, eqCs, eqAux, eqC, bA, bO, bN, bE, negB, kEq, isShr, lendL, lend, frz, frzL, zRow, closed, closedL, rowsOf, binI, retK, retG, atRet, retD, lendO, resL, resD, oneD, renD, renL, renE, renEs, rho, putAll, entsN, List.append, List.nil_append, List.cons_append, List.append_nil, cond, Nat.reduceBEq, Nat.reduceAdd, Nat.beq]
  rw [kL_len]
  refine ⟨fun h1 => ⟨rfl, by have := h (by simpa using h1); omega, by have := h (by simpa using h1); simp at h1; omega⟩, ?_⟩
  refine row_intro _ (rD (kAt l k).at') (fun h1 => hr k h1 (.inr rfl)) rfl ?_
  dsimp only [run_skip, run_reg, plainB, ifB_true, run_seq, run_blk, run_exit, run_ret, run_ite, iteR, regK, thenK_nrm, thenK_exit, thenK_ret, thenR_nrm, thenR_exit, thenR_ret, blkK, keepS, keepE, runOps_nil, runOps_cons, goG_some, fpOk, foot, entOf, allN, memN, goOn_ok, goOn_call, goOn_row, goOn_arr, goOn_ask, goOn_put, goOn_prm, goOn_callK, goOn_callC, goOn_all, guardP, guardO, notInO, stepF, stepLd, stepSt, stepIxs, stepIxa, stepLen, stepApp, stepCpy, stepPick, stepSls, stepSst, stepSla, bareZ, evX, evL, evB, rd, get, subG, memG, freshG, notInG, hyps, gob, impP, allP, partD, partOf, isOne, isPtr, nth, takeN, dropN, cellsD, lenB, fillD, thirds, entN, setE, sizeE, addE, setL, setN, putE, env0, eqCs, eqAux, eqC, bA, bO, bN, bE, negB, kEq, isShr, lendL, lend, frz, frzL, zRow, closed, closedL, rowsOf, binI, retK, retG, atRet, retD, lendO, resL, resD, oneD, renD, renL, renE, renEs, rho, putAll, entsN, List.append, List.nil_append, List.cons_append, List.append_nil, cond, Nat.reduceBEq, Nat.reduceAdd, Nat.beq]
  refine call_pure (fun h1 => sp_ref29_meet (hin i h1 (.inl rfl)) (hin k h1 (.inr rfl))) ?_
  dsimp only [run_skip, run_reg, plainB, ifB_true, run_seq, run_blk, run_exit, run_ret, run_ite, iteR, regK, thenK_nrm, thenK_exit, thenK_ret, thenR_nrm, thenR_exit, thenR_ret, blkK, keepS, keepE, runOps_nil, runOps_cons, goG_some, fpOk, foot, entOf, allN, memN, goOn_ok, goOn_call, goOn_row, goOn_arr, goOn_ask, goOn_put, goOn_prm, goOn_callK, goOn_callC, goOn_all, guardP, guardO, notInO, stepF, stepLd, stepSt, stepIxs, stepIxa, stepLen, stepApp, stepCpy, stepPick, stepSls, stepSst, stepSla, bareZ, evX, evL, evB, rd, get, subG, memG, freshG, notInG, hyps, gob, impP, allP, partD, partOf, isOne, isPtr, nth, takeN, dropN, cellsD, lenB, fillD, thirds, entN, setE, sizeE, addE, setL, setN, putE, env0, eqCs, eqAux, eqC, bA, bO, bN, bE, negB, kEq, isShr, lendL, lend, frz, frzL, zRow, closed, closedL, rowsOf, binI, retK, retG, atRet, retD, lendO, resL, resD, oneD, renD, renL, renE, renEs, rho, putAll, entsN, List.append, List.nil_append, List.cons_append, List.append_nil, cond, Nat.reduceBEq, Nat.reduceAdd, Nat.beq]
  rfl

def anyU (p : Nat → Bool) : Nat → Nat → Bool
  | 0, _ => false
  | c + 1, s => p s || anyU p c (s + 1)
theorem anyU_iff {p : Nat → Bool} : ∀ {c s : Nat}, anyU p c s = true ↔ ∃ k, s ≤ k ∧ k < s + c ∧ p k = true
  | 0, s => by simp [anyU]; intro k h1 h2; omega
  | c + 1, s => by
    simp only [anyU, Bool.or_eq_true]
    rw [anyU_iff]
    constructor
    · rintro (h | ⟨k, h1, h2, h3⟩)
      · exact ⟨s, Nat.le_refl _, by omega, h⟩
      · exact ⟨k, by omega, by omega, h3⟩
    · rintro ⟨k, h1, h2, h3⟩
      by_cases e : k = s
      · exact .inl (e ▸ h3)
      · exact .inr ⟨k, by omega, by omega, h3⟩
def hidnR (l : List Kd) (i b : Int) : Bool := anyU (fun k => (decide (b < 0) || decide (b = (k : Int))) && hidR l k i) l.length 0
def hidgR (l : List Kd) (i b : Int) : Bool := anyU (fun k => (decide (b < 0) || decide (b = (k : Int))) && hidR l i k) l.length 0
def stHd (l : List Kd) (i b : Int) (k : Nat) : St := ⟨[(0, [], .ls 5 (kL l)), (1, [], .int .i64 i), (2, [], .int .i64 b), (7, [], .int .i64 k)], []⟩
theorem sp_ref29_hidden {l : List Kd} (hi : Ins l) (hl : l.length < 1000000) {i b : Int} (h0 : 0 ≤ i) (h1 : i < l.length) : TSp 41 [.ls 5 (kL l), .int .i64 i, .int .i64 b] (.bool (hidnR l i b)) := by
  refine spo_ref29_hidden (by rfl) ?_
  dsimp only [c_ref29_hidden, r_ref29_hidden, run_skip, run_reg, plainB, ifB_true, run_seq, run_blk, run_exit, run_ret, run_ite, iteR, regK, thenK_nrm, thenK_exit, thenK_ret, thenR_nrm, thenR_exit, thenR_ret, blkK, keepS, keepE, runOps_nil, runOps_cons, goG_some, fpOk, foot, entOf, allN, memN, goOn_ok, goOn_call, goOn_row, goOn_arr, goOn_ask, goOn_put, goOn_prm, goOn_callK, goOn_callC, goOn_all, guardP, guardO, notInO, stepF, stepLd, stepSt, stepIxs, stepIxa, stepLen, stepApp, stepCpy, stepPick, stepSls, stepSst, stepSla, bareZ, evX, evL, evB, rd, get, subG, memG, freshG, notInG, hyps, gob, impP, allP, partD, partOf, isOne, isPtr, nth, takeN, dropN, cellsD, lenB, fillD, thirds, entN, setE, sizeE, addE, setL, setN, putE, env0, eqCs, eqAux, eqC, bA, bO, bN, bE, negB, kEq, isShr, lendL, lend, frz, frzL, zRow, closed, closedL, rowsOf, binI, retK, retG, atRet, retD, lendO, resL, resD, oneD, renD, renL, renE, renEs, rho, putAll, entsN, List.append, List.nil_append, List.cons_append, List.append_nil, cond, Nat.reduceBEq, Nat.reduceAdd, Nat.beq]
  refine loop_ind (α := {k : Nat // k ≤ l.length ∧ anyU (fun k => (decide (b < 0) || decide (b = (k : Int))) && hidR l k i) (l.length - k) k = hidnR l i b}) (fun k => stHd l i b k.1) (fun k => l.length - k.1) ?_ ⟨0, by simp [hidnR]⟩ rfl
  rintro ⟨k, hk, hv⟩ I ih
  dsimp only [stHd, run_skip, run_reg, plainB, ifB_true, run_seq, run_blk, run_exit, run_ret, run_ite, iteR, regK, thenK_nrm, thenK_exit, thenK_ret, thenR_nrm, thenR_exit, thenR_ret, blkK, keepS, keepE, runOps_nil, runOps_cons, goG_some, fpOk, foot, entOf, allN, memN, goOn_ok, goOn_call, goOn_row, goOn_arr, goOn_ask, goOn_put, goOn_prm, goOn_callK, goOn_callC, goOn_all, guardP, guardO, notInO, stepF, stepLd, stepSt, stepIxs, stepIxa, stepLen, stepApp, stepCpy, stepPick, stepSls, stepSst, stepSla, bareZ, evX, evL, evB, rd, get, subG, memG, freshG, notInG, hyps, gob, impP, allP, partD, partOf, isOne, isPtr, nth, takeN, dropN, cellsD, lenB, fillD, thirds, entN, setE, sizeE, addE, setL, setN, putE, env0, eqCs, eqAux, eqC, bA, bO, bN, bE, negB, kEq, isShr, lendL, lend, frz, frzL, zRow, closed, closedL, rowsOf, binI, retK, retG, atRet, retD, lendO, resL, resD, oneD, renD, renL, renE, renEs, rho, putAll, entsN, List.append, List.nil_append, List.cons_append, List.append_nil, cond, Nat.reduceBEq, Nat.reduceAdd, Nat.beq]
  rw [kL_len]
  refine ⟨fun hj => ?_, fun hj => ?_⟩
  · have hj : k < l.length := by simp at hj; omega
    refine call_pure (fun _ => sp_ref29_Hides hi (i := k) (k := i) (fun _ => ⟨h0, by omega⟩)) ?_
    dsimp only [run_skip, run_reg, plainB, ifB_true, run_seq, run_blk, run_exit, run_ret, run_ite, iteR, regK, thenK_nrm, thenK_exit, thenK_ret, thenR_nrm, thenR_exit, thenR_ret, blkK, keepS, keepE, runOps_nil, runOps_cons, goG_some, fpOk, foot, entOf, allN, memN, goOn_ok, goOn_call, goOn_row, goOn_arr, goOn_ask, goOn_put, goOn_prm, goOn_callK, goOn_callC, goOn_all, guardP, guardO, notInO, stepF, stepLd, stepSt, stepIxs, stepIxa, stepLen, stepApp, stepCpy, stepPick, stepSls, stepSst, stepSla, bareZ, evX, evL, evB, rd, get, subG, memG, freshG, notInG, hyps, gob, impP, allP, partD, partOf, isOne, isPtr, nth, takeN, dropN, cellsD, lenB, fillD, thirds, entN, setE, sizeE, addE, setL, setN, putE, env0, eqCs, eqAux, eqC, bA, bO, bN, bE, negB, kEq, isShr, lendL, lend, frz, frzL, zRow, closed, closedL, rowsOf, binI, retK, retG, atRet, retD, lendO, resL, resD, oneD, renD, renL, renE, renEs, rho, putAll, entsN, List.append, List.nil_append, List.cons_append, List.append_nil, cond, Nat.reduceBEq, Nat.reduceAdd, Nat.beq]
    rw [show l.length - k = (l.length - (k + 1)) + 1 by omega] at hv
    simp only [anyU] at hv
    refine ⟨fun he => ?_, fun he => ?_⟩
    · rw [he] at hv
      rw [← hv]; rfl
    · rw [he] at hv
      refine ⟨by simp only [fits]; omega, ?_⟩
      exact again (ih ⟨k + 1, by omega, by rw [← hv]; simp⟩ (by dsimp only; omega)) ⟨rfl, rfl, rfl, rfl, trivial⟩ trivial rfl rfl
  · have hj : k = l.length := by simp at hj; omega
    subst hj
    rw [Nat.sub_self] at hv
    exact congrArg D.bool hv
theorem sp_ref29_hiding {l : List Kd} (hi : Ins l) (hl : l.length < 1000000) {i b : Int} (h0 : 0 ≤ i) (h1 : i < l.length) : TSp 42 [.ls 5 (kL l), .int .i64 i, .int .i64 b] (.bool (hidgR l i b)) := by
  refine spo_ref29_hiding (by rfl) ?_
  dsimp only [c_ref29_hiding, r_ref29_hiding, run_skip, run_reg, plainB, ifB_true, run_seq, run_blk, run_exit, run_ret, run_ite, iteR, regK, thenK_nrm, thenK_exit, thenK_ret, thenR_nrm, thenR_exit, thenR_ret, blkK, keepS, keepE, runOps_nil, runOps_cons, goG_some, fpOk, foot, entOf, allN, memN, goOn_ok, goOn_call, goOn_row, goOn_arr, goOn_ask, goOn_put, goOn_prm, goOn_callK, goOn_callC, goOn_all, guardP, guardO, notInO, stepF, stepLd, stepSt, stepIxs, stepIxa, stepLen, stepApp, stepCpy, stepPick, stepSls, stepSst, stepSla, bareZ, evX, evL, evB, rd, get, subG, memG, freshG, notInG, hyps, gob, impP, allP, partD, partOf, isOne, isPtr, nth, takeN, dropN, cellsD, lenB, fillD, thirds, entN, setE, sizeE, addE, setL, setN, putE, env0, eqCs, eqAux, eqC, bA, bO, bN, bE, negB, kEq, isShr, lendL, lend, frz, frzL, zRow, closed, closedL, rowsOf, binI, retK, retG, atRet, retD, lendO, resL, resD, oneD, renD, renL, renE, renEs, rho, putAll, entsN, List.append, List.nil_append, List.cons_append, List.append_nil, cond, Nat.reduceBEq, Nat.reduceAdd, Nat.beq]
  refine loop_ind (α := {k : Nat // k ≤ l.length ∧ anyU (fun k => (decide (b < 0) || decide (b = (k : Int))) && hidR l i k) (l.length - k) k = hidgR l i b}) (fun k => stHd l i b k.1) (fun k => l.length - k.1) ?_ ⟨0, by simp [hidgR]⟩ rfl
  rintro ⟨k, hk, hv⟩ I ih
  dsimp only [stHd, run_skip, run_reg, plainB, ifB_true, run_seq, run_blk, run_exit, run_ret, run_ite, iteR, regK, thenK_nrm, thenK_exit, thenK_ret, thenR_nrm, thenR_exit, thenR_ret, blkK, keepS, keepE, runOps_nil, runOps_cons, goG_some, fpOk, foot, entOf, allN, memN, goOn_ok, goOn_call, goOn_row, goOn_arr, goOn_ask, goOn_put, goOn_prm, goOn_callK, goOn_callC, goOn_all, guardP, guardO, notInO, stepF, stepLd, stepSt, stepIxs, stepIxa, stepLen, stepApp, stepCpy, stepPick, stepSls, stepSst, stepSla, bareZ, evX, evL, evB, rd, get, subG, memG, freshG, notInG, hyps, gob, impP, allP, partD, partOf, isOne, isPtr, nth, takeN, dropN, cellsD, lenB, fillD, thirds, entN, setE, sizeE, addE, setL, setN, putE, env0, eqCs, eqAux, eqC, bA, bO, bN, bE, negB, kEq, isShr, lendL, lend, frz, frzL, zRow, closed, closedL, rowsOf, binI, retK, retG, atRet, retD, lendO, resL, resD, oneD, renD, renL, renE, renEs, rho, putAll, entsN, List.append, List.nil_append, List.cons_append, List.append_nil, cond, Nat.reduceBEq, Nat.reduceAdd, Nat.beq]
  rw [kL_len]
  refine ⟨fun hj => ?_, fun hj => ?_⟩
  · have hj : k < l.length := by simp at hj; omega
    refine call_pure (fun _ => sp_ref29_Hides hi (i := i) (k := k) (fun _ => ⟨by omega, h1⟩)) ?_
    dsimp only [run_skip, run_reg, plainB, ifB_true, run_seq, run_blk, run_exit, run_ret, run_ite, iteR, regK, thenK_nrm, thenK_exit, thenK_ret, thenR_nrm, thenR_exit, thenR_ret, blkK, keepS, keepE, runOps_nil, runOps_cons, goG_some, fpOk, foot, entOf, allN, memN, goOn_ok, goOn_call, goOn_row, goOn_arr, goOn_ask, goOn_put, goOn_prm, goOn_callK, goOn_callC, goOn_all, guardP, guardO, notInO, stepF, stepLd, stepSt, stepIxs, stepIxa, stepLen, stepApp, stepCpy, stepPick, stepSls, stepSst, stepSla, bareZ, evX, evL, evB, rd, get, subG, memG, freshG, notInG, hyps, gob, impP, allP, partD, partOf, isOne, isPtr, nth, takeN, dropN, cellsD, lenB, fillD, thirds, entN, setE, sizeE, addE, setL, setN, putE, env0, eqCs, eqAux, eqC, bA, bO, bN, bE, negB, kEq, isShr, lendL, lend, frz, frzL, zRow, closed, closedL, rowsOf, binI, retK, retG, atRet, retD, lendO, resL, resD, oneD, renD, renL, renE, renEs, rho, putAll, entsN, List.append, List.nil_append, List.cons_append, List.append_nil, cond, Nat.reduceBEq, Nat.reduceAdd, Nat.beq]
    rw [show l.length - k = (l.length - (k + 1)) + 1 by omega] at hv
    simp only [anyU] at hv
    refine ⟨fun he => ?_, fun he => ?_⟩
    · rw [he] at hv
      rw [← hv]; rfl
    · rw [he] at hv
      refine ⟨by simp only [fits]; omega, ?_⟩
      exact again (ih ⟨k + 1, by omega, by rw [← hv]; simp⟩ (by dsimp only; omega)) ⟨rfl, rfl, rfl, rfl, trivial⟩ trivial rfl rfl
  · have hj : k = l.length := by simp at hj; omega
    subst hj
    rw [Nat.sub_self] at hv
    exact congrArg D.bool hv
end Go.AM
