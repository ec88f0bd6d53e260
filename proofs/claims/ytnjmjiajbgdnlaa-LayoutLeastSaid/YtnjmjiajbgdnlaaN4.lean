
/- Chapter 52: are nodes right? -/
import Derived.Test.YtnjmjiajbgdnlaaN3
set_option linter.all false
namespace Go.AM
open Go Go.Proofs

def bad1 (v : Int) : Bool := decide (v < 0) || decide (1000 < v)
def kidsChk (n i : Nat) : List Bool → List Int → Except Int (List Bool)
  | kid, [] => .ok kid
  | kid, k :: ks => if decide (k ≤ i) || decide ((n : Int) ≤ k) then .error 8 else if kid.getD k.toNat false then .error 7 else kidsChk n i (kid.set k.toNat true) ks
def nodesChk (n : Nat) : Nat → List Bool → List Nd → Except Int (List Bool)
  | _, kid, [] => .ok kid
  | i, kid, nd :: r => if bad1 nd.gap || bad1 nd.w || bad1 nd.h || bad1 nd.grow then .error 1 else match kidsChk n i kid nd.kids with
    | .error e => .error e
    | .ok kid' => nodesChk n (i + 1) kid' r
def restK (kid : List Bool) : Nat → Nat → Bool
  | 0, _ => true
  | m + 1, i => kid.getD i false && restK kid m (i + 1)
def chkN (L : List Nd) : Int :=
  if L.length = 0 then 13 else if 64 < L.length then 5 else match nodesChk L.length 0 (List.replicate 64 false) L with
    | .error e => e
    | .ok kid => if restK kid (L.length - 1) 1 then 0 else 6

def bD (l : List Bool) : List D := l.map .bool
def lD (L : List Nd) : List D := L.map nD
theorem lD_len (L : List Nd) : (lD L).length = L.length := by simp [lD]
theorem lD_at {L : List Nd} {i : Nat} (h : i < L.length) : (lD L)[i]? = some (nD L[i]) := by simp [lD, h]
theorem bD_at {l : List Bool} {i : Nat} (h : i < l.length) : nth (bD l) i = some (.bool (l.getD i false)) := by
  rw [nth_eq]; simp [bD, h]
theorem bD_set {l : List Bool} {i : Nat} (h : i < l.length) : setL (bD l) i [.bool true] = some (bD (l.set i true)) := by
  have e : ∀ (l : List D) (n : Nat) (d : D), n < l.length → setN l n d = some (l.set n d) := by
    intro l
    induction l with
    | nil => intro n d h; simp at h
    | cons x l ih => intro n d h; cases n with
      | zero => rfl
      | succ n => simp only [setN, ih n d (by simpa using h)]; rfl
  simp only [setL]
  rw [e _ _ _ (by simpa [bD] using h)]
  simp [bD]

theorem bD_low {n : Nat} {l : List Bool} : lowL n (bD l) = true := by
  induction l with
  | nil => rfl
  | cons x l ih => show (low n (.bool x) && lowL n (bD l)) = true; rw [ih]; rfl

theorem kids_step {n i : Nat} {kid : List Bool} {ks : List Int} {j : Nat} (h : j < ks.length) : kidsChk n i kid (ks.drop j) = if decide (ks[j] ≤ i) || decide ((n : Int) ≤ ks[j]) then .error 8 else if kid.getD ks[j].toNat false then .error 7 else kidsChk n i (kid.set ks[j].toNat true) (ks.drop (j + 1)) := by
  rw [List.drop_eq_getElem_cons h]; rfl
theorem nodes_step {n i : Nat} {kid : List Bool} {L : List Nd} (h : i < L.length) : nodesChk n i kid (L.drop i) = if bad1 L[i].gap || bad1 L[i].w || bad1 L[i].h || bad1 L[i].grow then .error 1 else match kidsChk n i kid L[i].kids with
    | .error e => .error e
    | .ok kid' => nodesChk n (i + 1) kid' (L.drop (i + 1)) := by
  rw [List.drop_eq_getElem_cons h]; rfl

theorem sp_layout_Check {L : List Nd} (hL : ∀ nd ∈ L, nd.kids.length < 9223372036854775807) : TSp 20 [.ls 6 (lD L)] (.int .i64 (chkN L)) := by
  refine spo_layout_Check (by rfl) ?_
  dsimp only [c_layout_Check, r_layout_Check, run_skip, run_reg, plainB, ifB_true, run_seq, run_blk, run_exit, run_ret, run_ite, iteR, regK, thenK_nrm, thenK_exit, thenK_ret, thenR_nrm, thenR_exit, thenR_ret, blkK, keepS, keepE, runOps_nil, runOps_cons, goG_some, fpOk, foot, entOf, allN, memN, goOn_ok, goOn_call, goOn_row, goOn_arr, goOn_ask, goOn_put, guardP, guardO, notInO, stepF, stepLd, stepSt, stepIxs, stepIxa, stepLen, stepApp, stepCpy, stepPick, stepSls, stepSst, stepSla, evX, evL, evB, rd, get, subG, memG, freshG, notInG, hyps, gob, impP, allP, partD, partOf, isOne, isPtr, nth, takeN, dropN, cellsD, lenB, fillD, thirds, entN, setE, sizeE, addE, setL, setN, putE, env0, eqCs, eqAux, eqC, bA, bO, bN, bE, negB, kEq, isShr, lendL, lend, frz, frzL, zRow, closed, closedL, rowsOf, binI, retK, retG, atRet, retD, lendO, resL, resD, oneD, renD, renL, renE, renEs, rho, putAll, entsN, List.append, List.nil_append, List.cons_append, List.append_nil, cond, Nat.reduceBEq, Nat.reduceAdd, Nat.beq]
  simp only [lD_len]
  unfold chkN
  refine ⟨fun h => ?_, fun h => ?_⟩
  · rw [if_pos (by simpa using h)]
  have h0 : ¬ L.length = 0 := by simpa using h
  rw [if_neg h0]
  refine ⟨fun h => ?_, fun h => ?_⟩
  · rw [if_pos (by simp at h; omega)]
  have h64 : L.length ≤ 64 := by simp at h; omega
  rw [if_neg (by omega)]
  refine loop_ind (α := {x : Nat × List Bool // x.1 ≤ L.length ∧ x.2.length = 64 ∧ nodesChk L.length x.1 x.2 (L.drop x.1) = nodesChk L.length 0 (List.replicate 64 false) L})
    (fun x => ⟨[(0, [], .ls 6 (lD L)), (3, [], .box 0 0), (17, [], .ls 6 (lD L)), (18, [], .int .i64 L.length), (19, [], .int .i64 x.1.1)], [.cells (bD x.1.2)]⟩) (fun x => L.length - x.1.1) ?_ ⟨(0, List.replicate 64 false), by simp⟩ rfl
  rintro ⟨⟨i, kid⟩, h1, h2, h3⟩ I ih
  dsimp only at h1 h2 h3
  dsimp only [run_skip, run_reg, plainB, ifB_true, run_seq, run_blk, run_exit, run_ret, run_ite, iteR, regK, thenK_nrm, thenK_exit, thenK_ret, thenR_nrm, thenR_exit, thenR_ret, blkK, keepS, keepE, runOps_nil, runOps_cons, goG_some, fpOk, foot, entOf, allN, memN, goOn_ok, goOn_call, goOn_row, goOn_arr, goOn_ask, goOn_put, guardP, guardO, notInO, stepF, stepLd, stepSt, stepIxs, stepIxa, stepLen, stepApp, stepCpy, stepPick, stepSls, stepSst, stepSla, evX, evL, evB, rd, get, subG, memG, freshG, notInG, hyps, gob, impP, allP, partD, partOf, isOne, isPtr, nth, takeN, dropN, cellsD, lenB, fillD, thirds, entN, setE, sizeE, addE, setL, setN, putE, env0, eqCs, eqAux, eqC, bA, bO, bN, bE, negB, kEq, isShr, lendL, lend, frz, frzL, zRow, closed, closedL, rowsOf, binI, retK, retG, atRet, retD, lendO, resL, resD, oneD, renD, renL, renE, renEs, rho, putAll, entsN, List.append, List.nil_append, List.cons_append, List.append_nil, cond, Nat.reduceBEq, Nat.reduceAdd, Nat.beq]
  refine ⟨fun hi => ?_, fun hi => ?_⟩
  · have hi : i < L.length := by simp at hi; omega
    rw [nodes_step hi] at h3
    refine ⟨⟨rfl, by omega, by rw [lD_len]; omega⟩, row_intro _ _ (lD_at hi) rfl ?_⟩
    have hlen := hL _ (List.getElem_mem hi)
    generalize L[i] = nd at *
    dsimp only [nD, run_skip, run_reg, plainB, ifB_true, run_seq, run_blk, run_exit, run_ret, run_ite, iteR, regK, thenK_nrm, thenK_exit, thenK_ret, thenR_nrm, thenR_exit, thenR_ret, blkK, keepS, keepE, runOps_nil, runOps_cons, goG_some, fpOk, foot, entOf, allN, memN, goOn_ok, goOn_call, goOn_row, goOn_arr, goOn_ask, goOn_put, guardP, guardO, notInO, stepF, stepLd, stepSt, stepIxs, stepIxa, stepLen, stepApp, stepCpy, stepPick, stepSls, stepSst, stepSla, evX, evL, evB, rd, get, subG, memG, freshG, notInG, hyps, gob, impP, allP, partD, partOf, isOne, isPtr, nth, takeN, dropN, cellsD, lenB, fillD, thirds, entN, setE, sizeE, addE, setL, setN, putE, env0, eqCs, eqAux, eqC, bA, bO, bN, bE, negB, kEq, isShr, lendL, lend, frz, frzL, zRow, closed, closedL, rowsOf, binI, retK, retG, atRet, retD, lendO, resL, resD, oneD, renD, renL, renE, renEs, rho, putAll, entsN, List.append, List.nil_append, List.cons_append, List.append_nil, cond, Nat.reduceBEq, Nat.reduceAdd, Nat.beq]
    -- the four numbers
    refine run_unroll ?_
    dsimp only [run_skip, run_reg, plainB, ifB_true, run_seq, run_blk, run_exit, run_ret, run_ite, iteR, regK, thenK_nrm, thenK_exit, thenK_ret, thenR_nrm, thenR_exit, thenR_ret, blkK, keepS, keepE, runOps_nil, runOps_cons, goG_some, fpOk, foot, entOf, allN, memN, goOn_ok, goOn_call, goOn_row, goOn_arr, goOn_ask, goOn_put, guardP, guardO, notInO, stepF, stepLd, stepSt, stepIxs, stepIxa, stepLen, stepApp, stepCpy, stepPick, stepSls, stepSst, stepSla, evX, evL, evB, rd, get, subG, memG, freshG, notInG, hyps, gob, impP, allP, partD, partOf, isOne, isPtr, nth, takeN, dropN, cellsD, lenB, fillD, thirds, entN, setE, sizeE, addE, setL, setN, putE, env0, eqCs, eqAux, eqC, bA, bO, bN, bE, negB, kEq, isShr, lendL, lend, frz, frzL, zRow, closed, closedL, rowsOf, binI, retK, retG, atRet, retD, lendO, resL, resD, oneD, renD, renL, renE, renEs, rho, putAll, entsN, List.append, List.nil_append, List.cons_append, List.append_nil, cond, Nat.reduceBEq, Nat.reduceAdd, Nat.beq]
    refine ⟨fun _ => ⟨⟨by omega, by omega⟩, arr_intro _ rfl ?_⟩, fun h => by simp at h⟩
    dsimp only [run_skip, run_reg, plainB, ifB_true, run_seq, run_blk, run_exit, run_ret, run_ite, iteR, regK, thenK_nrm, thenK_exit, thenK_ret, thenR_nrm, thenR_exit, thenR_ret, blkK, keepS, keepE, runOps_nil, runOps_cons, goG_some, fpOk, foot, entOf, allN, memN, goOn_ok, goOn_call, goOn_row, goOn_arr, goOn_ask, goOn_put, guardP, guardO, notInO, stepF, stepLd, stepSt, stepIxs, stepIxa, stepLen, stepApp, stepCpy, stepPick, stepSls, stepSst, stepSla, evX, evL, evB, rd, get, subG, memG, freshG, notInG, hyps, gob, impP, allP, partD, partOf, isOne, isPtr, nth, takeN, dropN, cellsD, lenB, fillD, thirds, entN, setE, sizeE, addE, setL, setN, putE, env0, eqCs, eqAux, eqC, bA, bO, bN, bE, negB, kEq, isShr, lendL, lend, frz, frzL, zRow, closed, closedL, rowsOf, binI, retK, retG, atRet, retD, lendO, resL, resD, oneD, renD, renL, renE, renEs, rho, putAll, entsN, List.append, List.nil_append, List.cons_append, List.append_nil, cond, Nat.reduceBEq, Nat.reduceAdd, Nat.beq]
    refine ⟨fun hb => ?_, fun hb1 => ⟨by simp [fits], run_unroll ?_⟩⟩
    · rw [if_pos (by unfold bad1; rw [hb]; simp)] at h3; rw [← h3]
    dsimp only [run_skip, run_reg, plainB, ifB_true, run_seq, run_blk, run_exit, run_ret, run_ite, iteR, regK, thenK_nrm, thenK_exit, thenK_ret, thenR_nrm, thenR_exit, thenR_ret, blkK, keepS, keepE, runOps_nil, runOps_cons, goG_some, fpOk, foot, entOf, allN, memN, goOn_ok, goOn_call, goOn_row, goOn_arr, goOn_ask, goOn_put, guardP, guardO, notInO, stepF, stepLd, stepSt, stepIxs, stepIxa, stepLen, stepApp, stepCpy, stepPick, stepSls, stepSst, stepSla, evX, evL, evB, rd, get, subG, memG, freshG, notInG, hyps, gob, impP, allP, partD, partOf, isOne, isPtr, nth, takeN, dropN, cellsD, lenB, fillD, thirds, entN, setE, sizeE, addE, setL, setN, putE, env0, eqCs, eqAux, eqC, bA, bO, bN, bE, negB, kEq, isShr, lendL, lend, frz, frzL, zRow, closed, closedL, rowsOf, binI, retK, retG, atRet, retD, lendO, resL, resD, oneD, renD, renL, renE, renEs, rho, putAll, entsN, List.append, List.nil_append, List.cons_append, List.append_nil, cond, Nat.reduceBEq, Nat.reduceAdd, Nat.beq]
    refine ⟨fun _ => ⟨⟨by omega, by omega⟩, arr_intro _ rfl ?_⟩, fun h => by simp at h⟩
    dsimp only [run_skip, run_reg, plainB, ifB_true, run_seq, run_blk, run_exit, run_ret, run_ite, iteR, regK, thenK_nrm, thenK_exit, thenK_ret, thenR_nrm, thenR_exit, thenR_ret, blkK, keepS, keepE, runOps_nil, runOps_cons, goG_some, fpOk, foot, entOf, allN, memN, goOn_ok, goOn_call, goOn_row, goOn_arr, goOn_ask, goOn_put, guardP, guardO, notInO, stepF, stepLd, stepSt, stepIxs, stepIxa, stepLen, stepApp, stepCpy, stepPick, stepSls, stepSst, stepSla, evX, evL, evB, rd, get, subG, memG, freshG, notInG, hyps, gob, impP, allP, partD, partOf, isOne, isPtr, nth, takeN, dropN, cellsD, lenB, fillD, thirds, entN, setE, sizeE, addE, setL, setN, putE, env0, eqCs, eqAux, eqC, bA, bO, bN, bE, negB, kEq, isShr, lendL, lend, frz, frzL, zRow, closed, closedL, rowsOf, binI, retK, retG, atRet, retD, lendO, resL, resD, oneD, renD, renL, renE, renEs, rho, putAll, entsN, List.append, List.nil_append, List.cons_append, List.append_nil, cond, Nat.reduceBEq, Nat.reduceAdd, Nat.beq]
    refine ⟨fun hb => ?_, fun hb2 => ⟨by simp [fits], run_unroll ?_⟩⟩
    · rw [if_pos (by unfold bad1; rw [hb]; simp)] at h3; rw [← h3]
    dsimp only [run_skip, run_reg, plainB, ifB_true, run_seq, run_blk, run_exit, run_ret, run_ite, iteR, regK, thenK_nrm, thenK_exit, thenK_ret, thenR_nrm, thenR_exit, thenR_ret, blkK, keepS, keepE, runOps_nil, runOps_cons, goG_some, fpOk, foot, entOf, allN, memN, goOn_ok, goOn_call, goOn_row, goOn_arr, goOn_ask, goOn_put, guardP, guardO, notInO, stepF, stepLd, stepSt, stepIxs, stepIxa, stepLen, stepApp, stepCpy, stepPick, stepSls, stepSst, stepSla, evX, evL, evB, rd, get, subG, memG, freshG, notInG, hyps, gob, impP, allP, partD, partOf, isOne, isPtr, nth, takeN, dropN, cellsD, lenB, fillD, thirds, entN, setE, sizeE, addE, setL, setN, putE, env0, eqCs, eqAux, eqC, bA, bO, bN, bE, negB, kEq, isShr, lendL, lend, frz, frzL, zRow, closed, closedL, rowsOf, binI, retK, retG, atRet, retD, lendO, resL, resD, oneD, renD, renL, renE, renEs, rho, putAll, entsN, List.append, List.nil_append, List.cons_append, List.append_nil, cond, Nat.reduceBEq, Nat.reduceAdd, Nat.beq]
    refine ⟨fun _ => ⟨⟨by omega, by omega⟩, arr_intro _ rfl ?_⟩, fun h => by simp at h⟩
    dsimp only [run_skip, run_reg, plainB, ifB_true, run_seq, run_blk, run_exit, run_ret, run_ite, iteR, regK, thenK_nrm, thenK_exit, thenK_ret, thenR_nrm, thenR_exit, thenR_ret, blkK, keepS, keepE, runOps_nil, runOps_cons, goG_some, fpOk, foot, entOf, allN, memN, goOn_ok, goOn_call, goOn_row, goOn_arr, goOn_ask, goOn_put, guardP, guardO, notInO, stepF, stepLd, stepSt, stepIxs, stepIxa, stepLen, stepApp, stepCpy, stepPick, stepSls, stepSst, stepSla, evX, evL, evB, rd, get, subG, memG, freshG, notInG, hyps, gob, impP, allP, partD, partOf, isOne, isPtr, nth, takeN, dropN, cellsD, lenB, fillD, thirds, entN, setE, sizeE, addE, setL, setN, putE, env0, eqCs, eqAux, eqC, bA, bO, bN, bE, negB, kEq, isShr, lendL, lend, frz, frzL, zRow, closed, closedL, rowsOf, binI, retK, retG, atRet, retD, lendO, resL, resD, oneD, renD, renL, renE, renEs, rho, putAll, entsN, List.append, List.nil_append, List.cons_append, List.append_nil, cond, Nat.reduceBEq, Nat.reduceAdd, Nat.beq]
    refine ⟨fun hb => ?_, fun hb3 => ⟨by simp [fits], run_unroll ?_⟩⟩
    · rw [if_pos (by unfold bad1; rw [hb]; simp)] at h3; rw [← h3]
    dsimp only [run_skip, run_reg, plainB, ifB_true, run_seq, run_blk, run_exit, run_ret, run_ite, iteR, regK, thenK_nrm, thenK_exit, thenK_ret, thenR_nrm, thenR_exit, thenR_ret, blkK, keepS, keepE, runOps_nil, runOps_cons, goG_some, fpOk, foot, entOf, allN, memN, goOn_ok, goOn_call, goOn_row, goOn_arr, goOn_ask, goOn_put, guardP, guardO, notInO, stepF, stepLd, stepSt, stepIxs, stepIxa, stepLen, stepApp, stepCpy, stepPick, stepSls, stepSst, stepSla, evX, evL, evB, rd, get, subG, memG, freshG, notInG, hyps, gob, impP, allP, partD, partOf, isOne, isPtr, nth, takeN, dropN, cellsD, lenB, fillD, thirds, entN, setE, sizeE, addE, setL, setN, putE, env0, eqCs, eqAux, eqC, bA, bO, bN, bE, negB, kEq, isShr, lendL, lend, frz, frzL, zRow, closed, closedL, rowsOf, binI, retK, retG, atRet, retD, lendO, resL, resD, oneD, renD, renL, renE, renEs, rho, putAll, entsN, List.append, List.nil_append, List.cons_append, List.append_nil, cond, Nat.reduceBEq, Nat.reduceAdd, Nat.beq]
    refine ⟨fun _ => ⟨⟨by omega, by omega⟩, arr_intro _ rfl ?_⟩, fun h => by simp at h⟩
    dsimp only [run_skip, run_reg, plainB, ifB_true, run_seq, run_blk, run_exit, run_ret, run_ite, iteR, regK, thenK_nrm, thenK_exit, thenK_ret, thenR_nrm, thenR_exit, thenR_ret, blkK, keepS, keepE, runOps_nil, runOps_cons, goG_some, fpOk, foot, entOf, allN, memN, goOn_ok, goOn_call, goOn_row, goOn_arr, goOn_ask, goOn_put, guardP, guardO, notInO, stepF, stepLd, stepSt, stepIxs, stepIxa, stepLen, stepApp, stepCpy, stepPick, stepSls, stepSst, stepSla, evX, evL, evB, rd, get, subG, memG, freshG, notInG, hyps, gob, impP, allP, partD, partOf, isOne, isPtr, nth, takeN, dropN, cellsD, lenB, fillD, thirds, entN, setE, sizeE, addE, setL, setN, putE, env0, eqCs, eqAux, eqC, bA, bO, bN, bE, negB, kEq, isShr, lendL, lend, frz, frzL, zRow, closed, closedL, rowsOf, binI, retK, retG, atRet, retD, lendO, resL, resD, oneD, renD, renL, renE, renEs, rho, putAll, entsN, List.append, List.nil_append, List.cons_append, List.append_nil, cond, Nat.reduceBEq, Nat.reduceAdd, Nat.beq]
    refine ⟨fun hb => ?_, fun hb4 => ⟨by simp [fits], run_unroll ?_⟩⟩
    · rw [if_pos (by unfold bad1; rw [hb]; simp)] at h3; rw [← h3]
    rw [if_neg (by unfold bad1; rw [hb1, hb2, hb3, hb4]; simp)] at h3
    dsimp only [run_skip, run_reg, plainB, ifB_true, run_seq, run_blk, run_exit, run_ret, run_ite, iteR, regK, thenK_nrm, thenK_exit, thenK_ret, thenR_nrm, thenR_exit, thenR_ret, blkK, keepS, keepE, runOps_nil, runOps_cons, goG_some, fpOk, foot, entOf, allN, memN, goOn_ok, goOn_call, goOn_row, goOn_arr, goOn_ask, goOn_put, guardP, guardO, notInO, stepF, stepLd, stepSt, stepIxs, stepIxa, stepLen, stepApp, stepCpy, stepPick, stepSls, stepSst, stepSla, evX, evL, evB, rd, get, subG, memG, freshG, notInG, hyps, gob, impP, allP, partD, partOf, isOne, isPtr, nth, takeN, dropN, cellsD, lenB, fillD, thirds, entN, setE, sizeE, addE, setL, setN, putE, env0, eqCs, eqAux, eqC, bA, bO, bN, bE, negB, kEq, isShr, lendL, lend, frz, frzL, zRow, closed, closedL, rowsOf, binI, retK, retG, atRet, retD, lendO, resL, resD, oneD, renD, renL, renE, renEs, rho, putAll, entsN, List.append, List.nil_append, List.cons_append, List.append_nil, cond, Nat.reduceBEq, Nat.reduceAdd, Nat.beq]
    refine ⟨fun h => by simp at h, fun _ => ?_⟩
    rw [iD_len]
    refine loop_ind (α := {x : Nat × List Bool // x.1 ≤ nd.kids.length ∧ x.2.length = 64 ∧ kidsChk L.length i x.2 (nd.kids.drop x.1) = kidsChk L.length i kid nd.kids})
      (fun x => ⟨[(0, [], .ls 6 (lD L)), (3, [], .box 0 0), (4, [], .int .i64 i), (17, [], .ls 6 (lD L)), (18, [], .int .i64 L.length), (19, [], .int .i64 i), (44, [], .ls 1 (iD nd.kids)), (45, [], .int .i64 nd.kids.length), (46, [], .int .i64 x.1.1)],
        [.cells (bD x.1.2), .cells [.bool nd.down, .int .i64 nd.gap, .int .i64 nd.w, .int .i64 nd.h, .int .i64 nd.grow, .ls 1 (iD nd.kids)]]⟩) (fun x => nd.kids.length - x.1.1) ?_ ⟨(0, kid), by simp [h2]⟩ rfl
    rintro ⟨⟨j, kd⟩, j1, j2, j3⟩ J jh
    dsimp only at j1 j2 j3
    dsimp only [run_skip, run_reg, plainB, ifB_true, run_seq, run_blk, run_exit, run_ret, run_ite, iteR, regK, thenK_nrm, thenK_exit, thenK_ret, thenR_nrm, thenR_exit, thenR_ret, blkK, keepS, keepE, runOps_nil, runOps_cons, goG_some, fpOk, foot, entOf, allN, memN, goOn_ok, goOn_call, goOn_row, goOn_arr, goOn_ask, goOn_put, guardP, guardO, notInO, stepF, stepLd, stepSt, stepIxs, stepIxa, stepLen, stepApp, stepCpy, stepPick, stepSls, stepSst, stepSla, evX, evL, evB, rd, get, subG, memG, freshG, notInG, hyps, gob, impP, allP, partD, partOf, isOne, isPtr, nth, takeN, dropN, cellsD, lenB, fillD, thirds, entN, setE, sizeE, addE, setL, setN, putE, env0, eqCs, eqAux, eqC, bA, bO, bN, bE, negB, kEq, isShr, lendL, lend, frz, frzL, zRow, closed, closedL, rowsOf, binI, retK, retG, atRet, retD, lendO, resL, resD, oneD, renD, renL, renE, renEs, rho, putAll, entsN, List.append, List.nil_append, List.cons_append, List.append_nil, cond, Nat.reduceBEq, Nat.reduceAdd, Nat.beq]
    refine ⟨fun hj => ?_, fun hj => ?_⟩
    · have hj : j < nd.kids.length := by simp at hj; omega
      rw [kids_step hj] at j3
      refine ⟨⟨rfl, by omega, by rw [iD_len]; omega⟩, row_intro _ _ (iD_at hj) rfl ?_⟩
      generalize nd.kids[j] = k at *
      dsimp only [run_skip, run_reg, plainB, ifB_true, run_seq, run_blk, run_exit, run_ret, run_ite, iteR, regK, thenK_nrm, thenK_exit, thenK_ret, thenR_nrm, thenR_exit, thenR_ret, blkK, keepS, keepE, runOps_nil, runOps_cons, goG_some, fpOk, foot, entOf, allN, memN, goOn_ok, goOn_call, goOn_row, goOn_arr, goOn_ask, goOn_put, guardP, guardO, notInO, stepF, stepLd, stepSt, stepIxs, stepIxa, stepLen, stepApp, stepCpy, stepPick, stepSls, stepSst, stepSla, evX, evL, evB, rd, get, subG, memG, freshG, notInG, hyps, gob, impP, allP, partD, partOf, isOne, isPtr, nth, takeN, dropN, cellsD, lenB, fillD, thirds, entN, setE, sizeE, addE, setL, setN, putE, env0, eqCs, eqAux, eqC, bA, bO, bN, bE, negB, kEq, isShr, lendL, lend, frz, frzL, zRow, closed, closedL, rowsOf, binI, retK, retG, atRet, retD, lendO, resL, resD, oneD, renD, renL, renE, renEs, rho, putAll, entsN, List.append, List.nil_append, List.cons_append, List.append_nil, cond, Nat.reduceBEq, Nat.reduceAdd, Nat.beq]
      rw [lD_len]
      refine ⟨fun hc => ?_, fun hc => ?_⟩
      · rw [if_pos hc] at j3
        rw [← j3] at h3
        rw [← h3]
      rw [if_neg (by rw [hc]; simp)] at j3
      simp only [Bool.or_eq_false_iff, decide_eq_false_iff_not] at hc
      have hk : k.toNat < kd.length := by omega
      refine ⟨⟨by omega, by omega⟩, arr_intro (.bool (kd.getD k.toNat false)) ?_ ?_⟩
      · show nth (bD kd) _ = _
        rw [show 0 + k.toNat * 1 = k.toNat by omega]; exact bD_at hk
      dsimp only [run_skip, run_reg, plainB, ifB_true, run_seq, run_blk, run_exit, run_ret, run_ite, iteR, regK, thenK_nrm, thenK_exit, thenK_ret, thenR_nrm, thenR_exit, thenR_ret, blkK, keepS, keepE, runOps_nil, runOps_cons, goG_some, fpOk, foot, entOf, allN, memN, goOn_ok, goOn_call, goOn_row, goOn_arr, goOn_ask, goOn_put, guardP, guardO, notInO, stepF, stepLd, stepSt, stepIxs, stepIxa, stepLen, stepApp, stepCpy, stepPick, stepSls, stepSst, stepSla, evX, evL, evB, rd, get, subG, memG, freshG, notInG, hyps, gob, impP, allP, partD, partOf, isOne, isPtr, nth, takeN, dropN, cellsD, lenB, fillD, thirds, entN, setE, sizeE, addE, setL, setN, putE, env0, eqCs, eqAux, eqC, bA, bO, bN, bE, negB, kEq, isShr, lendL, lend, frz, frzL, zRow, closed, closedL, rowsOf, binI, retK, retG, atRet, retD, lendO, resL, resD, oneD, renD, renL, renE, renEs, rho, putAll, entsN, List.append, List.nil_append, List.cons_append, List.append_nil, cond, Nat.reduceBEq, Nat.reduceAdd, Nat.beq]
      refine ⟨fun hb => ?_, fun hb => ?_⟩
      · rw [if_pos hb] at j3
        rw [← j3] at h3
        rw [← h3]
      rw [if_neg (by rw [hb]; simp)] at j3
      refine ⟨⟨by omega, by omega⟩, put_intro (bD (kd.set k.toNat true)) ?_ ?_⟩
      · rw [show 0 + k.toNat * 1 = k.toNat by omega]; exact bD_set hk
      dsimp only [run_skip, run_reg, plainB, ifB_true, run_seq, run_blk, run_exit, run_ret, run_ite, iteR, regK, thenK_nrm, thenK_exit, thenK_ret, thenR_nrm, thenR_exit, thenR_ret, blkK, keepS, keepE, runOps_nil, runOps_cons, goG_some, fpOk, foot, entOf, allN, memN, goOn_ok, goOn_call, goOn_row, goOn_arr, goOn_ask, goOn_put, guardP, guardO, notInO, stepF, stepLd, stepSt, stepIxs, stepIxa, stepLen, stepApp, stepCpy, stepPick, stepSls, stepSst, stepSla, evX, evL, evB, rd, get, subG, memG, freshG, notInG, hyps, gob, impP, allP, partD, partOf, isOne, isPtr, nth, takeN, dropN, cellsD, lenB, fillD, thirds, entN, setE, sizeE, addE, setL, setN, putE, env0, eqCs, eqAux, eqC, bA, bO, bN, bE, negB, kEq, isShr, lendL, lend, frz, frzL, zRow, closed, closedL, rowsOf, binI, retK, retG, atRet, retD, lendO, resL, resD, oneD, renD, renL, renE, renEs, rho, putAll, entsN, List.append, List.nil_append, List.cons_append, List.append_nil, cond, Nat.reduceBEq, Nat.reduceAdd, Nat.beq]
      refine ⟨by simp only [fits]; omega, ?_⟩
      refine again (jh ⟨(j + 1, kd.set k.toNat true), by dsimp only; omega, by simpa using j2, j3⟩ (by dsimp only; omega)) ?_ ?_ rfl (by simp only [lowB, bD_low]; rfl)
      · exact ⟨rfl, rfl, rfl, rfl, rfl, rfl, rfl, rfl, rfl, trivial⟩
      · exact ⟨rfl, rfl, trivial⟩
    · have hj : j = nd.kids.length := by simp at hj; omega
      subst hj
      rw [List.drop_of_length_le (Nat.le_refl _)] at j3
      rw [← j3] at h3
      dsimp only [kidsChk] at h3
      refine ⟨by simp only [fits]; omega, ?_⟩
      refine again (ih ⟨(i + 1, kd), by dsimp only; omega, j2, h3⟩ (by dsimp only; omega)) ?_ ?_ rfl (by simp only [lowB, bD_low]; rfl)
      · exact ⟨rfl, rfl, rfl, rfl, rfl, trivial⟩
      · exact ⟨rfl, trivial⟩
  · have hi : i = L.length := by simp at hi; omega
    subst hi
    rw [List.drop_of_length_le (Nat.le_refl _)] at h3
    rw [← h3]
    dsimp only [nodesChk]
    refine loop_ind (α := {i : Nat // 1 ≤ i ∧ i ≤ L.length ∧ restK kid (L.length - i) i = restK kid (L.length - 1) 1})
      (fun x => ⟨[(0, [], .ls 6 (lD L)), (3, [], .box 0 0), (10, [], .int .i64 x.1)], [.cells (bD kid)]⟩) (fun x => L.length - x.1) ?_ ⟨1, by omega, by omega, rfl⟩ rfl
    rintro ⟨i, j1, j2, j3⟩ J jh
    dsimp only [run_skip, run_reg, plainB, ifB_true, run_seq, run_blk, run_exit, run_ret, run_ite, iteR, regK, thenK_nrm, thenK_exit, thenK_ret, thenR_nrm, thenR_exit, thenR_ret, blkK, keepS, keepE, runOps_nil, runOps_cons, goG_some, fpOk, foot, entOf, allN, memN, goOn_ok, goOn_call, goOn_row, goOn_arr, goOn_ask, goOn_put, guardP, guardO, notInO, stepF, stepLd, stepSt, stepIxs, stepIxa, stepLen, stepApp, stepCpy, stepPick, stepSls, stepSst, stepSla, evX, evL, evB, rd, get, subG, memG, freshG, notInG, hyps, gob, impP, allP, partD, partOf, isOne, isPtr, nth, takeN, dropN, cellsD, lenB, fillD, thirds, entN, setE, sizeE, addE, setL, setN, putE, env0, eqCs, eqAux, eqC, bA, bO, bN, bE, negB, kEq, isShr, lendL, lend, frz, frzL, zRow, closed, closedL, rowsOf, binI, retK, retG, atRet, retD, lendO, resL, resD, oneD, renD, renL, renE, renEs, rho, putAll, entsN, List.append, List.nil_append, List.cons_append, List.append_nil, cond, Nat.reduceBEq, Nat.reduceAdd, Nat.beq]
    rw [lD_len]
    refine ⟨fun hi => ?_, fun hi => ?_⟩
    · have hi : i < L.length := by simp at hi; omega
      have hk : i < kid.length := by omega
      refine ⟨⟨by omega, by omega⟩, arr_intro (.bool (kid.getD i false)) ?_ ?_⟩
      · show nth (bD kid) _ = _
        rw [show 0 + (i : Int).toNat * 1 = i by omega]; exact bD_at hk
      dsimp only [run_skip, run_reg, plainB, ifB_true, run_seq, run_blk, run_exit, run_ret, run_ite, iteR, regK, thenK_nrm, thenK_exit, thenK_ret, thenR_nrm, thenR_exit, thenR_ret, blkK, keepS, keepE, runOps_nil, runOps_cons, goG_some, fpOk, foot, entOf, allN, memN, goOn_ok, goOn_call, goOn_row, goOn_arr, goOn_ask, goOn_put, guardP, guardO, notInO, stepF, stepLd, stepSt, stepIxs, stepIxa, stepLen, stepApp, stepCpy, stepPick, stepSls, stepSst, stepSla, evX, evL, evB, rd, get, subG, memG, freshG, notInG, hyps, gob, impP, allP, partD, partOf, isOne, isPtr, nth, takeN, dropN, cellsD, lenB, fillD, thirds, entN, setE, sizeE, addE, setL, setN, putE, env0, eqCs, eqAux, eqC, bA, bO, bN, bE, negB, kEq, isShr, lendL, lend, frz, frzL, zRow, closed, closedL, rowsOf, binI, retK, retG, atRet, retD, lendO, resL, resD, oneD, renD, renL, renE, renEs, rho, putAll, entsN, List.append, List.nil_append, List.cons_append, List.append_nil, cond, Nat.reduceBEq, Nat.reduceAdd, Nat.beq]
      rw [show L.length - i = (L.length - (i + 1)) + 1 by omega] at j3
      simp only [restK] at j3
      refine ⟨fun hb => ?_, fun hb => ?_⟩
      · rw [← j3, show kid.getD i false = false by simpa using hb]; rfl
      · rw [show kid.getD i false = true by simpa using hb, Bool.true_and] at j3
        refine ⟨by simp only [fits]; omega, ?_⟩
        refine again (jh ⟨i + 1, by omega, by omega, j3⟩ (by dsimp only; omega)) ?_ ?_ rfl (by simp only [lowB, bD_low]; rfl)
        · exact ⟨rfl, rfl, rfl, trivial⟩
        · exact ⟨rfl, trivial⟩
    · have hi : i = L.length := by simp at hi; omega
      subst hi
      rw [← j3, Nat.sub_self]; rfl
end Go.AM
