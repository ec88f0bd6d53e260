
/- Chapter 52: where all are. -/
import Derived.Test.YtnjmjiajbgdnlaaN9
set_option linter.all false
namespace Go.AM
open Go Go.Proofs

/-- What the plain part shows of nodes that are right. -/
def Good (L : List Nd) : Prop := Small L ∧ 0 < L.length ∧ allS L = (List.range L.length).map (siz L)
def stepA (L : List Nd) (A : List Rc) (i : Nat) : List Rc := match L[i]?, A[i]? with | some nd, some r => kidsAt L nd r A | _, _ => A
def atAll (L : List Nd) (r : Rc) : List Rc := (List.range L.length).foldl (stepA L) ((List.replicate L.length Rc.o).set 0 r)
def zf (q : Rc) : Rc := if decide (q.w < 1) || decide (q.h < 1) then .o else q
def placeS (L : List Nd) (r : Rc) : List Rc × Int :=
  if chkN L = 0 then
    if !okB r || emptyB r || decide (1000000 < r.w) || decide (1000000 < r.h) then ([], 1)
    else if decide (r.w < (siz L 0).1) || decide (r.h < (siz L 0).2) then ([], 17) else ((atAll L r).map zf, 0)
  else ([], chkN L)
def placeD (x : List Rc × Int) : D := .tup [.ls 4 (aD x.1), .int .i64 x.2]

structure Bd (B : Int) (q : Rc) : Prop where
  x : -B ≤ q.x ∧ q.x ≤ B
  y : -B ≤ q.y ∧ q.y ≤ B
  w : 0 ≤ q.w ∧ q.w ≤ 2000000
  h : 0 ≤ q.h ∧ q.h ≤ 2000000
theorem Bd.mono {B B' : Int} {q : Rc} (h : Bd B q) (hb : B ≤ B') : Bd B' q := ⟨⟨by have := h.x; omega, by have := h.x; omega⟩, ⟨by have := h.y; omega, by have := h.y; omega⟩, h.w, h.h⟩
theorem layK_bd {nd : Nd} {r : Rc} {B : Int} (hr : Bd B r) (hg : 0 ≤ nd.gap ∧ nd.gap ≤ 1000) : ∀ {ks ps : List Int} {pos : Int} {A : List Rc} {B1 : Int}, (∀ p ∈ ps, 0 ≤ p ∧ p ≤ 2000000) → (-B ≤ pos ∧ pos + ks.length * 2001000 ≤ B1) → B ≤ B1 → (∀ q ∈ A, Bd B1 q) → ∀ q ∈ layK nd r pos ks ps A, Bd B1 q
  | [], _, _, _, _, _, _, _, h, q, hq => by unfold layK at hq; exact h q hq
  | _ :: _, [], _, _, _, _, _, _, h, q, hq => by unfold layK at hq; exact h q hq
  | k :: ks, p :: ps, pos, A, B1, hp, hb, hB, h, q, hq => by
    simp only [layK] at hq
    have hp0 := hp p (by simp)
    simp only [List.length_cons] at hb
    refine layK_bd hr hg (fun p hp' => hp p (by simp [hp'])) (by omega) hB (fun q hq => ?_) q hq
    rcases List.mem_or_eq_of_mem_set hq with hq | rfl
    · exact h q hq
    · have h1 := hr.x; have h2 := hr.y; have h3 := hr.w; have h4 := hr.h
      split
      · exact ⟨⟨by dsimp only; omega, by dsimp only; omega⟩, ⟨by dsimp only; omega, by dsimp only; omega⟩, h3, hp0⟩
      · exact ⟨⟨by dsimp only; omega, by dsimp only; omega⟩, ⟨by dsimp only; omega, by dsimp only; omega⟩, hp0, h4⟩
theorem kidsAt_bd {L : List Nd} {nd : Nd} {r : Rc} {A : List Rc} {B : Int} (hr : Bd B r) (hg : 0 ≤ nd.gap ∧ nd.gap ≤ 1000) (hk : nd.kids.length ≤ 64) (h : ∀ q ∈ A, Bd B q) : ∀ q ∈ kidsAt L nd r A, Bd (B + 200000000) q := by
  unfold kidsAt
  split
  · refine layK_bd hr hg (fun p hp => split_bd p hp) ?_ (by omega) (fun q hq => (h q hq).mono (by omega))
    have h1 := hr.x; have h2 := hr.y
    split <;> omega
  · exact fun q hq => (h q hq).mono (by omega)
theorem kidsAt_len {L : List Nd} {nd : Nd} {r : Rc} {A : List Rc} : (kidsAt L nd r A).length = A.length := by
  unfold kidsAt; split
  · exact layK_len
  · rfl

theorem range_split {n i : Nat} (h : i < n) : (List.range n).drop i = i :: (List.range n).drop (i + 1) := by
  rw [List.drop_eq_getElem_cons (by simpa using h)]; simp

theorem sp_layout_Place {L : List Nd} {r : Rc} (hL : ∀ nd ∈ L, nd.kids.length < 9223372036854775807) (hg : chkN L = 0 → Good L) (hr : r.In) : TSp 14 [rD r, .ls 6 (lD L)] (placeD (placeS L r)) := by
  refine spo_layout_Place (by rfl) ?_
  dsimp only [c_layout_Place, r_layout_Place, rD, run_skip, run_reg, plainB, ifB_true, run_seq, run_blk, run_exit, run_ret, run_ite, iteR, regK, thenK_nrm, thenK_exit, thenK_ret, thenR_nrm, thenR_exit, thenR_ret, blkK, keepS, keepE, runOps_nil, runOps_cons, goG_some, fpOk, foot, entOf, allN, memN, goOn_ok, goOn_call, goOn_row, goOn_arr, goOn_ask, goOn_put, guardP, guardO, notInO, stepF, stepLd, stepSt, stepIxs, stepIxa, stepLen, stepApp, stepCpy, stepPick, stepSls, stepSst, stepSla, evX, evL, evB, rd, get, subG, memG, freshG, notInG, hyps, gob, impP, allP, partD, partOf, isOne, isPtr, nth, takeN, dropN, cellsD, lenB, fillD, thirds, entN, setE, sizeE, addE, setL, setN, putE, env0, eqCs, eqAux, eqC, bA, bO, bN, bE, negB, kEq, isShr, lendL, lend, frz, frzL, zRow, closed, closedL, rowsOf, binI, retK, retG, atRet, retD, lendO, resL, resD, oneD, renD, renL, renE, renEs, rho, putAll, entsN, List.append, List.nil_append, List.cons_append, List.append_nil, cond, Nat.reduceBEq, Nat.reduceAdd, Nat.beq]
  refine call_pure (sp_layout_Check hL) ?_
  dsimp only [run_skip, run_reg, plainB, ifB_true, run_seq, run_blk, run_exit, run_ret, run_ite, iteR, regK, thenK_nrm, thenK_exit, thenK_ret, thenR_nrm, thenR_exit, thenR_ret, blkK, keepS, keepE, runOps_nil, runOps_cons, goG_some, fpOk, foot, entOf, allN, memN, goOn_ok, goOn_call, goOn_row, goOn_arr, goOn_ask, goOn_put, guardP, guardO, notInO, stepF, stepLd, stepSt, stepIxs, stepIxa, stepLen, stepApp, stepCpy, stepPick, stepSls, stepSst, stepSla, evX, evL, evB, rd, get, subG, memG, freshG, notInG, hyps, gob, impP, allP, partD, partOf, isOne, isPtr, nth, takeN, dropN, cellsD, lenB, fillD, thirds, entN, setE, sizeE, addE, setL, setN, putE, env0, eqCs, eqAux, eqC, bA, bO, bN, bE, negB, kEq, isShr, lendL, lend, frz, frzL, zRow, closed, closedL, rowsOf, binI, retK, retG, atRet, retD, lendO, resL, resD, oneD, renD, renL, renE, renEs, rho, putAll, entsN, List.append, List.nil_append, List.cons_append, List.append_nil, cond, Nat.reduceBEq, Nat.reduceAdd, Nat.beq]
  unfold placeS
  refine ⟨fun h => ?_, fun h => ?_⟩
  · rw [if_neg (by simpa using h)]; exact ⟨rfl, rfl⟩
  have hc : chkN L = 0 := by simpa using h
  rw [if_pos hc]
  obtain ⟨hs, hpos, hall⟩ := hg hc
  refine call_pure (sp_rect_Check hr) ?_
  dsimp only [rD, run_skip, run_reg, plainB, ifB_true, run_seq, run_blk, run_exit, run_ret, run_ite, iteR, regK, thenK_nrm, thenK_exit, thenK_ret, thenR_nrm, thenR_exit, thenR_ret, blkK, keepS, keepE, runOps_nil, runOps_cons, goG_some, fpOk, foot, entOf, allN, memN, goOn_ok, goOn_call, goOn_row, goOn_arr, goOn_ask, goOn_put, guardP, guardO, notInO, stepF, stepLd, stepSt, stepIxs, stepIxa, stepLen, stepApp, stepCpy, stepPick, stepSls, stepSst, stepSla, evX, evL, evB, rd, get, subG, memG, freshG, notInG, hyps, gob, impP, allP, partD, partOf, isOne, isPtr, nth, takeN, dropN, cellsD, lenB, fillD, thirds, entN, setE, sizeE, addE, setL, setN, putE, env0, eqCs, eqAux, eqC, bA, bO, bN, bE, negB, kEq, isShr, lendL, lend, frz, frzL, zRow, closed, closedL, rowsOf, binI, retK, retG, atRet, retD, lendO, resL, resD, oneD, renD, renL, renE, renEs, rho, putAll, entsN, List.append, List.nil_append, List.cons_append, List.append_nil, cond, Nat.reduceBEq, Nat.reduceAdd, Nat.beq]
  refine call_pure (fun _ => sp_rect_Empty hr) ?_
  dsimp only [rD, run_skip, run_reg, plainB, ifB_true, run_seq, run_blk, run_exit, run_ret, run_ite, iteR, regK, thenK_nrm, thenK_exit, thenK_ret, thenR_nrm, thenR_exit, thenR_ret, blkK, keepS, keepE, runOps_nil, runOps_cons, goG_some, fpOk, foot, entOf, allN, memN, goOn_ok, goOn_call, goOn_row, goOn_arr, goOn_ask, goOn_put, guardP, guardO, notInO, stepF, stepLd, stepSt, stepIxs, stepIxa, stepLen, stepApp, stepCpy, stepPick, stepSls, stepSst, stepSla, evX, evL, evB, rd, get, subG, memG, freshG, notInG, hyps, gob, impP, allP, partD, partOf, isOne, isPtr, nth, takeN, dropN, cellsD, lenB, fillD, thirds, entN, setE, sizeE, addE, setL, setN, putE, env0, eqCs, eqAux, eqC, bA, bO, bN, bE, negB, kEq, isShr, lendL, lend, frz, frzL, zRow, closed, closedL, rowsOf, binI, retK, retG, atRet, retD, lendO, resL, resD, oneD, renD, renL, renE, renEs, rho, putAll, entsN, List.append, List.nil_append, List.cons_append, List.append_nil, cond, Nat.reduceBEq, Nat.reduceAdd, Nat.beq]
  have e1 : (!decide ((if okB r = true then (0 : Int) else 1) = 0)) = !okB r := by cases okB r <;> rfl
  rw [e1]
  refine ⟨fun h => ?_, fun h => ?_⟩
  · rw [if_pos h]; exact ⟨rfl, rfl⟩
  rw [if_neg (by rw [h]; simp)]
  have hsizes : (sD ((List.range L.length).map (siz L)))[(0 : Int).toNat]? = some (.agg [.int .i64 0, .int .i64 0, .int .i64 (siz L 0).1, .int .i64 (siz L 0).2]) := sD_at (by show ((List.range L.length).map (siz L))[0]? = _; rw [List.getElem?_map, List.getElem?_range (by omega)]; rfl)
  have g1 : 4 = 4 ∧ (0 : Int) ≤ 0 ∧ (0 : Int) < (sD ((List.range L.length).map (siz L))).length := ⟨rfl, by omega, by rw [sD_len]; simp; omega⟩
  refine call_pure (sp_layout_leasts hs hpos) ?_
  rw [hall]
  dsimp only [run_skip, run_reg, plainB, ifB_true, run_seq, run_blk, run_exit, run_ret, run_ite, iteR, regK, thenK_nrm, thenK_exit, thenK_ret, thenR_nrm, thenR_exit, thenR_ret, blkK, keepS, keepE, runOps_nil, runOps_cons, goG_some, fpOk, foot, entOf, allN, memN, goOn_ok, goOn_call, goOn_row, goOn_arr, goOn_ask, goOn_put, guardP, guardO, notInO, stepF, stepLd, stepSt, stepIxs, stepIxa, stepLen, stepApp, stepCpy, stepPick, stepSls, stepSst, stepSla, evX, evL, evB, rd, get, subG, memG, freshG, notInG, hyps, gob, impP, allP, partD, partOf, isOne, isPtr, nth, takeN, dropN, cellsD, lenB, fillD, thirds, entN, setE, sizeE, addE, setL, setN, putE, env0, eqCs, eqAux, eqC, bA, bO, bN, bE, negB, kEq, isShr, lendL, lend, frz, frzL, zRow, closed, closedL, rowsOf, binI, retK, retG, atRet, retD, lendO, resL, resD, oneD, renD, renL, renE, renEs, rho, putAll, entsN, List.append, List.nil_append, List.cons_append, List.append_nil, cond, Nat.reduceBEq, Nat.reduceAdd, Nat.beq]
  refine ⟨g1, row_intro _ _ hsizes rfl ?_⟩
  dsimp only [run_skip, run_reg, plainB, ifB_true, run_seq, run_blk, run_exit, run_ret, run_ite, iteR, regK, thenK_nrm, thenK_exit, thenK_ret, thenR_nrm, thenR_exit, thenR_ret, blkK, keepS, keepE, runOps_nil, runOps_cons, goG_some, fpOk, foot, entOf, allN, memN, goOn_ok, goOn_call, goOn_row, goOn_arr, goOn_ask, goOn_put, guardP, guardO, notInO, stepF, stepLd, stepSt, stepIxs, stepIxa, stepLen, stepApp, stepCpy, stepPick, stepSls, stepSst, stepSla, evX, evL, evB, rd, get, subG, memG, freshG, notInG, hyps, gob, impP, allP, partD, partOf, isOne, isPtr, nth, takeN, dropN, cellsD, lenB, fillD, thirds, entN, setE, sizeE, addE, setL, setN, putE, env0, eqCs, eqAux, eqC, bA, bO, bN, bE, negB, kEq, isShr, lendL, lend, frz, frzL, zRow, closed, closedL, rowsOf, binI, retK, retG, atRet, retD, lendO, resL, resD, oneD, renD, renL, renE, renEs, rho, putAll, entsN, List.append, List.nil_append, List.cons_append, List.append_nil, cond, Nat.reduceBEq, Nat.reduceAdd, Nat.beq]
  refine ⟨fun _ => g1, row_intro _ _ (fun _ => hsizes) rfl ?_⟩
  dsimp only [run_skip, run_reg, plainB, ifB_true, run_seq, run_blk, run_exit, run_ret, run_ite, iteR, regK, thenK_nrm, thenK_exit, thenK_ret, thenR_nrm, thenR_exit, thenR_ret, blkK, keepS, keepE, runOps_nil, runOps_cons, goG_some, fpOk, foot, entOf, allN, memN, goOn_ok, goOn_call, goOn_row, goOn_arr, goOn_ask, goOn_put, guardP, guardO, notInO, stepF, stepLd, stepSt, stepIxs, stepIxa, stepLen, stepApp, stepCpy, stepPick, stepSls, stepSst, stepSla, evX, evL, evB, rd, get, subG, memG, freshG, notInG, hyps, gob, impP, allP, partD, partOf, isOne, isPtr, nth, takeN, dropN, cellsD, lenB, fillD, thirds, entN, setE, sizeE, addE, setL, setN, putE, env0, eqCs, eqAux, eqC, bA, bO, bN, bE, negB, kEq, isShr, lendL, lend, frz, frzL, zRow, closed, closedL, rowsOf, binI, retK, retG, atRet, retD, lendO, resL, resD, oneD, renD, renL, renE, renEs, rho, putAll, entsN, List.append, List.nil_append, List.cons_append, List.append_nil, cond, Nat.reduceBEq, Nat.reduceAdd, Nat.beq]
  refine ⟨fun h => ?_, fun h2 => ?_⟩
  · rw [if_pos h]; exact ⟨rfl, rfl⟩
  rw [if_neg (by rw [h2]; simp)]
  have hl64 := hs.len
  rw [lD_len]
  refine ⟨⟨by omega, by omega, by omega⟩, ?_⟩
  have eo : List.replicate (L.length : Int).toNat (D.agg [.int .i64 0, .int .i64 0, .int .i64 0, .int .i64 0]) = aD (List.replicate L.length Rc.o) := by simp [aD, rD, Rc.o]
  rw [eo]
  refine ⟨⟨rfl, rfl, by omega, by rw [aD_len]; simp; omega⟩, ⟨rfl, rfl⟩, putrow_intro (hs := []) (rD .o) (rD r) (aD_at (by show (List.replicate L.length Rc.o)[0]? = some Rc.o; rw [List.getElem?_replicate, if_pos hpos])) rfl ?_⟩
  rw [aD_set]
  dsimp only [run_skip, run_reg, plainB, ifB_true, run_seq, run_blk, run_exit, run_ret, run_ite, iteR, regK, thenK_nrm, thenK_exit, thenK_ret, thenR_nrm, thenR_exit, thenR_ret, blkK, keepS, keepE, runOps_nil, runOps_cons, goG_some, fpOk, foot, entOf, allN, memN, goOn_ok, goOn_call, goOn_row, goOn_arr, goOn_ask, goOn_put, guardP, guardO, notInO, stepF, stepLd, stepSt, stepIxs, stepIxa, stepLen, stepApp, stepCpy, stepPick, stepSls, stepSst, stepSla, evX, evL, evB, rd, get, subG, memG, freshG, notInG, hyps, gob, impP, allP, partD, partOf, isOne, isPtr, nth, takeN, dropN, cellsD, lenB, fillD, thirds, entN, setE, sizeE, addE, setL, setN, putE, env0, eqCs, eqAux, eqC, bA, bO, bN, bE, negB, kEq, isShr, lendL, lend, frz, frzL, zRow, closed, closedL, rowsOf, binI, retK, retG, atRet, retD, lendO, resL, resD, oneD, renD, renL, renE, renEs, rho, putAll, entsN, List.append, List.nil_append, List.cons_append, List.append_nil, cond, Nat.reduceBEq, Nat.reduceAdd, Nat.beq]
  rw [lD_len]
  simp only [Bool.or_eq_false_iff, Bool.not_eq_false', decide_eq_false_iff_not] at h
  have hv : Vr r := empty_iff.1 h.1.1.2
  have hv' := hv
  simp only [Vr] at hv'
  refine loop_ind (α := {x : Nat × List Rc // x.1 ≤ L.length ∧ x.2.length = L.length ∧ ((List.range L.length).drop x.1).foldl (stepA L) x.2 = atAll L r ∧ ∀ q ∈ x.2, Bd (10000000 + x.1 * 200000000) q})
    (fun x => ⟨[(1, [], .ls 6 (lD L)), (7, [], .ls 4 (sD ((List.range L.length).map (siz L)))), (8, [], .own 2 0), (59, [], .ls 6 (lD L)), (60, [], .int .i64 L.length), (61, [], .int .i64 x.1.1)],
      [.cells [.int .i64 r.x, .int .i64 r.y, .int .i64 r.w, .int .i64 r.h], .arr 33 4 0 [], .arr 33 4 0 (aD x.1.2)]⟩) (fun x => L.length - x.1.1) ?_ ⟨(0, (List.replicate L.length Rc.o).set 0 r), ?_⟩ rfl
  · rintro ⟨⟨i, A⟩, h1, h2, h3, h4⟩ I ih
    dsimp only at h1 h2 h3 h4
    dsimp only [run_skip, run_reg, plainB, ifB_true, run_seq, run_blk, run_exit, run_ret, run_ite, iteR, regK, thenK_nrm, thenK_exit, thenK_ret, thenR_nrm, thenR_exit, thenR_ret, blkK, keepS, keepE, runOps_nil, runOps_cons, goG_some, fpOk, foot, entOf, allN, memN, goOn_ok, goOn_call, goOn_row, goOn_arr, goOn_ask, goOn_put, guardP, guardO, notInO, stepF, stepLd, stepSt, stepIxs, stepIxa, stepLen, stepApp, stepCpy, stepPick, stepSls, stepSst, stepSla, evX, evL, evB, rd, get, subG, memG, freshG, notInG, hyps, gob, impP, allP, partD, partOf, isOne, isPtr, nth, takeN, dropN, cellsD, lenB, fillD, thirds, entN, setE, sizeE, addE, setL, setN, putE, env0, eqCs, eqAux, eqC, bA, bO, bN, bE, negB, kEq, isShr, lendL, lend, frz, frzL, zRow, closed, closedL, rowsOf, binI, retK, retG, atRet, retD, lendO, resL, resD, oneD, renD, renL, renE, renEs, rho, putAll, entsN, List.append, List.nil_append, List.cons_append, List.append_nil, cond, Nat.reduceBEq, Nat.reduceAdd, Nat.beq]
    refine ⟨fun hi => ?_, fun hi => ?_⟩
    · have hi : i < L.length := by simp at hi; omega
      rw [range_split hi, List.foldl_cons] at h3
      have hnd : L[i]? = some L[i] := List.getElem?_eq_getElem hi
      have hmem : L[i] ∈ L := List.getElem_mem hi
      have hbeh := hs.behind i _ hnd
      have hst : stepA L A i = kidsAt L L[i] (A[i]'(by omega)) A := by unfold stepA; rw [hnd, List.getElem?_eq_getElem (by omega : i < A.length)]
      have hai : A[i]? = some (A[i]'(by omega)) := List.getElem?_eq_getElem (by omega : i < A.length)
      have hbd := h4 _ (List.getElem_mem (by omega : i < A.length))
      refine ⟨⟨rfl, by omega, by rw [lD_len]; omega⟩, row_intro _ _ (lD_at hi) rfl ?_⟩
      rw [hst] at h3
      have hkb := kidsAt_bd (L := L) hbd (hs.gap _ hmem) (hs.kids _ hmem) h4
      have hkl := kidsAt_len (L := L) (nd := L[i]) (r := A[i]'(by omega)) (A := A)
      generalize L[i] = nd at *
      generalize A[i]'(by omega) = q at *
      dsimp only [nD, run_skip, run_reg, plainB, ifB_true, run_seq, run_blk, run_exit, run_ret, run_ite, iteR, regK, thenK_nrm, thenK_exit, thenK_ret, thenR_nrm, thenR_exit, thenR_ret, blkK, keepS, keepE, runOps_nil, runOps_cons, goG_some, fpOk, foot, entOf, allN, memN, goOn_ok, goOn_call, goOn_row, goOn_arr, goOn_ask, goOn_put, guardP, guardO, notInO, stepF, stepLd, stepSt, stepIxs, stepIxa, stepLen, stepApp, stepCpy, stepPick, stepSls, stepSst, stepSla, evX, evL, evB, rd, get, subG, memG, freshG, notInG, hyps, gob, impP, allP, partD, partOf, isOne, isPtr, nth, takeN, dropN, cellsD, lenB, fillD, thirds, entN, setE, sizeE, addE, setL, setN, putE, env0, eqCs, eqAux, eqC, bA, bO, bN, bE, negB, kEq, isShr, lendL, lend, frz, frzL, zRow, closed, closedL, rowsOf, binI, retK, retG, atRet, retD, lendO, resL, resD, oneD, renD, renL, renE, renEs, rho, putAll, entsN, List.append, List.nil_append, List.cons_append, List.append_nil, cond, Nat.reduceBEq, Nat.reduceAdd, Nat.beq]
      have g2 : 0 = 0 ∧ 4 = 4 ∧ (0 : Int) ≤ i ∧ (i : Int) < (aD A).length := ⟨rfl, rfl, by omega, by rw [aD_len]; omega⟩
      have hrow : (aD A)[(i : Int).toNat]? = some (rD q) := by rw [Int.toNat_natCast]; exact aD_at hai
      refine ⟨g2, ⟨rfl, rfl⟩, row_intro _ (rD q) hrow rfl ?_⟩
      dsimp only [run_skip, run_reg, plainB, ifB_true, run_seq, run_blk, run_exit, run_ret, run_ite, iteR, regK, thenK_nrm, thenK_exit, thenK_ret, thenR_nrm, thenR_exit, thenR_ret, blkK, keepS, keepE, runOps_nil, runOps_cons, goG_some, fpOk, foot, entOf, allN, memN, goOn_ok, goOn_call, goOn_row, goOn_arr, goOn_ask, goOn_put, guardP, guardO, notInO, stepF, stepLd, stepSt, stepIxs, stepIxa, stepLen, stepApp, stepCpy, stepPick, stepSls, stepSst, stepSla, evX, evL, evB, rd, get, subG, memG, freshG, notInG, hyps, gob, impP, allP, partD, partOf, isOne, isPtr, nth, takeN, dropN, cellsD, lenB, fillD, thirds, entN, setE, sizeE, addE, setL, setN, putE, env0, eqCs, eqAux, eqC, bA, bO, bN, bE, negB, kEq, isShr, lendL, lend, frz, frzL, zRow, closed, closedL, rowsOf, binI, retK, retG, atRet, retD, lendO, resL, resD, oneD, renD, renL, renE, renEs, rho, putAll, entsN, List.append, List.nil_append, List.cons_append, List.append_nil, cond, Nat.reduceBEq, Nat.reduceAdd, Nat.beq]
      have b1 := hbd.x; have b2 := hbd.y; have b3 := hbd.w; have b4 := hbd.h
      refine call_own [2] (sp_layout_placeKids (r := q) (A := A) hs hmem (fun k hk => ⟨by have := hbeh k hk; omega, (hbeh k hk).2⟩) h2 ⟨⟨by omega, by omega⟩, ⟨by omega, by omega⟩⟩ ⟨⟨by omega, by omega⟩, ⟨by omega, by omega⟩⟩) rfl rfl ?_
      dsimp only [run_skip, run_reg, plainB, ifB_true, run_seq, run_blk, run_exit, run_ret, run_ite, iteR, regK, thenK_nrm, thenK_exit, thenK_ret, thenR_nrm, thenR_exit, thenR_ret, blkK, keepS, keepE, runOps_nil, runOps_cons, goG_some, fpOk, foot, entOf, allN, memN, goOn_ok, goOn_call, goOn_row, goOn_arr, goOn_ask, goOn_put, guardP, guardO, notInO, stepF, stepLd, stepSt, stepIxs, stepIxa, stepLen, stepApp, stepCpy, stepPick, stepSls, stepSst, stepSla, evX, evL, evB, rd, get, subG, memG, freshG, notInG, hyps, gob, impP, allP, partD, partOf, isOne, isPtr, nth, takeN, dropN, cellsD, lenB, fillD, thirds, entN, setE, sizeE, addE, setL, setN, putE, env0, eqCs, eqAux, eqC, bA, bO, bN, bE, negB, kEq, isShr, lendL, lend, frz, frzL, zRow, closed, closedL, rowsOf, binI, retK, retG, atRet, retD, lendO, resL, resD, oneD, renD, renL, renE, renEs, rho, putAll, entsN, List.append, List.nil_append, List.cons_append, List.append_nil, cond, Nat.reduceBEq, Nat.reduceAdd, Nat.beq]
      refine ⟨by simp only [fits]; omega, ?_⟩
      refine again (ih ⟨(i + 1, kidsAt L nd q A), by dsimp only; omega, by dsimp only; omega, h3, fun p hp => (hkb p hp).mono (by dsimp only; omega)⟩ (by dsimp only; omega)) ?_ ?_ rfl rfl
      · exact ⟨rfl, rfl, rfl, rfl, rfl, rfl, trivial⟩
      · exact ⟨rfl, rfl, rfl, trivial⟩
    · have hi : i = L.length := by simp at hi; omega
      subst hi
      rw [List.drop_of_length_le (by simp)] at h3
      simp only [List.foldl_nil] at h3
      rw [← h3]
      rw [aD_len, h2]
      refine ⟨rfl, ?_⟩
      refine loop_ind (α := {x : Nat × List Rc // x.1 ≤ L.length ∧ x.2 = (A.take x.1).map zf ++ A.drop x.1})
        (fun x => ⟨[(8, [], .own 2 0), (76, [], .own 2 0), (77, [], .int .i64 L.length), (78, [], .int .i64 x.1.1)],
          [.cells [.int .i64 r.x, .int .i64 r.y, .int .i64 r.w, .int .i64 r.h], .arr 33 4 0 [], .arr 33 4 0 (aD x.1.2)]⟩) (fun x => L.length - x.1.1) ?_ ⟨(0, A), by simp⟩ rfl
      rintro ⟨⟨i, A1⟩, j1, j2⟩ J jh
      dsimp only at j1 j2
      have hA1 : A1.length = L.length := by rw [j2]; simp; omega
      dsimp only [run_skip, run_reg, plainB, ifB_true, run_seq, run_blk, run_exit, run_ret, run_ite, iteR, regK, thenK_nrm, thenK_exit, thenK_ret, thenR_nrm, thenR_exit, thenR_ret, blkK, keepS, keepE, runOps_nil, runOps_cons, goG_some, fpOk, foot, entOf, allN, memN, goOn_ok, goOn_call, goOn_row, goOn_arr, goOn_ask, goOn_put, guardP, guardO, notInO, stepF, stepLd, stepSt, stepIxs, stepIxa, stepLen, stepApp, stepCpy, stepPick, stepSls, stepSst, stepSla, evX, evL, evB, rd, get, subG, memG, freshG, notInG, hyps, gob, impP, allP, partD, partOf, isOne, isPtr, nth, takeN, dropN, cellsD, lenB, fillD, thirds, entN, setE, sizeE, addE, setL, setN, putE, env0, eqCs, eqAux, eqC, bA, bO, bN, bE, negB, kEq, isShr, lendL, lend, frz, frzL, zRow, closed, closedL, rowsOf, binI, retK, retG, atRet, retD, lendO, resL, resD, oneD, renD, renL, renE, renEs, rho, putAll, entsN, List.append, List.nil_append, List.cons_append, List.append_nil, cond, Nat.reduceBEq, Nat.reduceAdd, Nat.beq]
      refine ⟨fun hi => ?_, fun hi => ?_⟩
      · have hi : i < L.length := by simp at hi; omega
        have hiA : i < A.length := by omega
        have hai : A1[i]? = some A[i] := by
          rw [j2, List.getElem?_append_right (by simp; omega)]
          simp [show min i A.length = i by omega, List.getElem?_eq_getElem (by omega : i < A.length)]
        have hz : zf A[i] = zf A[i] := rfl
        have hset : ∀ q, A1.set i q = (A.take i).map zf ++ q :: A.drop (i + 1) := fun q => by
          rw [j2, List.set_append_right i q (by simp; omega)]
          simp only [List.length_map, List.length_take, show i - min i A.length = 0 by omega]
          rw [List.drop_eq_getElem_cons (by omega : i < A.length)]; rfl
        have htk : (A.take (i + 1)).map zf = (A.take i).map zf ++ [zf A[i]] := by
          rw [List.take_succ_eq_append_getElem hiA, List.map_append]; rfl
        have hdr : A.drop i = A[i] :: A.drop (i + 1) := List.drop_eq_getElem_cons (by omega)
        generalize A[i] = q at *
        have g2 : 0 = 0 ∧ 4 = 4 ∧ (0 : Int) ≤ i ∧ (i : Int) < (aD A1).length := ⟨rfl, rfl, by omega, by rw [aD_len]; omega⟩
        have hrow : (aD A1)[(i : Int).toNat]? = some (rD q) := by rw [Int.toNat_natCast]; exact aD_at hai
        refine ⟨g2, ⟨rfl, rfl⟩, row_intro _ (rD q) hrow rfl ?_⟩
        dsimp only [rD, run_skip, run_reg, plainB, ifB_true, run_seq, run_blk, run_exit, run_ret, run_ite, iteR, regK, thenK_nrm, thenK_exit, thenK_ret, thenR_nrm, thenR_exit, thenR_ret, blkK, keepS, keepE, runOps_nil, runOps_cons, goG_some, fpOk, foot, entOf, allN, memN, goOn_ok, goOn_call, goOn_row, goOn_arr, goOn_ask, goOn_put, guardP, guardO, notInO, stepF, stepLd, stepSt, stepIxs, stepIxa, stepLen, stepApp, stepCpy, stepPick, stepSls, stepSst, stepSla, evX, evL, evB, rd, get, subG, memG, freshG, notInG, hyps, gob, impP, allP, partD, partOf, isOne, isPtr, nth, takeN, dropN, cellsD, lenB, fillD, thirds, entN, setE, sizeE, addE, setL, setN, putE, env0, eqCs, eqAux, eqC, bA, bO, bN, bE, negB, kEq, isShr, lendL, lend, frz, frzL, zRow, closed, closedL, rowsOf, binI, retK, retG, atRet, retD, lendO, resL, resD, oneD, renD, renL, renE, renEs, rho, putAll, entsN, List.append, List.nil_append, List.cons_append, List.append_nil, cond, Nat.reduceBEq, Nat.reduceAdd, Nat.beq]
        refine ⟨fun hb => ?_, fun hb => ?_⟩
        · have hzq : zf q = .o := by unfold zf; rw [if_pos hb]
          refine ⟨g2, ⟨rfl, rfl⟩, putrow_intro (hs := []) (rD q) (rD .o) hrow rfl ?_⟩
          rw [aD_set, Int.toNat_natCast, hset]
          dsimp only [run_skip, run_reg, plainB, ifB_true, run_seq, run_blk, run_exit, run_ret, run_ite, iteR, regK, thenK_nrm, thenK_exit, thenK_ret, thenR_nrm, thenR_exit, thenR_ret, blkK, keepS, keepE, runOps_nil, runOps_cons, goG_some, fpOk, foot, entOf, allN, memN, goOn_ok, goOn_call, goOn_row, goOn_arr, goOn_ask, goOn_put, guardP, guardO, notInO, stepF, stepLd, stepSt, stepIxs, stepIxa, stepLen, stepApp, stepCpy, stepPick, stepSls, stepSst, stepSla, evX, evL, evB, rd, get, subG, memG, freshG, notInG, hyps, gob, impP, allP, partD, partOf, isOne, isPtr, nth, takeN, dropN, cellsD, lenB, fillD, thirds, entN, setE, sizeE, addE, setL, setN, putE, env0, eqCs, eqAux, eqC, bA, bO, bN, bE, negB, kEq, isShr, lendL, lend, frz, frzL, zRow, closed, closedL, rowsOf, binI, retK, retG, atRet, retD, lendO, resL, resD, oneD, renD, renL, renE, renEs, rho, putAll, entsN, List.append, List.nil_append, List.cons_append, List.append_nil, cond, Nat.reduceBEq, Nat.reduceAdd, Nat.beq]
          refine ⟨by simp only [fits]; omega, ?_⟩
          refine again (jh ⟨(i + 1, (A.take i).map zf ++ Rc.o :: A.drop (i + 1)), by dsimp only; omega, by dsimp only; rw [htk, hzq]; simp⟩ (by dsimp only; omega)) ?_ ?_ rfl rfl
          · exact ⟨rfl, rfl, rfl, rfl, trivial⟩
          · exact ⟨rfl, rfl, rfl, trivial⟩
        · have hzq : zf q = q := by unfold zf; rw [if_neg (by rw [hb]; simp)]
          refine ⟨by simp only [fits]; omega, ?_⟩
          refine again (jh ⟨(i + 1, A1), by dsimp only; omega, by dsimp only; rw [htk, hzq, j2, hdr]; simp⟩ (by dsimp only; omega)) ?_ ?_ rfl rfl
          · exact ⟨rfl, rfl, rfl, rfl, trivial⟩
          · exact ⟨rfl, rfl, rfl, trivial⟩
      · have hi : i = L.length := by simp at hi; omega
        subst hi
        rw [List.take_of_length_le (by omega), List.drop_of_length_le (by omega), List.append_nil] at j2
        rw [j2]
        exact ⟨rfl, rfl⟩
  · refine ⟨by simp, by simp, by simp [atAll], fun q hq => ?_⟩
    rcases List.mem_or_eq_of_mem_set hq with hq | rfl
    · rw [List.mem_replicate] at hq
      rw [hq.2]
      exact ⟨by simp [Rc.o], by simp [Rc.o], by simp [Rc.o], by simp [Rc.o]⟩
    · exact ⟨⟨by dsimp only; omega, by dsimp only; omega⟩, ⟨by dsimp only; omega, by dsimp only; omega⟩, ⟨by omega, by omega⟩, ⟨by omega, by omega⟩⟩
end Go.AM
