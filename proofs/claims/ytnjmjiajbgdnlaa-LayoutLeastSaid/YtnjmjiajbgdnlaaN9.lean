
/- Chapter 52: a node's kids. -/
import Derived.Test.YtnjmjiajbgdnlaaN8
set_option linter.all false
namespace Go.AM
open Go Go.Proofs

theorem layK_step {nd : Nd} {r : Rc} {pos : Int} {ks ps : List Int} {A : List Rc} {j : Nat} (h : j < ks.length) (h' : j < ps.length) : layK nd r pos (ks.drop j) (ps.drop j) A =
    layK nd r (pos + (ps[j] + nd.gap)) (ks.drop (j + 1)) (ps.drop (j + 1)) (A.set ks[j].toNat (if nd.down then ⟨r.x, pos, r.w, ps[j]⟩ else ⟨pos, r.y, ps[j], r.h⟩)) := by
  rw [List.drop_eq_getElem_cons h, List.drop_eq_getElem_cons h']; rfl

def stZ (nd : Nd) (r : Rc) (A : List Rc) (ps : List Int) (x y : Int) (j : Nat) : St :=
  ⟨[(2, [], .own 0 0), (5, [], .box 1 0), (6, [], .box 2 0), (18, [], .ls 1 (iD ps)), (20, [], .int .i64 x), (21, [], .int .i64 y), (90, [], .ls 1 (iD nd.kids)), (91, [], .int .i64 nd.kids.length), (92, [], .int .i64 j)],
    [.arr 33 4 0 (aD A), .cells [.bool nd.down, .int .i64 nd.gap, .int .i64 nd.w, .int .i64 nd.h, .int .i64 nd.grow, .ls 1 (iD nd.kids)], .cells [.int .i64 r.x, .int .i64 r.y, .int .i64 r.w, .int .i64 r.h], .gone, .gone]⟩

theorem aD_set {A : List Rc} {i : Nat} {r : Rc} : (aD A).set i (rD r) = aD (A.set i r) := by simp [aD, List.map_set]

theorem loopPK2 {n : Nat} {nd : Nd} {r : Rc} {A : List Rc} {ps : List Int} {body : C} {K : Ex → St → Prop} (hA : A.length = n) (hk : ∀ k ∈ nd.kids, 0 ≤ k ∧ k < n) (hlen : nd.kids.length ≤ 64) (hps : ps.length = nd.kids.length) (hpb : ∀ p ∈ ps, 0 ≤ p ∧ p ≤ 2000000) (hg : 0 ≤ nd.gap ∧ nd.gap ≤ 1000)
    (hr : (-1000000000000 ≤ r.x ∧ r.x ≤ 1000000000000) ∧ (-1000000000000 ≤ r.y ∧ r.y ≤ 1000000000000)) (hb : c_layout_placeKids.tl.tl.tl.tl.tl.tl.lp = some body)
    (hok : ∀ x y t, K (.exit 2) ⟨(stZ nd r (layK nd r (if nd.down then r.y else r.x) nd.kids ps A) ps x y nd.kids.length).env ++ [(93, [], .bool t)], (stZ nd r (layK nd r (if nd.down then r.y else r.x) nd.kids ps A) ps x y nd.kids.length).bx⟩) :
    run TSpM gtab 1 (.loop body) K (stZ nd r A ps r.x r.y 0) := by
  dsimp only [c_layout_placeKids, C.lp, C.tl] at hb
  cases hb
  refine loop_ind (α := {z : Nat × Int × Int × List Rc // z.1 ≤ nd.kids.length ∧ z.2.2.2.length = n ∧ layK nd r (if nd.down then z.2.2.1 else z.2.1) (nd.kids.drop z.1) (ps.drop z.1) z.2.2.2 = layK nd r (if nd.down then r.y else r.x) nd.kids ps A ∧
      (nd.down = true → z.2.1 = r.x) ∧ (nd.down = false → z.2.2.1 = r.y) ∧ (-1000000000000 ≤ z.2.1 ∧ z.2.1 ≤ 1000000000000 + z.1 * 2001000) ∧ (-1000000000000 ≤ z.2.2.1 ∧ z.2.2.1 ≤ 1000000000000 + z.1 * 2001000)})
    (fun z => stZ nd r z.1.2.2.2 ps z.1.2.1 z.1.2.2.1 z.1.1) (fun z => nd.kids.length - z.1.1) ?_ ⟨(0, r.x, r.y, A), by simp [hA]; omega⟩ rfl
  rintro ⟨⟨j, x, y, A1⟩, j1, j2, j3, j4, j5, j6, j7⟩ I ih
  dsimp only at j1 j2 j3 j4 j5 j6 j7
  dsimp only [stZ, run_skip, run_reg, plainB, ifB_true, run_seq, run_blk, run_exit, run_ret, run_ite, iteR, regK, thenK_nrm, thenK_exit, thenK_ret, thenR_nrm, thenR_exit, thenR_ret, blkK, keepS, keepE, runOps_nil, runOps_cons, goG_some, fpOk, foot, entOf, allN, memN, goOn_ok, goOn_call, goOn_row, goOn_arr, goOn_ask, goOn_put, guardP, guardO, notInO, stepF, stepLd, stepSt, stepIxs, stepIxa, stepLen, stepApp, stepCpy, stepPick, stepSls, stepSst, stepSla, evX, evL, evB, rd, get, subG, memG, freshG, notInG, hyps, gob, impP, allP, partD, partOf, isOne, isPtr, nth, takeN, dropN, cellsD, lenB, fillD, thirds, entN, setE, sizeE, addE, setL, setN, putE, env0, eqCs, eqAux, eqC, bA, bO, bN, bE, negB, kEq, isShr, lendL, lend, frz, frzL, zRow, closed, closedL, rowsOf, binI, retK, retG, atRet, retD, lendO, resL, resD, oneD, renD, renL, renE, renEs, rho, putAll, entsN, List.append, List.nil_append, List.cons_append, List.append_nil, cond, Nat.reduceBEq, Nat.reduceAdd, Nat.beq]
  refine ⟨fun hj => ?_, fun hj => ?_⟩
  · have hj : j < nd.kids.length := by simp at hj; omega
    have hj' : j < ps.length := by omega
    have hkj := hk _ (List.getElem_mem hj)
    have hpj := hpb _ (List.getElem_mem hj')
    rw [layK_step hj hj'] at j3
    have gp : 1 = 1 ∧ (0 : Int) ≤ j ∧ (j : Int) < (iD ps).length := ⟨rfl, by omega, by rw [iD_len]; omega⟩
    have hpat : (iD ps)[(j : Int).toNat]? = some (.int .i64 ps[j]) := by rw [Int.toNat_natCast]; exact iD_at hj'
    refine ⟨⟨rfl, by omega, by rw [iD_len]; omega⟩, row_intro _ _ (iD_at hj) rfl ?_⟩
    generalize nd.kids[j] = k at *
    generalize ps[j] = p at *
    obtain ⟨q, hq⟩ : ∃ q, A1[k.toNat]? = some q := ⟨A1[k.toNat]'(by omega), List.getElem?_eq_getElem (by omega)⟩
    dsimp only [run_skip, run_reg, plainB, ifB_true, run_seq, run_blk, run_exit, run_ret, run_ite, iteR, regK, thenK_nrm, thenK_exit, thenK_ret, thenR_nrm, thenR_exit, thenR_ret, blkK, keepS, keepE, runOps_nil, runOps_cons, goG_some, fpOk, foot, entOf, allN, memN, goOn_ok, goOn_call, goOn_row, goOn_arr, goOn_ask, goOn_put, guardP, guardO, notInO, stepF, stepLd, stepSt, stepIxs, stepIxa, stepLen, stepApp, stepCpy, stepPick, stepSls, stepSst, stepSla, evX, evL, evB, rd, get, subG, memG, freshG, notInG, hyps, gob, impP, allP, partD, partOf, isOne, isPtr, nth, takeN, dropN, cellsD, lenB, fillD, thirds, entN, setE, sizeE, addE, setL, setN, putE, env0, eqCs, eqAux, eqC, bA, bO, bN, bE, negB, kEq, isShr, lendL, lend, frz, frzL, zRow, closed, closedL, rowsOf, binI, retK, retG, atRet, retD, lendO, resL, resD, oneD, renD, renL, renE, renEs, rho, putAll, entsN, List.append, List.nil_append, List.cons_append, List.append_nil, cond, Nat.reduceBEq, Nat.reduceAdd, Nat.beq]
    have go : 0 = 0 ∧ 4 = 4 ∧ 0 ≤ k ∧ k < (aD A1).length := ⟨rfl, rfl, by omega, by rw [aD_len]; omega⟩
    refine ⟨fun hd => ?_, fun hd => ?_⟩
    · refine ⟨gp, row_intro _ _ hpat rfl ?_⟩
      dsimp only [run_skip, run_reg, plainB, ifB_true, run_seq, run_blk, run_exit, run_ret, run_ite, iteR, regK, thenK_nrm, thenK_exit, thenK_ret, thenR_nrm, thenR_exit, thenR_ret, blkK, keepS, keepE, runOps_nil, runOps_cons, goG_some, fpOk, foot, entOf, allN, memN, goOn_ok, goOn_call, goOn_row, goOn_arr, goOn_ask, goOn_put, guardP, guardO, notInO, stepF, stepLd, stepSt, stepIxs, stepIxa, stepLen, stepApp, stepCpy, stepPick, stepSls, stepSst, stepSla, evX, evL, evB, rd, get, subG, memG, freshG, notInG, hyps, gob, impP, allP, partD, partOf, isOne, isPtr, nth, takeN, dropN, cellsD, lenB, fillD, thirds, entN, setE, sizeE, addE, setL, setN, putE, env0, eqCs, eqAux, eqC, bA, bO, bN, bE, negB, kEq, isShr, lendL, lend, frz, frzL, zRow, closed, closedL, rowsOf, binI, retK, retG, atRet, retD, lendO, resL, resD, oneD, renD, renL, renE, renEs, rho, putAll, entsN, List.append, List.nil_append, List.cons_append, List.append_nil, cond, Nat.reduceBEq, Nat.reduceAdd, Nat.beq]
      refine ⟨go, ⟨rfl, rfl⟩, putrow_intro (hs := []) (rD q) (rD ⟨x, y, r.w, p⟩) (aD_at hq) rfl ?_⟩
      rw [aD_set]
      dsimp only [run_skip, run_reg, plainB, ifB_true, run_seq, run_blk, run_exit, run_ret, run_ite, iteR, regK, thenK_nrm, thenK_exit, thenK_ret, thenR_nrm, thenR_exit, thenR_ret, blkK, keepS, keepE, runOps_nil, runOps_cons, goG_some, fpOk, foot, entOf, allN, memN, goOn_ok, goOn_call, goOn_row, goOn_arr, goOn_ask, goOn_put, guardP, guardO, notInO, stepF, stepLd, stepSt, stepIxs, stepIxa, stepLen, stepApp, stepCpy, stepPick, stepSls, stepSst, stepSla, evX, evL, evB, rd, get, subG, memG, freshG, notInG, hyps, gob, impP, allP, partD, partOf, isOne, isPtr, nth, takeN, dropN, cellsD, lenB, fillD, thirds, entN, setE, sizeE, addE, setL, setN, putE, env0, eqCs, eqAux, eqC, bA, bO, bN, bE, negB, kEq, isShr, lendL, lend, frz, frzL, zRow, closed, closedL, rowsOf, binI, retK, retG, atRet, retD, lendO, resL, resD, oneD, renD, renL, renE, renEs, rho, putAll, entsN, List.append, List.nil_append, List.cons_append, List.append_nil, cond, Nat.reduceBEq, Nat.reduceAdd, Nat.beq]
      refine ⟨gp, row_intro _ _ hpat rfl ?_⟩
      dsimp only [run_skip, run_reg, plainB, ifB_true, run_seq, run_blk, run_exit, run_ret, run_ite, iteR, regK, thenK_nrm, thenK_exit, thenK_ret, thenR_nrm, thenR_exit, thenR_ret, blkK, keepS, keepE, runOps_nil, runOps_cons, goG_some, fpOk, foot, entOf, allN, memN, goOn_ok, goOn_call, goOn_row, goOn_arr, goOn_ask, goOn_put, guardP, guardO, notInO, stepF, stepLd, stepSt, stepIxs, stepIxa, stepLen, stepApp, stepCpy, stepPick, stepSls, stepSst, stepSla, evX, evL, evB, rd, get, subG, memG, freshG, notInG, hyps, gob, impP, allP, partD, partOf, isOne, isPtr, nth, takeN, dropN, cellsD, lenB, fillD, thirds, entN, setE, sizeE, addE, setL, setN, putE, env0, eqCs, eqAux, eqC, bA, bO, bN, bE, negB, kEq, isShr, lendL, lend, frz, frzL, zRow, closed, closedL, rowsOf, binI, retK, retG, atRet, retD, lendO, resL, resD, oneD, renD, renL, renE, renEs, rho, putAll, entsN, List.append, List.nil_append, List.cons_append, List.append_nil, cond, Nat.reduceBEq, Nat.reduceAdd, Nat.beq]
      have hx := j4 hd
      rw [hd] at j3
      simp only [if_true] at j3
      refine ⟨by simp only [fits]; omega, by simp only [fits]; omega, by simp only [fits]; omega, ?_⟩
      refine again (ih ⟨(j + 1, x, y + (p + nd.gap), A1.set k.toNat ⟨x, y, r.w, p⟩), by dsimp only; omega, by simpa using j2, by rw [hd]; simp only [if_true]; rw [hx]; exact j3, fun _ => hx, fun h => absurd (hd.symm.trans h) (by decide), by dsimp only; omega, by dsimp only; omega⟩ (by dsimp only; omega)) ?_ ?_ rfl rfl
      · exact ⟨rfl, rfl, rfl, rfl, rfl, rfl, rfl, rfl, rfl, trivial⟩
      · exact ⟨rfl, rfl, rfl, rfl, rfl, trivial⟩
    · refine ⟨gp, row_intro _ _ hpat rfl ?_⟩
      dsimp only [run_skip, run_reg, plainB, ifB_true, run_seq, run_blk, run_exit, run_ret, run_ite, iteR, regK, thenK_nrm, thenK_exit, thenK_ret, thenR_nrm, thenR_exit, thenR_ret, blkK, keepS, keepE, runOps_nil, runOps_cons, goG_some, fpOk, foot, entOf, allN, memN, goOn_ok, goOn_call, goOn_row, goOn_arr, goOn_ask, goOn_put, guardP, guardO, notInO, stepF, stepLd, stepSt, stepIxs, stepIxa, stepLen, stepApp, stepCpy, stepPick, stepSls, stepSst, stepSla, evX, evL, evB, rd, get, subG, memG, freshG, notInG, hyps, gob, impP, allP, partD, partOf, isOne, isPtr, nth, takeN, dropN, cellsD, lenB, fillD, thirds, entN, setE, sizeE, addE, setL, setN, putE, env0, eqCs, eqAux, eqC, bA, bO, bN, bE, negB, kEq, isShr, lendL, lend, frz, frzL, zRow, closed, closedL, rowsOf, binI, retK, retG, atRet, retD, lendO, resL, resD, oneD, renD, renL, renE, renEs, rho, putAll, entsN, List.append, List.nil_append, List.cons_append, List.append_nil, cond, Nat.reduceBEq, Nat.reduceAdd, Nat.beq]
      refine ⟨go, ⟨rfl, rfl⟩, putrow_intro (hs := []) (rD q) (rD ⟨x, y, p, r.h⟩) (aD_at hq) rfl ?_⟩
      rw [aD_set]
      dsimp only [run_skip, run_reg, plainB, ifB_true, run_seq, run_blk, run_exit, run_ret, run_ite, iteR, regK, thenK_nrm, thenK_exit, thenK_ret, thenR_nrm, thenR_exit, thenR_ret, blkK, keepS, keepE, runOps_nil, runOps_cons, goG_some, fpOk, foot, entOf, allN, memN, goOn_ok, goOn_call, goOn_row, goOn_arr, goOn_ask, goOn_put, guardP, guardO, notInO, stepF, stepLd, stepSt, stepIxs, stepIxa, stepLen, stepApp, stepCpy, stepPick, stepSls, stepSst, stepSla, evX, evL, evB, rd, get, subG, memG, freshG, notInG, hyps, gob, impP, allP, partD, partOf, isOne, isPtr, nth, takeN, dropN, cellsD, lenB, fillD, thirds, entN, setE, sizeE, addE, setL, setN, putE, env0, eqCs, eqAux, eqC, bA, bO, bN, bE, negB, kEq, isShr, lendL, lend, frz, frzL, zRow, closed, closedL, rowsOf, binI, retK, retG, atRet, retD, lendO, resL, resD, oneD, renD, renL, renE, renEs, rho, putAll, entsN, List.append, List.nil_append, List.cons_append, List.append_nil, cond, Nat.reduceBEq, Nat.reduceAdd, Nat.beq]
      refine ⟨gp, row_intro _ _ hpat rfl ?_⟩
      dsimp only [run_skip, run_reg, plainB, ifB_true, run_seq, run_blk, run_exit, run_ret, run_ite, iteR, regK, thenK_nrm, thenK_exit, thenK_ret, thenR_nrm, thenR_exit, thenR_ret, blkK, keepS, keepE, runOps_nil, runOps_cons, goG_some, fpOk, foot, entOf, allN, memN, goOn_ok, goOn_call, goOn_row, goOn_arr, goOn_ask, goOn_put, guardP, guardO, notInO, stepF, stepLd, stepSt, stepIxs, stepIxa, stepLen, stepApp, stepCpy, stepPick, stepSls, stepSst, stepSla, evX, evL, evB, rd, get, subG, memG, freshG, notInG, hyps, gob, impP, allP, partD, partOf, isOne, isPtr, nth, takeN, dropN, cellsD, lenB, fillD, thirds, entN, setE, sizeE, addE, setL, setN, putE, env0, eqCs, eqAux, eqC, bA, bO, bN, bE, negB, kEq, isShr, lendL, lend, frz, frzL, zRow, closed, closedL, rowsOf, binI, retK, retG, atRet, retD, lendO, resL, resD, oneD, renD, renL, renE, renEs, rho, putAll, entsN, List.append, List.nil_append, List.cons_append, List.append_nil, cond, Nat.reduceBEq, Nat.reduceAdd, Nat.beq]
      have hy := j5 hd
      rw [hd] at j3
      simp only [Bool.false_eq_true, if_false] at j3
      refine ⟨by simp only [fits]; omega, by simp only [fits]; omega, by simp only [fits]; omega, ?_⟩
      refine again (ih ⟨(j + 1, x + (p + nd.gap), y, A1.set k.toNat ⟨x, y, p, r.h⟩), by dsimp only; omega, by simpa using j2, by rw [hd]; simp only [Bool.false_eq_true, if_false]; rw [hy]; exact j3, fun h => absurd (hd.symm.trans h) (by decide), fun _ => hy, by dsimp only; omega, by dsimp only; omega⟩ (by dsimp only; omega)) ?_ ?_ rfl rfl
      · exact ⟨rfl, rfl, rfl, rfl, rfl, rfl, rfl, rfl, rfl, trivial⟩
      · exact ⟨rfl, rfl, rfl, rfl, rfl, trivial⟩
  · have hj : j = nd.kids.length := by simp at hj; omega
    subst hj
    rw [List.drop_of_length_le (Nat.le_refl _)] at j3
    rw [show A1 = layK nd r (if nd.down then r.y else r.x) nd.kids ps A by rw [← j3]; unfold layK; rfl]
    exact hok x y _

theorem layK_len {nd : Nd} {r : Rc} : ∀ {ks ps : List Int} {pos : Int} {A : List Rc}, (layK nd r pos ks ps A).length = A.length
  | [], _, _, _ => by unfold layK; rfl
  | _ :: _, [], _, _ => by unfold layK; rfl
  | k :: ks, p :: ps, pos, A => by simp only [layK]; rw [layK_len, List.length_set]

theorem sp_layout_placeKids {L : List Nd} {nd : Nd} {r : Rc} {A : List Rc} (hs : Small L) (hnd : nd ∈ L) (hk : ∀ k ∈ nd.kids, 0 ≤ k ∧ k < L.length) (hA : A.length = L.length)
    (hr : (-1000000000000 ≤ r.x ∧ r.x ≤ 1000000000000) ∧ (-1000000000000 ≤ r.y ∧ r.y ≤ 1000000000000)) (hw : (0 ≤ r.w ∧ r.w ≤ 1000000000) ∧ (0 ≤ r.h ∧ r.h ≤ 1000000000)) :
    TSpM 27 [nD nd, rD r, .own 0 0, .ls 4 (sD ((List.range L.length).map (siz L))), .ls 6 (lD L)] [.arr 33 4 0 (aD A)] (.tup []) [.arr 33 4 0 (aD (kidsAt L nd r A))] := by
  refine spm_layout_placeKids (by rfl) ?_
  have hlp1 := @loopPK1
  have hlp2 := @loopPK2
  have hkl := hs.kids _ hnd
  have hgap := hs.gap _ hnd
  dsimp only [c_layout_placeKids, r_layout_placeKids, nD, rD, run_skip, run_reg, plainB, ifB_true, run_seq, run_blk, run_exit, run_ret, run_ite, iteR, regK, thenK_nrm, thenK_exit, thenK_ret, thenR_nrm, thenR_exit, thenR_ret, blkK, keepS, keepE, runOps_nil, runOps_cons, goG_some, fpOk, foot, entOf, allN, memN, goOn_ok, goOn_call, goOn_row, goOn_arr, goOn_ask, goOn_put, guardP, guardO, notInO, stepF, stepLd, stepSt, stepIxs, stepIxa, stepLen, stepApp, stepCpy, stepPick, stepSls, stepSst, stepSla, evX, evL, evB, rd, get, subG, memG, freshG, notInG, hyps, gob, impP, allP, partD, partOf, isOne, isPtr, nth, takeN, dropN, cellsD, lenB, fillD, thirds, entN, setE, sizeE, addE, setL, setN, putE, env0, eqCs, eqAux, eqC, bA, bO, bN, bE, negB, kEq, isShr, lendL, lend, frz, frzL, zRow, closed, closedL, rowsOf, binI, retK, retG, atRet, retD, lendO, resL, resD, oneD, renD, renL, renE, renEs, rho, putAll, entsN, List.append, List.nil_append, List.cons_append, List.append_nil, cond, Nat.reduceBEq, Nat.reduceAdd, Nat.beq]
  rw [iD_len]
  refine ⟨fun h => ?_, fun h => ?_⟩
  · have h0 : nd.kids = [] := by simpa using h
    have e : kidsAt L nd r A = A := by unfold kidsAt; rw [h0]; split; unfold layK; rfl; rfl
    rw [e]
    exact Rt.cut (by simp) ⟨rfl, trivial⟩ rfl rfl
  refine hlp1 (L := L) (nd := nd) (r := r) (A := A) hs hk hkl rfl (fun v u t => ?_)
  dsimp only [stY, run_skip, run_reg, plainB, ifB_true, run_seq, run_blk, run_exit, run_ret, run_ite, iteR, regK, thenK_nrm, thenK_exit, thenK_ret, thenR_nrm, thenR_exit, thenR_ret, blkK, keepS, keepE, runOps_nil, runOps_cons, goG_some, fpOk, foot, entOf, allN, memN, goOn_ok, goOn_call, goOn_row, goOn_arr, goOn_ask, goOn_put, guardP, guardO, notInO, stepF, stepLd, stepSt, stepIxs, stepIxa, stepLen, stepApp, stepCpy, stepPick, stepSls, stepSst, stepSla, evX, evL, evB, rd, get, subG, memG, freshG, notInG, hyps, gob, impP, allP, partD, partOf, isOne, isPtr, nth, takeN, dropN, cellsD, lenB, fillD, thirds, entN, setE, sizeE, addE, setL, setN, putE, env0, eqCs, eqAux, eqC, bA, bO, bN, bE, negB, kEq, isShr, lendL, lend, frz, frzL, zRow, closed, closedL, rowsOf, binI, retK, retG, atRet, retD, lendO, resL, resD, oneD, renD, renL, renE, renEs, rho, putAll, entsN, List.append, List.nil_append, List.cons_append, List.append_nil, cond, Nat.reduceBEq, Nat.reduceAdd, Nat.beq]
  refine call_pure (sp_layout_Node_turned (n := nd)) ?_
  dsimp only [nD, run_skip, run_reg, plainB, ifB_true, run_seq, run_blk, run_exit, run_ret, run_ite, iteR, regK, thenK_nrm, thenK_exit, thenK_ret, thenR_nrm, thenR_exit, thenR_ret, blkK, keepS, keepE, runOps_nil, runOps_cons, goG_some, fpOk, foot, entOf, allN, memN, goOn_ok, goOn_call, goOn_row, goOn_arr, goOn_ask, goOn_put, guardP, guardO, notInO, stepF, stepLd, stepSt, stepIxs, stepIxa, stepLen, stepApp, stepCpy, stepPick, stepSls, stepSst, stepSla, evX, evL, evB, rd, get, subG, memG, freshG, notInG, hyps, gob, impP, allP, partD, partOf, isOne, isPtr, nth, takeN, dropN, cellsD, lenB, fillD, thirds, entN, setE, sizeE, addE, setL, setN, putE, env0, eqCs, eqAux, eqC, bA, bO, bN, bE, negB, kEq, isShr, lendL, lend, frz, frzL, zRow, closed, closedL, rowsOf, binI, retK, retG, atRet, retD, lendO, resL, resD, oneD, renD, renL, renE, renEs, rho, putAll, entsN, List.append, List.nil_append, List.cons_append, List.append_nil, cond, Nat.reduceBEq, Nat.reduceAdd, Nat.beq]
  refine call_pure (sp_layout_Node_gaps (n := nd) hgap (by omega)) ?_
  dsimp only [nD, run_skip, run_reg, plainB, ifB_true, run_seq, run_blk, run_exit, run_ret, run_ite, iteR, regK, thenK_nrm, thenK_exit, thenK_ret, thenR_nrm, thenR_exit, thenR_ret, blkK, keepS, keepE, runOps_nil, runOps_cons, goG_some, fpOk, foot, entOf, allN, memN, goOn_ok, goOn_call, goOn_row, goOn_arr, goOn_ask, goOn_put, guardP, guardO, notInO, stepF, stepLd, stepSt, stepIxs, stepIxa, stepLen, stepApp, stepCpy, stepPick, stepSls, stepSst, stepSla, evX, evL, evB, rd, get, subG, memG, freshG, notInG, hyps, gob, impP, allP, partD, partOf, isOne, isPtr, nth, takeN, dropN, cellsD, lenB, fillD, thirds, entN, setE, sizeE, addE, setL, setN, putE, env0, eqCs, eqAux, eqC, bA, bO, bN, bE, negB, kEq, isShr, lendL, lend, frz, frzL, zRow, closed, closedL, rowsOf, binI, retK, retG, atRet, retD, lendO, resL, resD, oneD, renD, renL, renE, renEs, rho, putAll, entsN, List.append, List.nil_append, List.cons_append, List.append_nil, cond, Nat.reduceBEq, Nat.reduceAdd, Nat.beq]
  have hg : 0 ≤ gapsI nd ∧ gapsI nd ≤ 64000 := by
    unfold gapsI
    split
    · omega
    · have hm := Int.mul_le_mul (b := (nd.kids.length : Int) - 1) (d := 64) hgap.2 (by omega) (by omega) (by omega)
      have hp := Int.mul_nonneg (b := (nd.kids.length : Int) - 1) hgap.1 (by omega)
      omega
  have ht : 0 ≤ (turnP nd r.w r.h).1 ∧ (turnP nd r.w r.h).1 ≤ 1000000000 := by unfold turnP; split <;> dsimp only <;> omega
  refine ⟨by simp only [fits]; omega, ?_⟩
  refine call_frz rfl ⟨rfl, rfl, trivial⟩ (Sp.lift (sp_layout_Split (by simp only [fits]; omega)) rfl) ?_
  have hP : partsOf L nd r = splitS (max ((turnP nd r.w r.h).1 - gapsI nd) 0) (leastL L nd) (growL L nd) := rfl
  rw [← hP]
  dsimp only [splitD, run_skip, run_reg, plainB, ifB_true, run_seq, run_blk, run_exit, run_ret, run_ite, iteR, regK, thenK_nrm, thenK_exit, thenK_ret, thenR_nrm, thenR_exit, thenR_ret, blkK, keepS, keepE, runOps_nil, runOps_cons, goG_some, fpOk, foot, entOf, allN, memN, goOn_ok, goOn_call, goOn_row, goOn_arr, goOn_ask, goOn_put, guardP, guardO, notInO, stepF, stepLd, stepSt, stepIxs, stepIxa, stepLen, stepApp, stepCpy, stepPick, stepSls, stepSst, stepSla, evX, evL, evB, rd, get, subG, memG, freshG, notInG, hyps, gob, impP, allP, partD, partOf, isOne, isPtr, nth, takeN, dropN, cellsD, lenB, fillD, thirds, entN, setE, sizeE, addE, setL, setN, putE, env0, eqCs, eqAux, eqC, bA, bO, bN, bE, negB, kEq, isShr, lendL, lend, frz, frzL, zRow, closed, closedL, rowsOf, binI, retK, retG, atRet, retD, lendO, resL, resD, oneD, renD, renL, renE, renEs, rho, putAll, entsN, List.append, List.nil_append, List.cons_append, List.append_nil, cond, Nat.reduceBEq, Nat.reduceAdd, Nat.beq]
  refine ⟨fun h => ?_, fun h => ?_⟩
  · have e : kidsAt L nd r A = A := by unfold kidsAt; rw [if_neg (by simpa using h)]
    rw [e]
    exact Rt.cut (by simp) ⟨rfl, trivial⟩ rfl rfl
  have h0 : (partsOf L nd r).2 = 0 := by simpa using h
  have hpl : (partsOf L nd r).1.length = nd.kids.length := by
    have := (split_len (hP ▸ h0)).1
    rw [← hP] at this; rw [this]; simp [leastL]
  rw [iD_len]
  refine hlp2 (A := A) (nd := nd) (r := r) (n := L.length) hA hk hkl hpl (fun p hp => split_bd p (hP ▸ hp)) hgap hr rfl (fun x y t => ?_)
  dsimp only [stZ, run_skip, run_reg, plainB, ifB_true, run_seq, run_blk, run_exit, run_ret, run_ite, iteR, regK, thenK_nrm, thenK_exit, thenK_ret, thenR_nrm, thenR_exit, thenR_ret, blkK, keepS, keepE, runOps_nil, runOps_cons, goG_some, fpOk, foot, entOf, allN, memN, goOn_ok, goOn_call, goOn_row, goOn_arr, goOn_ask, goOn_put, guardP, guardO, notInO, stepF, stepLd, stepSt, stepIxs, stepIxa, stepLen, stepApp, stepCpy, stepPick, stepSls, stepSst, stepSla, evX, evL, evB, rd, get, subG, memG, freshG, notInG, hyps, gob, impP, allP, partD, partOf, isOne, isPtr, nth, takeN, dropN, cellsD, lenB, fillD, thirds, entN, setE, sizeE, addE, setL, setN, putE, env0, eqCs, eqAux, eqC, bA, bO, bN, bE, negB, kEq, isShr, lendL, lend, frz, frzL, zRow, closed, closedL, rowsOf, binI, retK, retG, atRet, retD, lendO, resL, resD, oneD, renD, renL, renE, renEs, rho, putAll, entsN, List.append, List.nil_append, List.cons_append, List.append_nil, cond, Nat.reduceBEq, Nat.reduceAdd, Nat.beq]
  have e : kidsAt L nd r A = layK nd r (if nd.down then r.y else r.x) nd.kids (partsOf L nd r).1 A := by unfold kidsAt; rw [if_pos h0]
  rw [e]
  exact Rt.cut (by simp) ⟨rfl, trivial⟩ rfl rfl
end Go.AM
