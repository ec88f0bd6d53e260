
/- The tree: what is added. -/
import Derived.Test.YthcfahdogpjkeaaV3
set_option linter.all false
namespace Go.AM
open Go Go.Proofs

theorem fKV_put {p : Int} {d : D} : ∀ {k : Kids} {l : List Int}, NdK k → put (fKV p d k) p (.ls 1 (iL l)) = kKV (put k p l)
  | [], l, _ => rfl
  | q :: r, l, h => by
    simp only [NdK, List.map_cons, List.nodup_cons] at h
    simp only [fKV, List.map_cons, put]
    by_cases e : q.1 = p
    · simp only [e, if_true, kKV, List.map_cons]
      congr 1
      refine List.map_congr_left fun x hx => ?_
      have : x.1 ≠ p := fun e' => h.1 (by rw [e, ← e']; exact List.mem_map_of_mem (f := (·.1)) hx)
      simp [this]
    · have ih := fKV_put (p := p) (d := d) (k := r) (l := l) h.2
      simp only [fKV, kKV] at ih
      simp only [e, if_false, kKV, List.map_cons]
      rw [ih]
def putT (t : TT) (id p : Int) : TT := ⟨put t.kids p (kidsT t p ++ [id]), put t.up id p⟩

/-- Is the window laid on top of the parent's kids? -/
theorem sm_tree_put {t : TT} (h : t.Ok) (id p : Int) : TSpM 54 [.agg [.ownm 0 0, .ownm 2 0], .int .u32 id, .int .u32 p] [.map (mpK .u32 (fKV p (.own 1 1) t.kids)) (mpV (fKV p (.own 1 1) t.kids)), rowE p t.kids, .map (mpK .u32 (uKV t.up)) (mpV (uKV t.up))] (.tup [])
    [.map (mpK .u32 (kKV (putT t id p).kids)) (mpV (kKV (putT t id p).kids)), .gone, .map (mpK .u32 (uKV (putT t id p).up)) (mpV (uKV (putT t id p).up))] := by
  refine spm_tree_Tree_put (by rfl) ?_
  dsimp only [c_tree_Tree_put, r_tree_Tree_put, run_skip, run_reg, plainB, ifB_true, run_seq, run_blk, run_exit, run_ret, run_ite, iteR, regK, thenK_nrm, thenK_exit, thenK_ret, thenR_nrm, thenR_exit, thenR_ret, blkK, keepS, keepE, runOps_nil, runOps_cons, goG_some, fpOk, foot, entOf, allN, memN, goOn_ok, goOn_call, goOn_row, goOn_arr, goOn_ask, goOn_put, goOn_prm, goOn_callK, goOn_callC, goOn_all, guardP, guardO, notInO, stepF, stepLd, stepSt, stepIxs, stepIxa, stepLen, stepApp, stepCpy, stepPick, stepSls, stepSst, stepSla, bareZ, evX, evL, evB, rd, get, subG, memG, freshG, notInG, hyps, gob, impP, allP, partD, partOf, isOne, isPtr, nth, takeN, dropN, cellsD, lenB, fillD, thirds, entN, setE, sizeE, addE, setL, setN, putE, env0, eqCs, eqAux, eqC, bA, bO, bN, bE, negB, kEq, isShr, lendL, lend, frz, frzL, zRow, closed, closedL, rowsOf, binI, retK, retG, atRet, retD, lendO, resL, resD, oneD, renD, renL, renE, renEs, rho, putAll, entsN, List.append, List.nil_append, List.cons_append, List.append_nil, cond, Nat.reduceBEq, Nat.reduceAdd, Nat.beq]
  have hnd := fKV_nd (p := p) (d := .own 1 1) h.kn
  have hkl := h.kl p
  have fin : ∀ (env : Env) (row : List Int) (ver : Nat), row = kidsT t p → Rt 3 [.map (mpK .u32 (put (fKV p (.own 1 1) t.kids) p (.ls 1 (iL (row ++ [id]))))) (mpV (put (fKV p (.own 1 1) t.kids) p (.ls 1 (iL (row ++ [id]))))), .gone, .map (mpK .u32 (put (uKV t.up) id (.int .u32 p))) (mpV (put (uKV t.up) id (.int .u32 p))), .cells [.ownm 0 0, .ownm 2 0]] (.tup []) (.tup [])
    [.map (mpK .u32 (kKV (putT t id p).kids)) (mpV (kKV (putT t id p).kids)), .gone, .map (mpK .u32 (uKV (putT t id p).up)) (mpV (uKV (putT t id p).up))] := by
    intro env row ver hrow
    rw [hrow, fKV_put h.kn, uKV_put]
    exact Rt.cut (Nat.le_refl _) ⟨rfl, rfl, rfl, trivial⟩ (by simp [lowB, lowL_mpK, lowL_uKV, lowL_kKV]) rfl
  cases hp : lk t.kids p with
  | some l =>
    have hrow : rowE p t.kids = .arr 37 1 1 (iL l) := by unfold rowE; rw [hp]
    have hkl' : l = kidsT t p := by unfold kidsT; rw [hp]; rfl
    rw [hrow]
    have hlk := pr_lkpO (gt := gtab) (bx := [.map (mpK .u32 (fKV p (.own 1 1) t.kids)) (mpV (fKV p (.own 1 1) t.kids)), .arr 37 1 1 (iL l), .map (mpK .u32 (uKV t.up)) (mpV (uKV t.up)), .cells [.ownm 0 0, .ownm 2 0]]) (j := 0) tK tI zK (kv := fKV p (.own 1 1) t.kids) rfl hnd p false (zd := .ls 1 []) (fun hn => by rw [lk_fKV, hp] at hn; cases hn)
    rw [lk_fKV, hp] at hlk
    simp only [Option.map_some, if_true, lkD] at hlk
    refine prm_look _ hlk ?_
    dsimp only [run_skip, run_reg, plainB, ifB_true, run_seq, run_blk, run_exit, run_ret, run_ite, iteR, regK, thenK_nrm, thenK_exit, thenK_ret, thenR_nrm, thenR_exit, thenR_ret, blkK, keepS, keepE, runOps_nil, runOps_cons, goG_some, fpOk, foot, entOf, allN, memN, goOn_ok, goOn_call, goOn_row, goOn_arr, goOn_ask, goOn_put, goOn_prm, goOn_callK, goOn_callC, goOn_all, guardP, guardO, notInO, stepF, stepLd, stepSt, stepIxs, stepIxa, stepLen, stepApp, stepCpy, stepPick, stepSls, stepSst, stepSla, bareZ, evX, evL, evB, rd, get, subG, memG, freshG, notInG, hyps, gob, impP, allP, partD, partOf, isOne, isPtr, nth, takeN, dropN, cellsD, lenB, fillD, thirds, entN, setE, sizeE, addE, setL, setN, putE, env0, eqCs, eqAux, eqC, bA, bO, bN, bE, negB, kEq, isShr, lendL, lend, frz, frzL, zRow, closed, closedL, rowsOf, binI, retK, retG, atRet, retD, lendO, resL, resD, oneD, renD, renL, renE, renEs, rho, putAll, entsN, List.append, List.nil_append, List.cons_append, List.append_nil, cond, Nat.reduceBEq, Nat.reduceAdd, Nat.beq]
    refine ⟨⟨rfl, rfl, rfl, rfl, by rw [iL_len]; rw [← hkl'] at hkl; simp; omega⟩, ?_⟩
    rw [show iL l ++ [D.int .u32 id] = iL (l ++ [id]) from iL_app l [id]]
    refine prm_eff _ _ (pr_updF (j := 0) (i := 1) tK tI (kv := fKV p (.own 1 1) t.kids) rfl rfl hnd p) ?_
    dsimp only [run_skip, run_reg, plainB, ifB_true, run_seq, run_blk, run_exit, run_ret, run_ite, iteR, regK, thenK_nrm, thenK_exit, thenK_ret, thenR_nrm, thenR_exit, thenR_ret, blkK, keepS, keepE, runOps_nil, runOps_cons, goG_some, fpOk, foot, entOf, allN, memN, goOn_ok, goOn_call, goOn_row, goOn_arr, goOn_ask, goOn_put, goOn_prm, goOn_callK, goOn_callC, goOn_all, guardP, guardO, notInO, stepF, stepLd, stepSt, stepIxs, stepIxa, stepLen, stepApp, stepCpy, stepPick, stepSls, stepSst, stepSla, bareZ, evX, evL, evB, rd, get, subG, memG, freshG, notInG, hyps, gob, impP, allP, partD, partOf, isOne, isPtr, nth, takeN, dropN, cellsD, lenB, fillD, thirds, entN, setE, sizeE, addE, setL, setN, putE, env0, eqCs, eqAux, eqC, bA, bO, bN, bE, negB, kEq, isShr, lendL, lend, frz, frzL, zRow, closed, closedL, rowsOf, binI, retK, retG, atRet, retD, lendO, resL, resD, oneD, renD, renL, renE, renEs, rho, putAll, entsN, List.append, List.nil_append, List.cons_append, List.append_nil, cond, Nat.reduceBEq, Nat.reduceAdd, Nat.beq]
    refine prm_eff _ _ (pr_upd (j := 2) tU tI (kv := uKV t.up) rfl (uKV_nd h.un) id (.int .u32 p)) ?_
    dsimp only [run_skip, run_reg, plainB, ifB_true, run_seq, run_blk, run_exit, run_ret, run_ite, iteR, regK, thenK_nrm, thenK_exit, thenK_ret, thenR_nrm, thenR_exit, thenR_ret, blkK, keepS, keepE, runOps_nil, runOps_cons, goG_some, fpOk, foot, entOf, allN, memN, goOn_ok, goOn_call, goOn_row, goOn_arr, goOn_ask, goOn_put, goOn_prm, goOn_callK, goOn_callC, goOn_all, guardP, guardO, notInO, stepF, stepLd, stepSt, stepIxs, stepIxa, stepLen, stepApp, stepCpy, stepPick, stepSls, stepSst, stepSla, bareZ, evX, evL, evB, rd, get, subG, memG, freshG, notInG, hyps, gob, impP, allP, partD, partOf, isOne, isPtr, nth, takeN, dropN, cellsD, lenB, fillD, thirds, entN, setE, sizeE, addE, setL, setN, putE, env0, eqCs, eqAux, eqC, bA, bO, bN, bE, negB, kEq, isShr, lendL, lend, frz, frzL, zRow, closed, closedL, rowsOf, binI, retK, retG, atRet, retD, lendO, resL, resD, oneD, renD, renL, renE, renEs, rho, putAll, entsN, List.append, List.nil_append, List.cons_append, List.append_nil, cond, Nat.reduceBEq, Nat.reduceAdd, Nat.beq]
    exact fin [] l 2 hkl'
  | none =>
    have hrow : rowE p t.kids = .arr 37 1 0 [] := by unfold rowE; rw [hp]
    have hkl' : [] = kidsT t p := by unfold kidsT; rw [hp]; rfl
    rw [hrow]
    refine prm_look _ (pr_lkpN (j := 0) (j2 := 1) (et := 37) (sz := 1) tK tI zK (kv := fKV p (.own 1 1) t.kids) rfl rfl hnd p (by rw [lk_fKV, hp]; rfl)) ?_
    dsimp only [run_skip, run_reg, plainB, ifB_true, run_seq, run_blk, run_exit, run_ret, run_ite, iteR, regK, thenK_nrm, thenK_exit, thenK_ret, thenR_nrm, thenR_exit, thenR_ret, blkK, keepS, keepE, runOps_nil, runOps_cons, goG_some, fpOk, foot, entOf, allN, memN, goOn_ok, goOn_call, goOn_row, goOn_arr, goOn_ask, goOn_put, goOn_prm, goOn_callK, goOn_callC, goOn_all, guardP, guardO, notInO, stepF, stepLd, stepSt, stepIxs, stepIxa, stepLen, stepApp, stepCpy, stepPick, stepSls, stepSst, stepSla, bareZ, evX, evL, evB, rd, get, subG, memG, freshG, notInG, hyps, gob, impP, allP, partD, partOf, isOne, isPtr, nth, takeN, dropN, cellsD, lenB, fillD, thirds, entN, setE, sizeE, addE, setL, setN, putE, env0, eqCs, eqAux, eqC, bA, bO, bN, bE, negB, kEq, isShr, lendL, lend, frz, frzL, zRow, closed, closedL, rowsOf, binI, retK, retG, atRet, retD, lendO, resL, resD, oneD, renD, renL, renE, renEs, rho, putAll, entsN, List.append, List.nil_append, List.cons_append, List.append_nil, cond, Nat.reduceBEq, Nat.reduceAdd, Nat.beq]
    refine ⟨⟨rfl, rfl, rfl, rfl, by simp⟩, ?_⟩
    refine prm_eff _ _ (pr_updF (j := 0) (i := 1) tK tI (kv := fKV p (.own 1 1) t.kids) rfl rfl hnd p) ?_
    dsimp only [run_skip, run_reg, plainB, ifB_true, run_seq, run_blk, run_exit, run_ret, run_ite, iteR, regK, thenK_nrm, thenK_exit, thenK_ret, thenR_nrm, thenR_exit, thenR_ret, blkK, keepS, keepE, runOps_nil, runOps_cons, goG_some, fpOk, foot, entOf, allN, memN, goOn_ok, goOn_call, goOn_row, goOn_arr, goOn_ask, goOn_put, goOn_prm, goOn_callK, goOn_callC, goOn_all, guardP, guardO, notInO, stepF, stepLd, stepSt, stepIxs, stepIxa, stepLen, stepApp, stepCpy, stepPick, stepSls, stepSst, stepSla, bareZ, evX, evL, evB, rd, get, subG, memG, freshG, notInG, hyps, gob, impP, allP, partD, partOf, isOne, isPtr, nth, takeN, dropN, cellsD, lenB, fillD, thirds, entN, setE, sizeE, addE, setL, setN, putE, env0, eqCs, eqAux, eqC, bA, bO, bN, bE, negB, kEq, isShr, lendL, lend, frz, frzL, zRow, closed, closedL, rowsOf, binI, retK, retG, atRet, retD, lendO, resL, resD, oneD, renD, renL, renE, renEs, rho, putAll, entsN, List.append, List.nil_append, List.cons_append, List.append_nil, cond, Nat.reduceBEq, Nat.reduceAdd, Nat.beq]
    refine prm_eff _ _ (pr_upd (j := 2) tU tI (kv := uKV t.up) rfl (uKV_nd h.un) id (.int .u32 p)) ?_
    dsimp only [run_skip, run_reg, plainB, ifB_true, run_seq, run_blk, run_exit, run_ret, run_ite, iteR, regK, thenK_nrm, thenK_exit, thenK_ret, thenR_nrm, thenR_exit, thenR_ret, blkK, keepS, keepE, runOps_nil, runOps_cons, goG_some, fpOk, foot, entOf, allN, memN, goOn_ok, goOn_call, goOn_row, goOn_arr, goOn_ask, goOn_put, goOn_prm, goOn_callK, goOn_callC, goOn_all, guardP, guardO, notInO, stepF, stepLd, stepSt, stepIxs, stepIxa, stepLen, stepApp, stepCpy, stepPick, stepSls, stepSst, stepSla, bareZ, evX, evL, evB, rd, get, subG, memG, freshG, notInG, hyps, gob, impP, allP, partD, partOf, isOne, isPtr, nth, takeN, dropN, cellsD, lenB, fillD, thirds, entN, setE, sizeE, addE, setL, setN, putE, env0, eqCs, eqAux, eqC, bA, bO, bN, bE, negB, kEq, isShr, lendL, lend, frz, frzL, zRow, closed, closedL, rowsOf, binI, retK, retG, atRet, retD, lendO, resL, resD, oneD, renD, renL, renE, renEs, rho, putAll, entsN, List.append, List.nil_append, List.cons_append, List.append_nil, cond, Nat.reduceBEq, Nat.reduceAdd, Nat.beq]
    exact fin [] [] 1 hkl'
end Go.AM
