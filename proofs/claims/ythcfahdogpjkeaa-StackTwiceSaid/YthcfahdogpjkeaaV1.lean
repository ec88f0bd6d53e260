
/- The tree's data; what is read of it. -/
import Derived.Test.YthcfahdogpjkeaaCode
set_option linter.all false
namespace Go.AM
open Go Go.Proofs

abbrev Kids := List (Int × List Int)
abbrev Ups := List (Int × Int)
def iL (l : List Int) : List D := l.map fun n => .int .u32 n
theorem iL_len (l : List Int) : (iL l).length = l.length := by simp [iL]
theorem iL_at {l : List Int} {i : Nat} (h : i < l.length) : (iL l)[i]? = some (.int .u32 l[i]) := by simp [iL, h]
theorem iL_app (a b : List Int) : iL a ++ iL b = iL (a ++ b) := by simp [iL]
theorem iL_one (n : Int) : [D.int .u32 n] = iL [n] := rfl
def kKV (k : Kids) : KV := k.map fun p => (p.1, .ls 1 (iL p.2))
def uKV (u : Ups) : KV := u.map fun p => (p.1, .int .u32 p.2)
structure TT where
  kids : Kids
  up : Ups
def tD (t : TT) : D := .agg [mpD .u32 (kKV t.kids), mpD .u32 (uKV t.up)]
def kidsT (t : TT) (id : Int) : List Int := (lk t.kids id).getD []
def hasT (t : TT) (id : Int) : Bool := (lk t.up id).isSome || decide (id = 1)
structure TT.Ok (t : TT) : Prop where
  kn : NdK t.kids
  un : NdK t.up
  kl : ∀ id, (kidsT t id).length ≤ 64
  ul : t.up.length ≤ 63

theorem tK : Try.prog.underlying 28 = some (.map 37 69) := by kernel_rfl
theorem tU : Try.prog.underlying 29 = some (.map 37 37) := by kernel_rfl
theorem tI : Try.prog.underlying 37 = some (.int .u32) := by kernel_rfl
theorem tLs : Try.prog.underlying 69 = some (.slice 37) := by kernel_rfl
theorem zU : ZV Try.prog 37 (.int .u32 0) := by unfold ZV; kernel_rfl
theorem zK : ZV Try.prog 69 (.slice none 0 0) := by unfold ZV; kernel_rfl

theorem lkU (u : Ups) (id : Int) (c : Bool) : lkD c (lk (uKV u) id) (.int .u32 0) = match c with | false => .int .u32 ((lk u id).getD 0) | true => .tup [.int .u32 ((lk u id).getD 0), .bool (lk u id).isSome] := by
  unfold uKV
  rw [lk_mapv (f := fun n => D.int .u32 n)]
  cases lk u id <;> cases c <;> rfl
theorem lkK (k : Kids) (id : Int) : lkD false (lk (kKV k) id) (.ls 1 []) = .ls 1 (iL ((lk k id).getD [])) := by
  unfold kKV
  rw [lk_mapv (f := fun l => D.ls 1 (iL l))]
  cases lk k id <;> rfl
theorem uKV_nd {u : Ups} (h : NdK u) : NdK (uKV u) := nd_mapv.2 h
theorem kKV_nd {k : Kids} (h : NdK k) : NdK (kKV k) := (nd_mapv (f := fun l : List Int => D.ls 1 (iL l))).2 h

theorem pr_upT {bx : List Ent} {u : Ups} (h : NdK u) (id : Int) : PrM Try.prog gtab (.lkp 29 true) [.mp (mpK .u32 (uKV u)) (mpV (uKV u)), .int .u32 id] bx (.tup [.int .u32 ((lk u id).getD 0), .bool (lk u id).isSome]) bx := by
  have := pr_lkp (gt := gtab) (bx := bx) tU tI zU (uKV_nd h) id true (zd := .int .u32 0) (fun _ _ _ => by simp [Rep])
  rw [lkU] at this; exact this
theorem pr_upF {bx : List Ent} {u : Ups} (h : NdK u) (id : Int) : PrM Try.prog gtab (.lkp 29 false) [.mp (mpK .u32 (uKV u)) (mpV (uKV u)), .int .u32 id] bx (.int .u32 ((lk u id).getD 0)) bx := by
  have := pr_lkp (gt := gtab) (bx := bx) tU tI zU (uKV_nd h) id false (zd := .int .u32 0) (fun _ _ _ => by simp [Rep])
  rw [lkU] at this; exact this
theorem pr_kids {bx : List Ent} {k : Kids} (h : NdK k) (id : Int) : PrM Try.prog gtab (.lkp 28 false) [.mp (mpK .u32 (kKV k)) (mpV (kKV k)), .int .u32 id] bx (.ls 1 (iL ((lk k id).getD []))) bx := by
  have := pr_lkp (gt := gtab) (bx := bx) tK tI zK (kKV_nd h) id false (zd := .ls 1 []) (fun _ _ _ => by simp only [Rep]; exact ⟨none, 0, 0, rfl, rfl, Nat.le_refl _, fun _ => rfl, .inl trivial⟩)
  rw [lkK] at this; exact this

theorem sp_tree_Has {t : TT} (h : t.Ok) (id : Int) : TSp 43 [tD t, .int .u32 id] (.bool (hasT t id)) := by
  refine spo_tree_Tree_Has (by rfl) ?_
  dsimp only [c_tree_Tree_Has, r_tree_Tree_Has, tD, run_skip, run_reg, plainB, ifB_true, run_seq, run_blk, run_exit, run_ret, run_ite, iteR, regK, thenK_nrm, thenK_exit, thenK_ret, thenR_nrm, thenR_exit, thenR_ret, blkK, keepS, keepE, runOps_nil, runOps_cons, goG_some, fpOk, foot, entOf, allN, memN, goOn_ok, goOn_call, goOn_row, goOn_arr, goOn_ask, goOn_put, goOn_prm, goOn_callK, goOn_callC, goOn_all, guardP, guardO, notInO, stepF, stepLd, stepSt, stepIxs, stepIxa, stepLen, stepApp, stepCpy, stepPick, stepSls, stepSst, stepSla, bareZ, evX, evL, evB, rd, get, subG, memG, freshG, notInG, hyps, gob, impP, allP, partD, partOf, isOne, isPtr, nth, takeN, dropN, cellsD, lenB, fillD, thirds, entN, setE, sizeE, addE, setL, setN, putE, env0, eqCs, eqAux, eqC, bA, bO, bN, bE, negB, kEq, isShr, lendL, lend, frz, frzL, zRow, closed, closedL, rowsOf, binI, retK, retG, atRet, retD, lendO, resL, resD, oneD, renD, renL, renE, renEs, rho, putAll, entsN, List.append, List.nil_append, List.cons_append, List.append_nil, cond, Nat.reduceBEq, Nat.reduceAdd, Nat.beq]
  refine prm_look _ (pr_upT h.un id) ?_
  dsimp only [run_skip, run_reg, plainB, ifB_true, run_seq, run_blk, run_exit, run_ret, run_ite, iteR, regK, thenK_nrm, thenK_exit, thenK_ret, thenR_nrm, thenR_exit, thenR_ret, blkK, keepS, keepE, runOps_nil, runOps_cons, goG_some, fpOk, foot, entOf, allN, memN, goOn_ok, goOn_call, goOn_row, goOn_arr, goOn_ask, goOn_put, goOn_prm, goOn_callK, goOn_callC, goOn_all, guardP, guardO, notInO, stepF, stepLd, stepSt, stepIxs, stepIxa, stepLen, stepApp, stepCpy, stepPick, stepSls, stepSst, stepSla, bareZ, evX, evL, evB, rd, get, subG, memG, freshG, notInG, hyps, gob, impP, allP, partD, partOf, isOne, isPtr, nth, takeN, dropN, cellsD, lenB, fillD, thirds, entN, setE, sizeE, addE, setL, setN, putE, env0, eqCs, eqAux, eqC, bA, bO, bN, bE, negB, kEq, isShr, lendL, lend, frz, frzL, zRow, closed, closedL, rowsOf, binI, retK, retG, atRet, retD, lendO, resL, resD, oneD, renD, renL, renE, renEs, rho, putAll, entsN, List.append, List.nil_append, List.cons_append, List.append_nil, cond, Nat.reduceBEq, Nat.reduceAdd, Nat.beq]
  unfold hasT
  cases lk t.up id <;> simp

theorem sp_tree_New : TSp 24 [] (tD ⟨[], []⟩) := by
  refine spo_tree_New (by rfl) ?_
  dsimp only [c_tree_New, r_tree_New, tD, run_skip, run_reg, plainB, ifB_true, run_seq, run_blk, run_exit, run_ret, run_ite, iteR, regK, thenK_nrm, thenK_exit, thenK_ret, thenR_nrm, thenR_exit, thenR_ret, blkK, keepS, keepE, runOps_nil, runOps_cons, goG_some, fpOk, foot, entOf, allN, memN, goOn_ok, goOn_call, goOn_row, goOn_arr, goOn_ask, goOn_put, goOn_prm, goOn_callK, goOn_callC, goOn_all, guardP, guardO, notInO, stepF, stepLd, stepSt, stepIxs, stepIxa, stepLen, stepApp, stepCpy, stepPick, stepSls, stepSst, stepSla, bareZ, evX, evL, evB, rd, get, subG, memG, freshG, notInG, hyps, gob, impP, allP, partD, partOf, isOne, isPtr, nth, takeN, dropN, cellsD, lenB, fillD, thirds, entN, setE, sizeE, addE, setL, setN, putE, env0, eqCs, eqAux, eqC, bA, bO, bN, bE, negB, kEq, isShr, lendL, lend, frz, frzL, zRow, closed, closedL, rowsOf, binI, retK, retG, atRet, retD, lendO, resL, resD, oneD, renD, renL, renE, renEs, rho, putAll, entsN, List.append, List.nil_append, List.cons_append, List.append_nil, cond, Nat.reduceBEq, Nat.reduceAdd, Nat.beq]
  rfl

theorem sp_tree_Parent {t : TT} (h : t.Ok) (id : Int) : TSp 26 [tD t, .int .u32 id] (.tup [.int .u32 ((lk t.up id).getD 0), .bool (lk t.up id).isSome]) := by
  refine spo_tree_Tree_Parent (by rfl) ?_
  dsimp only [c_tree_Tree_Parent, r_tree_Tree_Parent, tD, run_skip, run_reg, plainB, ifB_true, run_seq, run_blk, run_exit, run_ret, run_ite, iteR, regK, thenK_nrm, thenK_exit, thenK_ret, thenR_nrm, thenR_exit, thenR_ret, blkK, keepS, keepE, runOps_nil, runOps_cons, goG_some, fpOk, foot, entOf, allN, memN, goOn_ok, goOn_call, goOn_row, goOn_arr, goOn_ask, goOn_put, goOn_prm, goOn_callK, goOn_callC, goOn_all, guardP, guardO, notInO, stepF, stepLd, stepSt, stepIxs, stepIxa, stepLen, stepApp, stepCpy, stepPick, stepSls, stepSst, stepSla, bareZ, evX, evL, evB, rd, get, subG, memG, freshG, notInG, hyps, gob, impP, allP, partD, partOf, isOne, isPtr, nth, takeN, dropN, cellsD, lenB, fillD, thirds, entN, setE, sizeE, addE, setL, setN, putE, env0, eqCs, eqAux, eqC, bA, bO, bN, bE, negB, kEq, isShr, lendL, lend, frz, frzL, zRow, closed, closedL, rowsOf, binI, retK, retG, atRet, retD, lendO, resL, resD, oneD, renD, renL, renE, renEs, rho, putAll, entsN, List.append, List.nil_append, List.cons_append, List.append_nil, cond, Nat.reduceBEq, Nat.reduceAdd, Nat.beq]
  refine prm_look _ (pr_upT h.un id) ?_
  dsimp only [run_skip, run_reg, plainB, ifB_true, run_seq, run_blk, run_exit, run_ret, run_ite, iteR, regK, thenK_nrm, thenK_exit, thenK_ret, thenR_nrm, thenR_exit, thenR_ret, blkK, keepS, keepE, runOps_nil, runOps_cons, goG_some, fpOk, foot, entOf, allN, memN, goOn_ok, goOn_call, goOn_row, goOn_arr, goOn_ask, goOn_put, goOn_prm, goOn_callK, goOn_callC, goOn_all, guardP, guardO, notInO, stepF, stepLd, stepSt, stepIxs, stepIxa, stepLen, stepApp, stepCpy, stepPick, stepSls, stepSst, stepSla, bareZ, evX, evL, evB, rd, get, subG, memG, freshG, notInG, hyps, gob, impP, allP, partD, partOf, isOne, isPtr, nth, takeN, dropN, cellsD, lenB, fillD, thirds, entN, setE, sizeE, addE, setL, setN, putE, env0, eqCs, eqAux, eqC, bA, bO, bN, bE, negB, kEq, isShr, lendL, lend, frz, frzL, zRow, closed, closedL, rowsOf, binI, retK, retG, atRet, retD, lendO, resL, resD, oneD, renD, renL, renE, renEs, rho, putAll, entsN, List.append, List.nil_append, List.cons_append, List.append_nil, cond, Nat.reduceBEq, Nat.reduceAdd, Nat.beq]

/-- A copy of rows: as rows that nobody writes. -/
theorem sp_slices_Clone {l : List Int} (hl : l.length < 1000000) : TSp 29 [.ls 1 (iL l)] (.ls 1 (iL l)) := by
  refine spo_slices_Clone_api_ID_api_ID (by rfl) ?_
  dsimp only [c_slices_Clone_api_ID_api_ID, r_slices_Clone_api_ID_api_ID, run_skip, run_reg, plainB, ifB_true, run_seq, run_blk, run_exit, run_ret, run_ite, iteR, regK, thenK_nrm, thenK_exit, thenK_ret, thenR_nrm, thenR_exit, thenR_ret, blkK, keepS, keepE, runOps_nil, runOps_cons, goG_some, fpOk, foot, entOf, allN, memN, goOn_ok, goOn_call, goOn_row, goOn_arr, goOn_ask, goOn_put, goOn_prm, goOn_callK, goOn_callC, goOn_all, guardP, guardO, notInO, stepF, stepLd, stepSt, stepIxs, stepIxa, stepLen, stepApp, stepCpy, stepPick, stepSls, stepSst, stepSla, bareZ, evX, evL, evB, rd, get, subG, memG, freshG, notInG, hyps, gob, impP, allP, partD, partOf, isOne, isPtr, nth, takeN, dropN, cellsD, lenB, fillD, thirds, entN, setE, sizeE, addE, setL, setN, putE, env0, eqCs, eqAux, eqC, bA, bO, bN, bE, negB, kEq, isShr, lendL, lend, frz, frzL, zRow, closed, closedL, rowsOf, binI, retK, retG, atRet, retD, lendO, resL, resD, oneD, renD, renL, renE, renEs, rho, putAll, entsN, List.append, List.nil_append, List.cons_append, List.append_nil, cond, Nat.reduceBEq, Nat.reduceAdd, Nat.beq]
  refine prm_all _ (pr_eqn (e := 37) tLs false) ?_
  rintro d bx' ⟨rfl, b, rfl, hb⟩
  dsimp only [run_skip, run_reg, plainB, ifB_true, run_seq, run_blk, run_exit, run_ret, run_ite, iteR, regK, thenK_nrm, thenK_exit, thenK_ret, thenR_nrm, thenR_exit, thenR_ret, blkK, keepS, keepE, runOps_nil, runOps_cons, goG_some, fpOk, foot, entOf, allN, memN, goOn_ok, goOn_call, goOn_row, goOn_arr, goOn_ask, goOn_put, goOn_prm, goOn_callK, goOn_callC, goOn_all, guardP, guardO, notInO, stepF, stepLd, stepSt, stepIxs, stepIxa, stepLen, stepApp, stepCpy, stepPick, stepSls, stepSst, stepSla, bareZ, evX, evL, evB, rd, get, subG, memG, freshG, notInG, hyps, gob, impP, allP, partD, partOf, isOne, isPtr, nth, takeN, dropN, cellsD, lenB, fillD, thirds, entN, setE, sizeE, addE, setL, setN, putE, env0, eqCs, eqAux, eqC, bA, bO, bN, bE, negB, kEq, isShr, lendL, lend, frz, frzL, zRow, closed, closedL, rowsOf, binI, retK, retG, atRet, retD, lendO, resL, resD, oneD, renD, renL, renE, renEs, rho, putAll, entsN, List.append, List.nil_append, List.cons_append, List.append_nil, cond, Nat.reduceBEq, Nat.reduceAdd, Nat.beq]
  refine ⟨fun h => ?_, fun h => ?_⟩
  · have : b = true := by simpa using h
    rw [hb this]
    exact ⟨rfl, rfl⟩
  · refine ⟨⟨rfl, rfl, rfl, rfl, by rw [iL_len]; simp; omega⟩, ?_⟩
    exact ⟨rfl, by simp⟩

/-- .. as one's own. -/
theorem sm_slices_Clone {l : List Int} (hl : l.length < 1000000) : TSpM 29 [.ls 1 (iL l)] [] (.own 0 1) [.arr 37 1 1 (iL l)] := by
  refine spm_slices_Clone_api_ID_api_ID (by rfl) ?_
  dsimp only [c_slices_Clone_api_ID_api_ID, r_slices_Clone_api_ID_api_ID, run_skip, run_reg, plainB, ifB_true, run_seq, run_blk, run_exit, run_ret, run_ite, iteR, regK, thenK_nrm, thenK_exit, thenK_ret, thenR_nrm, thenR_exit, thenR_ret, blkK, keepS, keepE, runOps_nil, runOps_cons, goG_some, fpOk, foot, entOf, allN, memN, goOn_ok, goOn_call, goOn_row, goOn_arr, goOn_ask, goOn_put, goOn_prm, goOn_callK, goOn_callC, goOn_all, guardP, guardO, notInO, stepF, stepLd, stepSt, stepIxs, stepIxa, stepLen, stepApp, stepCpy, stepPick, stepSls, stepSst, stepSla, bareZ, evX, evL, evB, rd, get, subG, memG, freshG, notInG, hyps, gob, impP, allP, partD, partOf, isOne, isPtr, nth, takeN, dropN, cellsD, lenB, fillD, thirds, entN, setE, sizeE, addE, setL, setN, putE, env0, eqCs, eqAux, eqC, bA, bO, bN, bE, negB, kEq, isShr, lendL, lend, frz, frzL, zRow, closed, closedL, rowsOf, binI, retK, retG, atRet, retD, lendO, resL, resD, oneD, renD, renL, renE, renEs, rho, putAll, entsN, List.append, List.nil_append, List.cons_append, List.append_nil, cond, Nat.reduceBEq, Nat.reduceAdd, Nat.beq]
  refine prm_all _ (pr_eqn (e := 37) tLs false) ?_
  rintro d bx' ⟨rfl, b, rfl, hb⟩
  dsimp only [run_skip, run_reg, plainB, ifB_true, run_seq, run_blk, run_exit, run_ret, run_ite, iteR, regK, thenK_nrm, thenK_exit, thenK_ret, thenR_nrm, thenR_exit, thenR_ret, blkK, keepS, keepE, runOps_nil, runOps_cons, goG_some, fpOk, foot, entOf, allN, memN, goOn_ok, goOn_call, goOn_row, goOn_arr, goOn_ask, goOn_put, goOn_prm, goOn_callK, goOn_callC, goOn_all, guardP, guardO, notInO, stepF, stepLd, stepSt, stepIxs, stepIxa, stepLen, stepApp, stepCpy, stepPick, stepSls, stepSst, stepSla, bareZ, evX, evL, evB, rd, get, subG, memG, freshG, notInG, hyps, gob, impP, allP, partD, partOf, isOne, isPtr, nth, takeN, dropN, cellsD, lenB, fillD, thirds, entN, setE, sizeE, addE, setL, setN, putE, env0, eqCs, eqAux, eqC, bA, bO, bN, bE, negB, kEq, isShr, lendL, lend, frz, frzL, zRow, closed, closedL, rowsOf, binI, retK, retG, atRet, retD, lendO, resL, resD, oneD, renD, renL, renE, renEs, rho, putAll, entsN, List.append, List.nil_append, List.cons_append, List.append_nil, cond, Nat.reduceBEq, Nat.reduceAdd, Nat.beq]
  refine ⟨fun h => ?_, fun h => ?_⟩
  · have : b = true := by simpa using h
    rw [hb this]
    exact Rt.row rfl
  · refine ⟨⟨rfl, rfl, rfl, rfl, by rw [iL_len]; simp; omega⟩, ?_⟩
    exact Rt.row rfl
end Go.AM
