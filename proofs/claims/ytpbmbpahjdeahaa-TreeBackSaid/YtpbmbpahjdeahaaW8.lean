
/- The tree: Below, Remove. -/
import Derived.Test.YtpbmbpahjdeahaaW7
set_option linter.all false
namespace Go.AM
open Go Go.Proofs

def belowF (K : Int → List Int) : Nat → Int → List Int
  | 0, _ => []
  | n + 1, id => id :: (K id).flatMap (belowF K n)
def afterF (K : Int → List Int) : Nat → Int → List Int
  | 0, _ => []
  | n + 1, id => (K id).flatMap (afterF K n) ++ [id]
/-- No way down from here is longer. -/
def Hg (K : Int → List Int) : Nat → Int → Prop
  | 0, _ => False
  | n + 1, id => ∀ k ∈ K id, Hg K n k
theorem flatMap_take {f : Int → List Int} {l : List Int} {i : Nat} (h : i < l.length) : (l.take (i + 1)).flatMap f = (l.take i).flatMap f ++ f l[i] := by
  rw [List.take_succ_eq_append_getElem h, List.flatMap_append]; simp
theorem flatMap_take_le {f : Int → List Int} {l : List Int} {i : Nat} : ((l.take i).flatMap f).length ≤ (l.flatMap f).length := by
  have : (l.take i ++ l.drop i).flatMap f = l.flatMap f := by rw [List.take_append_drop]
  rw [← this, List.flatMap_append, List.length_append]; omega
theorem after_len (K : Int → List Int) : ∀ n id, (afterF K n id).length = (belowF K n id).length
  | 0, _ => rfl
  | n + 1, id => by
    simp only [afterF, belowF, List.length_append, List.length_cons, List.length_nil, List.length_flatMap]
    have : (K id).map (fun a => (afterF K n a).length) = (K id).map fun a => (belowF K n a).length := List.map_congr_left fun a _ => after_len K n a
    rw [this]

def stBe (t : TT) (id : Int) (out : List Int) (v n i : Nat) : St :=
  ⟨[(3, [], .box 3 0), (14, [], .ls 1 (iL (kidsT t id))), (15, [], .int .i64 (kidsT t id).length), (16, [], .int .i64 i)],
   [.cells [.own 1 (v + 1 + (((kidsT t id).take i).flatMap (belowF (kidsT t) n)).length)], .arr 28 1 (v + 1 + (((kidsT t id).take i).flatMap (belowF (kidsT t) n)).length) (iL (out ++ [id] ++ ((kidsT t id).take i).flatMap (belowF (kidsT t) n))),
    .cells [mpD .u32 (kKV t.kids), mpD .u32 (uKV t.up)], .cells [.fn 35 [.box 0 0, .box 2 0, .box 3 0]]]⟩
theorem sm_tree_Below_1 {t : TT} (h : t.Ok) : ∀ (n : Nat) (id : Int), Hg (kidsT t) n id → ∀ (out : List Int) (v : Nat), out.length + (belowF (kidsT t) n id).length < 1000000 →
    TSpM 35 [.int .u32 id, .box 0 0, .box 2 0, .box 3 0] [.cells [.own 1 v], .arr 28 1 v (iL out), .cells [mpD .u32 (kKV t.kids), mpD .u32 (uKV t.up)], .cells [.fn 35 [.box 0 0, .box 2 0, .box 3 0]]] (.tup [])
      [.cells [.own 1 (v + (belowF (kidsT t) n id).length)], .arr 28 1 (v + (belowF (kidsT t) n id).length) (iL (out ++ belowF (kidsT t) n id)), .cells [mpD .u32 (kKV t.kids), mpD .u32 (uKV t.up)], .cells [.fn 35 [.box 0 0, .box 2 0, .box 3 0]]]
  | 0, _, hg, _, _, _ => hg.elim
  | n + 1, id, hg, out, v, hb => by
    have hkl := h.kl id
    simp only [belowF, List.length_cons] at hb ⊢
    refine spm_tree_Tree_Below_1 (by rfl) ?_
    dsimp only [c_tree_Tree_Below_1, r_tree_Tree_Below_1, run_skip, run_reg, plainB, ifB_true, run_seq, run_blk, run_exit, run_ret, run_ite, iteR, regK, thenK_nrm, thenK_exit, thenK_ret, thenR_nrm, thenR_exit, thenR_ret, blkK, keepS, keepE, runOps_nil, runOps_cons, goG_some, fpOk, foot, entOf, allN, memN, goOn_ok, goOn_call, goOn_row, goOn_arr, goOn_ask, goOn_put, goOn_prm, goOn_callK, goOn_callC, goOn_all, guardP, guardO, notInO, stepF, stepLd, stepSt, stepIxs, stepIxa, stepLen, stepApp, stepCpy, stepPick, stepSls, stepSst, stepSla, bareZ, evX, evL, evB, rd, get, subG, memG, freshG, notInG, hyps, gob, impP, allP, partD, partOf, isOne, isPtr, nth, takeN, dropN, cellsD, lenB, fillD, thirds, entN, setE, sizeE, addE, setL, setN, putE, env0, eqCs, eqAux, eqC, bA, bO, bN, bE, negB, kEq, isShr, lendL, lend, frz, frzL, zRow, closed, closedL, rowsOf, binI, retK, retG, atRet, retD, lendO, resL, resD, oneD, renD, renL, renE, renEs, rho, putAll, entsN, List.append, List.nil_append, List.cons_append, List.append_nil, cond, Nat.reduceBEq, Nat.reduceAdd, Nat.beq]
    refine ⟨⟨rfl, rfl, rfl, rfl, by rw [iL_len]; simp; omega⟩, ?_⟩
    rw [show iL out ++ [D.int .u32 id] = iL (out ++ [id]) from iL_app out [id]]
    have hk := pr_kids (bx := [.cells [.own 1 (v + 1)], .arr 28 1 (v + 1) (iL (out ++ [id])), .cells [mpD .u32 (kKV t.kids), mpD .u32 (uKV t.up)], .cells [.fn 35 [.box 0 0, .box 2 0, .box 3 0]]]) h.kn id
    refine prm_look _ hk ?_
    rw [show (lk t.kids id).getD [] = kidsT t id from rfl]
    dsimp only [run_skip, run_reg, plainB, ifB_true, run_seq, run_blk, run_exit, run_ret, run_ite, iteR, regK, thenK_nrm, thenK_exit, thenK_ret, thenR_nrm, thenR_exit, thenR_ret, blkK, keepS, keepE, runOps_nil, runOps_cons, goG_some, fpOk, foot, entOf, allN, memN, goOn_ok, goOn_call, goOn_row, goOn_arr, goOn_ask, goOn_put, goOn_prm, goOn_callK, goOn_callC, goOn_all, guardP, guardO, notInO, stepF, stepLd, stepSt, stepIxs, stepIxa, stepLen, stepApp, stepCpy, stepPick, stepSls, stepSst, stepSla, bareZ, evX, evL, evB, rd, get, subG, memG, freshG, notInG, hyps, gob, impP, allP, partD, partOf, isOne, isPtr, nth, takeN, dropN, cellsD, lenB, fillD, thirds, entN, setE, sizeE, addE, setL, setN, putE, env0, eqCs, eqAux, eqC, bA, bO, bN, bE, negB, kEq, isShr, lendL, lend, frz, frzL, zRow, closed, closedL, rowsOf, binI, retK, retG, atRet, retD, lendO, resL, resD, oneD, renD, renL, renE, renEs, rho, putAll, entsN, List.append, List.nil_append, List.cons_append, List.append_nil, cond, Nat.reduceBEq, Nat.reduceAdd, Nat.beq]
    rw [iL_len]
    refine loop_ind (α := {i : Nat // i ≤ (kidsT t id).length}) (fun i => stBe t id out v n i.1) (fun i => (kidsT t id).length - i.1) ?_ ⟨0, by simp⟩ (by simp [stBe])
    rintro ⟨i, hi⟩ I ih
    dsimp only [stBe, run_skip, run_reg, plainB, ifB_true, run_seq, run_blk, run_exit, run_ret, run_ite, iteR, regK, thenK_nrm, thenK_exit, thenK_ret, thenR_nrm, thenR_exit, thenR_ret, blkK, keepS, keepE, runOps_nil, runOps_cons, goG_some, fpOk, foot, entOf, allN, memN, goOn_ok, goOn_call, goOn_row, goOn_arr, goOn_ask, goOn_put, goOn_prm, goOn_callK, goOn_callC, goOn_all, guardP, guardO, notInO, stepF, stepLd, stepSt, stepIxs, stepIxa, stepLen, stepApp, stepCpy, stepPick, stepSls, stepSst, stepSla, bareZ, evX, evL, evB, rd, get, subG, memG, freshG, notInG, hyps, gob, impP, allP, partD, partOf, isOne, isPtr, nth, takeN, dropN, cellsD, lenB, fillD, thirds, entN, setE, sizeE, addE, setL, setN, putE, env0, eqCs, eqAux, eqC, bA, bO, bN, bE, negB, kEq, isShr, lendL, lend, frz, frzL, zRow, closed, closedL, rowsOf, binI, retK, retG, atRet, retD, lendO, resL, resD, oneD, renD, renL, renE, renEs, rho, putAll, entsN, List.append, List.nil_append, List.cons_append, List.append_nil, cond, Nat.reduceBEq, Nat.reduceAdd, Nat.beq]
    refine ⟨fun hj => ?_, fun hj => ?_⟩
    · have hj : i < (kidsT t id).length := by simp at hj; omega
      refine ⟨⟨rfl, by omega, by rw [iL_len]; omega⟩, row_intro _ _ (iL_at hj) rfl ?_⟩
      dsimp only [run_skip, run_reg, plainB, ifB_true, run_seq, run_blk, run_exit, run_ret, run_ite, iteR, regK, thenK_nrm, thenK_exit, thenK_ret, thenR_nrm, thenR_exit, thenR_ret, blkK, keepS, keepE, runOps_nil, runOps_cons, goG_some, fpOk, foot, entOf, allN, memN, goOn_ok, goOn_call, goOn_row, goOn_arr, goOn_ask, goOn_put, goOn_prm, goOn_callK, goOn_callC, goOn_all, guardP, guardO, notInO, stepF, stepLd, stepSt, stepIxs, stepIxa, stepLen, stepApp, stepCpy, stepPick, stepSls, stepSst, stepSla, bareZ, evX, evL, evB, rd, get, subG, memG, freshG, notInG, hyps, gob, impP, allP, partD, partOf, isOne, isPtr, nth, takeN, dropN, cellsD, lenB, fillD, thirds, entN, setE, sizeE, addE, setL, setN, putE, env0, eqCs, eqAux, eqC, bA, bO, bN, bE, negB, kEq, isShr, lendL, lend, frz, frzL, zRow, closed, closedL, rowsOf, binI, retK, retG, atRet, retD, lendO, resL, resD, oneD, renD, renL, renE, renEs, rho, putAll, entsN, List.append, List.nil_append, List.cons_append, List.append_nil, cond, Nat.reduceBEq, Nat.reduceAdd, Nat.beq]
      have hft := flatMap_take (f := belowF (kidsT t) n) hj
      have hle := flatMap_take_le (f := belowF (kidsT t) n) (l := kidsT t id) (i := i + 1)
      rw [hft, List.length_append] at hle
      have hrec := sm_tree_Below_1 h n _ (hg _ (List.getElem_mem hj)) (out ++ [id] ++ ((kidsT t id).take i).flatMap (belowF (kidsT t) n)) (v + 1 + (((kidsT t id).take i).flatMap (belowF (kidsT t) n)).length) (by simp only [List.length_append, List.length_cons, List.length_nil]; omega)
      refine call_own [0, 1, 2, 3] hrec rfl rfl ?_
      dsimp only [run_skip, run_reg, plainB, ifB_true, run_seq, run_blk, run_exit, run_ret, run_ite, iteR, regK, thenK_nrm, thenK_exit, thenK_ret, thenR_nrm, thenR_exit, thenR_ret, blkK, keepS, keepE, runOps_nil, runOps_cons, goG_some, fpOk, foot, entOf, allN, memN, goOn_ok, goOn_call, goOn_row, goOn_arr, goOn_ask, goOn_put, goOn_prm, goOn_callK, goOn_callC, goOn_all, guardP, guardO, notInO, stepF, stepLd, stepSt, stepIxs, stepIxa, stepLen, stepApp, stepCpy, stepPick, stepSls, stepSst, stepSla, bareZ, evX, evL, evB, rd, get, subG, memG, freshG, notInG, hyps, gob, impP, allP, partD, partOf, isOne, isPtr, nth, takeN, dropN, cellsD, lenB, fillD, thirds, entN, setE, sizeE, addE, setL, setN, putE, env0, eqCs, eqAux, eqC, bA, bO, bN, bE, negB, kEq, isShr, lendL, lend, frz, frzL, zRow, closed, closedL, rowsOf, binI, retK, retG, atRet, retD, lendO, resL, resD, oneD, renD, renL, renE, renEs, rho, putAll, entsN, List.append, List.nil_append, List.cons_append, List.append_nil, cond, Nat.reduceBEq, Nat.reduceAdd, Nat.beq]
      refine ⟨by simp only [fits]; omega, ?_⟩
      have e1 : out ++ [id] ++ ((kidsT t id).take i).flatMap (belowF (kidsT t) n) ++ belowF (kidsT t) n (kidsT t id)[i] = out ++ [id] ++ ((kidsT t id).take (i + 1)).flatMap (belowF (kidsT t) n) := by rw [hft]; simp
      have e2 : v + 1 + (((kidsT t id).take i).flatMap (belowF (kidsT t) n)).length + (belowF (kidsT t) n (kidsT t id)[i]).length = v + 1 + (((kidsT t id).take (i + 1)).flatMap (belowF (kidsT t) n)).length := by rw [hft, List.length_append]; omega
      rw [e1, e2]
      exact again (ih ⟨i + 1, by omega⟩ (by dsimp only; omega)) ⟨rfl, rfl, rfl, rfl, trivial⟩ ⟨rfl, rfl, rfl, rfl, trivial⟩ rfl rfl
    · have hj : i = (kidsT t id).length := by simp at hj; omega
      subst hj
      rw [List.take_length]
      rw [show v + 1 + ((kidsT t id).flatMap (belowF (kidsT t) n)).length = v + (((kidsT t id).flatMap (belowF (kidsT t) n)).length + 1) by omega, show out ++ [id] ++ (kidsT t id).flatMap (belowF (kidsT t) n) = out ++ id :: (kidsT t id).flatMap (belowF (kidsT t) n) by simp]
      exact Rt.cut (Nat.le_refl _) ⟨rfl, rfl, rfl, rfl, trivial⟩ rfl rfl

theorem sp_tree_Below_no {t : TT} (h : t.Ok) {id : Int} (hh : hasT t id = false) : TSp 14 [tD t, .int .u32 id] (.ls 1 []) := by
  refine spo_tree_Tree_Below (by rfl) ?_
  dsimp only [c_tree_Tree_Below, r_tree_Tree_Below, run_skip, run_reg, plainB, ifB_true, run_seq, run_blk, run_exit, run_ret, run_ite, iteR, regK, thenK_nrm, thenK_exit, thenK_ret, thenR_nrm, thenR_exit, thenR_ret, blkK, keepS, keepE, runOps_nil, runOps_cons, goG_some, fpOk, foot, entOf, allN, memN, goOn_ok, goOn_call, goOn_row, goOn_arr, goOn_ask, goOn_put, goOn_prm, goOn_callK, goOn_callC, goOn_all, guardP, guardO, notInO, stepF, stepLd, stepSt, stepIxs, stepIxa, stepLen, stepApp, stepCpy, stepPick, stepSls, stepSst, stepSla, bareZ, evX, evL, evB, rd, get, subG, memG, freshG, notInG, hyps, gob, impP, allP, partD, partOf, isOne, isPtr, nth, takeN, dropN, cellsD, lenB, fillD, thirds, entN, setE, sizeE, addE, setL, setN, putE, env0, eqCs, eqAux, eqC, bA, bO, bN, bE, negB, kEq, isShr, lendL, lend, frz, frzL, zRow, closed, closedL, rowsOf, binI, retK, retG, atRet, retD, lendO, resL, resD, oneD, renD, renL, renE, renEs, rho, putAll, entsN, List.append, List.nil_append, List.cons_append, List.append_nil, cond, Nat.reduceBEq, Nat.reduceAdd, Nat.beq]
  rw [show tD t = .agg [mpD .u32 (kKV t.kids), mpD .u32 (uKV t.up)] from rfl]
  dsimp only [run_skip, run_reg, plainB, ifB_true, run_seq, run_blk, run_exit, run_ret, run_ite, iteR, regK, thenK_nrm, thenK_exit, thenK_ret, thenR_nrm, thenR_exit, thenR_ret, blkK, keepS, keepE, runOps_nil, runOps_cons, goG_some, fpOk, foot, entOf, allN, memN, goOn_ok, goOn_call, goOn_row, goOn_arr, goOn_ask, goOn_put, goOn_prm, goOn_callK, goOn_callC, goOn_all, guardP, guardO, notInO, stepF, stepLd, stepSt, stepIxs, stepIxa, stepLen, stepApp, stepCpy, stepPick, stepSls, stepSst, stepSla, bareZ, evX, evL, evB, rd, get, subG, memG, freshG, notInG, hyps, gob, impP, allP, partD, partOf, isOne, isPtr, nth, takeN, dropN, cellsD, lenB, fillD, thirds, entN, setE, sizeE, addE, setL, setN, putE, env0, eqCs, eqAux, eqC, bA, bO, bN, bE, negB, kEq, isShr, lendL, lend, frz, frzL, zRow, closed, closedL, rowsOf, binI, retK, retG, atRet, retD, lendO, resL, resD, oneD, renD, renL, renE, renEs, rho, putAll, entsN, List.append, List.nil_append, List.cons_append, List.append_nil, cond, Nat.reduceBEq, Nat.reduceAdd, Nat.beq]
  refine call_pure (sp_tree_Has h id) ?_
  rw [hh]
  dsimp only [run_skip, run_reg, plainB, ifB_true, run_seq, run_blk, run_exit, run_ret, run_ite, iteR, regK, thenK_nrm, thenK_exit, thenK_ret, thenR_nrm, thenR_exit, thenR_ret, blkK, keepS, keepE, runOps_nil, runOps_cons, goG_some, fpOk, foot, entOf, allN, memN, goOn_ok, goOn_call, goOn_row, goOn_arr, goOn_ask, goOn_put, goOn_prm, goOn_callK, goOn_callC, goOn_all, guardP, guardO, notInO, stepF, stepLd, stepSt, stepIxs, stepIxa, stepLen, stepApp, stepCpy, stepPick, stepSls, stepSst, stepSla, bareZ, evX, evL, evB, rd, get, subG, memG, freshG, notInG, hyps, gob, impP, allP, partD, partOf, isOne, isPtr, nth, takeN, dropN, cellsD, lenB, fillD, thirds, entN, setE, sizeE, addE, setL, setN, putE, env0, eqCs, eqAux, eqC, bA, bO, bN, bE, negB, kEq, isShr, lendL, lend, frz, frzL, zRow, closed, closedL, rowsOf, binI, retK, retG, atRet, retD, lendO, resL, resD, oneD, renD, renL, renE, renEs, rho, putAll, entsN, List.append, List.nil_append, List.cons_append, List.append_nil, cond, Nat.reduceBEq, Nat.reduceAdd, Nat.beq]
  exact ⟨fun _ => ⟨rfl, rfl⟩, nofun⟩
theorem sp_tree_Below {t : TT} (h : t.Ok) {id : Int} (hh : hasT t id = true) {n : Nat} (hg : Hg (kidsT t) n id) (hb : (belowF (kidsT t) n id).length < 1000000) : TSp 14 [tD t, .int .u32 id] (.ls 1 (iL (belowF (kidsT t) n id))) := by
  refine spo_tree_Tree_Below (by rfl) ?_
  dsimp only [c_tree_Tree_Below, r_tree_Tree_Below, run_skip, run_reg, plainB, ifB_true, run_seq, run_blk, run_exit, run_ret, run_ite, iteR, regK, thenK_nrm, thenK_exit, thenK_ret, thenR_nrm, thenR_exit, thenR_ret, blkK, keepS, keepE, runOps_nil, runOps_cons, goG_some, fpOk, foot, entOf, allN, memN, goOn_ok, goOn_call, goOn_row, goOn_arr, goOn_ask, goOn_put, goOn_prm, goOn_callK, goOn_callC, goOn_all, guardP, guardO, notInO, stepF, stepLd, stepSt, stepIxs, stepIxa, stepLen, stepApp, stepCpy, stepPick, stepSls, stepSst, stepSla, bareZ, evX, evL, evB, rd, get, subG, memG, freshG, notInG, hyps, gob, impP, allP, partD, partOf, isOne, isPtr, nth, takeN, dropN, cellsD, lenB, fillD, thirds, entN, setE, sizeE, addE, setL, setN, putE, env0, eqCs, eqAux, eqC, bA, bO, bN, bE, negB, kEq, isShr, lendL, lend, frz, frzL, zRow, closed, closedL, rowsOf, binI, retK, retG, atRet, retD, lendO, resL, resD, oneD, renD, renL, renE, renEs, rho, putAll, entsN, List.append, List.nil_append, List.cons_append, List.append_nil, cond, Nat.reduceBEq, Nat.reduceAdd, Nat.beq]
  rw [show tD t = .agg [mpD .u32 (kKV t.kids), mpD .u32 (uKV t.up)] from rfl]
  dsimp only [run_skip, run_reg, plainB, ifB_true, run_seq, run_blk, run_exit, run_ret, run_ite, iteR, regK, thenK_nrm, thenK_exit, thenK_ret, thenR_nrm, thenR_exit, thenR_ret, blkK, keepS, keepE, runOps_nil, runOps_cons, goG_some, fpOk, foot, entOf, allN, memN, goOn_ok, goOn_call, goOn_row, goOn_arr, goOn_ask, goOn_put, goOn_prm, goOn_callK, goOn_callC, goOn_all, guardP, guardO, notInO, stepF, stepLd, stepSt, stepIxs, stepIxa, stepLen, stepApp, stepCpy, stepPick, stepSls, stepSst, stepSla, bareZ, evX, evL, evB, rd, get, subG, memG, freshG, notInG, hyps, gob, impP, allP, partD, partOf, isOne, isPtr, nth, takeN, dropN, cellsD, lenB, fillD, thirds, entN, setE, sizeE, addE, setL, setN, putE, env0, eqCs, eqAux, eqC, bA, bO, bN, bE, negB, kEq, isShr, lendL, lend, frz, frzL, zRow, closed, closedL, rowsOf, binI, retK, retG, atRet, retD, lendO, resL, resD, oneD, renD, renL, renE, renEs, rho, putAll, entsN, List.append, List.nil_append, List.cons_append, List.append_nil, cond, Nat.reduceBEq, Nat.reduceAdd, Nat.beq]
  refine call_pure (sp_tree_Has h id) ?_
  rw [hh]
  dsimp only [run_skip, run_reg, plainB, ifB_true, run_seq, run_blk, run_exit, run_ret, run_ite, iteR, regK, thenK_nrm, thenK_exit, thenK_ret, thenR_nrm, thenR_exit, thenR_ret, blkK, keepS, keepE, runOps_nil, runOps_cons, goG_some, fpOk, foot, entOf, allN, memN, goOn_ok, goOn_call, goOn_row, goOn_arr, goOn_ask, goOn_put, goOn_prm, goOn_callK, goOn_callC, goOn_all, guardP, guardO, notInO, stepF, stepLd, stepSt, stepIxs, stepIxa, stepLen, stepApp, stepCpy, stepPick, stepSls, stepSst, stepSla, bareZ, evX, evL, evB, rd, get, subG, memG, freshG, notInG, hyps, gob, impP, allP, partD, partOf, isOne, isPtr, nth, takeN, dropN, cellsD, lenB, fillD, thirds, entN, setE, sizeE, addE, setL, setN, putE, env0, eqCs, eqAux, eqC, bA, bO, bN, bE, negB, kEq, isShr, lendL, lend, frz, frzL, zRow, closed, closedL, rowsOf, binI, retK, retG, atRet, retD, lendO, resL, resD, oneD, renD, renL, renE, renEs, rho, putAll, entsN, List.append, List.nil_append, List.cons_append, List.append_nil, cond, Nat.reduceBEq, Nat.reduceAdd, Nat.beq]
  refine ⟨nofun, fun _ => ?_⟩
  refine call_own [2, 3, 0, 4] (sm_tree_Below_1 h n id hg [] 0 (by simpa using hb)) rfl rfl ?_
  dsimp only [run_skip, run_reg, plainB, ifB_true, run_seq, run_blk, run_exit, run_ret, run_ite, iteR, regK, thenK_nrm, thenK_exit, thenK_ret, thenR_nrm, thenR_exit, thenR_ret, blkK, keepS, keepE, runOps_nil, runOps_cons, goG_some, fpOk, foot, entOf, allN, memN, goOn_ok, goOn_call, goOn_row, goOn_arr, goOn_ask, goOn_put, goOn_prm, goOn_callK, goOn_callC, goOn_all, guardP, guardO, notInO, stepF, stepLd, stepSt, stepIxs, stepIxa, stepLen, stepApp, stepCpy, stepPick, stepSls, stepSst, stepSla, bareZ, evX, evL, evB, rd, get, subG, memG, freshG, notInG, hyps, gob, impP, allP, partD, partOf, isOne, isPtr, nth, takeN, dropN, cellsD, lenB, fillD, thirds, entN, setE, sizeE, addE, setL, setN, putE, env0, eqCs, eqAux, eqC, bA, bO, bN, bE, negB, kEq, isShr, lendL, lend, frz, frzL, zRow, closed, closedL, rowsOf, binI, retK, retG, atRet, retD, lendO, resL, resD, oneD, renD, renL, renE, renEs, rho, putAll, entsN, List.append, List.nil_append, List.cons_append, List.append_nil, cond, Nat.reduceBEq, Nat.reduceAdd, Nat.beq]
  exact ⟨rfl, by simp⟩
end Go.AM
