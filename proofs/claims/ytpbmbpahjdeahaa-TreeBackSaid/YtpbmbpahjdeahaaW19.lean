
/- Chapter 28: trees that are grown. -/
import Derived.Test.YtpbmbpahjdeahaaW18
set_option linter.all false
namespace Go.AM
open Go Go.Proofs

def growN (l : List Act8) : Nodes := l.foldl (fun L a => (doN L a).1) []
theorem growN_snoc (l : List Act8) (a : Act8) : growN (l ++ [a]) = (doN (growN l) a).1 := by simp [growN]
theorem sp_law28_grown_no {l : List Act8} (hl : 60 < l.length) : TSp 15 [.ls 4 (acL l)] (.tup [tD ⟨[], []⟩, .ls 2 (nD []), .bool false]) := by
  refine spo_law28_grown (by rfl) ?_
  dsimp only [c_law28_grown, r_law28_grown, run_skip, run_reg, plainB, ifB_true, run_seq, run_blk, run_exit, run_ret, run_ite, iteR, regK, thenK_nrm, thenK_exit, thenK_ret, thenR_nrm, thenR_exit, thenR_ret, blkK, keepS, keepE, runOps_nil, runOps_cons, goG_some, fpOk, foot, entOf, allN, memN, goOn_ok, goOn_call, goOn_row, goOn_arr, goOn_ask, goOn_put, goOn_prm, goOn_callK, goOn_callC, goOn_all, guardP, guardO, notInO, stepF, stepLd, stepSt, stepIxs, stepIxa, stepLen, stepApp, stepCpy, stepPick, stepSls, stepSst, stepSla, bareZ, evX, evL, evB, rd, get, subG, memG, freshG, notInG, hyps, gob, impP, allP, partD, partOf, isOne, isPtr, nth, takeN, dropN, cellsD, lenB, fillD, thirds, entN, setE, sizeE, addE, setL, setN, putE, env0, eqCs, eqAux, eqC, bA, bO, bN, bE, negB, kEq, isShr, lendL, lend, frz, frzL, zRow, closed, closedL, rowsOf, binI, retK, retG, atRet, retD, lendO, resL, resD, oneD, renD, renL, renE, renEs, rho, putAll, entsN, List.append, List.nil_append, List.cons_append, List.append_nil, cond, Nat.reduceBEq, Nat.reduceAdd, Nat.beq]
  refine call_pure sp_tree_New ?_
  rw [tD_eq]
  dsimp only [run_skip, run_reg, plainB, ifB_true, run_seq, run_blk, run_exit, run_ret, run_ite, iteR, regK, thenK_nrm, thenK_exit, thenK_ret, thenR_nrm, thenR_exit, thenR_ret, blkK, keepS, keepE, runOps_nil, runOps_cons, goG_some, fpOk, foot, entOf, allN, memN, goOn_ok, goOn_call, goOn_row, goOn_arr, goOn_ask, goOn_put, goOn_prm, goOn_callK, goOn_callC, goOn_all, guardP, guardO, notInO, stepF, stepLd, stepSt, stepIxs, stepIxa, stepLen, stepApp, stepCpy, stepPick, stepSls, stepSst, stepSla, bareZ, evX, evL, evB, rd, get, subG, memG, freshG, notInG, hyps, gob, impP, allP, partD, partOf, isOne, isPtr, nth, takeN, dropN, cellsD, lenB, fillD, thirds, entN, setE, sizeE, addE, setL, setN, putE, env0, eqCs, eqAux, eqC, bA, bO, bN, bE, negB, kEq, isShr, lendL, lend, frz, frzL, zRow, closed, closedL, rowsOf, binI, retK, retG, atRet, retD, lendO, resL, resD, oneD, renD, renL, renE, renEs, rho, putAll, entsN, List.append, List.nil_append, List.cons_append, List.append_nil, cond, Nat.reduceBEq, Nat.reduceAdd, Nat.beq]
  rw [acL_len]
  refine ⟨fun _ => ⟨rfl, rfl⟩, fun h => by simp at h; omega⟩
structure GrX where
  i : Nat
  t : TT
  own : Bool
def stGr (l : List Act8) (x : GrX) : St := ⟨[(2, [], .box 0 0), (5, [], .box 2 0), (6, [], cond x.own (.own 3 0) (.ls 2 (nD (growN (l.take x.i))))), (15, [], .ls 4 (acL l)), (16, [], .int .i64 l.length), (17, [], .int .i64 x.i)],
  [.cells [.mp [] [], .mp [] []], .arr 67 2 0 [], .cells [mpD .u32 (kKV x.t.kids), mpD .u32 (uKV x.t.up)], cond x.own (.arr 67 2 0 []) .gone]⟩
theorem sp_law28_grown {l : List Act8} (hl : l.length ≤ 60) (ha : ∀ a ∈ l, a.Ok) : ∃ t, WF (growN l) ∧ Rel t (growN l) ∧ TSp 15 [.ls 4 (acL l)] (.tup [tD t, .ls 2 (nD (growN l)), .bool true]) := by
  -- the trees, one by one
  have hex : ∀ i, i ≤ l.length → ∃ f : Nat → TT, f 0 = ⟨[], []⟩ ∧ ∀ j, j ≤ i → WF (growN (l.take j)) ∧ Rel (f j) (growN (l.take j)) ∧ ∀ hj : j < l.length, j < i → TSp 27 [tD (f j), acD l[j]] (.tup [tD (f (j + 1)), .ls 1 (iL (doN (growN (l.take j)) l[j]).2.1), .int .i64 (doN (growN (l.take j)) l[j]).2.2]) := by
    intro i
    induction i with
    | zero => exact fun _ => ⟨fun _ => ⟨[], []⟩, rfl, fun j hj => by
        have : j = 0 := by omega
        subst this
        exact ⟨wf_new, rel_new, fun _ h => by omega⟩⟩
    | succ i ih =>
      intro hi
      obtain ⟨f, h0, hf⟩ := ih (by omega)
      have hil : i < l.length := by omega
      obtain ⟨hw, hr, _⟩ := hf i (Nat.le_refl _)
      obtain ⟨t', h1, h2, h3, _⟩ := step_Do hw hr (ha _ (List.getElem_mem hil))
      have hg : growN (l.take (i + 1)) = (doN (growN (l.take i)) l[i]).1 := by rw [List.take_succ_eq_append_getElem hil, growN_snoc]
      refine ⟨fun j => if j = i + 1 then t' else f j, by simp [h0], fun j hj => ?_⟩
      by_cases e : j = i + 1
      · subst e
        dsimp only
        rw [if_pos rfl, hg]
        exact ⟨h1, h2, fun _ h => by omega⟩
      · obtain ⟨q1, q2, q3⟩ := hf j (by omega)
        dsimp only
        rw [if_neg e]
        refine ⟨q1, q2, fun hjl hji => ?_⟩
        by_cases e2 : j = i
        · subst e2
          rw [if_pos rfl]; exact h3
        · rw [if_neg (by omega)]
          exact q3 hjl (by omega)
  obtain ⟨f, h0, hf⟩ := hex l.length (Nat.le_refl _)
  obtain ⟨hw, hr, _⟩ := hf l.length (Nat.le_refl _)
  rw [List.take_length] at hw hr
  refine ⟨f l.length, hw, hr, ?_⟩
  refine spo_law28_grown (by rfl) ?_
  dsimp only [c_law28_grown, r_law28_grown, run_skip, run_reg, plainB, ifB_true, run_seq, run_blk, run_exit, run_ret, run_ite, iteR, regK, thenK_nrm, thenK_exit, thenK_ret, thenR_nrm, thenR_exit, thenR_ret, blkK, keepS, keepE, runOps_nil, runOps_cons, goG_some, fpOk, foot, entOf, allN, memN, goOn_ok, goOn_call, goOn_row, goOn_arr, goOn_ask, goOn_put, goOn_prm, goOn_callK, goOn_callC, goOn_all, guardP, guardO, notInO, stepF, stepLd, stepSt, stepIxs, stepIxa, stepLen, stepApp, stepCpy, stepPick, stepSls, stepSst, stepSla, bareZ, evX, evL, evB, rd, get, subG, memG, freshG, notInG, hyps, gob, impP, allP, partD, partOf, isOne, isPtr, nth, takeN, dropN, cellsD, lenB, fillD, thirds, entN, setE, sizeE, addE, setL, setN, putE, env0, eqCs, eqAux, eqC, bA, bO, bN, bE, negB, kEq, isShr, lendL, lend, frz, frzL, zRow, closed, closedL, rowsOf, binI, retK, retG, atRet, retD, lendO, resL, resD, oneD, renD, renL, renE, renEs, rho, putAll, entsN, List.append, List.nil_append, List.cons_append, List.append_nil, cond, Nat.reduceBEq, Nat.reduceAdd, Nat.beq]
  refine call_pure sp_tree_New ?_
  rw [tD_eq, tD_eq]
  dsimp only [run_skip, run_reg, plainB, ifB_true, run_seq, run_blk, run_exit, run_ret, run_ite, iteR, regK, thenK_nrm, thenK_exit, thenK_ret, thenR_nrm, thenR_exit, thenR_ret, blkK, keepS, keepE, runOps_nil, runOps_cons, goG_some, fpOk, foot, entOf, allN, memN, goOn_ok, goOn_call, goOn_row, goOn_arr, goOn_ask, goOn_put, goOn_prm, goOn_callK, goOn_callC, goOn_all, guardP, guardO, notInO, stepF, stepLd, stepSt, stepIxs, stepIxa, stepLen, stepApp, stepCpy, stepPick, stepSls, stepSst, stepSla, bareZ, evX, evL, evB, rd, get, subG, memG, freshG, notInG, hyps, gob, impP, allP, partD, partOf, isOne, isPtr, nth, takeN, dropN, cellsD, lenB, fillD, thirds, entN, setE, sizeE, addE, setL, setN, putE, env0, eqCs, eqAux, eqC, bA, bO, bN, bE, negB, kEq, isShr, lendL, lend, frz, frzL, zRow, closed, closedL, rowsOf, binI, retK, retG, atRet, retD, lendO, resL, resD, oneD, renD, renL, renE, renEs, rho, putAll, entsN, List.append, List.nil_append, List.cons_append, List.append_nil, cond, Nat.reduceBEq, Nat.reduceAdd, Nat.beq]
  rw [acL_len]
  refine ⟨fun h => by simp at h; omega, fun _ => ?_⟩
  refine loop_ind (α := {x : GrX // x.i ≤ l.length ∧ x.t = f x.i ∧ (x.own = true → x.i = 0)}) (fun x => stGr l x.1) (fun x => l.length - x.1.i) ?_ ⟨⟨0, ⟨[], []⟩, true⟩, by simp [h0]⟩ rfl
  rintro ⟨⟨i, t, own⟩, hi, ht, ho⟩ I ih
  dsimp only at hi ht ho
  subst ht
  obtain ⟨hwi, hri, hdo⟩ := hf i hi
  have hend : i = l.length → nD (growN (l.take i)) = nD (growN l) := fun e => by rw [e, List.take_length]
  cases own
  all_goals
    dsimp only [stGr, cond, run_skip, run_reg, plainB, ifB_true, run_seq, run_blk, run_exit, run_ret, run_ite, iteR, regK, thenK_nrm, thenK_exit, thenK_ret, thenR_nrm, thenR_exit, thenR_ret, blkK, keepS, keepE, runOps_nil, runOps_cons, goG_some, fpOk, foot, entOf, allN, memN, goOn_ok, goOn_call, goOn_row, goOn_arr, goOn_ask, goOn_put, goOn_prm, goOn_callK, goOn_callC, goOn_all, guardP, guardO, notInO, stepF, stepLd, stepSt, stepIxs, stepIxa, stepLen, stepApp, stepCpy, stepPick, stepSls, stepSst, stepSla, bareZ, evX, evL, evB, rd, get, subG, memG, freshG, notInG, hyps, gob, impP, allP, partD, partOf, isOne, isPtr, nth, takeN, dropN, cellsD, lenB, fillD, thirds, entN, setE, sizeE, addE, setL, setN, putE, env0, eqCs, eqAux, eqC, bA, bO, bN, bE, negB, kEq, isShr, lendL, lend, frz, frzL, zRow, closed, closedL, rowsOf, binI, retK, retG, atRet, retD, lendO, resL, resD, oneD, renD, renL, renE, renEs, rho, putAll, entsN, List.append, List.nil_append, List.cons_append, List.append_nil, cond, Nat.reduceBEq, Nat.reduceAdd, Nat.beq]
    refine ⟨fun hj => ?_, fun hj => ?_⟩
  · have hj : i < l.length := by simp at hj; omega
    have hd := hdo hj hj
    obtain ⟨_, _, _, _, hpl⟩ := step_Do hwi hri (ha _ (List.getElem_mem hj))
    have hg : growN (l.take (i + 1)) = (doN (growN (l.take i)) l[i]).1 := by rw [List.take_succ_eq_append_getElem hj, growN_snoc]
    rw [tD_eq, tD_eq] at hd
    refine ⟨⟨rfl, by omega, by rw [acL_len]; omega⟩, row_intro _ _ (acL_at hj) rfl ?_⟩
    generalize doN (growN (l.take i)) l[i] = X at *
    unfold acD at *
    dsimp only [run_skip, run_reg, plainB, ifB_true, run_seq, run_blk, run_exit, run_ret, run_ite, iteR, regK, thenK_nrm, thenK_exit, thenK_ret, thenR_nrm, thenR_exit, thenR_ret, blkK, keepS, keepE, runOps_nil, runOps_cons, goG_some, fpOk, foot, entOf, allN, memN, goOn_ok, goOn_call, goOn_row, goOn_arr, goOn_ask, goOn_put, goOn_prm, goOn_callK, goOn_callC, goOn_all, guardP, guardO, notInO, stepF, stepLd, stepSt, stepIxs, stepIxa, stepLen, stepApp, stepCpy, stepPick, stepSls, stepSst, stepSla, bareZ, evX, evL, evB, rd, get, subG, memG, freshG, notInG, hyps, gob, impP, allP, partD, partOf, isOne, isPtr, nth, takeN, dropN, cellsD, lenB, fillD, thirds, entN, setE, sizeE, addE, setL, setN, putE, env0, eqCs, eqAux, eqC, bA, bO, bN, bE, negB, kEq, isShr, lendL, lend, frz, frzL, zRow, closed, closedL, rowsOf, binI, retK, retG, atRet, retD, lendO, resL, resD, oneD, renD, renL, renE, renEs, rho, putAll, entsN, List.append, List.nil_append, List.cons_append, List.append_nil, cond, Nat.reduceBEq, Nat.reduceAdd, Nat.beq]
    refine call_pure hd ?_
    dsimp only [run_skip, run_reg, plainB, ifB_true, run_seq, run_blk, run_exit, run_ret, run_ite, iteR, regK, thenK_nrm, thenK_exit, thenK_ret, thenR_nrm, thenR_exit, thenR_ret, blkK, keepS, keepE, runOps_nil, runOps_cons, goG_some, fpOk, foot, entOf, allN, memN, goOn_ok, goOn_call, goOn_row, goOn_arr, goOn_ask, goOn_put, goOn_prm, goOn_callK, goOn_callC, goOn_all, guardP, guardO, notInO, stepF, stepLd, stepSt, stepIxs, stepIxa, stepLen, stepApp, stepCpy, stepPick, stepSls, stepSst, stepSla, bareZ, evX, evL, evB, rd, get, subG, memG, freshG, notInG, hyps, gob, impP, allP, partD, partOf, isOne, isPtr, nth, takeN, dropN, cellsD, lenB, fillD, thirds, entN, setE, sizeE, addE, setL, setN, putE, env0, eqCs, eqAux, eqC, bA, bO, bN, bE, negB, kEq, isShr, lendL, lend, frz, frzL, zRow, closed, closedL, rowsOf, binI, retK, retG, atRet, retD, lendO, resL, resD, oneD, renD, renL, renE, renEs, rho, putAll, entsN, List.append, List.nil_append, List.cons_append, List.append_nil, cond, Nat.reduceBEq, Nat.reduceAdd, Nat.beq]
    refine call_pure hpl ?_
    dsimp only [run_skip, run_reg, plainB, ifB_true, run_seq, run_blk, run_exit, run_ret, run_ite, iteR, regK, thenK_nrm, thenK_exit, thenK_ret, thenR_nrm, thenR_exit, thenR_ret, blkK, keepS, keepE, runOps_nil, runOps_cons, goG_some, fpOk, foot, entOf, allN, memN, goOn_ok, goOn_call, goOn_row, goOn_arr, goOn_ask, goOn_put, goOn_prm, goOn_callK, goOn_callC, goOn_all, guardP, guardO, notInO, stepF, stepLd, stepSt, stepIxs, stepIxa, stepLen, stepApp, stepCpy, stepPick, stepSls, stepSst, stepSla, bareZ, evX, evL, evB, rd, get, subG, memG, freshG, notInG, hyps, gob, impP, allP, partD, partOf, isOne, isPtr, nth, takeN, dropN, cellsD, lenB, fillD, thirds, entN, setE, sizeE, addE, setL, setN, putE, env0, eqCs, eqAux, eqC, bA, bO, bN, bE, negB, kEq, isShr, lendL, lend, frz, frzL, zRow, closed, closedL, rowsOf, binI, retK, retG, atRet, retD, lendO, resL, resD, oneD, renD, renL, renE, renEs, rho, putAll, entsN, List.append, List.nil_append, List.cons_append, List.append_nil, cond, Nat.reduceBEq, Nat.reduceAdd, Nat.beq]
    refine ⟨by simp only [fits]; omega, ?_⟩
    rw [← hg]
    exact again (ih ⟨⟨i + 1, f (i + 1), false⟩, by dsimp only; omega, rfl, nofun⟩ (by dsimp only; omega)) ⟨rfl, rfl, rfl, rfl, rfl, rfl, trivial⟩ ⟨rfl, rfl, rfl, rfl, trivial⟩ rfl rfl
  · have hj : i = l.length := by simp at hj; omega
    rw [hend hj, hj]
    first | done | exact ⟨rfl, rfl⟩ | rfl
  · have hj : i < l.length := by simp at hj; omega
    have hi0 : i = 0 := ho rfl
    have hd := hdo hj hj
    obtain ⟨_, _, _, _, hpl⟩ := step_Do hwi hri (ha _ (List.getElem_mem hj))
    have hg : growN (l.take (i + 1)) = (doN (growN (l.take i)) l[i]).1 := by rw [List.take_succ_eq_append_getElem hj, growN_snoc]
    have hnil : nD (growN (l.take i)) = [] := by rw [hi0]; rfl
    rw [hnil] at hpl
    rw [tD_eq, tD_eq] at hd
    refine ⟨⟨rfl, by omega, by rw [acL_len]; omega⟩, row_intro _ _ (acL_at hj) rfl ?_⟩
    generalize doN (growN (l.take i)) l[i] = X at *
    unfold acD at *
    dsimp only [run_skip, run_reg, plainB, ifB_true, run_seq, run_blk, run_exit, run_ret, run_ite, iteR, regK, thenK_nrm, thenK_exit, thenK_ret, thenR_nrm, thenR_exit, thenR_ret, blkK, keepS, keepE, runOps_nil, runOps_cons, goG_some, fpOk, foot, entOf, allN, memN, goOn_ok, goOn_call, goOn_row, goOn_arr, goOn_ask, goOn_put, goOn_prm, goOn_callK, goOn_callC, goOn_all, guardP, guardO, notInO, stepF, stepLd, stepSt, stepIxs, stepIxa, stepLen, stepApp, stepCpy, stepPick, stepSls, stepSst, stepSla, bareZ, evX, evL, evB, rd, get, subG, memG, freshG, notInG, hyps, gob, impP, allP, partD, partOf, isOne, isPtr, nth, takeN, dropN, cellsD, lenB, fillD, thirds, entN, setE, sizeE, addE, setL, setN, putE, env0, eqCs, eqAux, eqC, bA, bO, bN, bE, negB, kEq, isShr, lendL, lend, frz, frzL, zRow, closed, closedL, rowsOf, binI, retK, retG, atRet, retD, lendO, resL, resD, oneD, renD, renL, renE, renEs, rho, putAll, entsN, List.append, List.nil_append, List.cons_append, List.append_nil, cond, Nat.reduceBEq, Nat.reduceAdd, Nat.beq]
    refine call_pure hd ?_
    dsimp only [run_skip, run_reg, plainB, ifB_true, run_seq, run_blk, run_exit, run_ret, run_ite, iteR, regK, thenK_nrm, thenK_exit, thenK_ret, thenR_nrm, thenR_exit, thenR_ret, blkK, keepS, keepE, runOps_nil, runOps_cons, goG_some, fpOk, foot, entOf, allN, memN, goOn_ok, goOn_call, goOn_row, goOn_arr, goOn_ask, goOn_put, goOn_prm, goOn_callK, goOn_callC, goOn_all, guardP, guardO, notInO, stepF, stepLd, stepSt, stepIxs, stepIxa, stepLen, stepApp, stepCpy, stepPick, stepSls, stepSst, stepSla, bareZ, evX, evL, evB, rd, get, subG, memG, freshG, notInG, hyps, gob, impP, allP, partD, partOf, isOne, isPtr, nth, takeN, dropN, cellsD, lenB, fillD, thirds, entN, setE, sizeE, addE, setL, setN, putE, env0, eqCs, eqAux, eqC, bA, bO, bN, bE, negB, kEq, isShr, lendL, lend, frz, frzL, zRow, closed, closedL, rowsOf, binI, retK, retG, atRet, retD, lendO, resL, resD, oneD, renD, renL, renE, renEs, rho, putAll, entsN, List.append, List.nil_append, List.cons_append, List.append_nil, cond, Nat.reduceBEq, Nat.reduceAdd, Nat.beq]
    refine ⟨rfl, ?_⟩
    refine call_pure hpl ?_
    dsimp only [run_skip, run_reg, plainB, ifB_true, run_seq, run_blk, run_exit, run_ret, run_ite, iteR, regK, thenK_nrm, thenK_exit, thenK_ret, thenR_nrm, thenR_exit, thenR_ret, blkK, keepS, keepE, runOps_nil, runOps_cons, goG_some, fpOk, foot, entOf, allN, memN, goOn_ok, goOn_call, goOn_row, goOn_arr, goOn_ask, goOn_put, goOn_prm, goOn_callK, goOn_callC, goOn_all, guardP, guardO, notInO, stepF, stepLd, stepSt, stepIxs, stepIxa, stepLen, stepApp, stepCpy, stepPick, stepSls, stepSst, stepSla, bareZ, evX, evL, evB, rd, get, subG, memG, freshG, notInG, hyps, gob, impP, allP, partD, partOf, isOne, isPtr, nth, takeN, dropN, cellsD, lenB, fillD, thirds, entN, setE, sizeE, addE, setL, setN, putE, env0, eqCs, eqAux, eqC, bA, bO, bN, bE, negB, kEq, isShr, lendL, lend, frz, frzL, zRow, closed, closedL, rowsOf, binI, retK, retG, atRet, retD, lendO, resL, resD, oneD, renD, renL, renE, renEs, rho, putAll, entsN, List.append, List.nil_append, List.cons_append, List.append_nil, cond, Nat.reduceBEq, Nat.reduceAdd, Nat.beq]
    refine ⟨by simp only [fits]; omega, ?_⟩
    rw [← hg]
    exact again (ih ⟨⟨i + 1, f (i + 1), false⟩, by dsimp only; omega, rfl, nofun⟩ (by dsimp only; omega)) ⟨rfl, rfl, rfl, rfl, rfl, rfl, trivial⟩ ⟨rfl, rfl, rfl, rfl, trivial⟩ rfl rfl
  · have hj : i = l.length := by simp at hj; omega
    have hi0 : i = 0 := ho rfl
    have hl0 : l = [] := List.eq_nil_of_length_eq_zero (by omega)
    subst hl0
    rw [hi0]
    first | done | exact ⟨rfl, rfl, rfl⟩ | exact ⟨rfl, rfl⟩ | rfl
end Go.AM
