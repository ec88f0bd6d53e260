
/- Chapter 36: Made. -/
import Derived.Test.YtfoepbkbclmghaaV10
set_option linter.all false
namespace Go.AM
open Go Go.Proofs

def bL (l : List Int) : List D := l.map fun n => .int .u8 n
theorem bL_len (l : List Int) : (bL l).length = l.length := by simp [bL]
theorem bL_at {l : List Int} {i : Nat} (h : i < l.length) : (bL l)[i]? = some (.int .u8 l[i]) := by simp [bL, h]
theorem nD_app (a b : Nodes) : nD a ++ nD b = nD (a ++ b) := by simp [nD]
theorem add_ok {x : TT × Nodes} {n : Nat} (h : Mok x n) (hn : n < 60) {p : Int} (h0 : 0 ≤ p) (hp : p ≤ n) : addC x.1 (idN (n + 1)) (idN p) = 0 ∧ addT x.1 (idN (n + 1)) (idN p) = putT x.1 (idN (n + 1)) (idN p) := by
  have hk : checkI (idN (n + 1)) = 0 := by
    have e : idN (n + 1) = 1048576 + (n + 1) := by unfold idN; rw [if_neg (by omega)]
    have e1 : (1048576 + ((n : Int) + 1)) % 1048576 = n + 1 := by omega
    have e2 : (1048576 + ((n : Int) + 1)) / 1048576 = 1 := by omega
    have hne : ¬ ((n : Int) + 1 = 0) := by omega
    have hcl : clP (idN (n + 1)) = (1, true) := by
      unfold clP
      rw [e, if_neg (by omega), e1, e2]
      simp [isCl, hne]
    unfold checkI
    rw [if_neg (by rw [e]; omega), hcl]; rfl
  have hfr : lk x.1.up (idN (n + 1)) = none := by
    rw [lk_none, h.up, h.ids]
    intro hm
    obtain ⟨i, hi, e⟩ := List.mem_map.1 hm
    have := idN_inj (by omega) (by omega) e
    have := List.mem_range.1 hi
    omega
  have h1 : hasT x.1 (idN (n + 1)) = false := by
    unfold hasT
    rw [hfr]
    unfold idN
    rw [if_neg (by omega)]
    simp; omega
  have h2 : hasT x.1 (idN p) = true := by
    unfold hasT
    by_cases hp0 : p = 0
    · subst hp0; simp [idN]
    · have : lk x.1.up (idN p) ≠ none := by
        rw [Ne, lk_none, h.up, h.ids]
        intro hm
        exact hm (List.mem_map.2 ⟨(p - 1).toNat, List.mem_range.2 (by omega), by congr 1; omega⟩)
      cases hl : lk x.1.up (idN p) with
      | none => exact absurd hl this
      | some _ => rfl
  have h3 : x.1.up.length = n := by rw [h.up]; exact h.len
  have he : addC x.1 (idN (n + 1)) (idN p) = 0 := by
    unfold addC
    rw [if_neg (by simp [hk]), if_neg (by simp [h1]), if_neg (by simp [h2]), if_neg (by omega)]
  exact ⟨he, by unfold addT; rw [if_pos he]⟩

structure MaX where
  i : Nat
  v : Nat
def stMa (ps : List Int) (x : MaX) : St := ⟨[(2, [], .box 0 0), (5, [], .box 2 0), (6, [], .own 3 x.v), (14, [], .ls 1 (bL ps)), (15, [], .int .i64 ps.length), (16, [], .int .i64 x.i)],
  [.cells [.mp [] [], .mp [] []], .arr 56 2 0 [], .cells [mpD .u32 (kKV (madeT (ps.take x.i)).1.kids), mpD .u32 (uKV (madeT (ps.take x.i)).1.up)], .arr 56 2 x.v (nD (madeT (ps.take x.i)).2)]⟩

theorem sp_law36_Made {ps : List Int} (hl : ps.length ≤ 20) (hb : ∀ p ∈ ps, 0 ≤ p ∧ p ≤ 255) : TSp 10 [.ls 1 (bL ps)] (.tup [tD (madeT ps).1, .ls 2 (nD (madeT ps).2), .bool true]) := by
  refine spo_law36_Made (by rfl) ?_
  dsimp only [c_law36_Made, r_law36_Made, run_skip, run_reg, plainB, ifB_true, run_seq, run_blk, run_exit, run_ret, run_ite, iteR, regK, thenK_nrm, thenK_exit, thenK_ret, thenR_nrm, thenR_exit, thenR_ret, blkK, keepS, keepE, runOps_nil, runOps_cons, goG_some, fpOk, foot, entOf, allN, memN, goOn_ok, goOn_call, goOn_row, goOn_arr, goOn_ask, goOn_put, goOn_prm, goOn_callK, goOn_all, guardP, guardO, notInO, stepF, stepLd, stepSt, stepIxs, stepIxa, stepLen, stepApp, stepCpy, stepPick, stepSls, stepSst, stepSla, bareZ, evX, evL, evB, rd, get, subG, memG, freshG, notInG, hyps, gob, impP, allP, partD, partOf, isOne, isPtr, nth, takeN, dropN, cellsD, lenB, fillD, thirds, entN, setE, sizeE, addE, setL, setN, putE, env0, eqCs, eqAux, eqC, bA, bO, bN, bE, negB, kEq, isShr, lendL, lend, frz, frzL, zRow, closed, closedL, rowsOf, binI, retK, retG, atRet, retD, lendO, resL, resD, oneD, renD, renL, renE, renEs, rho, putAll, entsN, List.append, List.nil_append, List.cons_append, List.append_nil, cond, Nat.reduceBEq, Nat.reduceAdd, Nat.beq]
  refine call_pure sp_tree_New ?_
  rw [show tD ⟨[], []⟩ = .agg [.mp [] [], .mp [] []] from rfl]
  dsimp only [run_skip, run_reg, plainB, ifB_true, run_seq, run_blk, run_exit, run_ret, run_ite, iteR, regK, thenK_nrm, thenK_exit, thenK_ret, thenR_nrm, thenR_exit, thenR_ret, blkK, keepS, keepE, runOps_nil, runOps_cons, goG_some, fpOk, foot, entOf, allN, memN, goOn_ok, goOn_call, goOn_row, goOn_arr, goOn_ask, goOn_put, goOn_prm, goOn_callK, goOn_all, guardP, guardO, notInO, stepF, stepLd, stepSt, stepIxs, stepIxa, stepLen, stepApp, stepCpy, stepPick, stepSls, stepSst, stepSla, bareZ, evX, evL, evB, rd, get, subG, memG, freshG, notInG, hyps, gob, impP, allP, partD, partOf, isOne, isPtr, nth, takeN, dropN, cellsD, lenB, fillD, thirds, entN, setE, sizeE, addE, setL, setN, putE, env0, eqCs, eqAux, eqC, bA, bO, bN, bE, negB, kEq, isShr, lendL, lend, frz, frzL, zRow, closed, closedL, rowsOf, binI, retK, retG, atRet, retD, lendO, resL, resD, oneD, renD, renL, renE, renEs, rho, putAll, entsN, List.append, List.nil_append, List.cons_append, List.append_nil, cond, Nat.reduceBEq, Nat.reduceAdd, Nat.beq]
  rw [bL_len]
  refine loop_ind (α := {x : MaX // x.i ≤ ps.length}) (fun x => stMa ps x.1) (fun x => ps.length - x.1.i) ?_ ⟨⟨0, 0⟩, by simp⟩ rfl
  rintro ⟨⟨i, v⟩, hi⟩ I ih
  dsimp only at hi
  dsimp only [stMa, run_skip, run_reg, plainB, ifB_true, run_seq, run_blk, run_exit, run_ret, run_ite, iteR, regK, thenK_nrm, thenK_exit, thenK_ret, thenR_nrm, thenR_exit, thenR_ret, blkK, keepS, keepE, runOps_nil, runOps_cons, goG_some, fpOk, foot, entOf, allN, memN, goOn_ok, goOn_call, goOn_row, goOn_arr, goOn_ask, goOn_put, goOn_prm, goOn_callK, goOn_all, guardP, guardO, notInO, stepF, stepLd, stepSt, stepIxs, stepIxa, stepLen, stepApp, stepCpy, stepPick, stepSls, stepSst, stepSla, bareZ, evX, evL, evB, rd, get, subG, memG, freshG, notInG, hyps, gob, impP, allP, partD, partOf, isOne, isPtr, nth, takeN, dropN, cellsD, lenB, fillD, thirds, entN, setE, sizeE, addE, setL, setN, putE, env0, eqCs, eqAux, eqC, bA, bO, bN, bE, negB, kEq, isShr, lendL, lend, frz, frzL, zRow, closed, closedL, rowsOf, binI, retK, retG, atRet, retD, lendO, resL, resD, oneD, renD, renL, renE, renEs, rho, putAll, entsN, List.append, List.nil_append, List.cons_append, List.append_nil, cond, Nat.reduceBEq, Nat.reduceAdd, Nat.beq]
  have hmok : Mok (madeT (ps.take i)) i := by
    have := mok_made (ps := ps.take i) (by simp; omega)
    simpa [List.length_take, Nat.min_eq_left hi] using this
  refine ⟨fun hj => ?_, fun hj => ?_⟩
  · have hj : i < ps.length := by simp at hj; omega
    have hbi := hb _ (List.getElem_mem hj)
    refine ⟨⟨rfl, by omega, by rw [bL_len]; omega⟩, row_intro _ _ (bL_at hj) rfl ?_⟩
    dsimp only [run_skip, run_reg, plainB, ifB_true, run_seq, run_blk, run_exit, run_ret, run_ite, iteR, regK, thenK_nrm, thenK_exit, thenK_ret, thenR_nrm, thenR_exit, thenR_ret, blkK, keepS, keepE, runOps_nil, runOps_cons, goG_some, fpOk, foot, entOf, allN, memN, goOn_ok, goOn_call, goOn_row, goOn_arr, goOn_ask, goOn_put, goOn_prm, goOn_callK, goOn_all, guardP, guardO, notInO, stepF, stepLd, stepSt, stepIxs, stepIxa, stepLen, stepApp, stepCpy, stepPick, stepSls, stepSst, stepSla, bareZ, evX, evL, evB, rd, get, subG, memG, freshG, notInG, hyps, gob, impP, allP, partD, partOf, isOne, isPtr, nth, takeN, dropN, cellsD, lenB, fillD, thirds, entN, setE, sizeE, addE, setL, setN, putE, env0, eqCs, eqAux, eqC, bA, bO, bN, bE, negB, kEq, isShr, lendL, lend, frz, frzL, zRow, closed, closedL, rowsOf, binI, retK, retG, atRet, retD, lendO, resL, resD, oneD, renD, renL, renE, renEs, rho, putAll, entsN, List.append, List.nil_append, List.cons_append, List.append_nil, cond, Nat.reduceBEq, Nat.reduceAdd, Nat.beq]
    have hm0 : 0 ≤ ps[i] % ((i : Int) + 1) := Int.emod_nonneg _ (by omega)
    have hm1 : ps[i] % ((i : Int) + 1) < (i : Int) + 1 := Int.emod_lt_of_pos _ (by omega)
    refine ⟨by simp only [fits]; omega, ?_⟩
    refine call_pure (sp_law36_ID (by omega) (by omega)) ?_
    dsimp only [run_skip, run_reg, plainB, ifB_true, run_seq, run_blk, run_exit, run_ret, run_ite, iteR, regK, thenK_nrm, thenK_exit, thenK_ret, thenR_nrm, thenR_exit, thenR_ret, blkK, keepS, keepE, runOps_nil, runOps_cons, goG_some, fpOk, foot, entOf, allN, memN, goOn_ok, goOn_call, goOn_row, goOn_arr, goOn_ask, goOn_put, goOn_prm, goOn_callK, goOn_all, guardP, guardO, notInO, stepF, stepLd, stepSt, stepIxs, stepIxa, stepLen, stepApp, stepCpy, stepPick, stepSls, stepSst, stepSla, bareZ, evX, evL, evB, rd, get, subG, memG, freshG, notInG, hyps, gob, impP, allP, partD, partOf, isOne, isPtr, nth, takeN, dropN, cellsD, lenB, fillD, thirds, entN, setE, sizeE, addE, setL, setN, putE, env0, eqCs, eqAux, eqC, bA, bO, bN, bE, negB, kEq, isShr, lendL, lend, frz, frzL, zRow, closed, closedL, rowsOf, binI, retK, retG, atRet, retD, lendO, resL, resD, oneD, renD, renL, renE, renEs, rho, putAll, entsN, List.append, List.nil_append, List.cons_append, List.append_nil, cond, Nat.reduceBEq, Nat.reduceAdd, Nat.beq]
    refine ⟨by simp only [fits]; omega, by simp only [fits]; omega, ⟨by omega, by omega⟩, ?_⟩
    refine call_pure (sp_law36_ID hm0 (by omega)) ?_
    dsimp only [run_skip, run_reg, plainB, ifB_true, run_seq, run_blk, run_exit, run_ret, run_ite, iteR, regK, thenK_nrm, thenK_exit, thenK_ret, thenR_nrm, thenR_exit, thenR_ret, blkK, keepS, keepE, runOps_nil, runOps_cons, goG_some, fpOk, foot, entOf, allN, memN, goOn_ok, goOn_call, goOn_row, goOn_arr, goOn_ask, goOn_put, goOn_prm, goOn_callK, goOn_all, guardP, guardO, notInO, stepF, stepLd, stepSt, stepIxs, stepIxa, stepLen, stepApp, stepCpy, stepPick, stepSls, stepSst, stepSla, bareZ, evX, evL, evB, rd, get, subG, memG, freshG, notInG, hyps, gob, impP, allP, partD, partOf, isOne, isPtr, nth, takeN, dropN, cellsD, lenB, fillD, thirds, entN, setE, sizeE, addE, setL, setN, putE, env0, eqCs, eqAux, eqC, bA, bO, bN, bE, negB, kEq, isShr, lendL, lend, frz, frzL, zRow, closed, closedL, rowsOf, binI, retK, retG, atRet, retD, lendO, resL, resD, oneD, renD, renL, renE, renEs, rho, putAll, entsN, List.append, List.nil_append, List.cons_append, List.append_nil, cond, Nat.reduceBEq, Nat.reduceAdd, Nat.beq]
    have hsn : madeT (ps.take (i + 1)) = (putT (madeT (ps.take i)).1 (idN (i + 1)) (idN (ps[i] % (i + 1))), (madeT (ps.take i)).2 ++ [(idN (i + 1), idN (ps[i] % (i + 1)))]) := by
      rw [List.take_succ_eq_append_getElem hj, madeT_snoc]
      simp [List.length_take, Nat.min_eq_left hi]
    have hadd := sp_tree_Add hmok.ok (id := idN (i + 1)) (p := idN (ps[i] % (i + 1))) (by unfold idN; rw [if_neg (by omega)]; simp only [fits]; omega)
    obtain ⟨a1, a2⟩ := add_ok hmok (by omega) hm0 (by omega)
    rw [a1, a2] at hadd
    refine call_pure hadd ?_
    rw [show tD (putT (madeT (ps.take i)).1 (idN (i + 1)) (idN (ps[i] % (i + 1)))) = .agg [mpD .u32 (kKV (madeT (ps.take (i + 1))).1.kids), mpD .u32 (uKV (madeT (ps.take (i + 1))).1.up)] by rw [hsn]; rfl]
    dsimp only [run_skip, run_reg, plainB, ifB_true, run_seq, run_blk, run_exit, run_ret, run_ite, iteR, regK, thenK_nrm, thenK_exit, thenK_ret, thenR_nrm, thenR_exit, thenR_ret, blkK, keepS, keepE, runOps_nil, runOps_cons, goG_some, fpOk, foot, entOf, allN, memN, goOn_ok, goOn_call, goOn_row, goOn_arr, goOn_ask, goOn_put, goOn_prm, goOn_callK, goOn_all, guardP, guardO, notInO, stepF, stepLd, stepSt, stepIxs, stepIxa, stepLen, stepApp, stepCpy, stepPick, stepSls, stepSst, stepSla, bareZ, evX, evL, evB, rd, get, subG, memG, freshG, notInG, hyps, gob, impP, allP, partD, partOf, isOne, isPtr, nth, takeN, dropN, cellsD, lenB, fillD, thirds, entN, setE, sizeE, addE, setL, setN, putE, env0, eqCs, eqAux, eqC, bA, bO, bN, bE, negB, kEq, isShr, lendL, lend, frz, frzL, zRow, closed, closedL, rowsOf, binI, retK, retG, atRet, retD, lendO, resL, resD, oneD, renD, renL, renE, renEs, rho, putAll, entsN, List.append, List.nil_append, List.cons_append, List.append_nil, cond, Nat.reduceBEq, Nat.reduceAdd, Nat.beq]
    refine ⟨nofun, fun _ => ?_⟩
    refine ⟨⟨rfl, rfl, rfl, rfl, by rw [nD_len, hmok.len]; simp; omega⟩, ?_⟩
    rw [show nD (madeT (ps.take i)).2 ++ [D.agg [.int .u32 (idN (i + 1)), .int .u32 (idN (ps[i] % (i + 1)))]] = nD (madeT (ps.take (i + 1))).2 by rw [hsn]; simp [nD]]
    refine ⟨by simp only [fits]; omega, ?_⟩
    exact again (ih ⟨⟨i + 1, v + 1⟩, by dsimp only; omega⟩ (by dsimp only; omega)) ⟨rfl, rfl, rfl, rfl, rfl, rfl, trivial⟩ ⟨rfl, rfl, rfl, rfl, trivial⟩ rfl rfl
  · have hj : i = ps.length := by simp at hj; omega
    subst hj
    rw [List.take_length]
    exact ⟨rfl, rfl⟩
end Go.AM
