
/- Chapter 29: Circulate. -/
import Derived.Test.YthcfahdogpjkeaaX4
set_option linter.all false
namespace Go.AM
open Go Go.Proofs

/-- Turned about so far. -/
def revI (l : List Int) (i : Nat) : List Int := (List.range l.length).map fun k => if k < i ∨ l.length - i ≤ k then l.getD (l.length - 1 - k) 0 else l.getD k 0
theorem revI_len (l : List Int) (i : Nat) : (revI l i).length = l.length := by simp [revI]
theorem revI_0 (l : List Int) : revI l 0 = l := by
  refine List.ext_getElem (by simp [revI]) fun k h1 h2 => ?_
  simp only [revI, List.getElem_map, List.getElem_range]
  rw [if_neg (by omega)]
  simp [h2]
theorem revI_end {l : List Int} {i : Nat} (h : l.length ≤ 2 * i + 1) : revI l i = l.reverse := by
  refine List.ext_getElem (by simp [revI]) fun k h1 h2 => ?_
  simp only [revI, List.getElem_map, List.getElem_range, List.getElem_reverse]
  have hk : k < l.length := by simpa using h2
  split
  · rw [List.getD_eq_getElem?_getD, List.getElem?_eq_getElem (by omega)]; rfl
  · have e : l.length - 1 - k = k := by omega
    rw [List.getD_eq_getElem?_getD, List.getElem?_eq_getElem (by omega)]
    simp [e]
theorem revI_at {l : List Int} {i k : Nat} (h : k < l.length) (h1 : i ≤ k) (h2 : k < l.length - i) : (revI l i)[k]'(by rw [revI_len]; exact h) = l[k] := by
  simp only [revI, List.getElem_map, List.getElem_range]
  rw [if_neg (by omega), List.getD_eq_getElem?_getD, List.getElem?_eq_getElem h]; rfl
theorem revI_step {l : List Int} {i : Nat} (h : 2 * i + 1 < l.length) :
    ((iL (revI l i)).set i (.int .u32 (l[l.length - 1 - i]'(by omega)))).set (l.length - 1 - i) (.int .u32 (l[i]'(by omega))) = iL (revI l (i + 1)) := by
  refine List.ext_getElem (by simp [iL, revI]) fun k h1 h2 => ?_
  have hk : k < l.length := by simpa [iL, revI] using h2
  rw [List.getElem_set, List.getElem_set]
  simp only [iL, List.getElem_map]
  split
  · rename_i e
    subst e
    simp only [revI, List.getElem_map, List.getElem_range]
    rw [if_pos (by omega), List.getD_eq_getElem?_getD, List.getElem?_eq_getElem (by omega)]
    simp only [Option.getD_some]
    congr 2; omega
  split
  · rename_i e
    subst e
    simp only [revI, List.getElem_map, List.getElem_range]
    rw [if_pos (by omega), List.getD_eq_getElem?_getD, List.getElem?_eq_getElem (by omega)]
    rfl
  · congr 1
    simp only [revI, List.getElem_map, List.getElem_range]
    by_cases hc : k < i ∨ l.length - i ≤ k
    · rw [if_pos hc, if_pos (by omega)]
    · rw [if_neg hc, if_neg (by omega)]

def stRv (l : List Int) (v : Nat) (i : Nat) : St := ⟨[(0, [], .own 0 v), (2, [], .int .i64 i), (3, [], .int .i64 (l.length - 1 - (i : Int)))], [.arr 37 1 v (iL (revI l i))]⟩
theorem sm_slices_Reverse {l : List Int} (hl : l.length < 1000000) {v : Nat} : TSpM 50 [.own 0 v] [.arr 37 1 v (iL l)] (.tup []) [.arr 37 1 v (iL l.reverse)] := by
  refine spm_slices_Reverse_api_ID_api_ID (by rfl) ?_
  dsimp only [c_slices_Reverse_api_ID_api_ID, r_slices_Reverse_api_ID_api_ID, run_skip, run_reg, plainB, ifB_true, run_seq, run_blk, run_exit, run_ret, run_ite, iteR, regK, thenK_nrm, thenK_exit, thenK_ret, thenR_nrm, thenR_exit, thenR_ret, blkK, keepS, keepE, runOps_nil, runOps_cons, goG_some, fpOk, foot, entOf, allN, memN, goOn_ok, goOn_call, goOn_row, goOn_arr, goOn_ask, goOn_put, goOn_prm, goOn_callK, goOn_callC, goOn_all, guardP, guardO, notInO, stepF, stepLd, stepSt, stepIxs, stepIxa, stepLen, stepApp, stepCpy, stepPick, stepSls, stepSst, stepSla, bareZ, evX, evL, evB, rd, get, subG, memG, freshG, notInG, hyps, gob, impP, allP, partD, partOf, isOne, isPtr, nth, takeN, dropN, cellsD, lenB, fillD, thirds, entN, setE, sizeE, addE, setL, setN, putE, env0, eqCs, eqAux, eqC, bA, bO, bN, bE, negB, kEq, isShr, lendL, lend, frz, frzL, zRow, closed, closedL, rowsOf, binI, retK, retG, atRet, retD, lendO, resL, resD, oneD, renD, renL, renE, renEs, rho, putAll, entsN, List.append, List.nil_append, List.cons_append, List.append_nil, cond, Nat.reduceBEq, Nat.reduceAdd, Nat.beq]
  rw [iL_len]
  refine ⟨rfl, by simp only [fits]; omega, ?_⟩
  refine loop_ind (α := {i : Nat // 2 * i ≤ l.length + 1}) (fun i => stRv l v i.1) (fun i => l.length - i.1) ?_ ⟨0, by simp⟩ (by rw [stRv, revI_0]; simp)
  rintro ⟨i, hi⟩ I ih
  dsimp only [stRv, run_skip, run_reg, plainB, ifB_true, run_seq, run_blk, run_exit, run_ret, run_ite, iteR, regK, thenK_nrm, thenK_exit, thenK_ret, thenR_nrm, thenR_exit, thenR_ret, blkK, keepS, keepE, runOps_nil, runOps_cons, goG_some, fpOk, foot, entOf, allN, memN, goOn_ok, goOn_call, goOn_row, goOn_arr, goOn_ask, goOn_put, goOn_prm, goOn_callK, goOn_callC, goOn_all, guardP, guardO, notInO, stepF, stepLd, stepSt, stepIxs, stepIxa, stepLen, stepApp, stepCpy, stepPick, stepSls, stepSst, stepSla, bareZ, evX, evL, evB, rd, get, subG, memG, freshG, notInG, hyps, gob, impP, allP, partD, partOf, isOne, isPtr, nth, takeN, dropN, cellsD, lenB, fillD, thirds, entN, setE, sizeE, addE, setL, setN, putE, env0, eqCs, eqAux, eqC, bA, bO, bN, bE, negB, kEq, isShr, lendL, lend, frz, frzL, zRow, closed, closedL, rowsOf, binI, retK, retG, atRet, retD, lendO, resL, resD, oneD, renD, renL, renE, renEs, rho, putAll, entsN, List.append, List.nil_append, List.cons_append, List.append_nil, cond, Nat.reduceBEq, Nat.reduceAdd, Nat.beq]
  refine ⟨fun hj => ?_, fun hj => ?_⟩
  · have hj : 2 * i + 1 < l.length := by simp at hj; omega
    have ej : ((l.length : Int) - 1 - (i : Int)).toNat = l.length - 1 - i := by omega
    have hA := revI_at (l := l) (i := i) (k := l.length - 1 - i) (by omega) (by omega) (by omega)
    have hB := revI_at (l := l) (i := i) (k := i) (by omega) (by omega) (by omega)
    rw [iL_len, revI_len]
    refine ⟨⟨rfl, rfl, by omega, by omega⟩, ⟨rfl, rfl⟩, ?_⟩
    rw [ej]
    refine row_intro (.int .u32 (l[l.length - 1 - i]'(by omega))) _ (by rw [iL_at (by rw [revI_len]; omega), hA]; exact rfl) rfl ?_
    dsimp only [run_skip, run_reg, plainB, ifB_true, run_seq, run_blk, run_exit, run_ret, run_ite, iteR, regK, thenK_nrm, thenK_exit, thenK_ret, thenR_nrm, thenR_exit, thenR_ret, blkK, keepS, keepE, runOps_nil, runOps_cons, goG_some, fpOk, foot, entOf, allN, memN, goOn_ok, goOn_call, goOn_row, goOn_arr, goOn_ask, goOn_put, goOn_prm, goOn_callK, goOn_callC, goOn_all, guardP, guardO, notInO, stepF, stepLd, stepSt, stepIxs, stepIxa, stepLen, stepApp, stepCpy, stepPick, stepSls, stepSst, stepSla, bareZ, evX, evL, evB, rd, get, subG, memG, freshG, notInG, hyps, gob, impP, allP, partD, partOf, isOne, isPtr, nth, takeN, dropN, cellsD, lenB, fillD, thirds, entN, setE, sizeE, addE, setL, setN, putE, env0, eqCs, eqAux, eqC, bA, bO, bN, bE, negB, kEq, isShr, lendL, lend, frz, frzL, zRow, closed, closedL, rowsOf, binI, retK, retG, atRet, retD, lendO, resL, resD, oneD, renD, renL, renE, renEs, rho, putAll, entsN, List.append, List.nil_append, List.cons_append, List.append_nil, cond, Nat.reduceBEq, Nat.reduceAdd, Nat.beq]
    rw [iL_len, revI_len]
    refine ⟨⟨rfl, rfl, by omega, by omega⟩, ⟨rfl, rfl⟩, ?_⟩
    rw [show ((i : Int)).toNat = i by omega]
    refine row_intro (.int .u32 (l[i]'(by omega))) _ (by rw [iL_at (by rw [revI_len]; omega), hB]; exact rfl) rfl ?_
    dsimp only [run_skip, run_reg, plainB, ifB_true, run_seq, run_blk, run_exit, run_ret, run_ite, iteR, regK, thenK_nrm, thenK_exit, thenK_ret, thenR_nrm, thenR_exit, thenR_ret, blkK, keepS, keepE, runOps_nil, runOps_cons, goG_some, fpOk, foot, entOf, allN, memN, goOn_ok, goOn_call, goOn_row, goOn_arr, goOn_ask, goOn_put, goOn_prm, goOn_callK, goOn_callC, goOn_all, guardP, guardO, notInO, stepF, stepLd, stepSt, stepIxs, stepIxa, stepLen, stepApp, stepCpy, stepPick, stepSls, stepSst, stepSla, bareZ, evX, evL, evB, rd, get, subG, memG, freshG, notInG, hyps, gob, impP, allP, partD, partOf, isOne, isPtr, nth, takeN, dropN, cellsD, lenB, fillD, thirds, entN, setE, sizeE, addE, setL, setN, putE, env0, eqCs, eqAux, eqC, bA, bO, bN, bE, negB, kEq, isShr, lendL, lend, frz, frzL, zRow, closed, closedL, rowsOf, binI, retK, retG, atRet, retD, lendO, resL, resD, oneD, renD, renL, renE, renEs, rho, putAll, entsN, List.append, List.nil_append, List.cons_append, List.append_nil, cond, Nat.reduceBEq, Nat.reduceAdd, Nat.beq]
    rw [iL_len, revI_len]
    refine ⟨⟨rfl, rfl, by omega, by omega⟩, ⟨rfl, rfl⟩, ?_⟩
    rw [show ((i : Int)).toNat = i by omega]
    refine putrow_intro (hs := []) _ _ (iL_at (by rw [revI_len]; omega)) rfl ?_
    dsimp only [run_skip, run_reg, plainB, ifB_true, run_seq, run_blk, run_exit, run_ret, run_ite, iteR, regK, thenK_nrm, thenK_exit, thenK_ret, thenR_nrm, thenR_exit, thenR_ret, blkK, keepS, keepE, runOps_nil, runOps_cons, goG_some, fpOk, foot, entOf, allN, memN, goOn_ok, goOn_call, goOn_row, goOn_arr, goOn_ask, goOn_put, goOn_prm, goOn_callK, goOn_callC, goOn_all, guardP, guardO, notInO, stepF, stepLd, stepSt, stepIxs, stepIxa, stepLen, stepApp, stepCpy, stepPick, stepSls, stepSst, stepSla, bareZ, evX, evL, evB, rd, get, subG, memG, freshG, notInG, hyps, gob, impP, allP, partD, partOf, isOne, isPtr, nth, takeN, dropN, cellsD, lenB, fillD, thirds, entN, setE, sizeE, addE, setL, setN, putE, env0, eqCs, eqAux, eqC, bA, bO, bN, bE, negB, kEq, isShr, lendL, lend, frz, frzL, zRow, closed, closedL, rowsOf, binI, retK, retG, atRet, retD, lendO, resL, resD, oneD, renD, renL, renE, renEs, rho, putAll, entsN, List.append, List.nil_append, List.cons_append, List.append_nil, cond, Nat.reduceBEq, Nat.reduceAdd, Nat.beq]
    rw [List.length_set, iL_len, revI_len]
    refine ⟨⟨rfl, rfl, by omega, by omega⟩, ⟨rfl, rfl⟩, ?_⟩
    rw [ej]
    refine putrow_intro (hs := []) _ _ (by rw [List.getElem?_set_ne (by omega)]; exact iL_at (by rw [revI_len]; omega)) rfl ?_
    dsimp only [run_skip, run_reg, plainB, ifB_true, run_seq, run_blk, run_exit, run_ret, run_ite, iteR, regK, thenK_nrm, thenK_exit, thenK_ret, thenR_nrm, thenR_exit, thenR_ret, blkK, keepS, keepE, runOps_nil, runOps_cons, goG_some, fpOk, foot, entOf, allN, memN, goOn_ok, goOn_call, goOn_row, goOn_arr, goOn_ask, goOn_put, goOn_prm, goOn_callK, goOn_callC, goOn_all, guardP, guardO, notInO, stepF, stepLd, stepSt, stepIxs, stepIxa, stepLen, stepApp, stepCpy, stepPick, stepSls, stepSst, stepSla, bareZ, evX, evL, evB, rd, get, subG, memG, freshG, notInG, hyps, gob, impP, allP, partD, partOf, isOne, isPtr, nth, takeN, dropN, cellsD, lenB, fillD, thirds, entN, setE, sizeE, addE, setL, setN, putE, env0, eqCs, eqAux, eqC, bA, bO, bN, bE, negB, kEq, isShr, lendL, lend, frz, frzL, zRow, closed, closedL, rowsOf, binI, retK, retG, atRet, retD, lendO, resL, resD, oneD, renD, renL, renE, renEs, rho, putAll, entsN, List.append, List.nil_append, List.cons_append, List.append_nil, cond, Nat.reduceBEq, Nat.reduceAdd, Nat.beq]
    rw [revI_step hj]
    refine ⟨by simp only [fits]; omega, by simp only [fits]; omega, ?_⟩
    exact again (ih ⟨i + 1, by omega⟩ (by dsimp only; omega)) ⟨rfl, rfl, by simp [get]; omega, trivial⟩ ⟨rfl, trivial⟩ rfl rfl
  · have hj : l.length ≤ 2 * i + 1 := by simp at hj; omega
    rw [revI_end hj]
    exact Rt.id

/-- What Circulate's own functions look at. -/
def Mc (t : TT) (m : Ats) (k : List Int) : List Ent := [.cells [mpD .u32 (kKV t.kids), mpD .u32 (uKV t.up)], .cells [mpD .u32 (aKV m)], .cells [.mp [] [], .mp [] []], .cells [.ls 1 (iL k)]]
section
variable {t : TT} {m : Ats} {k : List Int}
theorem sm_Circ_2 (h : t.Ok) (hm : m.Ok) (a b : Int) : TSpM 49 [.int .u32 a, .int .u32 b, .box 0 0, .box 1 0] (Mc t m k) (.bool (hidesT t m b a)) (Mc t m k) := by
  refine spm_stack_Circulate_2 (by rfl) ?_
  have hh := sp_stack_Hides h hm b a
  rw [show tD t = .agg [mpD .u32 (kKV t.kids), mpD .u32 (uKV t.up)] from rfl] at hh
  dsimp only [c_stack_Circulate_2, r_stack_Circulate_2, Mc, run_skip, run_reg, plainB, ifB_true, run_seq, run_blk, run_exit, run_ret, run_ite, iteR, regK, thenK_nrm, thenK_exit, thenK_ret, thenR_nrm, thenR_exit, thenR_ret, blkK, keepS, keepE, runOps_nil, runOps_cons, goG_some, fpOk, foot, entOf, allN, memN, goOn_ok, goOn_call, goOn_row, goOn_arr, goOn_ask, goOn_put, goOn_prm, goOn_callK, goOn_callC, goOn_all, guardP, guardO, notInO, stepF, stepLd, stepSt, stepIxs, stepIxa, stepLen, stepApp, stepCpy, stepPick, stepSls, stepSst, stepSla, bareZ, evX, evL, evB, rd, get, subG, memG, freshG, notInG, hyps, gob, impP, allP, partD, partOf, isOne, isPtr, nth, takeN, dropN, cellsD, lenB, fillD, thirds, entN, setE, sizeE, addE, setL, setN, putE, env0, eqCs, eqAux, eqC, bA, bO, bN, bE, negB, kEq, isShr, lendL, lend, frz, frzL, zRow, closed, closedL, rowsOf, binI, retK, retG, atRet, retD, lendO, resL, resD, oneD, renD, renL, renE, renEs, rho, putAll, entsN, List.append, List.nil_append, List.cons_append, List.append_nil, cond, Nat.reduceBEq, Nat.reduceAdd, Nat.beq]
  refine call_pure hh ?_
  dsimp only [run_skip, run_reg, plainB, ifB_true, run_seq, run_blk, run_exit, run_ret, run_ite, iteR, regK, thenK_nrm, thenK_exit, thenK_ret, thenR_nrm, thenR_exit, thenR_ret, blkK, keepS, keepE, runOps_nil, runOps_cons, goG_some, fpOk, foot, entOf, allN, memN, goOn_ok, goOn_call, goOn_row, goOn_arr, goOn_ask, goOn_put, goOn_prm, goOn_callK, goOn_callC, goOn_all, guardP, guardO, notInO, stepF, stepLd, stepSt, stepIxs, stepIxa, stepLen, stepApp, stepCpy, stepPick, stepSls, stepSst, stepSla, bareZ, evX, evL, evB, rd, get, subG, memG, freshG, notInG, hyps, gob, impP, allP, partD, partOf, isOne, isPtr, nth, takeN, dropN, cellsD, lenB, fillD, thirds, entN, setE, sizeE, addE, setL, setN, putE, env0, eqCs, eqAux, eqC, bA, bO, bN, bE, negB, kEq, isShr, lendL, lend, frz, frzL, zRow, closed, closedL, rowsOf, binI, retK, retG, atRet, retD, lendO, resL, resD, oneD, renD, renL, renE, renEs, rho, putAll, entsN, List.append, List.nil_append, List.cons_append, List.append_nil, cond, Nat.reduceBEq, Nat.reduceAdd, Nat.beq]
  exact Rt.id
theorem sm_Circ_3 (h : t.Ok) (hm : m.Ok) (a b : Int) : TSpM 51 [.int .u32 a, .int .u32 b, .box 0 0, .box 1 0] (Mc t m k) (.bool (hidesT t m a b)) (Mc t m k) := by
  refine spm_stack_Circulate_3 (by rfl) ?_
  have hh := sp_stack_Hides h hm a b
  rw [show tD t = .agg [mpD .u32 (kKV t.kids), mpD .u32 (uKV t.up)] from rfl] at hh
  dsimp only [c_stack_Circulate_3, r_stack_Circulate_3, Mc, run_skip, run_reg, plainB, ifB_true, run_seq, run_blk, run_exit, run_ret, run_ite, iteR, regK, thenK_nrm, thenK_exit, thenK_ret, thenR_nrm, thenR_exit, thenR_ret, blkK, keepS, keepE, runOps_nil, runOps_cons, goG_some, fpOk, foot, entOf, allN, memN, goOn_ok, goOn_call, goOn_row, goOn_arr, goOn_ask, goOn_put, goOn_prm, goOn_callK, goOn_callC, goOn_all, guardP, guardO, notInO, stepF, stepLd, stepSt, stepIxs, stepIxa, stepLen, stepApp, stepCpy, stepPick, stepSls, stepSst, stepSla, bareZ, evX, evL, evB, rd, get, subG, memG, freshG, notInG, hyps, gob, impP, allP, partD, partOf, isOne, isPtr, nth, takeN, dropN, cellsD, lenB, fillD, thirds, entN, setE, sizeE, addE, setL, setN, putE, env0, eqCs, eqAux, eqC, bA, bO, bN, bE, negB, kEq, isShr, lendL, lend, frz, frzL, zRow, closed, closedL, rowsOf, binI, retK, retG, atRet, retD, lendO, resL, resD, oneD, renD, renL, renE, renEs, rho, putAll, entsN, List.append, List.nil_append, List.cons_append, List.append_nil, cond, Nat.reduceBEq, Nat.reduceAdd, Nat.beq]
  refine call_pure hh ?_
  dsimp only [run_skip, run_reg, plainB, ifB_true, run_seq, run_blk, run_exit, run_ret, run_ite, iteR, regK, thenK_nrm, thenK_exit, thenK_ret, thenR_nrm, thenR_exit, thenR_ret, blkK, keepS, keepE, runOps_nil, runOps_cons, goG_some, fpOk, foot, entOf, allN, memN, goOn_ok, goOn_call, goOn_row, goOn_arr, goOn_ask, goOn_put, goOn_prm, goOn_callK, goOn_callC, goOn_all, guardP, guardO, notInO, stepF, stepLd, stepSt, stepIxs, stepIxa, stepLen, stepApp, stepCpy, stepPick, stepSls, stepSst, stepSla, bareZ, evX, evL, evB, rd, get, subG, memG, freshG, notInG, hyps, gob, impP, allP, partD, partOf, isOne, isPtr, nth, takeN, dropN, cellsD, lenB, fillD, thirds, entN, setE, sizeE, addE, setL, setN, putE, env0, eqCs, eqAux, eqC, bA, bO, bN, bE, negB, kEq, isShr, lendL, lend, frz, frzL, zRow, closed, closedL, rowsOf, binI, retK, retG, atRet, retD, lendO, resL, resD, oneD, renD, renL, renE, renEs, rho, putAll, entsN, List.append, List.nil_append, List.cons_append, List.append_nil, cond, Nat.reduceBEq, Nat.reduceAdd, Nat.beq]
  exact Rt.id

def Mc6 (t : TT) (m : Ats) (k : List Int) (g : Nat) (a : Int) : List Ent := [.cells [mpD .u32 (kKV t.kids), mpD .u32 (uKV t.up)], .cells [mpD .u32 (aKV m)], .cells [.mp [] [], .mp [] []], .cells [.ls 1 (iL k)], .cells [.fn g [.box 0 0, .box 1 0]], .cells [.int .u32 a]]
theorem sm_Circ_1_1 {g : Nat} {H : Int → Int → Bool} (hg : ∀ a b, TSpM g [.int .u32 a, .int .u32 b, .box 0 0, .box 1 0] (Mc t m k) (.bool (H a b)) (Mc t m k)) (a b : Int) :
    TSpM 48 [.int .u32 b, .box 4 0, .box 5 0] (Mc6 t m k g a) (.bool (H a b)) (Mc6 t m k g a) := by
  refine spm_stack_Circulate_1_1 (by rfl) ?_
  have hh := hg a b
  dsimp only [c_stack_Circulate_1_1, r_stack_Circulate_1_1, Mc, Mc6, run_skip, run_reg, plainB, ifB_true, run_seq, run_blk, run_exit, run_ret, run_ite, iteR, regK, thenK_nrm, thenK_exit, thenK_ret, thenR_nrm, thenR_exit, thenR_ret, blkK, keepS, keepE, runOps_nil, runOps_cons, goG_some, fpOk, foot, entOf, allN, memN, goOn_ok, goOn_call, goOn_row, goOn_arr, goOn_ask, goOn_put, goOn_prm, goOn_callK, goOn_callC, goOn_all, guardP, guardO, notInO, stepF, stepLd, stepSt, stepIxs, stepIxa, stepLen, stepApp, stepCpy, stepPick, stepSls, stepSst, stepSla, bareZ, evX, evL, evB, rd, get, subG, memG, freshG, notInG, hyps, gob, impP, allP, partD, partOf, isOne, isPtr, nth, takeN, dropN, cellsD, lenB, fillD, thirds, entN, setE, sizeE, addE, setL, setN, putE, env0, eqCs, eqAux, eqC, bA, bO, bN, bE, negB, kEq, isShr, lendL, lend, frz, frzL, zRow, closed, closedL, rowsOf, binI, retK, retG, atRet, retD, lendO, resL, resD, oneD, renD, renL, renE, renEs, rho, putAll, entsN, List.append, List.nil_append, List.cons_append, List.append_nil, cond, Nat.reduceBEq, Nat.reduceAdd, Nat.beq] at *
  refine call_look [0, 1, 2, 3] hh rfl rfl rfl ?_
  dsimp only [run_skip, run_reg, plainB, ifB_true, run_seq, run_blk, run_exit, run_ret, run_ite, iteR, regK, thenK_nrm, thenK_exit, thenK_ret, thenR_nrm, thenR_exit, thenR_ret, blkK, keepS, keepE, runOps_nil, runOps_cons, goG_some, fpOk, foot, entOf, allN, memN, goOn_ok, goOn_call, goOn_row, goOn_arr, goOn_ask, goOn_put, goOn_prm, goOn_callK, goOn_callC, goOn_all, guardP, guardO, notInO, stepF, stepLd, stepSt, stepIxs, stepIxa, stepLen, stepApp, stepCpy, stepPick, stepSls, stepSst, stepSla, bareZ, evX, evL, evB, rd, get, subG, memG, freshG, notInG, hyps, gob, impP, allP, partD, partOf, isOne, isPtr, nth, takeN, dropN, cellsD, lenB, fillD, thirds, entN, setE, sizeE, addE, setL, setN, putE, env0, eqCs, eqAux, eqC, bA, bO, bN, bE, negB, kEq, isShr, lendL, lend, frz, frzL, zRow, closed, closedL, rowsOf, binI, retK, retG, atRet, retD, lendO, resL, resD, oneD, renD, renL, renE, renEs, rho, putAll, entsN, List.append, List.nil_append, List.cons_append, List.append_nil, cond, Nat.reduceBEq, Nat.reduceAdd, Nat.beq]
  exact Rt.id

def findT (H : Int → Int → Bool) (k : List Int) : List Int → Int
  | [] => 0
  | a :: r => if k.any (H a) then a else findT H k r
theorem findT_mem {H : Int → Int → Bool} : ∀ {l : List Int}, findT H k l = 0 ∨ findT H k l ∈ l
  | [] => .inl rfl
  | a :: r => by
    simp only [findT]
    split
    · simp
    · rcases findT_mem (H := H) (l := r) with h | h
      · exact .inl h
      · exact .inr (List.mem_cons_of_mem _ h)
def stFi (t : TT) (m : Ats) (k l : List Int) (g : Nat) (i : Nat) : St := ⟨[(2, [], .box 3 0), (4, [], .box 4 0), (8, [], .ls 1 (iL l)), (9, [], .int .i64 l.length), (10, [], .int .i64 i)],
  [.cells [mpD .u32 (kKV t.kids), mpD .u32 (uKV t.up)], .cells [mpD .u32 (aKV m)], .cells [.mp [] [], .mp [] []], .cells [.ls 1 (iL k)], .cells [.fn g [.box 0 0, .box 1 0]]]⟩
theorem sm_Circ_1 {g : Nat} {H : Int → Int → Bool} {l : List Int} (hl : l.length < 1000000) (hk : k.length < 1000000) (hg : ∀ a b, TSpM g [.int .u32 a, .int .u32 b, .box 0 0, .box 1 0] (Mc t m k) (.bool (H a b)) (Mc t m k)) :
    TSpM 47 [.ls 1 (iL l), .fn g [.box 0 0, .box 1 0], .box 3 0] (Mc t m k) (.int .u32 (findT H k l)) (Mc t m k) := by
  refine spm_stack_Circulate_1 (by rfl) ?_
  have hco : ∀ a, _ := fun a => sm_ContainsFunc (bx := Mc6 t m k g a) (f := 48) (caps := [.box 4 0, .box 5 0]) (p := H a) (l := k) rfl rfl hk (fun b _ => sm_Circ_1_1 hg a b)
  dsimp only [c_stack_Circulate_1, r_stack_Circulate_1, Mc, Mc6, run_skip, run_reg, plainB, ifB_true, run_seq, run_blk, run_exit, run_ret, run_ite, iteR, regK, thenK_nrm, thenK_exit, thenK_ret, thenR_nrm, thenR_exit, thenR_ret, blkK, keepS, keepE, runOps_nil, runOps_cons, goG_some, fpOk, foot, entOf, allN, memN, goOn_ok, goOn_call, goOn_row, goOn_arr, goOn_ask, goOn_put, goOn_prm, goOn_callK, goOn_callC, goOn_all, guardP, guardO, notInO, stepF, stepLd, stepSt, stepIxs, stepIxa, stepLen, stepApp, stepCpy, stepPick, stepSls, stepSst, stepSla, bareZ, evX, evL, evB, rd, get, subG, memG, freshG, notInG, hyps, gob, impP, allP, partD, partOf, isOne, isPtr, nth, takeN, dropN, cellsD, lenB, fillD, thirds, entN, setE, sizeE, addE, setL, setN, putE, env0, eqCs, eqAux, eqC, bA, bO, bN, bE, negB, kEq, isShr, lendL, lend, frz, frzL, zRow, closed, closedL, rowsOf, binI, retK, retG, atRet, retD, lendO, resL, resD, oneD, renD, renL, renE, renEs, rho, putAll, entsN, List.append, List.nil_append, List.cons_append, List.append_nil, cond, Nat.reduceBEq, Nat.reduceAdd, Nat.beq] at *
  rw [iL_len]
  refine loop_ind (α := {i : Nat // i ≤ l.length ∧ findT H k (l.drop i) = findT H k l}) (fun i => stFi t m k l g i.1) (fun i => l.length - i.1) ?_ ⟨0, by simp⟩ rfl
  rintro ⟨i, hi, hv⟩ I ih
  dsimp only [stFi, run_skip, run_reg, plainB, ifB_true, run_seq, run_blk, run_exit, run_ret, run_ite, iteR, regK, thenK_nrm, thenK_exit, thenK_ret, thenR_nrm, thenR_exit, thenR_ret, blkK, keepS, keepE, runOps_nil, runOps_cons, goG_some, fpOk, foot, entOf, allN, memN, goOn_ok, goOn_call, goOn_row, goOn_arr, goOn_ask, goOn_put, goOn_prm, goOn_callK, goOn_callC, goOn_all, guardP, guardO, notInO, stepF, stepLd, stepSt, stepIxs, stepIxa, stepLen, stepApp, stepCpy, stepPick, stepSls, stepSst, stepSla, bareZ, evX, evL, evB, rd, get, subG, memG, freshG, notInG, hyps, gob, impP, allP, partD, partOf, isOne, isPtr, nth, takeN, dropN, cellsD, lenB, fillD, thirds, entN, setE, sizeE, addE, setL, setN, putE, env0, eqCs, eqAux, eqC, bA, bO, bN, bE, negB, kEq, isShr, lendL, lend, frz, frzL, zRow, closed, closedL, rowsOf, binI, retK, retG, atRet, retD, lendO, resL, resD, oneD, renD, renL, renE, renEs, rho, putAll, entsN, List.append, List.nil_append, List.cons_append, List.append_nil, cond, Nat.reduceBEq, Nat.reduceAdd, Nat.beq]
  refine ⟨fun hj => ?_, fun hj => ?_⟩
  · have hj : i < l.length := by simp at hj; omega
    refine ⟨⟨rfl, by omega, by rw [iL_len]; omega⟩, row_intro _ _ (iL_at hj) rfl ?_⟩
    dsimp only [run_skip, run_reg, plainB, ifB_true, run_seq, run_blk, run_exit, run_ret, run_ite, iteR, regK, thenK_nrm, thenK_exit, thenK_ret, thenR_nrm, thenR_exit, thenR_ret, blkK, keepS, keepE, runOps_nil, runOps_cons, goG_some, fpOk, foot, entOf, allN, memN, goOn_ok, goOn_call, goOn_row, goOn_arr, goOn_ask, goOn_put, goOn_prm, goOn_callK, goOn_callC, goOn_all, guardP, guardO, notInO, stepF, stepLd, stepSt, stepIxs, stepIxa, stepLen, stepApp, stepCpy, stepPick, stepSls, stepSst, stepSla, bareZ, evX, evL, evB, rd, get, subG, memG, freshG, notInG, hyps, gob, impP, allP, partD, partOf, isOne, isPtr, nth, takeN, dropN, cellsD, lenB, fillD, thirds, entN, setE, sizeE, addE, setL, setN, putE, env0, eqCs, eqAux, eqC, bA, bO, bN, bE, negB, kEq, isShr, lendL, lend, frz, frzL, zRow, closed, closedL, rowsOf, binI, retK, retG, atRet, retD, lendO, resL, resD, oneD, renD, renL, renE, renEs, rho, putAll, entsN, List.append, List.nil_append, List.cons_append, List.append_nil, cond, Nat.reduceBEq, Nat.reduceAdd, Nat.beq]
    refine call_mem _ _ (hco l[i]) (fun _ => rfl) ?_
    dsimp only [run_skip, run_reg, plainB, ifB_true, run_seq, run_blk, run_exit, run_ret, run_ite, iteR, regK, thenK_nrm, thenK_exit, thenK_ret, thenR_nrm, thenR_exit, thenR_ret, blkK, keepS, keepE, runOps_nil, runOps_cons, goG_some, fpOk, foot, entOf, allN, memN, goOn_ok, goOn_call, goOn_row, goOn_arr, goOn_ask, goOn_put, goOn_prm, goOn_callK, goOn_callC, goOn_all, guardP, guardO, notInO, stepF, stepLd, stepSt, stepIxs, stepIxa, stepLen, stepApp, stepCpy, stepPick, stepSls, stepSst, stepSla, bareZ, evX, evL, evB, rd, get, subG, memG, freshG, notInG, hyps, gob, impP, allP, partD, partOf, isOne, isPtr, nth, takeN, dropN, cellsD, lenB, fillD, thirds, entN, setE, sizeE, addE, setL, setN, putE, env0, eqCs, eqAux, eqC, bA, bO, bN, bE, negB, kEq, isShr, lendL, lend, frz, frzL, zRow, closed, closedL, rowsOf, binI, retK, retG, atRet, retD, lendO, resL, resD, oneD, renD, renL, renE, renEs, rho, putAll, entsN, List.append, List.nil_append, List.cons_append, List.append_nil, cond, Nat.reduceBEq, Nat.reduceAdd, Nat.beq]
    rw [drop_at hj] at hv
    simp only [findT] at hv
    refine ⟨fun he => ?_, fun he => ?_⟩
    · rw [if_pos he] at hv
      rw [← hv]
      exact Rt.cut (Nat.le_refl _) ⟨rfl, rfl, rfl, rfl, trivial⟩ rfl rfl
    · rw [if_neg (by simp only [he]; exact Bool.false_ne_true)] at hv
      refine ⟨by simp only [fits]; omega, ?_⟩
      exact again (ih ⟨i + 1, by omega, hv⟩ (by dsimp only; omega)) ⟨rfl, rfl, rfl, rfl, rfl, trivial⟩ ⟨rfl, rfl, rfl, rfl, rfl, trivial⟩ rfl rfl
  · have hj : i = l.length := by simp at hj; omega
    subst hj
    rw [List.drop_length] at hv
    rw [← hv]
    exact Rt.cut (Nat.le_refl _) ⟨rfl, rfl, rfl, rfl, trivial⟩ rfl rfl
end
end Go.AM
