
/- The tree: paths. -/
import Derived.Test.YthcfahdogpjkeaaV5
set_option linter.all false
namespace Go.AM
open Go Go.Proofs

def idxF : List Int → Int → Int → Int
  | [], _, _ => -1
  | y :: r, x, i => if x = y then i else idxF r x (i + 1)
theorem idxF_nn {x : Int} : ∀ {l : List Int} {i : Int}, 0 ≤ i → (0 ≤ idxF l x i ↔ x ∈ l)
  | [], i, h => by simp [idxF]
  | y :: r, i, h => by
    simp only [idxF, List.mem_cons]
    split
    · rename_i e; simp [e, h]
    · rename_i e; rw [idxF_nn (by omega)]; simp [e]
theorem idxF_lt {x : Int} : ∀ {l : List Int} {i : Int}, idxF l x i < i + l.length ∨ idxF l x i = -1
  | [], i => .inr rfl
  | y :: r, i => by
    simp only [idxF]
    split
    · left; simp; omega
    · have := idxF_lt (x := x) (l := r) (i := i + 1)
      simp at this ⊢; omega
theorem drop_at {α : Type} {l : List α} {i : Nat} (h : i < l.length) : l.drop i = l[i] :: l.drop (i + 1) := by rw [List.drop_eq_getElem_cons h]

def stIx (l : List Int) (x : Int) (i : Nat) : St := ⟨[(0, [], .ls 1 (iL l)), (1, [], .int .u32 x), (7, [], .int .i64 l.length), (8, [], .int .i64 i)], []⟩
theorem sp_slices_Index {l : List Int} {x : Int} (hl : l.length < 1000000) : TSp 31 [.ls 1 (iL l), .int .u32 x] (.int .i64 (idxF l x 0)) := by
  refine spo_slices_Index_api_ID_api_ID (by rfl) ?_
  dsimp only [c_slices_Index_api_ID_api_ID, r_slices_Index_api_ID_api_ID, run_skip, run_reg, plainB, ifB_true, run_seq, run_blk, run_exit, run_ret, run_ite, iteR, regK, thenK_nrm, thenK_exit, thenK_ret, thenR_nrm, thenR_exit, thenR_ret, blkK, keepS, keepE, runOps_nil, runOps_cons, goG_some, fpOk, foot, entOf, allN, memN, goOn_ok, goOn_call, goOn_row, goOn_arr, goOn_ask, goOn_put, goOn_prm, goOn_callK, goOn_callC, goOn_all, guardP, guardO, notInO, stepF, stepLd, stepSt, stepIxs, stepIxa, stepLen, stepApp, stepCpy, stepPick, stepSls, stepSst, stepSla, bareZ, evX, evL, evB, rd, get, subG, memG, freshG, notInG, hyps, gob, impP, allP, partD, partOf, isOne, isPtr, nth, takeN, dropN, cellsD, lenB, fillD, thirds, entN, setE, sizeE, addE, setL, setN, putE, env0, eqCs, eqAux, eqC, bA, bO, bN, bE, negB, kEq, isShr, lendL, lend, frz, frzL, zRow, closed, closedL, rowsOf, binI, retK, retG, atRet, retD, lendO, resL, resD, oneD, renD, renL, renE, renEs, rho, putAll, entsN, List.append, List.nil_append, List.cons_append, List.append_nil, cond, Nat.reduceBEq, Nat.reduceAdd, Nat.beq]
  rw [iL_len]
  refine loop_ind (α := {i : Nat // i ≤ l.length ∧ idxF (l.drop i) x i = idxF l x 0}) (fun i => stIx l x i.1) (fun i => l.length - i.1) ?_ ⟨0, by simp⟩ rfl
  rintro ⟨i, hi, hv⟩ I ih
  dsimp only [stIx, run_skip, run_reg, plainB, ifB_true, run_seq, run_blk, run_exit, run_ret, run_ite, iteR, regK, thenK_nrm, thenK_exit, thenK_ret, thenR_nrm, thenR_exit, thenR_ret, blkK, keepS, keepE, runOps_nil, runOps_cons, goG_some, fpOk, foot, entOf, allN, memN, goOn_ok, goOn_call, goOn_row, goOn_arr, goOn_ask, goOn_put, goOn_prm, goOn_callK, goOn_callC, goOn_all, guardP, guardO, notInO, stepF, stepLd, stepSt, stepIxs, stepIxa, stepLen, stepApp, stepCpy, stepPick, stepSls, stepSst, stepSla, bareZ, evX, evL, evB, rd, get, subG, memG, freshG, notInG, hyps, gob, impP, allP, partD, partOf, isOne, isPtr, nth, takeN, dropN, cellsD, lenB, fillD, thirds, entN, setE, sizeE, addE, setL, setN, putE, env0, eqCs, eqAux, eqC, bA, bO, bN, bE, negB, kEq, isShr, lendL, lend, frz, frzL, zRow, closed, closedL, rowsOf, binI, retK, retG, atRet, retD, lendO, resL, resD, oneD, renD, renL, renE, renEs, rho, putAll, entsN, List.append, List.nil_append, List.cons_append, List.append_nil, cond, Nat.reduceBEq, Nat.reduceAdd, Nat.beq]
  refine ⟨fun hj => ?_, fun hj => ?_⟩
  · have hj : i < l.length := by simp at hj; omega
    refine ⟨⟨rfl, by omega, by rw [iL_len]; omega⟩, row_intro _ _ (iL_at hj) rfl ?_⟩
    dsimp only [run_skip, run_reg, plainB, ifB_true, run_seq, run_blk, run_exit, run_ret, run_ite, iteR, regK, thenK_nrm, thenK_exit, thenK_ret, thenR_nrm, thenR_exit, thenR_ret, blkK, keepS, keepE, runOps_nil, runOps_cons, goG_some, fpOk, foot, entOf, allN, memN, goOn_ok, goOn_call, goOn_row, goOn_arr, goOn_ask, goOn_put, goOn_prm, goOn_callK, goOn_callC, goOn_all, guardP, guardO, notInO, stepF, stepLd, stepSt, stepIxs, stepIxa, stepLen, stepApp, stepCpy, stepPick, stepSls, stepSst, stepSla, bareZ, evX, evL, evB, rd, get, subG, memG, freshG, notInG, hyps, gob, impP, allP, partD, partOf, isOne, isPtr, nth, takeN, dropN, cellsD, lenB, fillD, thirds, entN, setE, sizeE, addE, setL, setN, putE, env0, eqCs, eqAux, eqC, bA, bO, bN, bE, negB, kEq, isShr, lendL, lend, frz, frzL, zRow, closed, closedL, rowsOf, binI, retK, retG, atRet, retD, lendO, resL, resD, oneD, renD, renL, renE, renEs, rho, putAll, entsN, List.append, List.nil_append, List.cons_append, List.append_nil, cond, Nat.reduceBEq, Nat.reduceAdd, Nat.beq]
    rw [drop_at hj] at hv
    simp only [idxF] at hv
    by_cases he : x = l[i]
    · rw [if_pos he] at hv
      refine ⟨fun _ => ?_, fun h => by simp [he] at h⟩
      exact congrArg (D.int .i64) hv
    · rw [if_neg he] at hv
      refine ⟨fun h => by simp [he] at h, fun _ => ?_⟩
      refine ⟨by simp only [fits]; omega, ?_⟩
      exact again (ih ⟨i + 1, by omega, by rw [← hv]; rfl⟩ (by dsimp only; omega)) ⟨rfl, rfl, rfl, rfl, trivial⟩ trivial rfl rfl
  · have hj : i = l.length := by simp at hj; omega
    subst hj
    rw [List.drop_length] at hv
    exact congrArg (D.int .i64) hv

/-- This is the way up. -/
def PathT (t : TT) : Int → List Int → Prop
  | _, [] => False
  | id, x :: r => x = id ∧ if id = 1 then r = [] else ∃ u, lk t.up id = some u ∧ PathT t u r

structure PaX where
  done : List Int
  id : Int
  rest : List Int
  v : Nat
def stPa (t : TT) (x : PaX) : St := ⟨[(1, [], .int .u32 x.id), (2, [], .box 0 0), (5, [], .own 2 x.v)], [.cells [.mp (mpK .u32 (kKV t.kids)) (mpV (kKV t.kids)), .mp (mpK .u32 (uKV t.up)) (mpV (uKV t.up))], .arr 37 1 0 [], .arr 37 1 x.v (iL (x.done ++ [x.id]))]⟩

def meetF : List Int → List Int → Int × Bool
  | [], _ => (0, false)
  | x :: r, q => if x ∈ q then (x, true) else meetF r q
def stMe (a b : List Int) (i : Nat) : St := ⟨[(8, [], .ls 1 (iL b)), (16, [], .ls 1 (iL a)), (17, [], .int .i64 a.length), (18, [], .int .i64 i)], []⟩
end Go.AM
