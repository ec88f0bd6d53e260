
/- Chapter 29: the example; Restacks. -/
import Derived.Test.YthcfahdogpjkeaaX15
set_option linter.all false
namespace Go.AM
open Go Go.Proofs

theorem cm_fits {n : Nat} {deep : Int} {t : TT} {σ : List Int} (h : TR n deep t σ) : ∀ x ∈ kidsT t 1, fits .u32 x := by
  intro x hx
  rw [h.kids, cm_mem, h.mem] at hx
  have := h.n8
  simp only [fits]; omega
theorem sp_kids {n : Nat} {deep : Int} {t : TT} {σ : List Int} (h : TR n deep t σ) : TSp 15 [.agg [.mp (mpK .u32 (kKV t.kids)) (mpV (kKV t.kids)), .mp (mpK .u32 (uKV t.up)) (mpV (uKV t.up))]] (.ls 5 (kL (kidsL t))) := sp_law29_kids h.ok (cm_fits h)
theorem kidsL_short {n : Nat} {deep : Int} {t : TT} {σ : List Int} (h : TR n deep t σ) : (kidsL t).length < 1000000 := by
  rw [kidsL_len]
  have := h.ok.kl 1
  omega
theorem nums_kids {n : Nat} {deep : Int} {t : TT} {σ : List Int} (h : TR n deep t σ) : nums (kidsL t) = σ := by
  unfold nums kidsL
  rw [h.kids, List.map_map]
  unfold cm
  rw [List.map_map]
  have : (((fun x : Kd => x.n) ∘ fun x : Int => (⟨x - 1048576, .o⟩ : Kd)) ∘ fun x : Int => 1048576 + x) = id := by
    funext x
    simp only [Function.comp, id]; omega
  rw [this, List.map_id]
theorem TR.len {n : Nat} {deep : Int} {t : TT} {σ : List Int} (h : TR n deep t σ) : σ.length ≤ 64 := by
  have := h.ok.kl 1
  rwa [h.kids, cm_len] at this
theorem same_kids {n : Nat} {deep : Int} {t : TT} {σ : List Int} (h : TR n deep t σ) (l : List Kd) : sameR (kidsL t) l = decide (σ = nums l) := by unfold sameR; rw [nums_kids h]
theorem rest_ok {n : Nat} {deep : Int} {t : TT} {σ : List Int} (h : TR n deep t σ) : RestOk t n deep := by
  intro i hi
  rw [h.kidsX (by omega)]
  by_cases hb : bitD deep i = true
  · rw [if_pos ⟨by omega, by omega, by rw [show (1048577 + (i : Int) - 1048577).toNat = i by omega]; exact hb⟩, if_pos hb]
    congr 1; omega
  · rw [if_neg hb, if_neg]
    rw [show (1048577 + (i : Int) - 1048577).toNat = i by omega]
    exact fun h => hb h.2.2

section
variable {ats : List Rc} {deep : Int} {t : TT} {σ : List Int} {a b mode : Int} {s : Int} {m : Ats}
theorem restack_none (h : TR ats.length deep t σ) (ha : a ∉ σ) (h0 : 0 ≤ a) (h1 : a < 100) : restackT t (1048576 + a) s mode m = (t, false, 6) := by
  unfold restackT
  rw [if_neg (by omega), if_pos (by rw [h.up0 ha h0 h1]; rfl)]
theorem restack_kind (h : TR ats.length deep t σ) (ha : a ∈ σ) (hm : mode < 0 ∨ 4 < mode) : restackT t (1048576 + a) s mode m = (t, false, 10) := by
  have := (h.mem a).1 ha
  unfold restackT
  rw [if_neg (by omega), if_neg (by rw [h.up1 ha]; simp), if_pos (by simp; omega)]
theorem restack_match (h : TR ats.length deep t σ) (ha : a ∈ σ) (m0 : 0 ≤ mode) (m4 : mode ≤ 4) (hs : s ≠ 0) (hb : s - 1048576 ∉ offL σ a) : restackT t (1048576 + a) s mode m = (t, false, 14) := by
  have := (h.mem a).1 ha
  have hut : upT t (1048576 + a) = 1 := by unfold upT; rw [h.up1 ha]; rfl
  have hO : othersT t (1048576 + a) = cm (offL σ a) := by unfold othersT; rw [hut, h.kids, cm_off]
  unfold restackT
  rw [if_neg (by omega), if_neg (by rw [h.up1 ha]; simp), if_neg (by simp; omega), if_pos]
  rw [hO, idxF_no (fun h' => hb (cm_mem.1 h'))]
  simp [hs]
end

def atsW : List Rc := [⟨0, 0, 4, 4⟩, ⟨50, 0, 4, 4⟩, ⟨2, 0, 4, 4⟩]
theorem atsW_in : ∀ r ∈ atsW, r.In := by
  intro r hr
  simp only [atsW, List.mem_cons, List.not_mem_nil, or_false] at hr
  rcases hr with rfl | rfl | rfl <;> simp [Rc.In, fits]
set_option maxHeartbeats 1000000 in
theorem sp_law29_awake : TSp 10 [] (.bool true) := by
  refine spo_law29_awake (by rfl) ?_
  have htD : ∀ t : TT, tD t = .agg [mpD .u32 (kKV t.kids), mpD .u32 (uKV t.up)] := fun _ => rfl
  have hmk := sp_law29_made (ats := atsW) (deep := 0) (by decide) (by simp [fits])
  have h0 := TR.first (n := 3) (by omega) 0
  have hm := mB_ok atsW_in (deep := 0) (j := 3) (by decide)
  obtain ⟨t1, e1, h1⟩ := restack_ok (ats := atsW) (a := 1) (b := 0) (mode := 2) h0 (by decide +kernel) (.inl rfl) (by omega) (by omega)
  obtain ⟨t2, e2, h2⟩ := restack_ok (ats := atsW) (a := 3) (b := 0) (mode := 4) h0 (by decide +kernel) (.inl rfl) (by omega) (by omega)
  have n1 : newS atsW ((List.range 3).map fun (j : Nat) => (j : Int) + 1) 1 0 2 = [2, 3, 1] := by decide +kernel
  have n2 : newS atsW ((List.range 3).map fun (j : Nat) => (j : Int) + 1) 3 0 4 = [3, 1, 2] := by decide +kernel
  rw [n1] at e1 h1
  rw [n2] at e2 h2
  have r1 := sp_stack_Restack h0.reg hm 1048577 0 2
  have r2 := sp_stack_Restack h0.reg hm 1048579 0 4
  rw [show restackT (tB 3 0 3) 1048577 0 2 (mB atsW 0 3) = (t1, true, 0) from e1.trans (by rfl)] at r1
  rw [show restackT (tB 3 0 3) 1048579 0 4 (mB atsW 0 3) = (t2, true, 0) from e2.trans (by rfl)] at r2
  have k1 := sp_kids h1
  have k2 := sp_kids h2
  have s1 := sp_ref29_Same (a := kidsL t1) (b := [⟨2, .o⟩, ⟨3, .o⟩, ⟨1, .o⟩]) (kidsL_short h1) (by simp)
  have s2 := sp_ref29_Same (a := kidsL t2) (b := [⟨3, .o⟩, ⟨1, .o⟩, ⟨2, .o⟩]) (kidsL_short h2) (by simp)
  rw [same_kids h1] at s1
  rw [same_kids h2] at s2
  rw [show decide (([2, 3, 1] : List Int) = nums [⟨2, .o⟩, ⟨3, .o⟩, ⟨1, .o⟩]) = true by decide] at s1
  rw [show decide (([3, 1, 2] : List Int) = nums [⟨3, .o⟩, ⟨1, .o⟩, ⟨2, .o⟩]) = true by decide] at s2
  rw [show atsW.length = 3 from rfl, htD] at hmk
  rw [htD, htD] at r1 r2
  dsimp only [c_law29_awake, r_law29_awake, sceneD, run_skip, run_reg, plainB, ifB_true, run_seq, run_blk, run_exit, run_ret, run_ite, iteR, regK, thenK_nrm, thenK_exit, thenK_ret, thenR_nrm, thenR_exit, thenR_ret, blkK, keepS, keepE, runOps_nil, runOps_cons, goG_some, fpOk, foot, entOf, allN, memN, goOn_ok, goOn_call, goOn_row, goOn_arr, goOn_ask, goOn_put, goOn_prm, goOn_callK, goOn_callC, goOn_all, guardP, guardO, notInO, stepF, stepLd, stepSt, stepIxs, stepIxa, stepLen, stepApp, stepCpy, stepPick, stepSls, stepSst, stepSla, bareZ, evX, evL, evB, rd, get, subG, memG, freshG, notInG, hyps, gob, impP, allP, partD, partOf, isOne, isPtr, nth, takeN, dropN, cellsD, lenB, fillD, thirds, entN, setE, sizeE, addE, setL, setN, putE, env0, eqCs, eqAux, eqC, bA, bO, bN, bE, negB, kEq, isShr, lendL, lend, frz, frzL, zRow, closed, closedL, rowsOf, binI, retK, retG, atRet, retD, lendO, resL, resD, oneD, renD, renL, renE, renEs, rho, putAll, entsN, List.append, List.nil_append, List.cons_append, List.append_nil, cond, Nat.reduceBEq, Nat.reduceAdd, Nat.beq] at *
  refine call_pure hmk ?_
  dsimp only [run_skip, run_reg, plainB, ifB_true, run_seq, run_blk, run_exit, run_ret, run_ite, iteR, regK, thenK_nrm, thenK_exit, thenK_ret, thenR_nrm, thenR_exit, thenR_ret, blkK, keepS, keepE, runOps_nil, runOps_cons, goG_some, fpOk, foot, entOf, allN, memN, goOn_ok, goOn_call, goOn_row, goOn_arr, goOn_ask, goOn_put, goOn_prm, goOn_callK, goOn_callC, goOn_all, guardP, guardO, notInO, stepF, stepLd, stepSt, stepIxs, stepIxa, stepLen, stepApp, stepCpy, stepPick, stepSls, stepSst, stepSla, bareZ, evX, evL, evB, rd, get, subG, memG, freshG, notInG, hyps, gob, impP, allP, partD, partOf, isOne, isPtr, nth, takeN, dropN, cellsD, lenB, fillD, thirds, entN, setE, sizeE, addE, setL, setN, putE, env0, eqCs, eqAux, eqC, bA, bO, bN, bE, negB, kEq, isShr, lendL, lend, frz, frzL, zRow, closed, closedL, rowsOf, binI, retK, retG, atRet, retD, lendO, resL, resD, oneD, renD, renL, renE, renEs, rho, putAll, entsN, List.append, List.nil_append, List.cons_append, List.append_nil, cond, Nat.reduceBEq, Nat.reduceAdd, Nat.beq]
  refine call_pure r1 ?_
  dsimp only [run_skip, run_reg, plainB, ifB_true, run_seq, run_blk, run_exit, run_ret, run_ite, iteR, regK, thenK_nrm, thenK_exit, thenK_ret, thenR_nrm, thenR_exit, thenR_ret, blkK, keepS, keepE, runOps_nil, runOps_cons, goG_some, fpOk, foot, entOf, allN, memN, goOn_ok, goOn_call, goOn_row, goOn_arr, goOn_ask, goOn_put, goOn_prm, goOn_callK, goOn_callC, goOn_all, guardP, guardO, notInO, stepF, stepLd, stepSt, stepIxs, stepIxa, stepLen, stepApp, stepCpy, stepPick, stepSls, stepSst, stepSla, bareZ, evX, evL, evB, rd, get, subG, memG, freshG, notInG, hyps, gob, impP, allP, partD, partOf, isOne, isPtr, nth, takeN, dropN, cellsD, lenB, fillD, thirds, entN, setE, sizeE, addE, setL, setN, putE, env0, eqCs, eqAux, eqC, bA, bO, bN, bE, negB, kEq, isShr, lendL, lend, frz, frzL, zRow, closed, closedL, rowsOf, binI, retK, retG, atRet, retD, lendO, resL, resD, oneD, renD, renL, renE, renEs, rho, putAll, entsN, List.append, List.nil_append, List.cons_append, List.append_nil, cond, Nat.reduceBEq, Nat.reduceAdd, Nat.beq]
  refine call_pure r2 ?_
  dsimp only [run_skip, run_reg, plainB, ifB_true, run_seq, run_blk, run_exit, run_ret, run_ite, iteR, regK, thenK_nrm, thenK_exit, thenK_ret, thenR_nrm, thenR_exit, thenR_ret, blkK, keepS, keepE, runOps_nil, runOps_cons, goG_some, fpOk, foot, entOf, allN, memN, goOn_ok, goOn_call, goOn_row, goOn_arr, goOn_ask, goOn_put, goOn_prm, goOn_callK, goOn_callC, goOn_all, guardP, guardO, notInO, stepF, stepLd, stepSt, stepIxs, stepIxa, stepLen, stepApp, stepCpy, stepPick, stepSls, stepSst, stepSla, bareZ, evX, evL, evB, rd, get, subG, memG, freshG, notInG, hyps, gob, impP, allP, partD, partOf, isOne, isPtr, nth, takeN, dropN, cellsD, lenB, fillD, thirds, entN, setE, sizeE, addE, setL, setN, putE, env0, eqCs, eqAux, eqC, bA, bO, bN, bE, negB, kEq, isShr, lendL, lend, frz, frzL, zRow, closed, closedL, rowsOf, binI, retK, retG, atRet, retD, lendO, resL, resD, oneD, renD, renL, renE, renEs, rho, putAll, entsN, List.append, List.nil_append, List.cons_append, List.append_nil, cond, Nat.reduceBEq, Nat.reduceAdd, Nat.beq]
  refine call_pure (fun _ => k1) ?_
  dsimp only [run_skip, run_reg, plainB, ifB_true, run_seq, run_blk, run_exit, run_ret, run_ite, iteR, regK, thenK_nrm, thenK_exit, thenK_ret, thenR_nrm, thenR_exit, thenR_ret, blkK, keepS, keepE, runOps_nil, runOps_cons, goG_some, fpOk, foot, entOf, allN, memN, goOn_ok, goOn_call, goOn_row, goOn_arr, goOn_ask, goOn_put, goOn_prm, goOn_callK, goOn_callC, goOn_all, guardP, guardO, notInO, stepF, stepLd, stepSt, stepIxs, stepIxa, stepLen, stepApp, stepCpy, stepPick, stepSls, stepSst, stepSla, bareZ, evX, evL, evB, rd, get, subG, memG, freshG, notInG, hyps, gob, impP, allP, partD, partOf, isOne, isPtr, nth, takeN, dropN, cellsD, lenB, fillD, thirds, entN, setE, sizeE, addE, setL, setN, putE, env0, eqCs, eqAux, eqC, bA, bO, bN, bE, negB, kEq, isShr, lendL, lend, frz, frzL, zRow, closed, closedL, rowsOf, binI, retK, retG, atRet, retD, lendO, resL, resD, oneD, renD, renL, renE, renEs, rho, putAll, entsN, List.append, List.nil_append, List.cons_append, List.append_nil, cond, Nat.reduceBEq, Nat.reduceAdd, Nat.beq]
  refine call_pure (fun _ => s1) ?_
  dsimp only [run_skip, run_reg, plainB, ifB_true, run_seq, run_blk, run_exit, run_ret, run_ite, iteR, regK, thenK_nrm, thenK_exit, thenK_ret, thenR_nrm, thenR_exit, thenR_ret, blkK, keepS, keepE, runOps_nil, runOps_cons, goG_some, fpOk, foot, entOf, allN, memN, goOn_ok, goOn_call, goOn_row, goOn_arr, goOn_ask, goOn_put, goOn_prm, goOn_callK, goOn_callC, goOn_all, guardP, guardO, notInO, stepF, stepLd, stepSt, stepIxs, stepIxa, stepLen, stepApp, stepCpy, stepPick, stepSls, stepSst, stepSla, bareZ, evX, evL, evB, rd, get, subG, memG, freshG, notInG, hyps, gob, impP, allP, partD, partOf, isOne, isPtr, nth, takeN, dropN, cellsD, lenB, fillD, thirds, entN, setE, sizeE, addE, setL, setN, putE, env0, eqCs, eqAux, eqC, bA, bO, bN, bE, negB, kEq, isShr, lendL, lend, frz, frzL, zRow, closed, closedL, rowsOf, binI, retK, retG, atRet, retD, lendO, resL, resD, oneD, renD, renL, renE, renEs, rho, putAll, entsN, List.append, List.nil_append, List.cons_append, List.append_nil, cond, Nat.reduceBEq, Nat.reduceAdd, Nat.beq]
  refine call_pure (fun _ => k2) ?_
  dsimp only [run_skip, run_reg, plainB, ifB_true, run_seq, run_blk, run_exit, run_ret, run_ite, iteR, regK, thenK_nrm, thenK_exit, thenK_ret, thenR_nrm, thenR_exit, thenR_ret, blkK, keepS, keepE, runOps_nil, runOps_cons, goG_some, fpOk, foot, entOf, allN, memN, goOn_ok, goOn_call, goOn_row, goOn_arr, goOn_ask, goOn_put, goOn_prm, goOn_callK, goOn_callC, goOn_all, guardP, guardO, notInO, stepF, stepLd, stepSt, stepIxs, stepIxa, stepLen, stepApp, stepCpy, stepPick, stepSls, stepSst, stepSla, bareZ, evX, evL, evB, rd, get, subG, memG, freshG, notInG, hyps, gob, impP, allP, partD, partOf, isOne, isPtr, nth, takeN, dropN, cellsD, lenB, fillD, thirds, entN, setE, sizeE, addE, setL, setN, putE, env0, eqCs, eqAux, eqC, bA, bO, bN, bE, negB, kEq, isShr, lendL, lend, frz, frzL, zRow, closed, closedL, rowsOf, binI, retK, retG, atRet, retD, lendO, resL, resD, oneD, renD, renL, renE, renEs, rho, putAll, entsN, List.append, List.nil_append, List.cons_append, List.append_nil, cond, Nat.reduceBEq, Nat.reduceAdd, Nat.beq]
  refine call_pure (fun _ => s2) ?_
  dsimp only [run_skip, run_reg, plainB, ifB_true, run_seq, run_blk, run_exit, run_ret, run_ite, iteR, regK, thenK_nrm, thenK_exit, thenK_ret, thenR_nrm, thenR_exit, thenR_ret, blkK, keepS, keepE, runOps_nil, runOps_cons, goG_some, fpOk, foot, entOf, allN, memN, goOn_ok, goOn_call, goOn_row, goOn_arr, goOn_ask, goOn_put, goOn_prm, goOn_callK, goOn_callC, goOn_all, guardP, guardO, notInO, stepF, stepLd, stepSt, stepIxs, stepIxa, stepLen, stepApp, stepCpy, stepPick, stepSls, stepSst, stepSla, bareZ, evX, evL, evB, rd, get, subG, memG, freshG, notInG, hyps, gob, impP, allP, partD, partOf, isOne, isPtr, nth, takeN, dropN, cellsD, lenB, fillD, thirds, entN, setE, sizeE, addE, setL, setN, putE, env0, eqCs, eqAux, eqC, bA, bO, bN, bE, negB, kEq, isShr, lendL, lend, frz, frzL, zRow, closed, closedL, rowsOf, binI, retK, retG, atRet, retD, lendO, resL, resD, oneD, renD, renL, renE, renEs, rho, putAll, entsN, List.append, List.nil_append, List.cons_append, List.append_nil, cond, Nat.reduceBEq, Nat.reduceAdd, Nat.beq]
  rfl
end Go.AM
