
/- Chapter 29: StackCirculates. -/
import Derived.Test.YthcfahdogpjkeaaX20
set_option linter.all false
set_option maxRecDepth 100000
namespace Go.AM
open Go Go.Proofs

theorem hidS_self (ats : List Rc) (σ : List Int) (a : Int) : hidS ats σ a a = false := by unfold hidS; simp
theorem any_off {σ : List Int} {a : Int} {p : Int → Bool} (h : p a = false) : (offL σ a).any p = σ.any p := by
  rw [Bool.eq_iff_iff, List.any_eq_true, List.any_eq_true]
  constructor
  · rintro ⟨w, hw, hp⟩
    exact ⟨w, (offL_mem.1 hw).1, hp⟩
  · rintro ⟨w, hw, hp⟩
    exact ⟨w, offL_mem.2 ⟨hw, fun e => by rw [e, h] at hp; cases hp⟩, hp⟩
section
variable {ats : List Rc} {deep : Int} {t : TT}
/-- What is found, and what the document finds. -/
def CirOk (ats : List Rc) (f : Int) (to : Nat) (r : List Kd × Int) : Prop :=
  (f = 0 ∧ r = (kA ats ats.length, 0)) ∨ ∃ a, a ∈ sig0 ats.length ∧ f = 1048576 + a ∧ r.2 = a ∧ nums r.1 = ins (offL (sig0 ats.length) a) to a
theorem circ_up (h : TR ats.length deep t (sig0 ats.length)) : ∀ (c s : Nat), s + c = ats.length → CirOk ats (findT (fun a b => hidesT t (mB ats deep ats.length) b a) (cm (sig0 ats.length)) ((cm (sig0 ats.length)).drop s)) (ats.length - 1) (circR (kA ats ats.length) true c s)
  | 0, s, hs => by
    left
    rw [List.drop_of_length_le (by rw [cm_len, sig0_len]; omega)]
    exact ⟨rfl, rfl⟩
  | c + 1, s, hs => by
    have hlt : s < ats.length := by omega
    have hm : (s : Int) + 1 ∈ sig0 ats.length := sig0_mem.2 (by omega)
    have hat : (cm (sig0 ats.length))[s]'(by rw [cm_len, sig0_len]; exact hlt) = 1048576 + ((s : Int) + 1) := by
      unfold cm
      rw [List.getElem_map, sig0_at hlt]
    rw [drop_at (by rw [cm_len, sig0_len]; exact hlt), hat]
    simp only [findT, circR, if_true]
    have he : (cm (sig0 ats.length)).any (fun b => hidesT t (mB ats deep ats.length) b (1048576 + ((s : Int) + 1))) = hidnR (kA ats ats.length) s (-1) := by
      rw [hidn_eq hlt (.inl rfl)]
      unfold hnS
      rw [if_pos (by omega), any_off (p := fun w => hidS ats (sig0 ats.length) w _) (hidS_self ..)]
      exact any_cm fun w hw => hides_eq h hw hm
    rw [he]
    cases hidnR (kA ats ats.length) s (-1)
    · simp only [Bool.false_eq_true, if_false]
      exact circ_up h c (s + 1) (by omega)
    · simp only [if_true]
      right
      refine ⟨(s : Int) + 1, hm, rfl, by rw [kAt_kA hlt], ?_⟩
      rw [kA_len, nums_mov hlt]
theorem circ_down (h : TR ats.length deep t (sig0 ats.length)) : ∀ (c s : Nat), s + c = ats.length → CirOk ats (findT (fun a b => hidesT t (mB ats deep ats.length) a b) (cm (sig0 ats.length)) ((cm (sig0 ats.length)).reverse.drop s)) 0 (circR (kA ats ats.length) false c s)
  | 0, s, hs => by
    left
    rw [List.drop_of_length_le (by rw [List.length_reverse, cm_len, sig0_len]; omega)]
    exact ⟨rfl, rfl⟩
  | c + 1, s, hs => by
    have hlt : s < ats.length := by omega
    have hlt' : ats.length - 1 - s < ats.length := by omega
    have hm : ((ats.length - 1 - s : Nat) : Int) + 1 ∈ sig0 ats.length := sig0_mem.2 (by omega)
    have hat : (cm (sig0 ats.length)).reverse[s]'(by rw [List.length_reverse, cm_len, sig0_len]; exact hlt) = 1048576 + (((ats.length - 1 - s : Nat) : Int) + 1) := by
      rw [List.getElem_reverse]
      unfold cm
      rw [List.getElem_map]
      congr 1
      have e := sig0_at hlt'
      rw [← e]
      congr 1
      simp [sig0_len]
    rw [drop_at (by rw [List.length_reverse, cm_len, sig0_len]; exact hlt), hat]
    simp only [findT, circR, Bool.false_eq_true, if_false]
    have ek : ((kA ats ats.length).length : Int) - 1 - (s : Int) = ((ats.length - 1 - s : Nat) : Int) := by rw [kA_len]; omega
    rw [ek]
    have he : (cm (sig0 ats.length)).any (fun b => hidesT t (mB ats deep ats.length) (1048576 + (((ats.length - 1 - s : Nat) : Int) + 1)) b) = hidgR (kA ats ats.length) ((ats.length - 1 - s : Nat) : Int) (-1) := by
      rw [hidg_eq hlt' (.inl rfl)]
      unfold hgS
      rw [if_pos (by omega), any_off (p := fun w => hidS ats (sig0 ats.length) _ w) (hidS_self ..)]
      exact any_cm fun w hw => hides_eq h hm hw
    rw [he]
    cases hidgR (kA ats ats.length) ((ats.length - 1 - s : Nat) : Int) (-1)
    · simp only [Bool.false_eq_true, if_false]
      exact circ_down h c (s + 1) (by omega)
    · simp only [if_true]
      right
      refine ⟨((ats.length - 1 - s : Nat) : Int) + 1, hm, rfl, by rw [kAt_kA hlt'], ?_⟩
      rw [kA_len, nums_mov hlt']
theorem circ_ok (h : TR ats.length deep t (sig0 ats.length)) (up : Bool) : CirOk ats (circI t 1 up (mB ats deep ats.length)) (if up then ats.length - 1 else 0) (circR (kA ats ats.length) up ats.length 0) := by
  unfold circI
  rw [h.kids]
  cases up
  · have := circ_down h ats.length 0 (by omega)
    exact this
  · have := circ_up h ats.length 0 (by omega)
    exact this
end

set_option maxHeartbeats 2000000 in
theorem sp_law29_StackCirculates {ats : List Rc} {deep : Int} (hin : ∀ r ∈ ats, r.In) (hd : fits .u8 deep) (up : Bool) : TSp 8 [sceneD ats deep, .bool up] (.bool true) := by
  refine spo_law29_StackCirculates (by rfl) ?_
  have htD : ∀ t : TT, tD t = .agg [mpD .u32 (kKV t.kids), mpD .u32 (uKV t.up)] := fun _ => rfl
  have hgr := sp_law29_great ats deep
  dsimp only [c_law29_StackCirculates, r_law29_StackCirculates, sceneD, run_skip, run_reg, plainB, ifB_true, run_seq, run_blk, run_exit, run_ret, run_ite, iteR, regK, thenK_nrm, thenK_exit, thenK_ret, thenR_nrm, thenR_exit, thenR_ret, blkK, keepS, keepE, runOps_nil, runOps_cons, goG_some, fpOk, foot, entOf, allN, memN, goOn_ok, goOn_call, goOn_row, goOn_arr, goOn_ask, goOn_put, goOn_prm, goOn_callK, goOn_callC, goOn_all, guardP, guardO, notInO, stepF, stepLd, stepSt, stepIxs, stepIxa, stepLen, stepApp, stepCpy, stepPick, stepSls, stepSst, stepSla, bareZ, evX, evL, evB, rd, get, subG, memG, freshG, notInG, hyps, gob, impP, allP, partD, partOf, isOne, isPtr, nth, takeN, dropN, cellsD, lenB, fillD, thirds, entN, setE, sizeE, addE, setL, setN, putE, env0, eqCs, eqAux, eqC, bA, bO, bN, bE, negB, kEq, isShr, lendL, lend, frz, frzL, zRow, closed, closedL, rowsOf, binI, retK, retG, atRet, retD, lendO, resL, resD, oneD, renD, renL, renE, renEs, rho, putAll, entsN, List.append, List.nil_append, List.cons_append, List.append_nil, cond, Nat.reduceBEq, Nat.reduceAdd, Nat.beq] at *
  refine call_pure hgr ?_
  dsimp only [run_skip, run_reg, plainB, ifB_true, run_seq, run_blk, run_exit, run_ret, run_ite, iteR, regK, thenK_nrm, thenK_exit, thenK_ret, thenR_nrm, thenR_exit, thenR_ret, blkK, keepS, keepE, runOps_nil, runOps_cons, goG_some, fpOk, foot, entOf, allN, memN, goOn_ok, goOn_call, goOn_row, goOn_arr, goOn_ask, goOn_put, goOn_prm, goOn_callK, goOn_callC, goOn_all, guardP, guardO, notInO, stepF, stepLd, stepSt, stepIxs, stepIxa, stepLen, stepApp, stepCpy, stepPick, stepSls, stepSst, stepSla, bareZ, evX, evL, evB, rd, get, subG, memG, freshG, notInG, hyps, gob, impP, allP, partD, partOf, isOne, isPtr, nth, takeN, dropN, cellsD, lenB, fillD, thirds, entN, setE, sizeE, addE, setL, setN, putE, env0, eqCs, eqAux, eqC, bA, bO, bN, bE, negB, kEq, isShr, lendL, lend, frz, frzL, zRow, closed, closedL, rowsOf, binI, retK, retG, atRet, retD, lendO, resL, resD, oneD, renD, renL, renE, renEs, rho, putAll, entsN, List.append, List.nil_append, List.cons_append, List.append_nil, cond, Nat.reduceBEq, Nat.reduceAdd, Nat.beq]
  refine ⟨fun _ => call_pure sp_law29_awake rfl, fun hg => ?_⟩
  have hl : ats.length ≤ 8 := by simp at hg; omega
  have hmk := sp_law29_made (ats := ats) (deep := deep) hl hd
  have hT := TR.first hl deep
  have hm := mB_ok hin (deep := deep) hl (j := ats.length)
  have hs0 : ((List.range ats.length).map fun (j : Nat) => (j : Int) + 1) = sig0 ats.length := rfl
  rw [hs0] at hT
  generalize hn : tB ats.length deep ats.length = t at *
  have hC := sp_stack_Circulate hT.reg hm 1 up
  have hRC := sp_ref29_Circulate (l := kA ats ats.length) (kA_ins hin _) (by rw [kA_len]; omega) up
  rw [kA_len] at hRC
  have hok := circ_ok hT up
  rw [htD] at hmk hC
  dsimp only [sceneD] at hmk
  refine call_pure hmk ?_
  dsimp only [run_skip, run_reg, plainB, ifB_true, run_seq, run_blk, run_exit, run_ret, run_ite, iteR, regK, thenK_nrm, thenK_exit, thenK_ret, thenR_nrm, thenR_exit, thenR_ret, blkK, keepS, keepE, runOps_nil, runOps_cons, goG_some, fpOk, foot, entOf, allN, memN, goOn_ok, goOn_call, goOn_row, goOn_arr, goOn_ask, goOn_put, goOn_prm, goOn_callK, goOn_callC, goOn_all, guardP, guardO, notInO, stepF, stepLd, stepSt, stepIxs, stepIxa, stepLen, stepApp, stepCpy, stepPick, stepSls, stepSst, stepSla, bareZ, evX, evL, evB, rd, get, subG, memG, freshG, notInG, hyps, gob, impP, allP, partD, partOf, isOne, isPtr, nth, takeN, dropN, cellsD, lenB, fillD, thirds, entN, setE, sizeE, addE, setL, setN, putE, env0, eqCs, eqAux, eqC, bA, bO, bN, bE, negB, kEq, isShr, lendL, lend, frz, frzL, zRow, closed, closedL, rowsOf, binI, retK, retG, atRet, retD, lendO, resL, resD, oneD, renD, renL, renE, renEs, rho, putAll, entsN, List.append, List.nil_append, List.cons_append, List.append_nil, cond, Nat.reduceBEq, Nat.reduceAdd, Nat.beq]
  refine ⟨nofun, fun _ => ?_⟩
  rcases hok with ⟨hf, hr⟩ | ⟨a, ha, hf, hr2, hr1⟩
  · have hct : circT t 1 up (mB ats deep ats.length) = (t, 0, false) := by unfold circT; rw [if_pos hf]
    rw [hct, htD] at hC
    rw [hr] at hRC
    have k0 := sp_kids hT
    have hsk := same_kids hT (kA ats ats.length)
    rw [nums_kA, decide_eq_true rfl] at hsk
    have hS0 := sp_ref29_Same (a := kidsL t) (b := kA ats ats.length) (kidsL_short hT) (by rw [kA_len]; omega)
    rw [hsk] at hS0
    have hre := sp_law29_rest (ats := ats) (deep := deep) (t := t) hT.ok hl hd (rest_ok hT)
    rw [htD] at hre
    refine call_pure hC ?_
    dsimp only [run_skip, run_reg, plainB, ifB_true, run_seq, run_blk, run_exit, run_ret, run_ite, iteR, regK, thenK_nrm, thenK_exit, thenK_ret, thenR_nrm, thenR_exit, thenR_ret, blkK, keepS, keepE, runOps_nil, runOps_cons, goG_some, fpOk, foot, entOf, allN, memN, goOn_ok, goOn_call, goOn_row, goOn_arr, goOn_ask, goOn_put, goOn_prm, goOn_callK, goOn_callC, goOn_all, guardP, guardO, notInO, stepF, stepLd, stepSt, stepIxs, stepIxa, stepLen, stepApp, stepCpy, stepPick, stepSls, stepSst, stepSla, bareZ, evX, evL, evB, rd, get, subG, memG, freshG, notInG, hyps, gob, impP, allP, partD, partOf, isOne, isPtr, nth, takeN, dropN, cellsD, lenB, fillD, thirds, entN, setE, sizeE, addE, setL, setN, putE, env0, eqCs, eqAux, eqC, bA, bO, bN, bE, negB, kEq, isShr, lendL, lend, frz, frzL, zRow, closed, closedL, rowsOf, binI, retK, retG, atRet, retD, lendO, resL, resD, oneD, renD, renL, renE, renEs, rho, putAll, entsN, List.append, List.nil_append, List.cons_append, List.append_nil, cond, Nat.reduceBEq, Nat.reduceAdd, Nat.beq]
    refine call_pure hRC ?_
    dsimp only [run_skip, run_reg, plainB, ifB_true, run_seq, run_blk, run_exit, run_ret, run_ite, iteR, regK, thenK_nrm, thenK_exit, thenK_ret, thenR_nrm, thenR_exit, thenR_ret, blkK, keepS, keepE, runOps_nil, runOps_cons, goG_some, fpOk, foot, entOf, allN, memN, goOn_ok, goOn_call, goOn_row, goOn_arr, goOn_ask, goOn_put, goOn_prm, goOn_callK, goOn_callC, goOn_all, guardP, guardO, notInO, stepF, stepLd, stepSt, stepIxs, stepIxa, stepLen, stepApp, stepCpy, stepPick, stepSls, stepSst, stepSla, bareZ, evX, evL, evB, rd, get, subG, memG, freshG, notInG, hyps, gob, impP, allP, partD, partOf, isOne, isPtr, nth, takeN, dropN, cellsD, lenB, fillD, thirds, entN, setE, sizeE, addE, setL, setN, putE, env0, eqCs, eqAux, eqC, bA, bO, bN, bE, negB, kEq, isShr, lendL, lend, frz, frzL, zRow, closed, closedL, rowsOf, binI, retK, retG, atRet, retD, lendO, resL, resD, oneD, renD, renL, renE, renEs, rho, putAll, entsN, List.append, List.nil_append, List.cons_append, List.append_nil, cond, Nat.reduceBEq, Nat.reduceAdd, Nat.beq]
    refine ⟨fun _ _ _ => by simp only [fits]; omega, fun _ _ _ => by simp only [fits]; omega, ?_⟩
    refine call_pure (fun _ => k0) ?_
    dsimp only [run_skip, run_reg, plainB, ifB_true, run_seq, run_blk, run_exit, run_ret, run_ite, iteR, regK, thenK_nrm, thenK_exit, thenK_ret, thenR_nrm, thenR_exit, thenR_ret, blkK, keepS, keepE, runOps_nil, runOps_cons, goG_some, fpOk, foot, entOf, allN, memN, goOn_ok, goOn_call, goOn_row, goOn_arr, goOn_ask, goOn_put, goOn_prm, goOn_callK, goOn_callC, goOn_all, guardP, guardO, notInO, stepF, stepLd, stepSt, stepIxs, stepIxa, stepLen, stepApp, stepCpy, stepPick, stepSls, stepSst, stepSla, bareZ, evX, evL, evB, rd, get, subG, memG, freshG, notInG, hyps, gob, impP, allP, partD, partOf, isOne, isPtr, nth, takeN, dropN, cellsD, lenB, fillD, thirds, entN, setE, sizeE, addE, setL, setN, putE, env0, eqCs, eqAux, eqC, bA, bO, bN, bE, negB, kEq, isShr, lendL, lend, frz, frzL, zRow, closed, closedL, rowsOf, binI, retK, retG, atRet, retD, lendO, resL, resD, oneD, renD, renL, renE, renEs, rho, putAll, entsN, List.append, List.nil_append, List.cons_append, List.append_nil, cond, Nat.reduceBEq, Nat.reduceAdd, Nat.beq]
    refine call_pure (fun _ => hS0) ?_
    dsimp only [run_skip, run_reg, plainB, ifB_true, run_seq, run_blk, run_exit, run_ret, run_ite, iteR, regK, thenK_nrm, thenK_exit, thenK_ret, thenR_nrm, thenR_exit, thenR_ret, blkK, keepS, keepE, runOps_nil, runOps_cons, goG_some, fpOk, foot, entOf, allN, memN, goOn_ok, goOn_call, goOn_row, goOn_arr, goOn_ask, goOn_put, goOn_prm, goOn_callK, goOn_callC, goOn_all, guardP, guardO, notInO, stepF, stepLd, stepSt, stepIxs, stepIxa, stepLen, stepApp, stepCpy, stepPick, stepSls, stepSst, stepSla, bareZ, evX, evL, evB, rd, get, subG, memG, freshG, notInG, hyps, gob, impP, allP, partD, partOf, isOne, isPtr, nth, takeN, dropN, cellsD, lenB, fillD, thirds, entN, setE, sizeE, addE, setL, setN, putE, env0, eqCs, eqAux, eqC, bA, bO, bN, bE, negB, kEq, isShr, lendL, lend, frz, frzL, zRow, closed, closedL, rowsOf, binI, retK, retG, atRet, retD, lendO, resL, resD, oneD, renD, renL, renE, renEs, rho, putAll, entsN, List.append, List.nil_append, List.cons_append, List.append_nil, cond, Nat.reduceBEq, Nat.reduceAdd, Nat.beq]
    refine call_pure (fun _ => hre) ?_
    dsimp only [run_skip, run_reg, plainB, ifB_true, run_seq, run_blk, run_exit, run_ret, run_ite, iteR, regK, thenK_nrm, thenK_exit, thenK_ret, thenR_nrm, thenR_exit, thenR_ret, blkK, keepS, keepE, runOps_nil, runOps_cons, goG_some, fpOk, foot, entOf, allN, memN, goOn_ok, goOn_call, goOn_row, goOn_arr, goOn_ask, goOn_put, goOn_prm, goOn_callK, goOn_callC, goOn_all, guardP, guardO, notInO, stepF, stepLd, stepSt, stepIxs, stepIxa, stepLen, stepApp, stepCpy, stepPick, stepSls, stepSst, stepSla, bareZ, evX, evL, evB, rd, get, subG, memG, freshG, notInG, hyps, gob, impP, allP, partD, partOf, isOne, isPtr, nth, takeN, dropN, cellsD, lenB, fillD, thirds, entN, setE, sizeE, addE, setL, setN, putE, env0, eqCs, eqAux, eqC, bA, bO, bN, bE, negB, kEq, isShr, lendL, lend, frz, frzL, zRow, closed, closedL, rowsOf, binI, retK, retG, atRet, retD, lendO, resL, resD, oneD, renD, renL, renE, renEs, rho, putAll, entsN, List.append, List.nil_append, List.cons_append, List.append_nil, cond, Nat.reduceBEq, Nat.reduceAdd, Nat.beq]
    refine call_pure (fun _ => sp_law29_awake) ?_
    rfl
  · have ha1 := sig0_mem.1 ha
    have hlen : (kidsT t 1).length = ats.length := by rw [hT.kids, cm_len, sig0_len]
    have hct : circT t 1 up (mB ats deep ats.length) = (placeT t (1048576 + a) (if up then ats.length - 1 else 0), 1048576 + a, true) := by
      unfold circT
      rw [if_neg (by omega), hf, hlen]
    have hT' := hT.place ha (to := if up then ats.length - 1 else 0) (by rw [sig0_len]; split <;> omega)
    rw [hct, htD] at hC
    generalize placeT t (1048576 + a) (if up then ats.length - 1 else 0) = t' at *
    generalize circR (kA ats ats.length) up ats.length 0 = R at *
    obtain ⟨R1, R2⟩ := R
    dsimp only at hr1 hr2
    subst hr2
    have k1 := sp_kids hT'
    have hlr : R1.length < 1000000 := by
      rw [← nums_len, hr1]
      have := hT'.len
      omega
    have hS1 := sp_ref29_Same (kidsL_short hT') hlr
    rw [same_kids hT', hr1, decide_eq_true rfl] at hS1
    have hre := sp_law29_rest (ats := ats) (deep := deep) (t := t') hT'.ok hl hd (rest_ok hT')
    rw [htD] at hre
    refine call_pure hC ?_
    dsimp only [run_skip, run_reg, plainB, ifB_true, run_seq, run_blk, run_exit, run_ret, run_ite, iteR, regK, thenK_nrm, thenK_exit, thenK_ret, thenR_nrm, thenR_exit, thenR_ret, blkK, keepS, keepE, runOps_nil, runOps_cons, goG_some, fpOk, foot, entOf, allN, memN, goOn_ok, goOn_call, goOn_row, goOn_arr, goOn_ask, goOn_put, goOn_prm, goOn_callK, goOn_callC, goOn_all, guardP, guardO, notInO, stepF, stepLd, stepSt, stepIxs, stepIxa, stepLen, stepApp, stepCpy, stepPick, stepSls, stepSst, stepSla, bareZ, evX, evL, evB, rd, get, subG, memG, freshG, notInG, hyps, gob, impP, allP, partD, partOf, isOne, isPtr, nth, takeN, dropN, cellsD, lenB, fillD, thirds, entN, setE, sizeE, addE, setL, setN, putE, env0, eqCs, eqAux, eqC, bA, bO, bN, bE, negB, kEq, isShr, lendL, lend, frz, frzL, zRow, closed, closedL, rowsOf, binI, retK, retG, atRet, retD, lendO, resL, resD, oneD, renD, renL, renE, renEs, rho, putAll, entsN, List.append, List.nil_append, List.cons_append, List.append_nil, cond, Nat.reduceBEq, Nat.reduceAdd, Nat.beq]
    refine call_pure hRC ?_
    dsimp only [run_skip, run_reg, plainB, ifB_true, run_seq, run_blk, run_exit, run_ret, run_ite, iteR, regK, thenK_nrm, thenK_exit, thenK_ret, thenR_nrm, thenR_exit, thenR_ret, blkK, keepS, keepE, runOps_nil, runOps_cons, goG_some, fpOk, foot, entOf, allN, memN, goOn_ok, goOn_call, goOn_row, goOn_arr, goOn_ask, goOn_put, goOn_prm, goOn_callK, goOn_callC, goOn_all, guardP, guardO, notInO, stepF, stepLd, stepSt, stepIxs, stepIxa, stepLen, stepApp, stepCpy, stepPick, stepSls, stepSst, stepSla, bareZ, evX, evL, evB, rd, get, subG, memG, freshG, notInG, hyps, gob, impP, allP, partD, partOf, isOne, isPtr, nth, takeN, dropN, cellsD, lenB, fillD, thirds, entN, setE, sizeE, addE, setL, setN, putE, env0, eqCs, eqAux, eqC, bA, bO, bN, bE, negB, kEq, isShr, lendL, lend, frz, frzL, zRow, closed, closedL, rowsOf, binI, retK, retG, atRet, retD, lendO, resL, resD, oneD, renD, renL, renE, renEs, rho, putAll, entsN, List.append, List.nil_append, List.cons_append, List.append_nil, cond, Nat.reduceBEq, Nat.reduceAdd, Nat.beq]
    refine ⟨fun _ _ _ => by simp only [fits]; omega, fun _ _ _ => by simp only [fits]; omega, ?_⟩
    refine call_pure (fun _ => k1) ?_
    dsimp only [run_skip, run_reg, plainB, ifB_true, run_seq, run_blk, run_exit, run_ret, run_ite, iteR, regK, thenK_nrm, thenK_exit, thenK_ret, thenR_nrm, thenR_exit, thenR_ret, blkK, keepS, keepE, runOps_nil, runOps_cons, goG_some, fpOk, foot, entOf, allN, memN, goOn_ok, goOn_call, goOn_row, goOn_arr, goOn_ask, goOn_put, goOn_prm, goOn_callK, goOn_callC, goOn_all, guardP, guardO, notInO, stepF, stepLd, stepSt, stepIxs, stepIxa, stepLen, stepApp, stepCpy, stepPick, stepSls, stepSst, stepSla, bareZ, evX, evL, evB, rd, get, subG, memG, freshG, notInG, hyps, gob, impP, allP, partD, partOf, isOne, isPtr, nth, takeN, dropN, cellsD, lenB, fillD, thirds, entN, setE, sizeE, addE, setL, setN, putE, env0, eqCs, eqAux, eqC, bA, bO, bN, bE, negB, kEq, isShr, lendL, lend, frz, frzL, zRow, closed, closedL, rowsOf, binI, retK, retG, atRet, retD, lendO, resL, resD, oneD, renD, renL, renE, renEs, rho, putAll, entsN, List.append, List.nil_append, List.cons_append, List.append_nil, cond, Nat.reduceBEq, Nat.reduceAdd, Nat.beq]
    refine call_pure (fun _ => hS1) ?_
    dsimp only [run_skip, run_reg, plainB, ifB_true, run_seq, run_blk, run_exit, run_ret, run_ite, iteR, regK, thenK_nrm, thenK_exit, thenK_ret, thenR_nrm, thenR_exit, thenR_ret, blkK, keepS, keepE, runOps_nil, runOps_cons, goG_some, fpOk, foot, entOf, allN, memN, goOn_ok, goOn_call, goOn_row, goOn_arr, goOn_ask, goOn_put, goOn_prm, goOn_callK, goOn_callC, goOn_all, guardP, guardO, notInO, stepF, stepLd, stepSt, stepIxs, stepIxa, stepLen, stepApp, stepCpy, stepPick, stepSls, stepSst, stepSla, bareZ, evX, evL, evB, rd, get, subG, memG, freshG, notInG, hyps, gob, impP, allP, partD, partOf, isOne, isPtr, nth, takeN, dropN, cellsD, lenB, fillD, thirds, entN, setE, sizeE, addE, setL, setN, putE, env0, eqCs, eqAux, eqC, bA, bO, bN, bE, negB, kEq, isShr, lendL, lend, frz, frzL, zRow, closed, closedL, rowsOf, binI, retK, retG, atRet, retD, lendO, resL, resD, oneD, renD, renL, renE, renEs, rho, putAll, entsN, List.append, List.nil_append, List.cons_append, List.append_nil, cond, Nat.reduceBEq, Nat.reduceAdd, Nat.beq]
    refine call_pure (fun _ => hre) ?_
    dsimp only [run_skip, run_reg, plainB, ifB_true, run_seq, run_blk, run_exit, run_ret, run_ite, iteR, regK, thenK_nrm, thenK_exit, thenK_ret, thenR_nrm, thenR_exit, thenR_ret, blkK, keepS, keepE, runOps_nil, runOps_cons, goG_some, fpOk, foot, entOf, allN, memN, goOn_ok, goOn_call, goOn_row, goOn_arr, goOn_ask, goOn_put, goOn_prm, goOn_callK, goOn_callC, goOn_all, guardP, guardO, notInO, stepF, stepLd, stepSt, stepIxs, stepIxa, stepLen, stepApp, stepCpy, stepPick, stepSls, stepSst, stepSla, bareZ, evX, evL, evB, rd, get, subG, memG, freshG, notInG, hyps, gob, impP, allP, partD, partOf, isOne, isPtr, nth, takeN, dropN, cellsD, lenB, fillD, thirds, entN, setE, sizeE, addE, setL, setN, putE, env0, eqCs, eqAux, eqC, bA, bO, bN, bE, negB, kEq, isShr, lendL, lend, frz, frzL, zRow, closed, closedL, rowsOf, binI, retK, retG, atRet, retD, lendO, resL, resD, oneD, renD, renL, renE, renEs, rho, putAll, entsN, List.append, List.nil_append, List.cons_append, List.append_nil, cond, Nat.reduceBEq, Nat.reduceAdd, Nat.beq]
    refine call_pure (fun _ => sp_law29_awake) ?_
    dsimp only [run_skip, run_reg, plainB, ifB_true, run_seq, run_blk, run_exit, run_ret, run_ite, iteR, regK, thenK_nrm, thenK_exit, thenK_ret, thenR_nrm, thenR_exit, thenR_ret, blkK, keepS, keepE, runOps_nil, runOps_cons, goG_some, fpOk, foot, entOf, allN, memN, goOn_ok, goOn_call, goOn_row, goOn_arr, goOn_ask, goOn_put, goOn_prm, goOn_callK, goOn_callC, goOn_all, guardP, guardO, notInO, stepF, stepLd, stepSt, stepIxs, stepIxa, stepLen, stepApp, stepCpy, stepPick, stepSls, stepSst, stepSla, bareZ, evX, evL, evB, rd, get, subG, memG, freshG, notInG, hyps, gob, impP, allP, partD, partOf, isOne, isPtr, nth, takeN, dropN, cellsD, lenB, fillD, thirds, entN, setE, sizeE, addE, setL, setN, putE, env0, eqCs, eqAux, eqC, bA, bO, bN, bE, negB, kEq, isShr, lendL, lend, frz, frzL, zRow, closed, closedL, rowsOf, binI, retK, retG, atRet, retD, lendO, resL, resD, oneD, renD, renL, renE, renEs, rho, putAll, entsN, List.append, List.nil_append, List.cons_append, List.append_nil, cond, Nat.reduceBEq, Nat.reduceAdd, Nat.beq]
    have e1 : decide (0 < R2) = true := decide_eq_true (by omega)
    have e2 : decide (R2 = 0) = false := decide_eq_false (by omega)
    rw [e1, e2]
    simp
end Go.AM
