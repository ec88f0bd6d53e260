
/- Chapter 52: LayoutLeast. -/
import Derived.Test.YtnjmjiajbgdnlaaN24
set_option linter.all false
namespace Go.AM
open Go Go.Proofs

theorem siz_step2 {L : List Nd} (t : Tree L) {i : Nat} {nd : Nd} (h : L[i]? = some nd) : sI L i + 1000 ≤ 3000 + (nd.kids.map fun k => sI L k.toNat + 1000).sum := by
  have hmem : nd ∈ L := List.mem_of_getElem? h
  obtain ⟨b1, b2, b3, b4⟩ := t.small nd hmem
  simp only [bad1, Bool.or_eq_false_iff, decide_eq_false_iff_not] at b1 b2 b3 b4
  have ho : 0 ≤ (ownP nd).1 ∧ (ownP nd).1 ≤ 1000 ∧ 0 ≤ (ownP nd).2 ∧ (ownP nd).2 ≤ 1000 := by unfold ownP; split <;> dsimp only <;> omega
  have hg : 0 ≤ gapsI nd ∧ gapsI nd ≤ 1000 * (nd.kids.length : Int) := by
    refine ⟨(gaps_nn t hmem).2.2, ?_⟩
    unfold gapsI
    split
    · omega
    · have hm := Int.mul_le_mul (b := (nd.kids.length : Int) - 1) (d := (nd.kids.length : Int)) (by omega : nd.gap ≤ 1000) (by omega) (by omega) (by omega)
      omega
  have htn := fun k (hk' : k ∈ nd.kids) => turn_nonneg (nd := nd) (siz_nn t k.toNat).1 (siz_nn t k.toNat).2
  have h1 := map_nonneg (l := nd.kids) (a := fun k => (turnP nd (siz L k.toNat).1 (siz L k.toNat).2).1) fun k hk' => (htn k hk').1
  have h2 := foldl_ot (l := nd.kids) (o := fun k => (turnP nd (siz L k.toNat).1 (siz L k.toNat).2).2) (g := (ownP nd).2) (fun k hk' => (htn k hk').2) ho.2.2.1
  have h3 := map_add (l := nd.kids) (a := fun k => (turnP nd (siz L k.toNat).1 (siz L k.toNat).2).1) (b := fun k => (turnP nd (siz L k.toNat).1 (siz L k.toNat).2).2)
  have h4 : (nd.kids.map fun k => (turnP nd (siz L k.toNat).1 (siz L k.toNat).2).1 + (turnP nd (siz L k.toNat).1 (siz L k.toNat).2).2) = nd.kids.map fun k => sI L k.toNat := List.map_congr_left fun k _ => turn_sum _ _ _
  rw [h4] at h3
  have h5 : (nd.kids.map fun k => sI L k.toNat + 1000).sum = (nd.kids.map fun k => sI L k.toNat).sum + 1000 * nd.kids.length := by
    generalize nd.kids = l
    induction l with
    | nil => simp
    | cons x l ih => simp only [List.map_cons, List.sum_cons, List.length_cons]; rw [ih]; omega
  have e := siz_eq t.behind h
  have e2 : sI L i = (siz L i).1 + (siz L i).2 := rfl
  unfold oneS at e
  rw [foldl_al] at e
  rw [e2, e, turn_sum, h5]
  generalize List.foldl (fun ot k => max ot (turnP nd (siz L k.toNat).1 (siz L k.toNat).2).2) (ownP nd).2 nd.kids = ot at *
  omega
theorem top_bd2 {L : List Nd} (t : Tree L) : ∀ (m i : Nat), i + m = L.length → topS L (fun j => sI L j + 1000) i ≤ m * 3000
  | 0, i, h => by
    unfold topS
    rw [rsum_zero fun j hj => by rw [if_neg (by omega)]]; omega
  | m + 1, i, h => by
    have hnd : L[i]? = some (L[i]'(by omega)) := List.getElem?_eq_getElem (by omega)
    have h1 := top_bd2 t m (i + 1) (by omega)
    have h2 := siz_step2 t hnd
    rw [top_step t _ hnd]
    have : ((m + 1 : Nat) : Int) * 3000 = m * 3000 + 3000 := by omega
    omega
theorem siz_small {L : List Nd} (t : Tree L) : (siz L 0).1 + (siz L 0).2 ≤ 192000 := by
  have hp := t.len
  have h1 := top_bd2 t L.length 0 (by omega)
  have hs : ∀ j, 0 ≤ sI L j + 1000 := fun j => by have := siz_nn t j; unfold sI; omega
  have h3 : sI L 0 + 1000 ≤ topS L (fun j => sI L j + 1000) 0 := by
    unfold topS
    have := rsum_ge (f := fun j => if 0 ≤ j ∧ (j : Int) ∉ allK (L.drop 0) then sI L j + 1000 else 0) (i := 0) (n := L.length) (fun j _ => by split; exact hs j; omega) hp.1
    rwa [if_pos ⟨Nat.le_refl _, fun h => by have := allK_drop t h; omega⟩] at this
  have e : sI L 0 = (siz L 0).1 + (siz L 0).2 := rfl
  omega

theorem least_ok {L : List Nd} (hc : chkN L = 0) (h1 : 1 ≤ (siz L 0).1) (h2 : 1 ≤ (siz L 0).2) {w h : Int} (hw : 0 ≤ w ∧ w ≤ 200000) (hh : 0 ≤ h ∧ h ≤ 200000) :
    (placeS L ⟨0, 0, w, h⟩).2 = if 1 ≤ w ∧ 1 ≤ h then (if w < (siz L 0).1 ∨ h < (siz L 0).2 then 17 else 0) else 1 := by
  unfold placeS
  rw [if_pos hc, place_cond (r := ⟨0, 0, w, h⟩) ⟨by simp, by simp⟩ ⟨by simp, by simp⟩]
  by_cases h3 : 1 ≤ w ∧ 1 ≤ h
  · rw [if_pos h3, if_neg (by simp; omega)]
    by_cases h4 : w < (siz L 0).1 ∨ h < (siz L 0).2
    · rw [if_pos h4, if_pos (by simpa using h4)]
    · rw [if_neg h4, if_neg (by simpa using h4)]
  · rw [if_neg h3, if_pos (by simp; omega)]

theorem own_siz {L : List Nd} (t : Tree L) {i : Nat} {nd : Nd} (h : L[i]? = some nd) : nd.w ≤ (siz L i).1 ∧ nd.h ≤ (siz L i).2 := by
  obtain ⟨h1, _, h3, _⟩ := siz_turn t h
  unfold ownP turnP at h1 h3
  cases hd : nd.down <;> rw [hd] at h1 h3 <;> simp at h1 h3 <;> omega

structure LeastOk (nd : Nd) (q : Rc) : Prop where
  some : q ≠ .o → nd.w ≤ q.w ∧ nd.h ≤ q.h
  no : q = .o → ¬ (0 < nd.w ∧ 0 < nd.h)
theorem least_all {L : List Nd} {r : Rc} (h : (placeS L r).2 = 0) : (placeS L r).1.length = L.length ∧ ∀ (i : Nat) q nd, (placeS L r).1[i]? = some q → L[i]? = some nd → LeastOk nd q := by
  obtain ⟨t, _, F, hF, hP⟩ := place_ok h
  rw [hP]
  refine ⟨by simp, fun i q nd hq hnd => ?_⟩
  have hi := (List.getElem?_eq_some_iff.1 hnd).1
  rw [List.getElem?_map, List.getElem?_range hi] at hq
  cases hq
  have hb := hF.big i hi
  have ho := own_siz t hnd
  have b1 := hb.1; have b2 := hb.2
  show LeastOk nd (zf (F i))
  unfold zf
  split
  · rename_i hz
    simp only [Bool.or_eq_true, decide_eq_true_eq] at hz
    exact ⟨fun hn => absurd rfl hn, fun _ => by omega⟩
  · rename_i hz
    simp only [Bool.or_eq_true, decide_eq_true_eq, not_or] at hz
    refine ⟨fun _ => by omega, fun he => ?_⟩
    rw [he] at hz; simp [Rc.o] at hz

theorem sp_law52_LayoutLeast {L : List Nd} {more : Int} (h1 : fits .u8 more) : TSp 7 [.ls 6 (lD L), .int .u8 more] (.bool true) := by
  simp only [fits] at h1
  refine spo_law52_LayoutLeast (by rfl) ?_
  dsimp only [c_law52_LayoutLeast, r_law52_LayoutLeast, run_skip, run_reg, plainB, ifB_true, run_seq, run_blk, run_exit, run_ret, run_ite, iteR, regK, thenK_nrm, thenK_exit, thenK_ret, thenR_nrm, thenR_exit, thenR_ret, blkK, keepS, keepE, runOps_nil, runOps_cons, goG_some, fpOk, foot, entOf, allN, memN, goOn_ok, goOn_call, goOn_row, goOn_arr, goOn_ask, goOn_put, guardP, guardO, notInO, stepF, stepLd, stepSt, stepIxs, stepIxa, stepLen, stepApp, stepCpy, stepPick, stepSls, stepSst, stepSla, evX, evL, evB, rd, get, subG, memG, freshG, notInG, hyps, gob, impP, allP, partD, partOf, isOne, isPtr, nth, takeN, dropN, cellsD, lenB, fillD, thirds, entN, setE, sizeE, addE, setL, setN, putE, env0, eqCs, eqAux, eqC, bA, bO, bN, bE, negB, kEq, isShr, lendL, lend, frz, frzL, zRow, closed, closedL, rowsOf, binI, retK, retG, atRet, retD, lendO, resL, resD, oneD, renD, renL, renE, renEs, rho, putAll, entsN, List.append, List.nil_append, List.cons_append, List.append_nil, cond, Nat.reduceBEq, Nat.reduceAdd, Nat.beq]
  refine call_pure sp_law52_awake ?_
  dsimp only [run_skip, run_reg, plainB, ifB_true, run_seq, run_blk, run_exit, run_ret, run_ite, iteR, regK, thenK_nrm, thenK_exit, thenK_ret, thenR_nrm, thenR_exit, thenR_ret, blkK, keepS, keepE, runOps_nil, runOps_cons, goG_some, fpOk, foot, entOf, allN, memN, goOn_ok, goOn_call, goOn_row, goOn_arr, goOn_ask, goOn_put, guardP, guardO, notInO, stepF, stepLd, stepSt, stepIxs, stepIxa, stepLen, stepApp, stepCpy, stepPick, stepSls, stepSst, stepSla, evX, evL, evB, rd, get, subG, memG, freshG, notInG, hyps, gob, impP, allP, partD, partOf, isOne, isPtr, nth, takeN, dropN, cellsD, lenB, fillD, thirds, entN, setE, sizeE, addE, setL, setN, putE, env0, eqCs, eqAux, eqC, bA, bO, bN, bE, negB, kEq, isShr, lendL, lend, frz, frzL, zRow, closed, closedL, rowsOf, binI, retK, retG, atRet, retD, lendO, resL, resD, oneD, renD, renL, renE, renEs, rho, putAll, entsN, List.append, List.nil_append, List.cons_append, List.append_nil, cond, Nat.reduceBEq, Nat.reduceAdd, Nat.beq]
  refine ⟨nofun, fun _ => ?_⟩
  refine call_pure sp_law52_few ?_
  dsimp only [run_skip, run_reg, plainB, ifB_true, run_seq, run_blk, run_exit, run_ret, run_ite, iteR, regK, thenK_nrm, thenK_exit, thenK_ret, thenR_nrm, thenR_exit, thenR_ret, blkK, keepS, keepE, runOps_nil, runOps_cons, goG_some, fpOk, foot, entOf, allN, memN, goOn_ok, goOn_call, goOn_row, goOn_arr, goOn_ask, goOn_put, guardP, guardO, notInO, stepF, stepLd, stepSt, stepIxs, stepIxa, stepLen, stepApp, stepCpy, stepPick, stepSls, stepSst, stepSla, evX, evL, evB, rd, get, subG, memG, freshG, notInG, hyps, gob, impP, allP, partD, partOf, isOne, isPtr, nth, takeN, dropN, cellsD, lenB, fillD, thirds, entN, setE, sizeE, addE, setL, setN, putE, env0, eqCs, eqAux, eqC, bA, bO, bN, bE, negB, kEq, isShr, lendL, lend, frz, frzL, zRow, closed, closedL, rowsOf, binI, retK, retG, atRet, retD, lendO, resL, resD, oneD, renD, renL, renE, renEs, rho, putAll, entsN, List.append, List.nil_append, List.cons_append, List.append_nil, cond, Nat.reduceBEq, Nat.reduceAdd, Nat.beq]
  refine call_pure (fun hg => sp_layout_Check (few_kids (by simpa using hg))) ?_
  dsimp only [run_skip, run_reg, plainB, ifB_true, run_seq, run_blk, run_exit, run_ret, run_ite, iteR, regK, thenK_nrm, thenK_exit, thenK_ret, thenR_nrm, thenR_exit, thenR_ret, blkK, keepS, keepE, runOps_nil, runOps_cons, goG_some, fpOk, foot, entOf, allN, memN, goOn_ok, goOn_call, goOn_row, goOn_arr, goOn_ask, goOn_put, guardP, guardO, notInO, stepF, stepLd, stepSt, stepIxs, stepIxa, stepLen, stepApp, stepCpy, stepPick, stepSls, stepSst, stepSla, evX, evL, evB, rd, get, subG, memG, freshG, notInG, hyps, gob, impP, allP, partD, partOf, isOne, isPtr, nth, takeN, dropN, cellsD, lenB, fillD, thirds, entN, setE, sizeE, addE, setL, setN, putE, env0, eqCs, eqAux, eqC, bA, bO, bN, bE, negB, kEq, isShr, lendL, lend, frz, frzL, zRow, closed, closedL, rowsOf, binI, retK, retG, atRet, retD, lendO, resL, resD, oneD, renD, renL, renE, renEs, rho, putAll, entsN, List.append, List.nil_append, List.cons_append, List.append_nil, cond, Nat.reduceBEq, Nat.reduceAdd, Nat.beq]
  refine ⟨fun _ => rfl, fun hc => ?_⟩
  have hL : ∀ nd ∈ L, nd.kids.length < 9223372036854775807 := few_kids (by simp at hc; exact hc.1)
  have hl := (few_of (L := L) (by simp at hc; exact hc.1)).1
  have hc : chkN L = 0 := by simp at hc; exact hc.2
  have t := tree_of hc
  have hsz := siz_small t
  have hsn := siz_nn t 0
  refine call_pure (sp_layout_Least hL (fun h => good_of_chk h)) ?_
  rw [if_pos hc]
  dsimp only [run_skip, run_reg, plainB, ifB_true, run_seq, run_blk, run_exit, run_ret, run_ite, iteR, regK, thenK_nrm, thenK_exit, thenK_ret, thenR_nrm, thenR_exit, thenR_ret, blkK, keepS, keepE, runOps_nil, runOps_cons, goG_some, fpOk, foot, entOf, allN, memN, goOn_ok, goOn_call, goOn_row, goOn_arr, goOn_ask, goOn_put, guardP, guardO, notInO, stepF, stepLd, stepSt, stepIxs, stepIxa, stepLen, stepApp, stepCpy, stepPick, stepSls, stepSst, stepSla, evX, evL, evB, rd, get, subG, memG, freshG, notInG, hyps, gob, impP, allP, partD, partOf, isOne, isPtr, nth, takeN, dropN, cellsD, lenB, fillD, thirds, entN, setE, sizeE, addE, setL, setN, putE, env0, eqCs, eqAux, eqC, bA, bO, bN, bE, negB, kEq, isShr, lendL, lend, frz, frzL, zRow, closed, closedL, rowsOf, binI, retK, retG, atRet, retD, lendO, resL, resD, oneD, renD, renL, renE, renEs, rho, putAll, entsN, List.append, List.nil_append, List.cons_append, List.append_nil, cond, Nat.reduceBEq, Nat.reduceAdd, Nat.beq]
  refine ⟨fun _ => ?_, fun h2 => ?_⟩
  · simp [hsn]
  have h2 : 1 ≤ (siz L 0).1 ∧ 1 ≤ (siz L 0).2 := by simp at h2; omega
  have g1 : fits .i64 ((siz L 0).1 + more % 7) ∧ fits .i64 ((siz L 0).2 + more % 5) := by simp only [fits]; omega
  refine ⟨by simp only [fits]; omega, by omega, g1.1, by simp only [fits]; omega, by omega, g1.2, ?_⟩
  refine call_pure (sp_layout_Place (r := ⟨0, 0, (siz L 0).1 + more % 7, (siz L 0).2 + more % 5⟩) hL (fun h => good_of_chk h) ⟨by simp [fits], by simp [fits], g1.1, g1.2⟩) ?_
  dsimp only [placeD, run_skip, run_reg, plainB, ifB_true, run_seq, run_blk, run_exit, run_ret, run_ite, iteR, regK, thenK_nrm, thenK_exit, thenK_ret, thenR_nrm, thenR_exit, thenR_ret, blkK, keepS, keepE, runOps_nil, runOps_cons, goG_some, fpOk, foot, entOf, allN, memN, goOn_ok, goOn_call, goOn_row, goOn_arr, goOn_ask, goOn_put, guardP, guardO, notInO, stepF, stepLd, stepSt, stepIxs, stepIxa, stepLen, stepApp, stepCpy, stepPick, stepSls, stepSst, stepSla, evX, evL, evB, rd, get, subG, memG, freshG, notInG, hyps, gob, impP, allP, partD, partOf, isOne, isPtr, nth, takeN, dropN, cellsD, lenB, fillD, thirds, entN, setE, sizeE, addE, setL, setN, putE, env0, eqCs, eqAux, eqC, bA, bO, bN, bE, negB, kEq, isShr, lendL, lend, frz, frzL, zRow, closed, closedL, rowsOf, binI, retK, retG, atRet, retD, lendO, resL, resD, oneD, renD, renL, renE, renEs, rho, putAll, entsN, List.append, List.nil_append, List.cons_append, List.append_nil, cond, Nat.reduceBEq, Nat.reduceAdd, Nat.beq]
  refine ⟨by simp only [fits]; omega, ?_⟩
  refine call_pure (sp_layout_Place (r := ⟨0, 0, (siz L 0).1 - 1, (siz L 0).2⟩) hL (fun h => good_of_chk h) ⟨by simp [fits], by simp [fits], by simp only [fits]; omega, by simp only [fits]; omega⟩) ?_
  dsimp only [placeD, run_skip, run_reg, plainB, ifB_true, run_seq, run_blk, run_exit, run_ret, run_ite, iteR, regK, thenK_nrm, thenK_exit, thenK_ret, thenR_nrm, thenR_exit, thenR_ret, blkK, keepS, keepE, runOps_nil, runOps_cons, goG_some, fpOk, foot, entOf, allN, memN, goOn_ok, goOn_call, goOn_row, goOn_arr, goOn_ask, goOn_put, guardP, guardO, notInO, stepF, stepLd, stepSt, stepIxs, stepIxa, stepLen, stepApp, stepCpy, stepPick, stepSls, stepSst, stepSla, evX, evL, evB, rd, get, subG, memG, freshG, notInG, hyps, gob, impP, allP, partD, partOf, isOne, isPtr, nth, takeN, dropN, cellsD, lenB, fillD, thirds, entN, setE, sizeE, addE, setL, setN, putE, env0, eqCs, eqAux, eqC, bA, bO, bN, bE, negB, kEq, isShr, lendL, lend, frz, frzL, zRow, closed, closedL, rowsOf, binI, retK, retG, atRet, retD, lendO, resL, resD, oneD, renD, renL, renE, renEs, rho, putAll, entsN, List.append, List.nil_append, List.cons_append, List.append_nil, cond, Nat.reduceBEq, Nat.reduceAdd, Nat.beq]
  refine ⟨by simp only [fits]; omega, ?_⟩
  refine call_pure (sp_layout_Place (r := ⟨0, 0, (siz L 0).1, (siz L 0).2 - 1⟩) hL (fun h => good_of_chk h) ⟨by simp [fits], by simp [fits], by simp only [fits]; omega, by simp only [fits]; omega⟩) ?_
  dsimp only [placeD, run_skip, run_reg, plainB, ifB_true, run_seq, run_blk, run_exit, run_ret, run_ite, iteR, regK, thenK_nrm, thenK_exit, thenK_ret, thenR_nrm, thenR_exit, thenR_ret, blkK, keepS, keepE, runOps_nil, runOps_cons, goG_some, fpOk, foot, entOf, allN, memN, goOn_ok, goOn_call, goOn_row, goOn_arr, goOn_ask, goOn_put, guardP, guardO, notInO, stepF, stepLd, stepSt, stepIxs, stepIxa, stepLen, stepApp, stepCpy, stepPick, stepSls, stepSst, stepSla, evX, evL, evB, rd, get, subG, memG, freshG, notInG, hyps, gob, impP, allP, partD, partOf, isOne, isPtr, nth, takeN, dropN, cellsD, lenB, fillD, thirds, entN, setE, sizeE, addE, setL, setN, putE, env0, eqCs, eqAux, eqC, bA, bO, bN, bE, negB, kEq, isShr, lendL, lend, frz, frzL, zRow, closed, closedL, rowsOf, binI, retK, retG, atRet, retD, lendO, resL, resD, oneD, renD, renL, renE, renEs, rho, putAll, entsN, List.append, List.nil_append, List.cons_append, List.append_nil, cond, Nat.reduceBEq, Nat.reduceAdd, Nat.beq]
  have e1 := least_ok hc h2.1 h2.2 (w := (siz L 0).1 + more % 7) (h := (siz L 0).2 + more % 5) (by omega) (by omega)
  rw [if_pos (by omega), if_neg (by omega)] at e1
  have e2 : 1 < (siz L 0).1 → (placeS L ⟨0, 0, (siz L 0).1 - 1, (siz L 0).2⟩).2 = 17 := fun h => by rw [least_ok hc h2.1 h2.2 (by omega) (by omega), if_pos (by omega), if_pos (by omega)]
  have e3 : 1 < (siz L 0).2 → (placeS L ⟨0, 0, (siz L 0).1, (siz L 0).2 - 1⟩).2 = 17 := fun h => by rw [least_ok hc h2.1 h2.2 (by omega) (by omega), if_pos (by omega), if_pos (by omega)]
  obtain ⟨f1, f2⟩ := least_all e1
  rw [e1, aD_len, lD_len, f1]
  generalize (placeS L ⟨0, 0, (siz L 0).1 - 1, (siz L 0).2⟩).2 = c2 at *
  generalize (placeS L ⟨0, 0, (siz L 0).1, (siz L 0).2 - 1⟩).2 = c3 at *
  generalize (placeS L ⟨0, 0, (siz L 0).1 + more % 7, (siz L 0).2 + more % 5⟩).1 = X at *
  refine ⟨fun h => ?_, fun h => ?_⟩
  · exfalso
    simp at h
    omega
  refine loop_ind (α := {i : Nat // i ≤ L.length}) (fun i => ⟨[(0, [], .ls 6 (lD L)), (7, [], .ls 4 (aD X)), (13, [], .int .i64 i.1)], []⟩) (fun i => L.length - i.1) ?_ ⟨0, by simp⟩ rfl
  rintro ⟨i, hi⟩ I ih
  dsimp only [run_skip, run_reg, plainB, ifB_true, run_seq, run_blk, run_exit, run_ret, run_ite, iteR, regK, thenK_nrm, thenK_exit, thenK_ret, thenR_nrm, thenR_exit, thenR_ret, blkK, keepS, keepE, runOps_nil, runOps_cons, goG_some, fpOk, foot, entOf, allN, memN, goOn_ok, goOn_call, goOn_row, goOn_arr, goOn_ask, goOn_put, guardP, guardO, notInO, stepF, stepLd, stepSt, stepIxs, stepIxa, stepLen, stepApp, stepCpy, stepPick, stepSls, stepSst, stepSla, evX, evL, evB, rd, get, subG, memG, freshG, notInG, hyps, gob, impP, allP, partD, partOf, isOne, isPtr, nth, takeN, dropN, cellsD, lenB, fillD, thirds, entN, setE, sizeE, addE, setL, setN, putE, env0, eqCs, eqAux, eqC, bA, bO, bN, bE, negB, kEq, isShr, lendL, lend, frz, frzL, zRow, closed, closedL, rowsOf, binI, retK, retG, atRet, retD, lendO, resL, resD, oneD, renD, renL, renE, renEs, rho, putAll, entsN, List.append, List.nil_append, List.cons_append, List.append_nil, cond, Nat.reduceBEq, Nat.reduceAdd, Nat.beq]
  rw [aD_len, f1]
  refine ⟨fun hi => ?_, fun _ => rfl⟩
  have hi : i < L.length := by simp at hi; omega
  have hXi : X[i]? = some (X[i]'(by omega)) := List.getElem?_eq_getElem (by omega)
  have hk := f2 i _ _ hXi (List.getElem?_eq_getElem hi)
  have hLi := lD_at hi
  generalize X[i]'(by omega) = q at *
  generalize L[i] = nd at *
  have gx : 4 = 4 ∧ 0 ≤ (i : Int) ∧ (i : Int) < (aD X).length := ⟨rfl, by omega, by rw [aD_len]; omega⟩
  have gl : 6 = 6 ∧ 0 ≤ (i : Int) ∧ (i : Int) < (lD L).length := ⟨rfl, by omega, by rw [lD_len]; omega⟩
  have rx : (aD X)[(i : Int).toNat]? = some (rD q) := aD_at (by rw [Int.toNat_natCast, hXi])
  have rl : (lD L)[(i : Int).toNat]? = some (nD nd) := by rw [Int.toNat_natCast]; exact hLi
  refine ⟨by rw [← f1, ← aD_len]; exact gx, row_intro _ (rD q) rx rfl ?_⟩
  dsimp only [rD, run_skip, run_reg, plainB, ifB_true, run_seq, run_blk, run_exit, run_ret, run_ite, iteR, regK, thenK_nrm, thenK_exit, thenK_ret, thenR_nrm, thenR_exit, thenR_ret, blkK, keepS, keepE, runOps_nil, runOps_cons, goG_some, fpOk, foot, entOf, allN, memN, goOn_ok, goOn_call, goOn_row, goOn_arr, goOn_ask, goOn_put, guardP, guardO, notInO, stepF, stepLd, stepSt, stepIxs, stepIxa, stepLen, stepApp, stepCpy, stepPick, stepSls, stepSst, stepSla, evX, evL, evB, rd, get, subG, memG, freshG, notInG, hyps, gob, impP, allP, partD, partOf, isOne, isPtr, nth, takeN, dropN, cellsD, lenB, fillD, thirds, entN, setE, sizeE, addE, setL, setN, putE, env0, eqCs, eqAux, eqC, bA, bO, bN, bE, negB, kEq, isShr, lendL, lend, frz, frzL, zRow, closed, closedL, rowsOf, binI, retK, retG, atRet, retD, lendO, resL, resD, oneD, renD, renL, renE, renEs, rho, putAll, entsN, List.append, List.nil_append, List.cons_append, List.append_nil, cond, Nat.reduceBEq, Nat.reduceAdd, Nat.beq]
  refine ⟨fun _ => gx, row_intro _ (.int .i64 q.w) (fun _ => rx) rfl ?_⟩
  dsimp only [rD, run_skip, run_reg, plainB, ifB_true, run_seq, run_blk, run_exit, run_ret, run_ite, iteR, regK, thenK_nrm, thenK_exit, thenK_ret, thenR_nrm, thenR_exit, thenR_ret, blkK, keepS, keepE, runOps_nil, runOps_cons, goG_some, fpOk, foot, entOf, allN, memN, goOn_ok, goOn_call, goOn_row, goOn_arr, goOn_ask, goOn_put, guardP, guardO, notInO, stepF, stepLd, stepSt, stepIxs, stepIxa, stepLen, stepApp, stepCpy, stepPick, stepSls, stepSst, stepSla, evX, evL, evB, rd, get, subG, memG, freshG, notInG, hyps, gob, impP, allP, partD, partOf, isOne, isPtr, nth, takeN, dropN, cellsD, lenB, fillD, thirds, entN, setE, sizeE, addE, setL, setN, putE, env0, eqCs, eqAux, eqC, bA, bO, bN, bE, negB, kEq, isShr, lendL, lend, frz, frzL, zRow, closed, closedL, rowsOf, binI, retK, retG, atRet, retD, lendO, resL, resD, oneD, renD, renL, renE, renEs, rho, putAll, entsN, List.append, List.nil_append, List.cons_append, List.append_nil, cond, Nat.reduceBEq, Nat.reduceAdd, Nat.beq]
  refine ⟨fun _ => gl, row_intro _ (.int .i64 nd.w) (fun _ => rl) rfl ?_⟩
  dsimp only [rD, run_skip, run_reg, plainB, ifB_true, run_seq, run_blk, run_exit, run_ret, run_ite, iteR, regK, thenK_nrm, thenK_exit, thenK_ret, thenR_nrm, thenR_exit, thenR_ret, blkK, keepS, keepE, runOps_nil, runOps_cons, goG_some, fpOk, foot, entOf, allN, memN, goOn_ok, goOn_call, goOn_row, goOn_arr, goOn_ask, goOn_put, guardP, guardO, notInO, stepF, stepLd, stepSt, stepIxs, stepIxa, stepLen, stepApp, stepCpy, stepPick, stepSls, stepSst, stepSla, evX, evL, evB, rd, get, subG, memG, freshG, notInG, hyps, gob, impP, allP, partD, partOf, isOne, isPtr, nth, takeN, dropN, cellsD, lenB, fillD, thirds, entN, setE, sizeE, addE, setL, setN, putE, env0, eqCs, eqAux, eqC, bA, bO, bN, bE, negB, kEq, isShr, lendL, lend, frz, frzL, zRow, closed, closedL, rowsOf, binI, retK, retG, atRet, retD, lendO, resL, resD, oneD, renD, renL, renE, renEs, rho, putAll, entsN, List.append, List.nil_append, List.cons_append, List.append_nil, cond, Nat.reduceBEq, Nat.reduceAdd, Nat.beq]
  refine ⟨fun _ _ => gx, row_intro _ (.int .i64 q.h) (fun _ _ => rx) rfl ?_⟩
  dsimp only [rD, run_skip, run_reg, plainB, ifB_true, run_seq, run_blk, run_exit, run_ret, run_ite, iteR, regK, thenK_nrm, thenK_exit, thenK_ret, thenR_nrm, thenR_exit, thenR_ret, blkK, keepS, keepE, runOps_nil, runOps_cons, goG_some, fpOk, foot, entOf, allN, memN, goOn_ok, goOn_call, goOn_row, goOn_arr, goOn_ask, goOn_put, guardP, guardO, notInO, stepF, stepLd, stepSt, stepIxs, stepIxa, stepLen, stepApp, stepCpy, stepPick, stepSls, stepSst, stepSla, evX, evL, evB, rd, get, subG, memG, freshG, notInG, hyps, gob, impP, allP, partD, partOf, isOne, isPtr, nth, takeN, dropN, cellsD, lenB, fillD, thirds, entN, setE, sizeE, addE, setL, setN, putE, env0, eqCs, eqAux, eqC, bA, bO, bN, bE, negB, kEq, isShr, lendL, lend, frz, frzL, zRow, closed, closedL, rowsOf, binI, retK, retG, atRet, retD, lendO, resL, resD, oneD, renD, renL, renE, renEs, rho, putAll, entsN, List.append, List.nil_append, List.cons_append, List.append_nil, cond, Nat.reduceBEq, Nat.reduceAdd, Nat.beq]
  refine ⟨fun _ _ => gl, row_intro _ (.int .i64 nd.h) (fun _ _ => rl) rfl ?_⟩
  dsimp only [rD, run_skip, run_reg, plainB, ifB_true, run_seq, run_blk, run_exit, run_ret, run_ite, iteR, regK, thenK_nrm, thenK_exit, thenK_ret, thenR_nrm, thenR_exit, thenR_ret, blkK, keepS, keepE, runOps_nil, runOps_cons, goG_some, fpOk, foot, entOf, allN, memN, goOn_ok, goOn_call, goOn_row, goOn_arr, goOn_ask, goOn_put, guardP, guardO, notInO, stepF, stepLd, stepSt, stepIxs, stepIxa, stepLen, stepApp, stepCpy, stepPick, stepSls, stepSst, stepSla, evX, evL, evB, rd, get, subG, memG, freshG, notInG, hyps, gob, impP, allP, partD, partOf, isOne, isPtr, nth, takeN, dropN, cellsD, lenB, fillD, thirds, entN, setE, sizeE, addE, setL, setN, putE, env0, eqCs, eqAux, eqC, bA, bO, bN, bE, negB, kEq, isShr, lendL, lend, frz, frzL, zRow, closed, closedL, rowsOf, binI, retK, retG, atRet, retD, lendO, resL, resD, oneD, renD, renL, renE, renEs, rho, putAll, entsN, List.append, List.nil_append, List.cons_append, List.append_nil, cond, Nat.reduceBEq, Nat.reduceAdd, Nat.beq]
  refine ⟨fun _ => gx, row_intro _ (rD q) (fun _ => rx) rfl ?_⟩
  dsimp only [rD, run_skip, run_reg, plainB, ifB_true, run_seq, run_blk, run_exit, run_ret, run_ite, iteR, regK, thenK_nrm, thenK_exit, thenK_ret, thenR_nrm, thenR_exit, thenR_ret, blkK, keepS, keepE, runOps_nil, runOps_cons, goG_some, fpOk, foot, entOf, allN, memN, goOn_ok, goOn_call, goOn_row, goOn_arr, goOn_ask, goOn_put, guardP, guardO, notInO, stepF, stepLd, stepSt, stepIxs, stepIxa, stepLen, stepApp, stepCpy, stepPick, stepSls, stepSst, stepSla, evX, evL, evB, rd, get, subG, memG, freshG, notInG, hyps, gob, impP, allP, partD, partOf, isOne, isPtr, nth, takeN, dropN, cellsD, lenB, fillD, thirds, entN, setE, sizeE, addE, setL, setN, putE, env0, eqCs, eqAux, eqC, bA, bO, bN, bE, negB, kEq, isShr, lendL, lend, frz, frzL, zRow, closed, closedL, rowsOf, binI, retK, retG, atRet, retD, lendO, resL, resD, oneD, renD, renL, renE, renEs, rho, putAll, entsN, List.append, List.nil_append, List.cons_append, List.append_nil, cond, Nat.reduceBEq, Nat.reduceAdd, Nat.beq]
  refine ⟨fun _ _ => gl, row_intro _ (.int .i64 nd.w) (fun _ _ => rl) rfl ?_⟩
  dsimp only [rD, run_skip, run_reg, plainB, ifB_true, run_seq, run_blk, run_exit, run_ret, run_ite, iteR, regK, thenK_nrm, thenK_exit, thenK_ret, thenR_nrm, thenR_exit, thenR_ret, blkK, keepS, keepE, runOps_nil, runOps_cons, goG_some, fpOk, foot, entOf, allN, memN, goOn_ok, goOn_call, goOn_row, goOn_arr, goOn_ask, goOn_put, guardP, guardO, notInO, stepF, stepLd, stepSt, stepIxs, stepIxa, stepLen, stepApp, stepCpy, stepPick, stepSls, stepSst, stepSla, evX, evL, evB, rd, get, subG, memG, freshG, notInG, hyps, gob, impP, allP, partD, partOf, isOne, isPtr, nth, takeN, dropN, cellsD, lenB, fillD, thirds, entN, setE, sizeE, addE, setL, setN, putE, env0, eqCs, eqAux, eqC, bA, bO, bN, bE, negB, kEq, isShr, lendL, lend, frz, frzL, zRow, closed, closedL, rowsOf, binI, retK, retG, atRet, retD, lendO, resL, resD, oneD, renD, renL, renE, renEs, rho, putAll, entsN, List.append, List.nil_append, List.cons_append, List.append_nil, cond, Nat.reduceBEq, Nat.reduceAdd, Nat.beq]
  refine ⟨fun _ _ => gl, row_intro _ (.int .i64 nd.h) (fun _ _ => rl) rfl ?_⟩
  dsimp only [rD, run_skip, run_reg, plainB, ifB_true, run_seq, run_blk, run_exit, run_ret, run_ite, iteR, regK, thenK_nrm, thenK_exit, thenK_ret, thenR_nrm, thenR_exit, thenR_ret, blkK, keepS, keepE, runOps_nil, runOps_cons, goG_some, fpOk, foot, entOf, allN, memN, goOn_ok, goOn_call, goOn_row, goOn_arr, goOn_ask, goOn_put, guardP, guardO, notInO, stepF, stepLd, stepSt, stepIxs, stepIxa, stepLen, stepApp, stepCpy, stepPick, stepSls, stepSst, stepSla, evX, evL, evB, rd, get, subG, memG, freshG, notInG, hyps, gob, impP, allP, partD, partOf, isOne, isPtr, nth, takeN, dropN, cellsD, lenB, fillD, thirds, entN, setE, sizeE, addE, setL, setN, putE, env0, eqCs, eqAux, eqC, bA, bO, bN, bE, negB, kEq, isShr, lendL, lend, frz, frzL, zRow, closed, closedL, rowsOf, binI, retK, retG, atRet, retD, lendO, resL, resD, oneD, renD, renL, renE, renEs, rho, putAll, entsN, List.append, List.nil_append, List.cons_append, List.append_nil, cond, Nat.reduceBEq, Nat.reduceAdd, Nat.beq]
  refine ⟨fun hb => ?_, fun _ => ?_⟩
  · exfalso
    by_cases he : q = .o
    · have := hk.no he
      subst he
      simp [Rc.o] at hb
      omega
    · have h3 := hk.some he
      have h4 : (decide (q.x = 0) && (decide (q.y = 0) && (decide (q.w = 0) && decide (q.h = 0)))) = false := by
        rw [Bool.eq_false_iff]
        exact fun h5 => he (Rc.eq_iff.1 h5)
      rw [h4] at hb
      simp at hb
      omega
  refine ⟨by simp only [fits]; omega, ?_⟩
  refine again (ih ⟨i + 1, by omega⟩ (by dsimp only; omega)) ?_ ?_ rfl rfl
  · exact ⟨rfl, rfl, rfl, trivial⟩
  · exact trivial
end Go.AM
