
/- Chapter 63: Print. -/
import Derived.Test.YtlmhekbbagpnjaaDoorS16
set_option linter.all false
namespace Go.AM
open Go Go.Proofs Go.RowKit

def goW (f : Cm → Bs) (chk : Cm → Bool → Int) : List Cm → Nat → Bs → Bs × Int
  | [], _, b => if decide (65536 < (b.length : Int)) then ([], 4) else (b, 0)
  | c :: l, i, b =>
    if decide (c.op < 0) || decide (16 ≤ c.op) then ([], 10)
    else if decide (chk c (decide ((i : Int) = 0)) = 0) then goW f chk l (i + 1) (b ++ f c)
    else ([], chk c (decide ((i : Int) = 0)))
theorem goW_drop {f : Cm → Bs} {chk : Cm → Bool → Int} {l : List Cm} {i j : Nat} {b : Bs} (h : i < l.length) : goW f chk (l.drop i) j b =
    if decide (l[i].op < 0) || decide (16 ≤ l[i].op) then ([], 10)
    else if decide (chk l[i] (decide ((j : Int) = 0)) = 0) then goW f chk (l.drop (i + 1)) (j + 1) (b ++ f l[i])
    else ([], chk l[i] (decide ((j : Int) = 0))) := by rw [List.drop_eq_getElem_cons h]; rfl
/-- What is wrong with a command. -/
def chkW (c : Cm) (first : Bool) : Int := if !builtB c then 2 else checkS c first
def printP (l : List Cm) : Bs × Int :=
  if decide ((l.length : Int) = 0) then ([], 13) else if decide (1000 < (l.length : Int)) then ([], 5) else goW (fun c => textP c ++ [10]) chkW l 0 []
def resS (x : Bs × Int) : D := .tup [.str x.1, .int .i64 x.2]
structure PrOk (c : Cm) : Prop extends CmOk c where
  word : (c.words.getD 0 []).length ≤ 8000
theorem checkS_allR {c : Cm} {k : Nat} {first : Bool} (hk : k < 16) (hop : c.op = k) (h : checkS c first = 0) : allR c.nums = true := by
  cases ha : allR c.nums with
  | true => rfl
  | false =>
    unfold checkS at h
    rw [rangeB_bad hk hop ha] at h
    cases h
theorem text_len {c : Cm} {k : Nat} (hg : Good c k) (hr : allR c.nums = true) (hw : (c.words.getD 0 []).length ≤ 8000) : (textP c).length ≤ 816102 := by
  have hk := hg.lt
  have hko : c.op.toNat = k := by rw [hg.op]; rfl
  obtain ⟨b1, b2⟩ := built_len hg.op hg.built
  obtain ⟨a1, a2, a3, a4⟩ := ahead_le hk
  have hwl : ((sh k).name :: c.nums.map Lib.itoa).length = c.nums.length + 1 := by simp
  have hb : ∀ y ∈ (sh k).name :: c.nums.map Lib.itoa, y.length ≤ 8000 := fun y hy => by
    rcases List.mem_cons.1 hy with rfl | hy
    · omega
    · obtain ⟨n, hn, rfl⟩ := List.mem_map.1 hy
      have := itoa_len (n := n) (List.all_eq_true.1 hr n hn)
      omega
  unfold textP
  rw [hko]
  have hall : ∀ x ∈ wordsP k c.nums (c.words.getD 0 []), x.length ≤ 8000 := fun x hx => by
    unfold wordsP at hx
    split at hx
    · unfold ins at hx
      rcases List.mem_append.1 hx with hx | hx
      · exact hb x (List.mem_of_mem_take hx)
      · rcases List.mem_cons.1 hx with rfl | hx
        · omega
        · exact hb x (List.mem_of_mem_drop hx)
    · exact hb x hx
  have h1 := join_le _ hall
  have h2 : (wordsP k c.nums (c.words.getD 0 [])).length ≤ 102 := by
    unfold wordsP
    split
    · rw [ins_len (by rw [hwl]; omega), hwl]; omega
    · rw [hwl]; omega
  have h3 := Nat.mul_le_mul_right (8000 + 1) h2
  omega
def pbE : Bool → Nat → Ent
  | true, ver => .cells [.box 1 0, .own 0 ver]
  | false, ver => .tcells 60 [.nil, .own 0 ver]
theorem pbE_ents {u : Bool} {ver : Nat} {rows : List D} {r : List Ent} {n : Nat} : entsN (.arr 5 1 ver rows :: pbE u ver :: r) [1, 0] = some (renEs [1, 0] n [bdE u ver, .arr 5 1 ver rows]) := by
  cases u <;> rfl
theorem zero60 : zeroOf Tryd.prog 60 = some [.nil, .ls 1 []] := by kernel_rfl
theorem zero60n : (((Tryd.prog.info? 60).bind (·.zero)).map fun v => v.cells.toList.all notFn) = some true := by kernel_rfl
theorem sp_script_Print {l : List Cm} (hok : ∀ c ∈ l, PrOk c) (hl0 : l.length < 1000000) : TSp 15 [.ls 4 (cL l)] (resS (printP l)) := by
  refine spo_script_Print (by rfl) ?_
  dsimp only [c_script_Print, r_script_Print, run_skip, run_reg, plainB, ifB_true, run_seq, run_blk, run_exit, run_ret, run_ite, iteR, regK, thenK_nrm, thenK_exit, thenK_ret, thenR_nrm, thenR_exit, thenR_ret, blkK, keepS, keepE, runOps_nil, runOps_cons, goG_some, fpOk, foot, entOf, allN, memN, goOn_ok, goOn_call, goOn_row, goOn_arr, goOn_ask, goOn_put, goOn_prm, goOn_callK, goOn_callC, goOn_all, guardP, guardO, notInO, stepF, stepLd, stepSt, stepIxs, stepIxa, stepLen, stepApp, stepCpy, stepPick, stepSls, stepSst, stepSla, bareZ, evX, evL, evB, rd, get, subG, memG, freshG, notInG, hyps, gob, impP, allP, partD, partOf, isOne, isPtr, nth, takeN, dropN, cellsD, lenB, fillD, thirds, entN, setE, sizeE, addE, setL, setN, putE, env0, eqCs, eqAux, eqC, bA, bO, bN, bE, negB, kEq, isShr, lendL, lend, frz, frzL, zRow, closed, closedL, rowsOf, binI, retK, retG, atRet, retD, lendO, resL, resD, oneD, renD, renL, renE, renEs, rho, putAll, entsN, List.append, List.nil_append, List.cons_append, List.append_nil, cond, Nat.reduceBEq, Nat.reduceAdd, Nat.beq]
  simp only [cL_len]
  unfold printP
  refine ⟨fun h => ?_, fun h => ?_⟩
  · rw [if_pos h]; rfl
  rw [if_neg (by rw [h]; simp)]
  refine ⟨fun h2 => ?_, fun h2 => ?_⟩
  · rw [if_pos h2]; rfl
  rw [if_neg (by rw [h2]; simp)]
  simp only [decide_eq_false_iff_not] at h h2
  refine prm_eff _ _ (pr_alcT (a := 1) 5 zero60 zero60n rfl) ?_
  dsimp only [List.set, run_skip, run_reg, plainB, ifB_true, run_seq, run_blk, run_exit, run_ret, run_ite, iteR, regK, thenK_nrm, thenK_exit, thenK_ret, thenR_nrm, thenR_exit, thenR_ret, blkK, keepS, keepE, runOps_nil, runOps_cons, goG_some, fpOk, foot, entOf, allN, memN, goOn_ok, goOn_call, goOn_row, goOn_arr, goOn_ask, goOn_put, goOn_prm, goOn_callK, goOn_callC, goOn_all, guardP, guardO, notInO, stepF, stepLd, stepSt, stepIxs, stepIxa, stepLen, stepApp, stepCpy, stepPick, stepSls, stepSst, stepSla, bareZ, evX, evL, evB, rd, get, subG, memG, freshG, notInG, hyps, gob, impP, allP, partD, partOf, isOne, isPtr, nth, takeN, dropN, cellsD, lenB, fillD, thirds, entN, setE, sizeE, addE, setL, setN, putE, env0, eqCs, eqAux, eqC, bA, bO, bN, bE, negB, kEq, isShr, lendL, lend, frz, frzL, zRow, closed, closedL, rowsOf, binI, retK, retG, atRet, retD, lendO, resL, resD, oneD, renD, renL, renE, renEs, rho, putAll, entsN, List.append, List.nil_append, List.cons_append, List.append_nil, cond, Nat.reduceBEq, Nat.reduceAdd, Nat.beq]
  simp only [cL_len]
  refine loop_ind (α := {x : Nat × Bs // goW (fun c => textP c ++ [10]) chkW (l.drop x.1) x.1 x.2 = goW (fun c => textP c ++ [10]) chkW l 0 [] ∧ x.1 ≤ l.length ∧ x.2.length ≤ x.1 * 816103 ∧ (0 < x.1 → x.2 ≠ [])})
    (fun x => ⟨[(4, [], .box 1 0), (14, [], .ls 4 (cL l)), (15, [], .int .i64 l.length), (16, [], .int .i64 x.1.1)], [.arr 5 1 (2 * x.1.1) (bytesD x.1.2), pbE (decide (0 < x.1.1)) (2 * x.1.1)]⟩) (fun x => l.length - x.1.1) ?_ ⟨(0, []), by simp⟩ rfl
  rintro ⟨⟨i, b⟩, h3, h4, h5, h6⟩ I ih
  dsimp only at h3 h4 h5 h6
  dsimp only [run_skip, run_reg, plainB, ifB_true, run_seq, run_blk, run_exit, run_ret, run_ite, iteR, regK, thenK_nrm, thenK_exit, thenK_ret, thenR_nrm, thenR_exit, thenR_ret, blkK, keepS, keepE, runOps_nil, runOps_cons, goG_some, fpOk, foot, entOf, allN, memN, goOn_ok, goOn_call, goOn_row, goOn_arr, goOn_ask, goOn_put, goOn_prm, goOn_callK, goOn_callC, goOn_all, guardP, guardO, notInO, stepF, stepLd, stepSt, stepIxs, stepIxa, stepLen, stepApp, stepCpy, stepPick, stepSls, stepSst, stepSla, bareZ, evX, evL, evB, rd, get, subG, memG, freshG, notInG, hyps, gob, impP, allP, partD, partOf, isOne, isPtr, nth, takeN, dropN, cellsD, lenB, fillD, thirds, entN, setE, sizeE, addE, setL, setN, putE, env0, eqCs, eqAux, eqC, bA, bO, bN, bE, negB, kEq, isShr, lendL, lend, frz, frzL, zRow, closed, closedL, rowsOf, binI, retK, retG, atRet, retD, lendO, resL, resD, oneD, renD, renL, renE, renEs, rho, putAll, entsN, List.append, List.nil_append, List.cons_append, List.append_nil, cond, Nat.reduceBEq, Nat.reduceAdd, Nat.beq]
  refine ⟨fun hi => ?_, fun hi => ?_⟩
  · have hi : i < l.length := by simpa using hi
    rw [goW_drop hi] at h3
    have hc := hok _ (List.getElem_mem hi)
    refine ⟨⟨rfl, by omega, by rw [cL_len]; omega⟩, row_intro _ (cmD l[i]) (show _ = some (cmD l[i]) from by rw [Int.toNat_natCast]; exact cL_at hi) rfl ?_⟩
    generalize hcd : l[i] = c at *
    dsimp only [cmD, run_skip, run_reg, plainB, ifB_true, run_seq, run_blk, run_exit, run_ret, run_ite, iteR, regK, thenK_nrm, thenK_exit, thenK_ret, thenR_nrm, thenR_exit, thenR_ret, blkK, keepS, keepE, runOps_nil, runOps_cons, goG_some, fpOk, foot, entOf, allN, memN, goOn_ok, goOn_call, goOn_row, goOn_arr, goOn_ask, goOn_put, goOn_prm, goOn_callK, goOn_callC, goOn_all, guardP, guardO, notInO, stepF, stepLd, stepSt, stepIxs, stepIxa, stepLen, stepApp, stepCpy, stepPick, stepSls, stepSst, stepSla, bareZ, evX, evL, evB, rd, get, subG, memG, freshG, notInG, hyps, gob, impP, allP, partD, partOf, isOne, isPtr, nth, takeN, dropN, cellsD, lenB, fillD, thirds, entN, setE, sizeE, addE, setL, setN, putE, env0, eqCs, eqAux, eqC, bA, bO, bN, bE, negB, kEq, isShr, lendL, lend, frz, frzL, zRow, closed, closedL, rowsOf, binI, retK, retG, atRet, retD, lendO, resL, resD, oneD, renD, renL, renE, renEs, rho, putAll, entsN, List.append, List.nil_append, List.cons_append, List.append_nil, cond, Nat.reduceBEq, Nat.reduceAdd, Nat.beq]
    refine ⟨fun hb => ?_, fun hb => ?_⟩
    · rw [if_pos hb] at h3
      rw [← h3]; rfl
    rw [if_neg (by rw [hb]; simp)] at h3
    simp only [Bool.or_eq_false_iff, decide_eq_false_iff_not] at hb
    obtain ⟨k, hop⟩ : ∃ k : Nat, c.op = k := ⟨c.op.toNat, by omega⟩
    have hk : k < 16 := by omega
    refine call_pure (show TSp _ [cmD c] _ from sp_script_built hk hop hc.toCmOk) ?_
    dsimp only [run_skip, run_reg, plainB, ifB_true, run_seq, run_blk, run_exit, run_ret, run_ite, iteR, regK, thenK_nrm, thenK_exit, thenK_ret, thenR_nrm, thenR_exit, thenR_ret, blkK, keepS, keepE, runOps_nil, runOps_cons, goG_some, fpOk, foot, entOf, allN, memN, goOn_ok, goOn_call, goOn_row, goOn_arr, goOn_ask, goOn_put, goOn_prm, goOn_callK, goOn_callC, goOn_all, guardP, guardO, notInO, stepF, stepLd, stepSt, stepIxs, stepIxa, stepLen, stepApp, stepCpy, stepPick, stepSls, stepSst, stepSla, bareZ, evX, evL, evB, rd, get, subG, memG, freshG, notInG, hyps, gob, impP, allP, partD, partOf, isOne, isPtr, nth, takeN, dropN, cellsD, lenB, fillD, thirds, entN, setE, sizeE, addE, setL, setN, putE, env0, eqCs, eqAux, eqC, bA, bO, bN, bE, negB, kEq, isShr, lendL, lend, frz, frzL, zRow, closed, closedL, rowsOf, binI, retK, retG, atRet, retD, lendO, resL, resD, oneD, renD, renL, renE, renEs, rho, putAll, entsN, List.append, List.nil_append, List.cons_append, List.append_nil, cond, Nat.reduceBEq, Nat.reduceAdd, Nat.beq]
    cases hbt : builtB c with
    | false =>
      have hch : chkW c (decide ((i : Int) = 0)) = 2 := by unfold chkW; rw [hbt]; rfl
      rw [hch] at h3
      refine ⟨fun _ => ?_, fun h => by simp at h⟩
      rw [← h3]; rfl
    | true =>
      have hg : Good c k := ⟨hk, hop, hbt, hc.toCmOk⟩
      have hch : ∀ f, chkW c f = checkS c f := fun f => by unfold chkW; rw [hbt]; rfl
      rw [hch] at h3
      refine ⟨fun h => by simp at h, fun _ => ?_⟩
      refine call_pure (show TSp _ [cmD c, .bool (decide ((i : Int) = 0))] _ from sp_script_check hk hop hc.nums hg.three) ?_
      dsimp only [run_skip, run_reg, plainB, ifB_true, run_seq, run_blk, run_exit, run_ret, run_ite, iteR, regK, thenK_nrm, thenK_exit, thenK_ret, thenR_nrm, thenR_exit, thenR_ret, blkK, keepS, keepE, runOps_nil, runOps_cons, goG_some, fpOk, foot, entOf, allN, memN, goOn_ok, goOn_call, goOn_row, goOn_arr, goOn_ask, goOn_put, goOn_prm, goOn_callK, goOn_callC, goOn_all, guardP, guardO, notInO, stepF, stepLd, stepSt, stepIxs, stepIxa, stepLen, stepApp, stepCpy, stepPick, stepSls, stepSst, stepSla, bareZ, evX, evL, evB, rd, get, subG, memG, freshG, notInG, hyps, gob, impP, allP, partD, partOf, isOne, isPtr, nth, takeN, dropN, cellsD, lenB, fillD, thirds, entN, setE, sizeE, addE, setL, setN, putE, env0, eqCs, eqAux, eqC, bA, bO, bN, bE, negB, kEq, isShr, lendL, lend, frz, frzL, zRow, closed, closedL, rowsOf, binI, retK, retG, atRet, retD, lendO, resL, resD, oneD, renD, renL, renE, renEs, rho, putAll, entsN, List.append, List.nil_append, List.cons_append, List.append_nil, cond, Nat.reduceBEq, Nat.reduceAdd, Nat.beq]
      refine ⟨fun he => ?_, fun he => ?_⟩
      · have he : decide (checkS c (decide ((i : Int) = 0)) = 0) = false := by simpa using he
        rw [if_neg (by rw [he]; simp)] at h3
        rw [← h3]; rfl
      · have he : decide (checkS c (decide ((i : Int) = 0)) = 0) = true := by simpa using he
        rw [if_pos he] at h3
        have hr := checkS_allR hk hop (by simpa using he)
        have hw := hc.word
        have htl := text_len hg hr hw
        refine call_pure (show TSp _ [cmD c] _ from sp_script_text hg hr (by omega)) ?_
        dsimp only [run_skip, run_reg, plainB, ifB_true, run_seq, run_blk, run_exit, run_ret, run_ite, iteR, regK, thenK_nrm, thenK_exit, thenK_ret, thenR_nrm, thenR_exit, thenR_ret, blkK, keepS, keepE, runOps_nil, runOps_cons, goG_some, fpOk, foot, entOf, allN, memN, goOn_ok, goOn_call, goOn_row, goOn_arr, goOn_ask, goOn_put, goOn_prm, goOn_callK, goOn_callC, goOn_all, guardP, guardO, notInO, stepF, stepLd, stepSt, stepIxs, stepIxa, stepLen, stepApp, stepCpy, stepPick, stepSls, stepSst, stepSla, bareZ, evX, evL, evB, rd, get, subG, memG, freshG, notInG, hyps, gob, impP, allP, partD, partOf, isOne, isPtr, nth, takeN, dropN, cellsD, lenB, fillD, thirds, entN, setE, sizeE, addE, setL, setN, putE, env0, eqCs, eqAux, eqC, bA, bO, bN, bE, negB, kEq, isShr, lendL, lend, frz, frzL, zRow, closed, closedL, rowsOf, binI, retK, retG, atRet, retD, lendO, resL, resD, oneD, renD, renL, renE, renEs, rho, putAll, entsN, List.append, List.nil_append, List.cons_append, List.append_nil, cond, Nat.reduceBEq, Nat.reduceAdd, Nat.beq]
        have hi1 : i * 816103 ≤ 1000 * 816103 := Nat.mul_le_mul_right _ (by omega)
        refine call_own [1, 0] (sm_WriteString (u := decide (0 < i)) (ver := 2 * i) (l := b) (s := textP c) (by omega)) rfl pbE_ents ?_
        dsimp only [bdE, run_skip, run_reg, plainB, ifB_true, run_seq, run_blk, run_exit, run_ret, run_ite, iteR, regK, thenK_nrm, thenK_exit, thenK_ret, thenR_nrm, thenR_exit, thenR_ret, blkK, keepS, keepE, runOps_nil, runOps_cons, goG_some, fpOk, foot, entOf, allN, memN, goOn_ok, goOn_call, goOn_row, goOn_arr, goOn_ask, goOn_put, goOn_prm, goOn_callK, goOn_callC, goOn_all, guardP, guardO, notInO, stepF, stepLd, stepSt, stepIxs, stepIxa, stepLen, stepApp, stepCpy, stepPick, stepSls, stepSst, stepSla, bareZ, evX, evL, evB, rd, get, subG, memG, freshG, notInG, hyps, gob, impP, allP, partD, partOf, isOne, isPtr, nth, takeN, dropN, cellsD, lenB, fillD, thirds, entN, setE, sizeE, addE, setL, setN, putE, env0, eqCs, eqAux, eqC, bA, bO, bN, bE, negB, kEq, isShr, lendL, lend, frz, frzL, zRow, closed, closedL, rowsOf, binI, retK, retG, atRet, retD, lendO, resL, resD, oneD, renD, renL, renE, renEs, rho, putAll, entsN, List.append, List.nil_append, List.cons_append, List.append_nil, cond, Nat.reduceBEq, Nat.reduceAdd, Nat.beq]
        refine call_own [1, 0] (sm_WriteByte (ver := 2 * i + 1) (l := b ++ textP c) (by simp; omega)) rfl rfl ?_
        dsimp only [bdE, run_skip, run_reg, plainB, ifB_true, run_seq, run_blk, run_exit, run_ret, run_ite, iteR, regK, thenK_nrm, thenK_exit, thenK_ret, thenR_nrm, thenR_exit, thenR_ret, blkK, keepS, keepE, runOps_nil, runOps_cons, goG_some, fpOk, foot, entOf, allN, memN, goOn_ok, goOn_call, goOn_row, goOn_arr, goOn_ask, goOn_put, goOn_prm, goOn_callK, goOn_callC, goOn_all, guardP, guardO, notInO, stepF, stepLd, stepSt, stepIxs, stepIxa, stepLen, stepApp, stepCpy, stepPick, stepSls, stepSst, stepSla, bareZ, evX, evL, evB, rd, get, subG, memG, freshG, notInG, hyps, gob, impP, allP, partD, partOf, isOne, isPtr, nth, takeN, dropN, cellsD, lenB, fillD, thirds, entN, setE, sizeE, addE, setL, setN, putE, env0, eqCs, eqAux, eqC, bA, bO, bN, bE, negB, kEq, isShr, lendL, lend, frz, frzL, zRow, closed, closedL, rowsOf, binI, retK, retG, atRet, retD, lendO, resL, resD, oneD, renD, renL, renE, renEs, rho, putAll, entsN, List.append, List.nil_append, List.cons_append, List.append_nil, cond, Nat.reduceBEq, Nat.reduceAdd, Nat.beq]
        refine ⟨by simp only [fits]; omega, ?_⟩
        refine again (ih ⟨(i + 1, b ++ (textP c ++ [10])), h3, by dsimp only; omega, by dsimp only; simp; omega, fun _ => by simp⟩ (by dsimp only; omega)) ?_ ?_ rfl ?_
        · exact ⟨rfl, rfl, rfl, rfl, trivial⟩
        · have e : decide (0 < i + 1) = true := by simp
          dsimp only
          rw [e]
          refine ⟨?_, rfl, trivial⟩
          rw [show 2 * (i + 1) = 2 * i + 1 + 1 by omega, List.append_assoc]
        · dsimp only; have e : decide (0 < i + 1) = true := by simp
          rw [e]; rfl
  · have hi : i = l.length := by simp at hi; omega
    subst hi
    rw [List.drop_length] at h3
    have hi0 : 0 < l.length := by omega
    have hbne := h6 hi0
    rw [show goW (fun c => textP c ++ [10]) chkW [] l.length b = if decide (65536 < (b.length : Int)) then ([], 4) else (b, 0) from rfl] at h3
    have e : decide (0 < l.length) = true := by simpa using hi0
    rw [e]
    dsimp only [pbE, run_skip, run_reg, plainB, ifB_true, run_seq, run_blk, run_exit, run_ret, run_ite, iteR, regK, thenK_nrm, thenK_exit, thenK_ret, thenR_nrm, thenR_exit, thenR_ret, blkK, keepS, keepE, runOps_nil, runOps_cons, goG_some, fpOk, foot, entOf, allN, memN, goOn_ok, goOn_call, goOn_row, goOn_arr, goOn_ask, goOn_put, goOn_prm, goOn_callK, goOn_callC, goOn_all, guardP, guardO, notInO, stepF, stepLd, stepSt, stepIxs, stepIxa, stepLen, stepApp, stepCpy, stepPick, stepSls, stepSst, stepSla, bareZ, evX, evL, evB, rd, get, subG, memG, freshG, notInG, hyps, gob, impP, allP, partD, partOf, isOne, isPtr, nth, takeN, dropN, cellsD, lenB, fillD, thirds, entN, setE, sizeE, addE, setL, setN, putE, env0, eqCs, eqAux, eqC, bA, bO, bN, bE, negB, kEq, isShr, lendL, lend, frz, frzL, zRow, closed, closedL, rowsOf, binI, retK, retG, atRet, retD, lendO, resL, resD, oneD, renD, renL, renE, renEs, rho, putAll, entsN, List.append, List.nil_append, List.cons_append, List.append_nil, cond, Nat.reduceBEq, Nat.reduceAdd, Nat.beq]
    refine call_own [1, 0] (sm_Len (ver := 2 * l.length) (l := b)) rfl rfl ?_
    dsimp only [bdE, run_skip, run_reg, plainB, ifB_true, run_seq, run_blk, run_exit, run_ret, run_ite, iteR, regK, thenK_nrm, thenK_exit, thenK_ret, thenR_nrm, thenR_exit, thenR_ret, blkK, keepS, keepE, runOps_nil, runOps_cons, goG_some, fpOk, foot, entOf, allN, memN, goOn_ok, goOn_call, goOn_row, goOn_arr, goOn_ask, goOn_put, goOn_prm, goOn_callK, goOn_callC, goOn_all, guardP, guardO, notInO, stepF, stepLd, stepSt, stepIxs, stepIxa, stepLen, stepApp, stepCpy, stepPick, stepSls, stepSst, stepSla, bareZ, evX, evL, evB, rd, get, subG, memG, freshG, notInG, hyps, gob, impP, allP, partD, partOf, isOne, isPtr, nth, takeN, dropN, cellsD, lenB, fillD, thirds, entN, setE, sizeE, addE, setL, setN, putE, env0, eqCs, eqAux, eqC, bA, bO, bN, bE, negB, kEq, isShr, lendL, lend, frz, frzL, zRow, closed, closedL, rowsOf, binI, retK, retG, atRet, retD, lendO, resL, resD, oneD, renD, renL, renE, renEs, rho, putAll, entsN, List.append, List.nil_append, List.cons_append, List.append_nil, cond, Nat.reduceBEq, Nat.reduceAdd, Nat.beq]
    refine ⟨fun hl => ?_, fun hl => ?_⟩
    · rw [if_pos hl] at h3; rw [← h3]; rfl
    · rw [if_neg (by rw [hl]; simp)] at h3
      refine call_own [1, 0] (sm_String (ver := 2 * l.length) (l := b) hbne) rfl rfl ?_
      dsimp only [run_skip, run_reg, plainB, ifB_true, run_seq, run_blk, run_exit, run_ret, run_ite, iteR, regK, thenK_nrm, thenK_exit, thenK_ret, thenR_nrm, thenR_exit, thenR_ret, blkK, keepS, keepE, runOps_nil, runOps_cons, goG_some, fpOk, foot, entOf, allN, memN, goOn_ok, goOn_call, goOn_row, goOn_arr, goOn_ask, goOn_put, goOn_prm, goOn_callK, goOn_callC, goOn_all, guardP, guardO, notInO, stepF, stepLd, stepSt, stepIxs, stepIxa, stepLen, stepApp, stepCpy, stepPick, stepSls, stepSst, stepSla, bareZ, evX, evL, evB, rd, get, subG, memG, freshG, notInG, hyps, gob, impP, allP, partD, partOf, isOne, isPtr, nth, takeN, dropN, cellsD, lenB, fillD, thirds, entN, setE, sizeE, addE, setL, setN, putE, env0, eqCs, eqAux, eqC, bA, bO, bN, bE, negB, kEq, isShr, lendL, lend, frz, frzL, zRow, closed, closedL, rowsOf, binI, retK, retG, atRet, retD, lendO, resL, resD, oneD, renD, renL, renE, renEs, rho, putAll, entsN, List.append, List.nil_append, List.cons_append, List.append_nil, cond, Nat.reduceBEq, Nat.reduceAdd, Nat.beq]
      rw [← h3]; rfl
end Go.AM
