
/- Chapter 63: the document's Print; it is the program's. -/
import Derived.Test.YtlmhekbbagpnjaaDoorS21
set_option linter.all false
namespace Go.AM
open Go Go.Proofs Go.RowKit

def printR (l : List Cm) : Bs × Int :=
  if decide ((l.length : Int) = 0) then ([], 13) else if decide (1000 < (l.length : Int)) then ([], 5) else goW lineB chkW l 0 []
theorem joinTail_eq (l : List Bs) : Lib.joinTail [32] l = tailT l := by
  unfold Lib.joinTail tailT
  rw [List.flatMap_def]; rfl
theorem numsA_not {op : Int} {w : Bs} {nums : List Int} (h : ¬ op = 3) : ∀ i, i ≤ nums.length → numsA op w nums i = tailT ((nums.take i).map Lib.itoa)
  | 0, _ => by simp [numsA, tailT]
  | i + 1, hi => by
    rw [numsA, numsA_not h i (by omega), List.take_succ_eq_append_getElem (by omega), List.map_append, tailT_app]
    have e : nums.getD i 0 = nums[i] := by rw [List.getD_eq_getElem?_getD, List.getElem?_eq_getElem (by omega)]; rfl
    rw [e]
    simp [midT, h, tailT, wordT]
theorem numsA_say {w : Bs} {nums : List Int} : ∀ i, i ≤ nums.length → numsA 3 w nums i = if i ≤ 2 then tailT ((nums.take i).map Lib.itoa) else tailT ((nums.take 2).map Lib.itoa) ++ wordT w ++ tailT (((nums.take i).drop 2).map Lib.itoa)
  | 0, _ => by simp [numsA, tailT]
  | i + 1, hi => by
    have e : nums.getD i 0 = nums[i] := by rw [List.getD_eq_getElem?_getD, List.getElem?_eq_getElem (by omega)]; rfl
    have et : nums.take (i + 1) = nums.take i ++ [nums[i]] := List.take_succ_eq_append_getElem (by omega)
    have hl : (nums.take i).length = i := by simp; omega
    rw [numsA, numsA_say i (by omega), e, et]
    by_cases h1 : i + 1 ≤ 2
    · have h2 : ¬ ((i : Int) = 2) := by omega
      rw [if_pos (by omega), if_pos h1, List.map_append, tailT_app]
      simp [midT, h2, tailT, wordT]
    · rw [if_neg h1]
      by_cases h2 : i ≤ 2
      · have h3 : i = 2 := by omega
        have ed : (nums.take i ++ [nums[i]]).drop 2 = [nums[i]] := by
          rw [List.drop_append_of_le_length (by omega), List.drop_of_length_le (by omega)]; rfl
        rw [if_pos h2, ed]
        subst h3
        simp [midT, tailT, wordT]
      · have h3 : ¬ ((i : Int) = 2) := by omega
        rw [if_neg h2, List.drop_append_of_le_length (by omega), List.map_append, tailT_app]
        simp [midT, h3, tailT, wordT]
theorem tailT_cons (w : Bs) (l : List Bs) : tailT (w :: l) = wordT w ++ tailT l := rfl
theorem tailT_nil : tailT [] = [] := rfl
theorem lineB_text {c : Cm} {k : Nat} (hg : Good c k) : lineB c = textP c ++ [10] := by
  have hk := hg.lt
  have hop := hg.op
  have hko : c.op.toNat = k := by rw [hop]; rfl
  obtain ⟨b1, b2⟩ := built_len hg.op hg.built
  unfold lineB textP wordsP ins
  rw [hko, hop, nameS_sh hk]
  generalize c.words.getD 0 [] = w
  generalize c.nums = ns at *
  congr 1
  have hn : ∀ m : List Bs, Lib.join ((sh k).name :: m) [32] = (sh k).name ++ tailT m := fun m => by rw [Lib.join_cons, joinTail_eq]
  rcases sixteen hk with rfl | rfl | rfl | rfl | rfl | rfl | rfl | rfl | rfl | rfl | rfl | rfl | rfl | rfl | rfl | rfl
  case inr.inr.inr.inl =>
    simp only [sh, shL, List.getElem?_cons_zero, List.getElem?_cons_succ, Option.getD_some] at b1 b2 ⊢
    rw [show ((3 : Nat) : Int) = 3 from rfl, numsA_say ns.length (Nat.le_refl _), List.take_length]
    have hl : 2 ≤ ns.length := by omega
    have hj : Lib.join ((([115, 97, 121] : Bs) :: ns.map Lib.itoa).take 3 ++ w :: (([115, 97, 121] : Bs) :: ns.map Lib.itoa).drop 3) [32] = [115, 97, 121] ++ tailT ((ns.take 2).map Lib.itoa) ++ wordT w ++ tailT ((ns.drop 2).map Lib.itoa) := by
      rw [List.take_succ_cons, List.drop_succ_cons, List.cons_append, Lib.join_cons, joinTail_eq, tailT_app, List.map_take, List.map_drop]
      simp [tailT, wordT]
    rw [show (1 + (2 : Int)).toNat = 3 from rfl]
    simp only [show ¬ ((2 : Int) = 0) by decide, decide_false, Bool.not_false, if_true]
    rw [hj]
    unfold endT
    by_cases h2 : ns.length ≤ 2
    · have h3 : ns.length = 2 := by omega
      rw [if_pos h2, h3]
      have e1 : ns.take 2 = ns := List.take_of_length_le (by omega)
      have e2 : ns.drop 2 = [] := List.drop_of_length_le (by omega)
      rw [e1, e2]
      simp [tailT, wordT]
    · have h3 : ¬ ((ns.length : Int) = 2) := by omega
      rw [if_neg h2]
      simp [h3]
  all_goals
    simp only [sh, shL, List.getElem?_cons_zero, List.getElem?_cons_succ, Option.getD_some] at b1 b2 hn ⊢
    rw [numsA_not (by decide) ns.length (Nat.le_refl _), List.take_length]
    first
      | (simp [endT, hn, tailT_cons]; done)
      | (obtain ⟨n, rfl⟩ : ∃ n, ns = [n] := by
          match ns, b1, b2 with
          | [n], _, _ => exact ⟨n, rfl⟩
          | [], b1, _ => simp at b1
          | _ :: _ :: _, _, b2 => simp at b2; omega
         simp [endT, hn, tailT_cons, tailT_nil])
theorem goW_congr {f g : Cm → Bs} {chk : Cm → Bool → Int} (h : ∀ c fl, ¬ (c.op < 0 ∨ 16 ≤ c.op) → CmOk c → chk c fl = 0 → f c = g c) : ∀ (l : List Cm) (i : Nat) (b : Bs), (∀ c ∈ l, CmOk c) → goW f chk l i b = goW g chk l i b
  | [], _, _, _ => rfl
  | c :: l, i, b, hok => by
    unfold goW
    by_cases h1 : (decide (c.op < 0) || decide (16 ≤ c.op)) = true
    · rw [if_pos h1, if_pos h1]
    · rw [if_neg h1, if_neg h1]
      by_cases h2 : decide (chk c (decide ((i : Int) = 0)) = 0) = true
      · rw [if_pos h2, if_pos h2, h c _ (by simpa using h1) (hok c (by simp)) (by simpa using h2)]
        exact goW_congr h l _ _ fun x hx => hok x (by simp [hx])
      · rw [if_neg h2, if_neg h2]
theorem chkW_good {c : Cm} {fl : Bool} (h1 : ¬ (c.op < 0 ∨ 16 ≤ c.op)) (hok : CmOk c) (h : chkW c fl = 0) : ∃ k, Good c k ∧ allR c.nums = true := by
  obtain ⟨k, hop⟩ : ∃ k : Nat, c.op = k := ⟨c.op.toNat, by omega⟩
  have hk : k < 16 := by omega
  unfold chkW at h
  cases hb : builtB c with
  | false => rw [hb] at h; simp at h
  | true =>
    rw [hb] at h
    exact ⟨k, ⟨hk, hop, hb, hok⟩, checkS_allR hk hop (by simpa using h)⟩
theorem print_same {l : List Cm} (hok : ∀ c ∈ l, CmOk c) : printR l = printP l := by
  unfold printR printP
  rw [goW_congr (f := lineB) (g := fun c => textP c ++ [10]) (fun c fl h1 h2 h3 => by
    obtain ⟨k, hg, _⟩ := chkW_good h1 h2 h3
    exact lineB_text hg) l 0 [] hok]
theorem sp_ref63_Print {l : List Cm} (hok : ∀ c ∈ l, PrOk c) (hl0 : l.length < 1000000) : TSp 16 [.ls 4 (cL l)] (resS (printR l)) := by
  obtain ⟨i5, hi5, hz5, hs5, hb5⟩ : ∃ i, Tryd.prog.info? 5 = some i ∧ i.zero = some (.int .u8 0) ∧ i.size = 1 ∧ i.bytes = 1 := info_parts Tryd.Builder_Extra_169.infoByte
  refine spo_ref63_Print (by rfl) ?_
  dsimp only [c_ref63_Print, r_ref63_Print, run_skip, run_reg, plainB, ifB_true, run_seq, run_blk, run_exit, run_ret, run_ite, iteR, regK, thenK_nrm, thenK_exit, thenK_ret, thenR_nrm, thenR_exit, thenR_ret, blkK, keepS, keepE, runOps_nil, runOps_cons, goG_some, fpOk, foot, entOf, allN, memN, goOn_ok, goOn_call, goOn_row, goOn_arr, goOn_ask, goOn_put, goOn_prm, goOn_callK, goOn_callC, goOn_all, guardP, guardO, notInO, stepF, stepLd, stepSt, stepIxs, stepIxa, stepLen, stepApp, stepCpy, stepPick, stepSls, stepSst, stepSla, bareZ, evX, evL, evB, rd, get, subG, memG, freshG, notInG, hyps, gob, impP, allP, partD, partOf, isOne, isPtr, nth, takeN, dropN, cellsD, lenB, fillD, thirds, entN, setE, sizeE, addE, setL, setN, putE, env0, eqCs, eqAux, eqC, bA, bO, bN, bE, negB, kEq, isShr, lendL, lend, frz, frzL, zRow, closed, closedL, rowsOf, binI, retK, retG, atRet, retD, lendO, resL, resD, oneD, renD, renL, renE, renEs, rho, putAll, entsN, List.append, List.nil_append, List.cons_append, List.append_nil, cond, Nat.reduceBEq, Nat.reduceAdd, Nat.beq]
  simp only [cL_len]
  unfold printR
  refine ⟨fun h => ?_, fun h => ?_⟩
  · rw [if_pos h]; rfl
  rw [if_neg (by rw [h]; simp)]
  refine ⟨fun h2 => ?_, fun h2 => ?_⟩
  · rw [if_pos h2]; rfl
  rw [if_neg (by rw [h2]; simp)]
  simp only [decide_eq_false_iff_not] at h h2
  refine loop_ind (α := {x : Nat × Bs // goW lineB chkW (l.drop x.1) x.1 x.2 = goW lineB chkW l 0 [] ∧ x.1 ≤ l.length ∧ x.2.length ≤ x.1 * 816103})
    (fun x => ⟨[(0, [], .ls 4 (cL l)), (4, [], .own 0 x.1.1), (5, [], .int .i64 x.1.1)], [.arr 5 1 x.1.1 (bytesD x.1.2)]⟩) (fun x => l.length - x.1.1) ?_ ⟨(0, []), by simp⟩ rfl
  rintro ⟨⟨i, b⟩, h3, h4, h5⟩ I ih
  dsimp only at h3 h4 h5
  have hbl : (bytesD b).length = b.length := by simp [bytesD]
  dsimp only [run_skip, run_reg, plainB, ifB_true, run_seq, run_blk, run_exit, run_ret, run_ite, iteR, regK, thenK_nrm, thenK_exit, thenK_ret, thenR_nrm, thenR_exit, thenR_ret, blkK, keepS, keepE, runOps_nil, runOps_cons, goG_some, fpOk, foot, entOf, allN, memN, goOn_ok, goOn_call, goOn_row, goOn_arr, goOn_ask, goOn_put, goOn_prm, goOn_callK, goOn_callC, goOn_all, guardP, guardO, notInO, stepF, stepLd, stepSt, stepIxs, stepIxa, stepLen, stepApp, stepCpy, stepPick, stepSls, stepSst, stepSla, bareZ, evX, evL, evB, rd, get, subG, memG, freshG, notInG, hyps, gob, impP, allP, partD, partOf, isOne, isPtr, nth, takeN, dropN, cellsD, lenB, fillD, thirds, entN, setE, sizeE, addE, setL, setN, putE, env0, eqCs, eqAux, eqC, bA, bO, bN, bE, negB, kEq, isShr, lendL, lend, frz, frzL, zRow, closed, closedL, rowsOf, binI, retK, retG, atRet, retD, lendO, resL, resD, oneD, renD, renL, renE, renEs, rho, putAll, entsN, List.append, List.nil_append, List.cons_append, List.append_nil, cond, Nat.reduceBEq, Nat.reduceAdd, Nat.beq]
  simp only [cL_len]
  refine ⟨fun hi => ?_, fun hi => ?_⟩
  · have hi : i < l.length := by simpa using hi
    rw [goW_drop hi] at h3
    have hc := hok _ (List.getElem_mem hi)
    refine ⟨⟨trivial, by omega, by omega⟩, row_intro _ (cmD l[i]) (show _ = some (cmD l[i]) from by rw [Int.toNat_natCast]; exact cL_at hi) rfl ?_⟩
    generalize hcd : l[i] = c at *
    dsimp only [cmD, run_skip, run_reg, plainB, ifB_true, run_seq, run_blk, run_exit, run_ret, run_ite, iteR, regK, thenK_nrm, thenK_exit, thenK_ret, thenR_nrm, thenR_exit, thenR_ret, blkK, keepS, keepE, runOps_nil, runOps_cons, goG_some, fpOk, foot, entOf, allN, memN, goOn_ok, goOn_call, goOn_row, goOn_arr, goOn_ask, goOn_put, goOn_prm, goOn_callK, goOn_callC, goOn_all, guardP, guardO, notInO, stepF, stepLd, stepSt, stepIxs, stepIxa, stepLen, stepApp, stepCpy, stepPick, stepSls, stepSst, stepSla, bareZ, evX, evL, evB, rd, get, subG, memG, freshG, notInG, hyps, gob, impP, allP, partD, partOf, isOne, isPtr, nth, takeN, dropN, cellsD, lenB, fillD, thirds, entN, setE, sizeE, addE, setL, setN, putE, env0, eqCs, eqAux, eqC, bA, bO, bN, bE, negB, kEq, isShr, lendL, lend, frz, frzL, zRow, closed, closedL, rowsOf, binI, retK, retG, atRet, retD, lendO, resL, resD, oneD, renD, renL, renE, renEs, rho, putAll, entsN, List.append, List.nil_append, List.cons_append, List.append_nil, cond, Nat.reduceBEq, Nat.reduceAdd, Nat.beq]
    have h15 : (decide (c.op < 0) || decide (15 < c.op)) = (decide (c.op < 0) || decide (16 ≤ c.op)) := by
      rw [show decide (15 < c.op) = decide (16 ≤ c.op) from decide_eq_decide.2 (by omega)]
    rw [h15]
    refine ⟨fun hb => ?_, fun hb => ?_⟩
    · rw [if_pos hb] at h3
      first | (rw [← h3]; done) | (rw [← h3]; rfl)
    rw [if_neg (by rw [hb]; simp)] at h3
    simp only [Bool.or_eq_false_iff, decide_eq_false_iff_not] at hb
    obtain ⟨k, hop⟩ : ∃ k : Nat, c.op = k := ⟨c.op.toNat, by omega⟩
    have hk : k < 16 := by omega
    have hfb := form_built (c := c) hk hop
    refine call_pure (show TSp _ [cmD c] _ from sp_ref63_form hk hop hc.toCmOk) ?_
    rw [hfb]
    dsimp only [run_skip, run_reg, plainB, ifB_true, run_seq, run_blk, run_exit, run_ret, run_ite, iteR, regK, thenK_nrm, thenK_exit, thenK_ret, thenR_nrm, thenR_exit, thenR_ret, blkK, keepS, keepE, runOps_nil, runOps_cons, goG_some, fpOk, foot, entOf, allN, memN, goOn_ok, goOn_call, goOn_row, goOn_arr, goOn_ask, goOn_put, goOn_prm, goOn_callK, goOn_callC, goOn_all, guardP, guardO, notInO, stepF, stepLd, stepSt, stepIxs, stepIxa, stepLen, stepApp, stepCpy, stepPick, stepSls, stepSst, stepSla, bareZ, evX, evL, evB, rd, get, subG, memG, freshG, notInG, hyps, gob, impP, allP, partD, partOf, isOne, isPtr, nth, takeN, dropN, cellsD, lenB, fillD, thirds, entN, setE, sizeE, addE, setL, setN, putE, env0, eqCs, eqAux, eqC, bA, bO, bN, bE, negB, kEq, isShr, lendL, lend, frz, frzL, zRow, closed, closedL, rowsOf, binI, retK, retG, atRet, retD, lendO, resL, resD, oneD, renD, renL, renE, renEs, rho, putAll, entsN, List.append, List.nil_append, List.cons_append, List.append_nil, cond, Nat.reduceBEq, Nat.reduceAdd, Nat.beq]
    cases hbt : builtB c with
    | false =>
      have hch : chkW c (decide ((i : Int) = 0)) = 2 := by unfold chkW; rw [hbt]; rfl
      rw [hch] at h3
      refine ⟨fun _ => ?_, fun h => by simp at h⟩
      first | (rw [← h3]; done) | (rw [← h3]; rfl)
    | true =>
      have hg : Good c k := ⟨hk, hop, hbt, hc.toCmOk⟩
      have hch : ∀ f, chkW c f = checkS c f := fun f => by unfold chkW; rw [hbt]; rfl
      rw [hch] at h3
      refine ⟨fun h => by simp at h, fun _ => ?_⟩
      refine call_pure (show TSp _ [cmD c] _ from sp_ref63_bounds hk hop hc.toCmOk hbt) ?_
      dsimp only [run_skip, run_reg, plainB, ifB_true, run_seq, run_blk, run_exit, run_ret, run_ite, iteR, regK, thenK_nrm, thenK_exit, thenK_ret, thenR_nrm, thenR_exit, thenR_ret, blkK, keepS, keepE, runOps_nil, runOps_cons, goG_some, fpOk, foot, entOf, allN, memN, goOn_ok, goOn_call, goOn_row, goOn_arr, goOn_ask, goOn_put, goOn_prm, goOn_callK, goOn_callC, goOn_all, guardP, guardO, notInO, stepF, stepLd, stepSt, stepIxs, stepIxa, stepLen, stepApp, stepCpy, stepPick, stepSls, stepSst, stepSla, bareZ, evX, evL, evB, rd, get, subG, memG, freshG, notInG, hyps, gob, impP, allP, partD, partOf, isOne, isPtr, nth, takeN, dropN, cellsD, lenB, fillD, thirds, entN, setE, sizeE, addE, setL, setN, putE, env0, eqCs, eqAux, eqC, bA, bO, bN, bE, negB, kEq, isShr, lendL, lend, frz, frzL, zRow, closed, closedL, rowsOf, binI, retK, retG, atRet, retD, lendO, resL, resD, oneD, renD, renL, renE, renEs, rho, putAll, entsN, List.append, List.nil_append, List.cons_append, List.append_nil, cond, Nat.reduceBEq, Nat.reduceAdd, Nat.beq]
      unfold checkS at h3
      cases hrb : rangeB c with
      | false =>
        rw [hrb] at h3
        refine ⟨fun _ => ?_, fun h => by simp at h⟩
        first | (rw [← h3]; done) | (rw [← h3]; rfl)
      | true =>
        rw [hrb] at h3
        refine ⟨fun h => by simp at h, fun _ => ?_⟩
        have hsym : (decide ((i : Int) = 0) == decide (c.op = 0)) = (decide (c.op = 0) == decide ((i : Int) = 0)) := by
          cases decide ((i : Int) = 0) <;> cases decide (c.op = 0) <;> rfl
        rw [hsym] at h3
        cases hq : (decide (c.op = 0) == decide ((i : Int) = 0)) with
        | false =>
          rw [hq] at h3
          refine ⟨fun _ => ?_, fun h => by simp at h⟩
          first | (rw [← h3]; done) | (rw [← h3]; rfl)
        | true =>
          rw [hq] at h3
          simp only [Bool.not_true, Bool.false_eq_true, if_false, decide_false, reduceCtorEq] at h3
          refine ⟨fun h => by simp at h, fun _ => ?_⟩
          have hch0 : chkW c (decide ((i : Int) = 0)) = 0 := by
            rw [hch]; unfold checkS; rw [hrb, hsym, hq]; rfl
          obtain ⟨k', hg', hr⟩ := chkW_good (by omega) hc.toCmOk hch0
          have hw := hc.word
          have hlt : (lineB c).length ≤ 816103 := by
            rw [lineB_text hg]; have := text_len hg hr hw; simp; omega
          have hi1 : i * 816103 ≤ 1000 * 816103 := Nat.mul_le_mul_right _ (by omega)
          refine call_pure (show TSp _ [cmD c] _ from sp_ref63_line hg hr hw) ?_
          dsimp only [run_skip, run_reg, plainB, ifB_true, run_seq, run_blk, run_exit, run_ret, run_ite, iteR, regK, thenK_nrm, thenK_exit, thenK_ret, thenR_nrm, thenR_exit, thenR_ret, blkK, keepS, keepE, runOps_nil, runOps_cons, goG_some, fpOk, foot, entOf, allN, memN, goOn_ok, goOn_call, goOn_row, goOn_arr, goOn_ask, goOn_put, goOn_prm, goOn_callK, goOn_callC, goOn_all, guardP, guardO, notInO, stepF, stepLd, stepSt, stepIxs, stepIxa, stepLen, stepApp, stepCpy, stepPick, stepSls, stepSst, stepSla, bareZ, evX, evL, evB, rd, get, subG, memG, freshG, notInG, hyps, gob, impP, allP, partD, partOf, isOne, isPtr, nth, takeN, dropN, cellsD, lenB, fillD, thirds, entN, setE, sizeE, addE, setL, setN, putE, env0, eqCs, eqAux, eqC, bA, bO, bN, bE, negB, kEq, isShr, lendL, lend, frz, frzL, zRow, closed, closedL, rowsOf, binI, retK, retG, atRet, retD, lendO, resL, resD, oneD, renD, renL, renE, renEs, rho, putAll, entsN, List.append, List.nil_append, List.cons_append, List.append_nil, cond, Nat.reduceBEq, Nat.reduceAdd, Nat.beq]
          refine prm_eff _ _ (pr_aps (e := 5) (j := 0) (ver := i) (rows := bytesD b) (s := lineB c) Tryd.underlying58 Tryd.underlying9 hi5 hz5 hs5 hb5 rfl (by rw [hbl]; omega)) ?_
          dsimp only [run_skip, run_reg, plainB, ifB_true, run_seq, run_blk, run_exit, run_ret, run_ite, iteR, regK, thenK_nrm, thenK_exit, thenK_ret, thenR_nrm, thenR_exit, thenR_ret, blkK, keepS, keepE, runOps_nil, runOps_cons, goG_some, fpOk, foot, entOf, allN, memN, goOn_ok, goOn_call, goOn_row, goOn_arr, goOn_ask, goOn_put, goOn_prm, goOn_callK, goOn_callC, goOn_all, guardP, guardO, notInO, stepF, stepLd, stepSt, stepIxs, stepIxa, stepLen, stepApp, stepCpy, stepPick, stepSls, stepSst, stepSla, bareZ, evX, evL, evB, rd, get, subG, memG, freshG, notInG, hyps, gob, impP, allP, partD, partOf, isOne, isPtr, nth, takeN, dropN, cellsD, lenB, fillD, thirds, entN, setE, sizeE, addE, setL, setN, putE, env0, eqCs, eqAux, eqC, bA, bO, bN, bE, negB, kEq, isShr, lendL, lend, frz, frzL, zRow, closed, closedL, rowsOf, binI, retK, retG, atRet, retD, lendO, resL, resD, oneD, renD, renL, renE, renEs, rho, putAll, entsN, List.append, List.nil_append, List.cons_append, List.append_nil, cond, Nat.reduceBEq, Nat.reduceAdd, Nat.beq]
          refine ⟨by simp only [fits]; omega, ?_⟩
          refine again (ih ⟨(i + 1, b ++ lineB c), h3, by dsimp only; omega, by dsimp only; simp; omega⟩ (by dsimp only; omega)) ?_ ?_ rfl rfl
          · exact ⟨rfl, rfl, rfl, trivial⟩
          · refine ⟨?_, trivial⟩
            dsimp only; simp [bytesD]
  · have hi : i = l.length := by simp at hi; omega
    subst hi
    rw [List.drop_length] at h3
    rw [show goW lineB chkW [] l.length b = if decide (65536 < (b.length : Int)) then ([], 4) else (b, 0) from rfl] at h3
    rw [hbl]
    refine ⟨trivial, fun hl => ?_, fun hl => ?_⟩
    · rw [if_pos hl] at h3; first | (rw [← h3]; done) | (rw [← h3]; rfl)
    · rw [if_neg (by rw [hl]; simp)] at h3
      refine ⟨⟨trivial, trivial⟩, ask_intro (.str b) ⟨b, rfl, rfl⟩ ?_⟩
      dsimp only [run_skip, run_reg, plainB, ifB_true, run_seq, run_blk, run_exit, run_ret, run_ite, iteR, regK, thenK_nrm, thenK_exit, thenK_ret, thenR_nrm, thenR_exit, thenR_ret, blkK, keepS, keepE, runOps_nil, runOps_cons, goG_some, fpOk, foot, entOf, allN, memN, goOn_ok, goOn_call, goOn_row, goOn_arr, goOn_ask, goOn_put, goOn_prm, goOn_callK, goOn_callC, goOn_all, guardP, guardO, notInO, stepF, stepLd, stepSt, stepIxs, stepIxa, stepLen, stepApp, stepCpy, stepPick, stepSls, stepSst, stepSla, bareZ, evX, evL, evB, rd, get, subG, memG, freshG, notInG, hyps, gob, impP, allP, partD, partOf, isOne, isPtr, nth, takeN, dropN, cellsD, lenB, fillD, thirds, entN, setE, sizeE, addE, setL, setN, putE, env0, eqCs, eqAux, eqC, bA, bO, bN, bE, negB, kEq, isShr, lendL, lend, frz, frzL, zRow, closed, closedL, rowsOf, binI, retK, retG, atRet, retD, lendO, resL, resD, oneD, renD, renL, renE, renEs, rho, putAll, entsN, List.append, List.nil_append, List.cons_append, List.append_nil, cond, Nat.reduceBEq, Nat.reduceAdd, Nat.beq]
      first | (rw [← h3]; done) | (rw [← h3]; rfl)
end Go.AM
