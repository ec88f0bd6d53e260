
/- Chapter 63: the document's Parse. -/
import Derived.Test.YtlmhekbbagpnjaaDoorS12
set_option linter.all false
namespace Go.AM
open Go Go.Proofs Go.RowKit

theorem sp_ref63_Parse {s : Bs} (hs : s.length < 900000) : TSp 11 [.str s] (resP (parseW lineR s)) := by
  refine spo_ref63_Parse (by rfl) ?_
  dsimp only [c_ref63_Parse, r_ref63_Parse, run_skip, run_reg, plainB, ifB_true, run_seq, run_blk, run_exit, run_ret, run_ite, iteR, regK, thenK_nrm, thenK_exit, thenK_ret, thenR_nrm, thenR_exit, thenR_ret, blkK, keepS, keepE, runOps_nil, runOps_cons, goG_some, fpOk, foot, entOf, allN, memN, goOn_ok, goOn_call, goOn_row, goOn_arr, goOn_ask, goOn_put, goOn_prm, goOn_callK, goOn_callC, goOn_all, guardP, guardO, notInO, stepF, stepLd, stepSt, stepIxs, stepIxa, stepLen, stepApp, stepCpy, stepPick, stepSls, stepSst, stepSla, bareZ, evX, evL, evB, rd, get, subG, memG, freshG, notInG, hyps, gob, impP, allP, partD, partOf, isOne, isPtr, nth, takeN, dropN, cellsD, lenB, fillD, thirds, entN, setE, sizeE, addE, setL, setN, putE, env0, eqCs, eqAux, eqC, bA, bO, bN, bE, negB, kEq, isShr, lendL, lend, frz, frzL, zRow, closed, closedL, rowsOf, binI, retK, retG, atRet, retD, lendO, resL, resD, oneD, renD, renL, renE, renEs, rho, putAll, entsN, List.append, List.nil_append, List.cons_append, List.append_nil, cond, Nat.reduceBEq, Nat.reduceAdd, Nat.beq]
  unfold parseW
  refine ⟨fun h => ?_, fun h => ?_⟩
  · rw [if_pos h]; exact ⟨rfl, rfl⟩
  rw [if_neg (by rw [h]; simp)]
  simp only [decide_eq_false_iff_not] at h
  refine call_pure (show TSp _ [.str s, .int .u8 10] (.ls 1 (sL (cutL 10 s))) from sp_ref63_cut (b := 10) (by omega)) ?_
  dsimp only [run_skip, run_reg, plainB, ifB_true, run_seq, run_blk, run_exit, run_ret, run_ite, iteR, regK, thenK_nrm, thenK_exit, thenK_ret, thenR_nrm, thenR_exit, thenR_ret, blkK, keepS, keepE, runOps_nil, runOps_cons, goG_some, fpOk, foot, entOf, allN, memN, goOn_ok, goOn_call, goOn_row, goOn_arr, goOn_ask, goOn_put, goOn_prm, goOn_callK, goOn_callC, goOn_all, guardP, guardO, notInO, stepF, stepLd, stepSt, stepIxs, stepIxa, stepLen, stepApp, stepCpy, stepPick, stepSls, stepSst, stepSla, bareZ, evX, evL, evB, rd, get, subG, memG, freshG, notInG, hyps, gob, impP, allP, partD, partOf, isOne, isPtr, nth, takeN, dropN, cellsD, lenB, fillD, thirds, entN, setE, sizeE, addE, setL, setN, putE, env0, eqCs, eqAux, eqC, bA, bO, bN, bE, negB, kEq, isShr, lendL, lend, frz, frzL, zRow, closed, closedL, rowsOf, binI, retK, retG, atRet, retD, lendO, resL, resD, oneD, renD, renL, renE, renEs, rho, putAll, entsN, List.append, List.nil_append, List.cons_append, List.append_nil, cond, Nat.reduceBEq, Nat.reduceAdd, Nat.beq]
  have hcl := cutL_len 10 s
  have hct : s.count 10 ≤ s.length := List.count_le_length
  have hby : ∀ w ∈ cutL 10 s, w.length < 900000 := fun w hw => by have := cutL_le 10 s w hw; omega
  generalize cutL 10 s = L at *
  refine loop_ind (α := {x : Nat × List Cm // goP lineR (L.drop x.1) x.1 x.2 = goP lineR L 0 [] ∧ x.1 ≤ L.length ∧ x.2.length ≤ x.1})
    (fun x => ⟨[(5, [], .ls 1 (sL L)), (6, [], .own 1 x.1.2.length), (7, [], .int .i64 x.1.1)], [.arr 54 4 0 [], .arr 54 4 x.1.2.length (cL x.1.2)]⟩) (fun x => L.length - x.1.1) ?_ ⟨(0, []), by simp⟩ rfl
  rintro ⟨⟨i, acc⟩, h1, h2, h3⟩ I ih
  dsimp only at h1 h2 h3
  dsimp only [run_skip, run_reg, plainB, ifB_true, run_seq, run_blk, run_exit, run_ret, run_ite, iteR, regK, thenK_nrm, thenK_exit, thenK_ret, thenR_nrm, thenR_exit, thenR_ret, blkK, keepS, keepE, runOps_nil, runOps_cons, goG_some, fpOk, foot, entOf, allN, memN, goOn_ok, goOn_call, goOn_row, goOn_arr, goOn_ask, goOn_put, goOn_prm, goOn_callK, goOn_callC, goOn_all, guardP, guardO, notInO, stepF, stepLd, stepSt, stepIxs, stepIxa, stepLen, stepApp, stepCpy, stepPick, stepSls, stepSst, stepSla, bareZ, evX, evL, evB, rd, get, subG, memG, freshG, notInG, hyps, gob, impP, allP, partD, partOf, isOne, isPtr, nth, takeN, dropN, cellsD, lenB, fillD, thirds, entN, setE, sizeE, addE, setL, setN, putE, env0, eqCs, eqAux, eqC, bA, bO, bN, bE, negB, kEq, isShr, lendL, lend, frz, frzL, zRow, closed, closedL, rowsOf, binI, retK, retG, atRet, retD, lendO, resL, resD, oneD, renD, renL, renE, renEs, rho, putAll, entsN, List.append, List.nil_append, List.cons_append, List.append_nil, cond, Nat.reduceBEq, Nat.reduceAdd, Nat.beq]
  simp only [sL_len]
  refine ⟨fun hi => ?_, fun hi => ?_⟩
  · have hi : i < L.length := by simpa using hi
    rw [goP_drop hi] at h1
    have hwl := hby _ (List.getElem_mem hi)
    have hrow := sL_at hi
    have hlen : (sL L).length = L.length := sL_len L
    generalize hLi : L[i] = si at *
    refine ⟨⟨trivial, by omega, by omega⟩, row_intro _ (.str si) (show _ = some (D.str si) from by rw [Int.toNat_natCast]; exact hrow) rfl ?_⟩
    dsimp only [run_skip, run_reg, plainB, ifB_true, run_seq, run_blk, run_exit, run_ret, run_ite, iteR, regK, thenK_nrm, thenK_exit, thenK_ret, thenR_nrm, thenR_exit, thenR_ret, blkK, keepS, keepE, runOps_nil, runOps_cons, goG_some, fpOk, foot, entOf, allN, memN, goOn_ok, goOn_call, goOn_row, goOn_arr, goOn_ask, goOn_put, goOn_prm, goOn_callK, goOn_callC, goOn_all, guardP, guardO, notInO, stepF, stepLd, stepSt, stepIxs, stepIxa, stepLen, stepApp, stepCpy, stepPick, stepSls, stepSst, stepSla, bareZ, evX, evL, evB, rd, get, subG, memG, freshG, notInG, hyps, gob, impP, allP, partD, partOf, isOne, isPtr, nth, takeN, dropN, cellsD, lenB, fillD, thirds, entN, setE, sizeE, addE, setL, setN, putE, env0, eqCs, eqAux, eqC, bA, bO, bN, bE, negB, kEq, isShr, lendL, lend, frz, frzL, zRow, closed, closedL, rowsOf, binI, retK, retG, atRet, retD, lendO, resL, resD, oneD, renD, renL, renE, renEs, rho, putAll, entsN, List.append, List.nil_append, List.cons_append, List.append_nil, cond, Nat.reduceBEq, Nat.reduceAdd, Nat.beq]
    refine ⟨fun hne => ⟨rfl, by omega, by omega⟩, row_intro _ (.str si) (fun _ => by rw [Int.toNat_natCast]; exact hrow) rfl ?_⟩
    dsimp only [run_skip, run_reg, plainB, ifB_true, run_seq, run_blk, run_exit, run_ret, run_ite, iteR, regK, thenK_nrm, thenK_exit, thenK_ret, thenR_nrm, thenR_exit, thenR_ret, blkK, keepS, keepE, runOps_nil, runOps_cons, goG_some, fpOk, foot, entOf, allN, memN, goOn_ok, goOn_call, goOn_row, goOn_arr, goOn_ask, goOn_put, goOn_prm, goOn_callK, goOn_callC, goOn_all, guardP, guardO, notInO, stepF, stepLd, stepSt, stepIxs, stepIxa, stepLen, stepApp, stepCpy, stepPick, stepSls, stepSst, stepSla, bareZ, evX, evL, evB, rd, get, subG, memG, freshG, notInG, hyps, gob, impP, allP, partD, partOf, isOne, isPtr, nth, takeN, dropN, cellsD, lenB, fillD, thirds, entN, setE, sizeE, addE, setL, setN, putE, env0, eqCs, eqAux, eqC, bA, bO, bN, bE, negB, kEq, isShr, lendL, lend, frz, frzL, zRow, closed, closedL, rowsOf, binI, retK, retG, atRet, retD, lendO, resL, resD, oneD, renD, renL, renE, renEs, rho, putAll, entsN, List.append, List.nil_append, List.cons_append, List.append_nil, cond, Nat.reduceBEq, Nat.reduceAdd, Nat.beq]
    refine ⟨fun hne => ?_, fun hs => ?_, fun hs => ?_⟩
    · have : 0 < si.length := List.length_pos_iff.2 (by simpa using hne)
      exact ⟨by omega, by omega⟩
    · rw [if_pos (show skipB si = true from hs)] at h1
      refine ⟨by simp only [fits]; omega, ?_⟩
      refine again (ih ⟨(i + 1, acc), h1, by dsimp only; omega, by dsimp only; omega⟩ (by dsimp only; omega)) ?_ ?_ rfl rfl
      · exact ⟨rfl, rfl, rfl, trivial⟩
      · exact ⟨rfl, rfl, trivial⟩
    · rw [if_neg (by rw [show skipB si = false from hs]; simp)] at h1
      refine ⟨⟨rfl, by omega, by omega⟩, row_intro _ (.str si) (by rw [Int.toNat_natCast]; exact hrow) rfl ?_⟩
      dsimp only [run_skip, run_reg, plainB, ifB_true, run_seq, run_blk, run_exit, run_ret, run_ite, iteR, regK, thenK_nrm, thenK_exit, thenK_ret, thenR_nrm, thenR_exit, thenR_ret, blkK, keepS, keepE, runOps_nil, runOps_cons, goG_some, fpOk, foot, entOf, allN, memN, goOn_ok, goOn_call, goOn_row, goOn_arr, goOn_ask, goOn_put, goOn_prm, goOn_callK, goOn_callC, goOn_all, guardP, guardO, notInO, stepF, stepLd, stepSt, stepIxs, stepIxa, stepLen, stepApp, stepCpy, stepPick, stepSls, stepSst, stepSla, bareZ, evX, evL, evB, rd, get, subG, memG, freshG, notInG, hyps, gob, impP, allP, partD, partOf, isOne, isPtr, nth, takeN, dropN, cellsD, lenB, fillD, thirds, entN, setE, sizeE, addE, setL, setN, putE, env0, eqCs, eqAux, eqC, bA, bO, bN, bE, negB, kEq, isShr, lendL, lend, frz, frzL, zRow, closed, closedL, rowsOf, binI, retK, retG, atRet, retD, lendO, resL, resD, oneD, renD, renL, renE, renEs, rho, putAll, entsN, List.append, List.nil_append, List.cons_append, List.append_nil, cond, Nat.reduceBEq, Nat.reduceAdd, Nat.beq]
      refine call_pure (sp_ref63_read hwl) ?_
      have hlp : ∀ b, lineR b si = if decide ((readR si).2 = 0) then (if (decide ((readR si).1.op = 0) == b) then readR si else ((readR si).1, 8)) else readR si := fun _ => rfl
      simp only [hlp] at h1
      dsimp only [resC, cmD, run_skip, run_reg, plainB, ifB_true, run_seq, run_blk, run_exit, run_ret, run_ite, iteR, regK, thenK_nrm, thenK_exit, thenK_ret, thenR_nrm, thenR_exit, thenR_ret, blkK, keepS, keepE, runOps_nil, runOps_cons, goG_some, fpOk, foot, entOf, allN, memN, goOn_ok, goOn_call, goOn_row, goOn_arr, goOn_ask, goOn_put, goOn_prm, goOn_callK, goOn_callC, goOn_all, guardP, guardO, notInO, stepF, stepLd, stepSt, stepIxs, stepIxa, stepLen, stepApp, stepCpy, stepPick, stepSls, stepSst, stepSla, bareZ, evX, evL, evB, rd, get, subG, memG, freshG, notInG, hyps, gob, impP, allP, partD, partOf, isOne, isPtr, nth, takeN, dropN, cellsD, lenB, fillD, thirds, entN, setE, sizeE, addE, setL, setN, putE, env0, eqCs, eqAux, eqC, bA, bO, bN, bE, negB, kEq, isShr, lendL, lend, frz, frzL, zRow, closed, closedL, rowsOf, binI, retK, retG, atRet, retD, lendO, resL, resD, oneD, renD, renL, renE, renEs, rho, putAll, entsN, List.append, List.nil_append, List.cons_append, List.append_nil, cond, Nat.reduceBEq, Nat.reduceAdd, Nat.beq]
      rcases hr : readR si with ⟨c, e⟩
      rw [hr] at h1
      dsimp only at h1 ⊢
      simp only [cL_len]
      refine ⟨fun he => ?_, fun he => ?_⟩
      · have he' : decide (e = 0) = false := by simpa using he
        simp only [he', if_neg (show ¬ (false = true) by simp)] at h1
        rw [← h1]
        exact ⟨by simp only [fits]; omega, trivial, rfl⟩
      · have he' : e = 0 := by simpa using he
        subst he'
        simp only [decide_true, if_true] at h1
        refine ⟨trivial, fun h8 => ?_, fun h8 => ?_⟩
        · have h8' : (decide (c.op = 0) == decide ((acc.length : Int) = 0)) = false := by simpa using h8
          rw [h8'] at h1
          simp only [Bool.false_eq_true, if_false, show ¬ ((8 : Int) = 0) by decide, decide_false] at h1
          rw [← h1]
          exact ⟨by simp only [fits]; omega, trivial, rfl⟩
        · have h8' : (decide (c.op = 0) == decide ((acc.length : Int) = 0)) = true := by simpa using h8
          rw [h8'] at h1
          simp only [if_true, decide_true] at h1
          refine ⟨trivial, fun h5 => ?_, fun h5 => ?_⟩
          · rw [if_pos h5] at h1
            rw [← h1]
            exact ⟨by simp only [fits]; omega, trivial, rfl⟩
          · rw [if_neg (by rw [h5]; simp)] at h1
            simp only [decide_eq_false_iff_not] at h5
            refine ⟨by simp only [fits]; omega, ?_⟩
            refine ⟨⟨trivial, trivial, trivial, trivial, by simp; omega⟩, by simp only [fits]; omega, ?_⟩
            refine again (ih ⟨(i + 1, acc ++ [{ c with line := (i : Int) + 1 }]), h1, by dsimp only; omega, by dsimp only; simp; omega⟩ (by dsimp only; omega)) ?_ ?_ rfl rfl
            · refine ⟨rfl, ?_, rfl, trivial⟩
              dsimp only; rw [List.length_append]; rfl
            · refine ⟨rfl, ?_, trivial⟩
              dsimp only; rw [List.length_append]; simp [cL, cmD]
  · have hi : i = L.length := by simp at hi; omega
    subst hi
    rw [List.drop_length] at h1
    rw [← h1]
    simp only [cL_len]
    unfold goP
    refine ⟨trivial, fun h => ?_, fun h => ?_⟩
    · rw [if_pos h]; exact ⟨trivial, rfl⟩
    · rw [if_neg (by rw [h]; simp)]; exact ⟨trivial, rfl⟩

theorem goP_len {f : Bool → Bs → Cm × Int} : ∀ (l : List Bs) (i : Nat) (acc : List Cm), acc.length ≤ 1000 → (goP f l i acc).1.length ≤ 1000
  | [], _, acc, h => by
    unfold goP
    split
    · simp
    · exact h
  | s :: l, i, acc, h => by
    unfold goP
    split
    · exact goP_len l _ _ h
    · split
      · split
        · simp
        · rename_i h1
          simp only [decide_eq_true_eq] at h1
          exact goP_len l _ _ (by simp; omega)
      · simp
theorem goP_mem {f : Bool → Bs → Cm × Int} {p : Cm → Prop} : ∀ (l : List Bs) (i : Nat) (acc : List Cm), (∀ c ∈ acc, p c) → (∀ s ∈ l, ∀ b n, (f b s).2 = 0 → p { (f b s).1 with line := n }) → ∀ c ∈ (goP f l i acc).1, p c
  | [], _, acc, h, _ => by
    unfold goP
    split
    · simp
    · exact h
  | s :: l, i, acc, h, hl => by
    unfold goP
    split
    · exact goP_mem l _ _ h fun s hs => hl s (List.mem_cons_of_mem _ hs)
    · split
      · rename_i h2
        split
        · simp
        · refine goP_mem l _ _ (fun c hc => ?_) fun s hs => hl s (List.mem_cons_of_mem _ hs)
          rcases List.mem_append.1 hc with hc | hc
          · exact h c hc
          · simp only [List.mem_singleton] at hc
            subst hc
            exact hl s (by simp) _ _ (by simpa using h2)
      · simp
/-- A command that Parse gives: built, and checked. -/
structure Chkd (c : Cm) : Prop where
  good : ∃ k, Good c k
  all : rangeB c = true
theorem lineP_ok {b : Bool} {s : Bs} {n : Int} (hs : s.length < 900000) (h : (lineP b s).2 = 0) : Chkd { (lineP b s).1 with line := n } := by
  unfold lineP at h ⊢
  by_cases h1 : (readP s).2 = 0
  · obtain ⟨k, hg, _⟩ := readP_good hs h1
    simp only [h1, decide_true, if_true] at h ⊢
    refine ⟨⟨k, hg.lt, hg.op, ?_, ⟨hg.ok.nums, hg.ok.words, hg.ok.bytes⟩⟩, ?_⟩
    · have := hg.built
      unfold builtB at this ⊢
      exact this
    · unfold checkS at h
      cases hr : rangeB (readP s).1 with
      | true =>
        unfold rangeB at hr ⊢
        exact hr
      | false => rw [hr] at h; simp at h
  · simp only [h1, decide_false, Bool.false_eq_true, if_false] at h
theorem parse_ok {s : Bs} (hs : s.length < 900000) : (parseW lineP s).1.length ≤ 1000 ∧ ∀ c ∈ (parseW lineP s).1, Chkd c := by
  unfold parseW
  split
  · exact ⟨by simp, by simp⟩
  · exact ⟨goP_len _ _ _ (by simp), goP_mem _ _ _ (by simp) fun w hw b n h => lineP_ok (by have := cutL_le 10 s w hw; omega) h⟩
end Go.AM
