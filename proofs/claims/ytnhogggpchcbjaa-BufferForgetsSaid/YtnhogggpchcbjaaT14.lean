
/- Chapter 54: BufferUndoes. -/
import Derived.Test.YtnhogggpchcbjaaT13
set_option linter.all false
namespace Go.AM
open Go Go.Proofs Go.RowKit

theorem ins_code {b : Bu} {d : Rb} {B : Nat} (h : Rel b d B) {at_ : Int} {s : Bs} (hc : (insB b at_ s).2 = 0) : (∃ x, (insR d at_ s).1 = withR d x) ∧ (insB b at_ s).1.again = [] := by
  unfold insB at hc ⊢
  unfold insR
  rw [h.tx]
  by_cases h1 : decide (s = []) = true
  · rw [if_pos h1] at hc; simp at hc
  rw [if_neg h1] at hc ⊢; rw [if_neg h1]
  by_cases h2 : (decide (at_ < 0) || decide ((b.text.length : Int) < at_)) = true
  · rw [if_pos h2] at hc; simp at hc
  rw [if_neg h2] at hc ⊢; rw [if_neg h2]
  by_cases h3 : (!rightB s) = true
  · rw [if_pos h3] at hc; simp at hc
  rw [if_neg h3] at hc ⊢; rw [if_neg h3]
  by_cases h4 : decide (65536 < (b.text.length : Int) + s.length) = true
  · rw [if_pos h4] at hc; simp at hc
  rw [if_neg h4] at hc ⊢; rw [if_neg h4]
  exact ⟨⟨_, rfl⟩, rfl⟩
theorem del_code {b : Bu} {d : Rb} {B : Nat} (h : Rel b d B) {f t : Int} (hc : (delB b f t).2 = 0) : (∃ x, (delR d f t).1 = withR d x) ∧ (delB b f t).1.again = [] := by
  unfold delB at hc ⊢
  unfold delR
  rw [h.tx]
  by_cases h2 : (decide (f < 0) || decide (t < f) || decide ((b.text.length : Int) < t)) = true
  · rw [if_pos h2] at hc; simp at hc
  rw [if_neg h2] at hc ⊢; rw [if_neg h2]
  by_cases h4 : decide (f = t) = true
  · rw [if_pos h4] at hc; simp at hc
  rw [if_neg h4] at hc ⊢; rw [if_neg h4]
  exact ⟨⟨_, rfl⟩, rfl⟩
theorem play_code {a : Ac} {b : Bu} {d : Rb} {B : Nat} (h : Rel b d B) (h01 : a.do_ % 4 = 0 ∨ a.do_ % 4 = 1) (hc : (playB a b).2.2 = true) : (∃ x, (refA a d).1 = withR d x) ∧ (playB a b).1.again = [] := by
  unfold playB at hc ⊢
  unfold refA
  by_cases h0 : decide (a.do_ % 4 = 0) = true
  · rw [if_pos h0] at hc ⊢; rw [if_pos h0]
    exact ins_code h (by simpa using hc)
  rw [if_neg h0] at hc ⊢; rw [if_neg h0]
  by_cases h1 : decide (a.do_ % 4 = 1) = true
  · rw [if_pos h1] at hc ⊢; rw [if_pos h1]
    exact del_code h (by simpa using hc)
  · simp at h0 h1; omega
/-- One more text. -/
theorem play_more {a : Ac} {b : Bu} {L : List Bs} {B : Nat} (h : Rel b ⟨L, (L.length : Int) - 1⟩ B) (hL : L.length ≤ 200) (h01 : a.do_ % 4 = 0 ∨ a.do_ % 4 = 1) (hc : (playB a b).2.2 = true) :
    Rel (playB a b).1 ⟨L ++ [(playB a b).1.text], ((L ++ [(playB a b).1.text]).length : Int) - 1⟩ (B + a.s.length) ∧ (playB a b).1.again = [] := by
  obtain ⟨⟨x, h1⟩, h2⟩ := play_code h h01 hc
  obtain ⟨_, hp⟩ := h.play a
  have hne := h.rb.ne
  dsimp only at hne
  rw [h1] at hp
  obtain ⟨n, hn⟩ : ∃ n : Nat, (L.length : Int) - 1 = n ∧ n + 1 = L.length := ⟨L.length - 1, by omega, by omega⟩
  have e : withR ⟨L, (L.length : Int) - 1⟩ x = ⟨L ++ [x], ((L ++ [x]).length : Int) - 1⟩ := by
    rw [hn.1, with_eq (by omega) (by omega), hn.2, List.take_length]
    congr 1; simp
  rw [e] at hp
  have ht := hp.tx
  have : x = (playB a b).1.text := by
    rw [← ht]
    unfold textR
    simp [show (((L ++ [x]).length : Int) - 1).toNat = L.length by simp]
  rw [← this]
  exact ⟨hp, h2⟩

theorem sp_law54_BufferUndoes {s : Bs} {l : List Ac} (hs : s.length < 9223372036854775808) (hl : l.length < 9223372036854775808) (h0 : ∀ a ∈ l, 0 ≤ a.do_) : TSp 4 [.str s, .ls 4 (aL l)] (.bool true) := by
  refine spo_law54_BufferUndoes (by rfl) ?_
  dsimp only [c_law54_BufferUndoes, r_law54_BufferUndoes, run_skip, run_reg, plainB, ifB_true, run_seq, run_blk, run_exit, run_ret, run_ite, iteR, regK, thenK_nrm, thenK_exit, thenK_ret, thenR_nrm, thenR_exit, thenR_ret, blkK, keepS, keepE, runOps_nil, runOps_cons, goG_some, fpOk, foot, entOf, allN, memN, goOn_ok, goOn_call, goOn_row, goOn_arr, goOn_ask, goOn_put, guardP, guardO, notInO, stepF, stepLd, stepSt, stepIxs, stepIxa, stepLen, stepApp, stepCpy, stepPick, stepSls, stepSst, stepSla, evX, evL, evB, rd, get, subG, memG, freshG, notInG, hyps, gob, impP, allP, partD, partOf, isOne, isPtr, nth, takeN, dropN, cellsD, lenB, fillD, thirds, entN, setE, sizeE, addE, setL, setN, putE, env0, eqCs, eqAux, eqC, bA, bO, bN, bE, negB, kEq, isShr, lendL, lend, frz, frzL, zRow, closed, closedL, rowsOf, binI, retK, retG, atRet, retD, lendO, resL, resD, oneD, renD, renL, renE, renEs, rho, putAll, entsN, List.append, List.nil_append, List.cons_append, List.append_nil, cond, Nat.reduceBEq, Nat.reduceAdd, Nat.beq]
  refine call_pure (sp_law54_Few hl) ?_
  dsimp only [run_skip, run_reg, plainB, ifB_true, run_seq, run_blk, run_exit, run_ret, run_ite, iteR, regK, thenK_nrm, thenK_exit, thenK_ret, thenR_nrm, thenR_exit, thenR_ret, blkK, keepS, keepE, runOps_nil, runOps_cons, goG_some, fpOk, foot, entOf, allN, memN, goOn_ok, goOn_call, goOn_row, goOn_arr, goOn_ask, goOn_put, guardP, guardO, notInO, stepF, stepLd, stepSt, stepIxs, stepIxa, stepLen, stepApp, stepCpy, stepPick, stepSls, stepSst, stepSla, evX, evL, evB, rd, get, subG, memG, freshG, notInG, hyps, gob, impP, allP, partD, partOf, isOne, isPtr, nth, takeN, dropN, cellsD, lenB, fillD, thirds, entN, setE, sizeE, addE, setL, setN, putE, env0, eqCs, eqAux, eqC, bA, bO, bN, bE, negB, kEq, isShr, lendL, lend, frz, frzL, zRow, closed, closedL, rowsOf, binI, retK, retG, atRet, retD, lendO, resL, resD, oneD, renD, renL, renE, renEs, rho, putAll, entsN, List.append, List.nil_append, List.cons_append, List.append_nil, cond, Nat.reduceBEq, Nat.reduceAdd, Nat.beq]
  refine call_pure (fun _ => sp_ref54_Form hs) ?_
  dsimp only [run_skip, run_reg, plainB, ifB_true, run_seq, run_blk, run_exit, run_ret, run_ite, iteR, regK, thenK_nrm, thenK_exit, thenK_ret, thenR_nrm, thenR_exit, thenR_ret, blkK, keepS, keepE, runOps_nil, runOps_cons, goG_some, fpOk, foot, entOf, allN, memN, goOn_ok, goOn_call, goOn_row, goOn_arr, goOn_ask, goOn_put, guardP, guardO, notInO, stepF, stepLd, stepSt, stepIxs, stepIxa, stepLen, stepApp, stepCpy, stepPick, stepSls, stepSst, stepSla, evX, evL, evB, rd, get, subG, memG, freshG, notInG, hyps, gob, impP, allP, partD, partOf, isOne, isPtr, nth, takeN, dropN, cellsD, lenB, fillD, thirds, entN, setE, sizeE, addE, setL, setN, putE, env0, eqCs, eqAux, eqC, bA, bO, bN, bE, negB, kEq, isShr, lendL, lend, frz, frzL, zRow, closed, closedL, rowsOf, binI, retK, retG, atRet, retD, lendO, resL, resD, oneD, renD, renL, renE, renEs, rho, putAll, entsN, List.append, List.nil_append, List.cons_append, List.append_nil, cond, Nat.reduceBEq, Nat.reduceAdd, Nat.beq]
  refine ⟨fun _ => ?_, fun h => ?_⟩
  · refine call_pure sp_law54_awake ?_
    dsimp only [run_skip, run_reg, plainB, ifB_true, run_seq, run_blk, run_exit, run_ret, run_ite, iteR, regK, thenK_nrm, thenK_exit, thenK_ret, thenR_nrm, thenR_exit, thenR_ret, blkK, keepS, keepE, runOps_nil, runOps_cons, goG_some, fpOk, foot, entOf, allN, memN, goOn_ok, goOn_call, goOn_row, goOn_arr, goOn_ask, goOn_put, guardP, guardO, notInO, stepF, stepLd, stepSt, stepIxs, stepIxa, stepLen, stepApp, stepCpy, stepPick, stepSls, stepSst, stepSla, evX, evL, evB, rd, get, subG, memG, freshG, notInG, hyps, gob, impP, allP, partD, partOf, isOne, isPtr, nth, takeN, dropN, cellsD, lenB, fillD, thirds, entN, setE, sizeE, addE, setL, setN, putE, env0, eqCs, eqAux, eqC, bA, bO, bN, bE, negB, kEq, isShr, lendL, lend, frz, frzL, zRow, closed, closedL, rowsOf, binI, retK, retG, atRet, retD, lendO, resL, resD, oneD, renD, renL, renE, renEs, rho, putAll, entsN, List.append, List.nil_append, List.cons_append, List.append_nil, cond, Nat.reduceBEq, Nat.reduceAdd, Nat.beq]
  simp only [Bool.or_eq_false_iff, Bool.not_eq_false'] at h
  obtain ⟨hf, hfm⟩ := h
  obtain ⟨⟨hsl, hll⟩, hfa⟩ := few_all hf
  refine call_pure (sp_buffer_New hs) ?_
  rw [new_ok (by omega) hfm]
  dsimp only [retB, buD, run_skip, run_reg, plainB, ifB_true, run_seq, run_blk, run_exit, run_ret, run_ite, iteR, regK, thenK_nrm, thenK_exit, thenK_ret, thenR_nrm, thenR_exit, thenR_ret, blkK, keepS, keepE, runOps_nil, runOps_cons, goG_some, fpOk, foot, entOf, allN, memN, goOn_ok, goOn_call, goOn_row, goOn_arr, goOn_ask, goOn_put, guardP, guardO, notInO, stepF, stepLd, stepSt, stepIxs, stepIxa, stepLen, stepApp, stepCpy, stepPick, stepSls, stepSst, stepSla, evX, evL, evB, rd, get, subG, memG, freshG, notInG, hyps, gob, impP, allP, partD, partOf, isOne, isPtr, nth, takeN, dropN, cellsD, lenB, fillD, thirds, entN, setE, sizeE, addE, setL, setN, putE, env0, eqCs, eqAux, eqC, bA, bO, bN, bE, negB, kEq, isShr, lendL, lend, frz, frzL, zRow, closed, closedL, rowsOf, binI, retK, retG, atRet, retD, lendO, resL, resD, oneD, renD, renL, renE, renEs, rho, putAll, entsN, List.append, List.nil_append, List.cons_append, List.append_nil, cond, Nat.reduceBEq, Nat.reduceAdd, Nat.beq]
  refine ⟨fun h => absurd h (by simp), fun _ => ?_⟩
  rw [aL_len]
  refine loop_ind (α := {x : Nat × Nat × Bu × List Bs // x.1 ≤ l.length ∧ Rel x.2.2.1 ⟨x.2.2.2, (x.2.2.2.length : Int) - 1⟩ (300 + 60 * x.1) ∧ x.2.2.2.length ≤ x.1 + 1})
    (fun x => ⟨[(5, [], .box 0 0), (7, [], .own 1 x.1.2.1), (43, [], .ls 4 (aL l)), (44, [], .int .i64 l.length), (45, [], .int .i64 x.1.1)], [.cells [.ls 3 (x.1.2.2.1.past.map spD), .ls 3 (x.1.2.2.1.again.map spD), .str x.1.2.2.1.text], .arr 9 1 x.1.2.1 (sL x.1.2.2.2)]⟩) (fun x => l.length - x.1.1) ?_ ⟨(0, 0, ⟨[], [], s⟩, [s]), by simp, (rel_new s).mono (by omega), by simp⟩ rfl
  rintro ⟨⟨i, v, b, L⟩, hi, hr, hL⟩ I ih
  dsimp only at hi hr hL
  dsimp only [run_skip, run_reg, plainB, ifB_true, run_seq, run_blk, run_exit, run_ret, run_ite, iteR, regK, thenK_nrm, thenK_exit, thenK_ret, thenR_nrm, thenR_exit, thenR_ret, blkK, keepS, keepE, runOps_nil, runOps_cons, goG_some, fpOk, foot, entOf, allN, memN, goOn_ok, goOn_call, goOn_row, goOn_arr, goOn_ask, goOn_put, guardP, guardO, notInO, stepF, stepLd, stepSt, stepIxs, stepIxa, stepLen, stepApp, stepCpy, stepPick, stepSls, stepSst, stepSla, evX, evL, evB, rd, get, subG, memG, freshG, notInG, hyps, gob, impP, allP, partD, partOf, isOne, isPtr, nth, takeN, dropN, cellsD, lenB, fillD, thirds, entN, setE, sizeE, addE, setL, setN, putE, env0, eqCs, eqAux, eqC, bA, bO, bN, bE, negB, kEq, isShr, lendL, lend, frz, frzL, zRow, closed, closedL, rowsOf, binI, retK, retG, atRet, retD, lendO, resL, resD, oneD, renD, renL, renE, renEs, rho, putAll, entsN, List.append, List.nil_append, List.cons_append, List.append_nil, cond, Nat.reduceBEq, Nat.reduceAdd, Nat.beq]
  have hne := hr.rb.ne
  dsimp only at hne
  refine ⟨fun hin => ?_, fun hin => ?_⟩
  · have hin : i < l.length := by simpa using hin
    have hg := hr.good (by omega)
    refine ⟨⟨rfl, by omega, by rw [aL_len]; omega⟩, row_intro _ _ (aL_at hin) rfl ?_⟩
    have hal := hfa _ (List.getElem_mem hin)
    have h0a := h0 _ (List.getElem_mem hin)
    generalize l[i] = a at *
    dsimp only [acD, run_skip, run_reg, plainB, ifB_true, run_seq, run_blk, run_exit, run_ret, run_ite, iteR, regK, thenK_nrm, thenK_exit, thenK_ret, thenR_nrm, thenR_exit, thenR_ret, blkK, keepS, keepE, runOps_nil, runOps_cons, goG_some, fpOk, foot, entOf, allN, memN, goOn_ok, goOn_call, goOn_row, goOn_arr, goOn_ask, goOn_put, guardP, guardO, notInO, stepF, stepLd, stepSt, stepIxs, stepIxa, stepLen, stepApp, stepCpy, stepPick, stepSls, stepSst, stepSla, evX, evL, evB, rd, get, subG, memG, freshG, notInG, hyps, gob, impP, allP, partD, partOf, isOne, isPtr, nth, takeN, dropN, cellsD, lenB, fillD, thirds, entN, setE, sizeE, addE, setL, setN, putE, env0, eqCs, eqAux, eqC, bA, bO, bN, bE, negB, kEq, isShr, lendL, lend, frz, frzL, zRow, closed, closedL, rowsOf, binI, retK, retG, atRet, retD, lendO, resL, resD, oneD, renD, renL, renE, renEs, rho, putAll, entsN, List.append, List.nil_append, List.cons_append, List.append_nil, cond, Nat.reduceBEq, Nat.reduceAdd, Nat.beq]
    refine ⟨⟨h0a, by omega⟩, fun hd => ?_, fun hd => ?_⟩
    · refine ⟨by simp only [fits]; omega, ?_⟩
      refine again (ih ⟨(i + 1, v, b, L), by dsimp only; omega, hr.mono (by dsimp only; omega), by dsimp only; omega⟩ (by dsimp only; omega)) ?_ ?_ rfl rfl
      · exact ⟨rfl, rfl, rfl, rfl, rfl, trivial⟩
      · exact ⟨rfl, rfl, trivial⟩
    have h01 : a.do_ % 4 = 0 ∨ a.do_ % 4 = 1 := by simp at hd; omega
    refine call_pure (sp_law54_Act_Play (a := a) (b := b) hg (by omega) h0a) ?_
    dsimp only [retP, buD, run_skip, run_reg, plainB, ifB_true, run_seq, run_blk, run_exit, run_ret, run_ite, iteR, regK, thenK_nrm, thenK_exit, thenK_ret, thenR_nrm, thenR_exit, thenR_ret, blkK, keepS, keepE, runOps_nil, runOps_cons, goG_some, fpOk, foot, entOf, allN, memN, goOn_ok, goOn_call, goOn_row, goOn_arr, goOn_ask, goOn_put, guardP, guardO, notInO, stepF, stepLd, stepSt, stepIxs, stepIxa, stepLen, stepApp, stepCpy, stepPick, stepSls, stepSst, stepSla, evX, evL, evB, rd, get, subG, memG, freshG, notInG, hyps, gob, impP, allP, partD, partOf, isOne, isPtr, nth, takeN, dropN, cellsD, lenB, fillD, thirds, entN, setE, sizeE, addE, setL, setN, putE, env0, eqCs, eqAux, eqC, bA, bO, bN, bE, negB, kEq, isShr, lendL, lend, frz, frzL, zRow, closed, closedL, rowsOf, binI, retK, retG, atRet, retD, lendO, resL, resD, oneD, renD, renL, renE, renEs, rho, putAll, entsN, List.append, List.nil_append, List.cons_append, List.append_nil, cond, Nat.reduceBEq, Nat.reduceAdd, Nat.beq]
    refine ⟨fun hc => ?_, fun hc => ?_⟩
    · obtain ⟨hm1, hm2⟩ := play_more hr (by omega) h01 hc
      refine call_pure (sp_buffer_Buffer_Text (b := (playB a b).1)) ?_
      dsimp only [buD, run_skip, run_reg, plainB, ifB_true, run_seq, run_blk, run_exit, run_ret, run_ite, iteR, regK, thenK_nrm, thenK_exit, thenK_ret, thenR_nrm, thenR_exit, thenR_ret, blkK, keepS, keepE, runOps_nil, runOps_cons, goG_some, fpOk, foot, entOf, allN, memN, goOn_ok, goOn_call, goOn_row, goOn_arr, goOn_ask, goOn_put, guardP, guardO, notInO, stepF, stepLd, stepSt, stepIxs, stepIxa, stepLen, stepApp, stepCpy, stepPick, stepSls, stepSst, stepSla, evX, evL, evB, rd, get, subG, memG, freshG, notInG, hyps, gob, impP, allP, partD, partOf, isOne, isPtr, nth, takeN, dropN, cellsD, lenB, fillD, thirds, entN, setE, sizeE, addE, setL, setN, putE, env0, eqCs, eqAux, eqC, bA, bO, bN, bE, negB, kEq, isShr, lendL, lend, frz, frzL, zRow, closed, closedL, rowsOf, binI, retK, retG, atRet, retD, lendO, resL, resD, oneD, renD, renL, renE, renEs, rho, putAll, entsN, List.append, List.nil_append, List.cons_append, List.append_nil, cond, Nat.reduceBEq, Nat.reduceAdd, Nat.beq]
      refine ⟨⟨rfl, rfl, rfl, rfl, by rw [sL_len]; simp; omega⟩, ?_⟩
      refine ⟨by simp only [fits]; omega, ?_⟩
      refine again (ih ⟨(i + 1, v + 1, (playB a b).1, L ++ [(playB a b).1.text]), by dsimp only; omega, hm1.mono (by dsimp only; omega), by simp; omega⟩ (by dsimp only; omega)) ?_ ?_ rfl rfl
      · exact ⟨rfl, rfl, rfl, rfl, rfl, trivial⟩
      · exact ⟨rfl, by dsimp only; simp [sL], trivial⟩
    · refine ⟨by simp only [fits]; omega, ?_⟩
      refine again (ih ⟨(i + 1, v, b, L), by dsimp only; omega, hr.mono (by dsimp only; omega), by dsimp only; omega⟩ (by dsimp only; omega)) ?_ ?_ rfl rfl
      · exact ⟨rfl, rfl, rfl, rfl, rfl, trivial⟩
      · exact ⟨rfl, rfl, trivial⟩
  have hr := hr.mono (show 300 + 60 * i ≤ 3000 by omega)
  clear ih I
  rw [sL_len]
  refine ⟨rfl, by simp only [fits]; omega, ?_⟩
  refine loop_ind (α := {x : Nat × Bu // x.1 < L.length ∧ Rel x.2 ⟨L, x.1⟩ 3000})
    (fun x => ⟨[(5, [], .box 0 0), (7, [], .own 1 v), (13, [], .int .i64 ((x.1.1 : Int) - 1))], [.cells [.ls 3 (x.1.2.past.map spD), .ls 3 (x.1.2.again.map spD), .str x.1.2.text], .arr 9 1 v (sL L)]⟩) (fun x => x.1.1) ?_ ⟨(L.length - 1, b), by dsimp only; omega, hr.to (by dsimp only; congr 1; omega)⟩ ?_
  rotate_left
  · dsimp only
    rw [show ((L.length - 1 : Nat) : Int) - 1 = (L.length : Int) - 2 by omega]
  rintro ⟨⟨n, c⟩, hn, hrc⟩ J jh
  dsimp only at hn hrc
  dsimp only [run_skip, run_reg, plainB, ifB_true, run_seq, run_blk, run_exit, run_ret, run_ite, iteR, regK, thenK_nrm, thenK_exit, thenK_ret, thenR_nrm, thenR_exit, thenR_ret, blkK, keepS, keepE, runOps_nil, runOps_cons, goG_some, fpOk, foot, entOf, allN, memN, goOn_ok, goOn_call, goOn_row, goOn_arr, goOn_ask, goOn_put, guardP, guardO, notInO, stepF, stepLd, stepSt, stepIxs, stepIxa, stepLen, stepApp, stepCpy, stepPick, stepSls, stepSst, stepSla, evX, evL, evB, rd, get, subG, memG, freshG, notInG, hyps, gob, impP, allP, partD, partOf, isOne, isPtr, nth, takeN, dropN, cellsD, lenB, fillD, thirds, entN, setE, sizeE, addE, setL, setN, putE, env0, eqCs, eqAux, eqC, bA, bO, bN, bE, negB, kEq, isShr, lendL, lend, frz, frzL, zRow, closed, closedL, rowsOf, binI, retK, retG, atRet, retD, lendO, resL, resD, oneD, renD, renL, renE, renEs, rho, putAll, entsN, List.append, List.nil_append, List.cons_append, List.append_nil, cond, Nat.reduceBEq, Nat.reduceAdd, Nat.beq]
  have hgc := hrc.good (by omega)
  have hu := hrc.undo
  dsimp only at hu
  refine ⟨fun hin => ?_, fun hin => ?_⟩
  · have hin : 0 < n := by simp at hin; omega
    rw [if_neg (by omega)] at hu
    refine call_pure (sp_buffer_Buffer_Undo (b := c) hgc.ok hgc.undo) ?_
    dsimp only [retO, buD, run_skip, run_reg, plainB, ifB_true, run_seq, run_blk, run_exit, run_ret, run_ite, iteR, regK, thenK_nrm, thenK_exit, thenK_ret, thenR_nrm, thenR_exit, thenR_ret, blkK, keepS, keepE, runOps_nil, runOps_cons, goG_some, fpOk, foot, entOf, allN, memN, goOn_ok, goOn_call, goOn_row, goOn_arr, goOn_ask, goOn_put, guardP, guardO, notInO, stepF, stepLd, stepSt, stepIxs, stepIxa, stepLen, stepApp, stepCpy, stepPick, stepSls, stepSst, stepSla, evX, evL, evB, rd, get, subG, memG, freshG, notInG, hyps, gob, impP, allP, partD, partOf, isOne, isPtr, nth, takeN, dropN, cellsD, lenB, fillD, thirds, entN, setE, sizeE, addE, setL, setN, putE, env0, eqCs, eqAux, eqC, bA, bO, bN, bE, negB, kEq, isShr, lendL, lend, frz, frzL, zRow, closed, closedL, rowsOf, binI, retK, retG, atRet, retD, lendO, resL, resD, oneD, renD, renL, renE, renEs, rho, putAll, entsN, List.append, List.nil_append, List.cons_append, List.append_nil, cond, Nat.reduceBEq, Nat.reduceAdd, Nat.beq]
    refine call_pure (fun _ => sp_buffer_Buffer_Text (b := (undoB c).1)) ?_
    dsimp only [buD, run_skip, run_reg, plainB, ifB_true, run_seq, run_blk, run_exit, run_ret, run_ite, iteR, regK, thenK_nrm, thenK_exit, thenK_ret, thenR_nrm, thenR_exit, thenR_ret, blkK, keepS, keepE, runOps_nil, runOps_cons, goG_some, fpOk, foot, entOf, allN, memN, goOn_ok, goOn_call, goOn_row, goOn_arr, goOn_ask, goOn_put, guardP, guardO, notInO, stepF, stepLd, stepSt, stepIxs, stepIxa, stepLen, stepApp, stepCpy, stepPick, stepSls, stepSst, stepSla, evX, evL, evB, rd, get, subG, memG, freshG, notInG, hyps, gob, impP, allP, partD, partOf, isOne, isPtr, nth, takeN, dropN, cellsD, lenB, fillD, thirds, entN, setE, sizeE, addE, setL, setN, putE, env0, eqCs, eqAux, eqC, bA, bO, bN, bE, negB, kEq, isShr, lendL, lend, frz, frzL, zRow, closed, closedL, rowsOf, binI, retK, retG, atRet, retD, lendO, resL, resD, oneD, renD, renL, renE, renEs, rho, putAll, entsN, List.append, List.nil_append, List.cons_append, List.append_nil, cond, Nat.reduceBEq, Nat.reduceAdd, Nat.beq]
    have ht := hu.2.rb.get
    dsimp only at ht
    rw [hu.2.tx] at ht
    refine ⟨fun _ => ⟨rfl, rfl, by omega, by rw [sL_len]; omega⟩, fun _ => ⟨rfl, rfl⟩, row_intro _ (.str (undoB c).1.text) (fun _ => sL_at ht) rfl ?_⟩
    dsimp only [run_skip, run_reg, plainB, ifB_true, run_seq, run_blk, run_exit, run_ret, run_ite, iteR, regK, thenK_nrm, thenK_exit, thenK_ret, thenR_nrm, thenR_exit, thenR_ret, blkK, keepS, keepE, runOps_nil, runOps_cons, goG_some, fpOk, foot, entOf, allN, memN, goOn_ok, goOn_call, goOn_row, goOn_arr, goOn_ask, goOn_put, guardP, guardO, notInO, stepF, stepLd, stepSt, stepIxs, stepIxa, stepLen, stepApp, stepCpy, stepPick, stepSls, stepSst, stepSla, evX, evL, evB, rd, get, subG, memG, freshG, notInG, hyps, gob, impP, allP, partD, partOf, isOne, isPtr, nth, takeN, dropN, cellsD, lenB, fillD, thirds, entN, setE, sizeE, addE, setL, setN, putE, env0, eqCs, eqAux, eqC, bA, bO, bN, bE, negB, kEq, isShr, lendL, lend, frz, frzL, zRow, closed, closedL, rowsOf, binI, retK, retG, atRet, retD, lendO, resL, resD, oneD, renD, renL, renE, renEs, rho, putAll, entsN, List.append, List.nil_append, List.cons_append, List.append_nil, cond, Nat.reduceBEq, Nat.reduceAdd, Nat.beq]
    rw [hu.1]
    refine ⟨fun h => absurd h (by simp), fun _ => ?_⟩
    refine ⟨by simp only [fits]; omega, ?_⟩
    refine again (jh ⟨(n - 1, (undoB c).1), by dsimp only; omega, hu.2.to (by dsimp only; congr 1; omega)⟩ (by dsimp only; omega)) ?_ ?_ rfl rfl
    · refine ⟨rfl, rfl, ?_, trivial⟩
      dsimp only
      rw [show ((n - 1 : Nat) : Int) - 1 = (n : Int) - 1 - 1 by omega]; rfl
    · exact ⟨rfl, rfl, trivial⟩
  have hin : n = 0 := by simp at hin; omega
  subst hin
  rw [if_pos (by rfl)] at hu
  refine call_pure (sp_buffer_Buffer_Undo (b := c) hgc.ok hgc.undo) ?_
  dsimp only [retO, buD, run_skip, run_reg, plainB, ifB_true, run_seq, run_blk, run_exit, run_ret, run_ite, iteR, regK, thenK_nrm, thenK_exit, thenK_ret, thenR_nrm, thenR_exit, thenR_ret, blkK, keepS, keepE, runOps_nil, runOps_cons, goG_some, fpOk, foot, entOf, allN, memN, goOn_ok, goOn_call, goOn_row, goOn_arr, goOn_ask, goOn_put, guardP, guardO, notInO, stepF, stepLd, stepSt, stepIxs, stepIxa, stepLen, stepApp, stepCpy, stepPick, stepSls, stepSst, stepSla, evX, evL, evB, rd, get, subG, memG, freshG, notInG, hyps, gob, impP, allP, partD, partOf, isOne, isPtr, nth, takeN, dropN, cellsD, lenB, fillD, thirds, entN, setE, sizeE, addE, setL, setN, putE, env0, eqCs, eqAux, eqC, bA, bO, bN, bE, negB, kEq, isShr, lendL, lend, frz, frzL, zRow, closed, closedL, rowsOf, binI, retK, retG, atRet, retD, lendO, resL, resD, oneD, renD, renL, renE, renEs, rho, putAll, entsN, List.append, List.nil_append, List.cons_append, List.append_nil, cond, Nat.reduceBEq, Nat.reduceAdd, Nat.beq]
  rw [hu]
  dsimp only [retO, buD, run_skip, run_reg, plainB, ifB_true, run_seq, run_blk, run_exit, run_ret, run_ite, iteR, regK, thenK_nrm, thenK_exit, thenK_ret, thenR_nrm, thenR_exit, thenR_ret, blkK, keepS, keepE, runOps_nil, runOps_cons, goG_some, fpOk, foot, entOf, allN, memN, goOn_ok, goOn_call, goOn_row, goOn_arr, goOn_ask, goOn_put, guardP, guardO, notInO, stepF, stepLd, stepSt, stepIxs, stepIxa, stepLen, stepApp, stepCpy, stepPick, stepSls, stepSst, stepSla, evX, evL, evB, rd, get, subG, memG, freshG, notInG, hyps, gob, impP, allP, partD, partOf, isOne, isPtr, nth, takeN, dropN, cellsD, lenB, fillD, thirds, entN, setE, sizeE, addE, setL, setN, putE, env0, eqCs, eqAux, eqC, bA, bO, bN, bE, negB, kEq, isShr, lendL, lend, frz, frzL, zRow, closed, closedL, rowsOf, binI, retK, retG, atRet, retD, lendO, resL, resD, oneD, renD, renL, renE, renEs, rho, putAll, entsN, List.append, List.nil_append, List.cons_append, List.append_nil, cond, Nat.reduceBEq, Nat.reduceAdd, Nat.beq]
  refine ⟨fun h => absurd h (by simp), fun _ => ?_⟩
  rw [sL_len]
  refine ⟨⟨rfl, rfl, by omega, by omega, by omega⟩, ?_⟩
  have ed : List.drop (Int.toNat 1) (List.take ((L.length : Nat) : Int).toNat (sL L)) = sL (L.drop 1) := by
    rw [Int.toNat_natCast, List.take_of_length_le (by rw [sL_len]; exact Nat.le_refl _)]; simp [sL, List.map_drop]
  rw [ed, sL_len]
  clear jh J
  refine loop_from (α := {x : Nat × Bu // x.1 < L.length ∧ Rel x.2 ⟨L, x.1⟩ 3000})
    (fun x => ⟨[(5, [], .box 0 0), (99, [], .ls 1 (sL (L.drop 1))), (100, [], .int .i64 (L.drop 1).length), (101, [], .int .i64 x.1.1)], [.cells [.ls 3 (x.1.2.past.map spD), .ls 3 (x.1.2.again.map spD), .str x.1.2.text], .gone]⟩) (fun x => L.length - x.1.1) ?_ ⟨(0, c), by dsimp only; omega, hrc⟩ ?_ ?_ rfl rfl
  · rintro ⟨⟨n, c⟩, hn, hrc⟩ J jh
    dsimp only at hn hrc
    dsimp only [run_skip, run_reg, plainB, ifB_true, run_seq, run_blk, run_exit, run_ret, run_ite, iteR, regK, thenK_nrm, thenK_exit, thenK_ret, thenR_nrm, thenR_exit, thenR_ret, blkK, keepS, keepE, runOps_nil, runOps_cons, goG_some, fpOk, foot, entOf, allN, memN, goOn_ok, goOn_call, goOn_row, goOn_arr, goOn_ask, goOn_put, guardP, guardO, notInO, stepF, stepLd, stepSt, stepIxs, stepIxa, stepLen, stepApp, stepCpy, stepPick, stepSls, stepSst, stepSla, evX, evL, evB, rd, get, subG, memG, freshG, notInG, hyps, gob, impP, allP, partD, partOf, isOne, isPtr, nth, takeN, dropN, cellsD, lenB, fillD, thirds, entN, setE, sizeE, addE, setL, setN, putE, env0, eqCs, eqAux, eqC, bA, bO, bN, bE, negB, kEq, isShr, lendL, lend, frz, frzL, zRow, closed, closedL, rowsOf, binI, retK, retG, atRet, retD, lendO, resL, resD, oneD, renD, renL, renE, renEs, rho, putAll, entsN, List.append, List.nil_append, List.cons_append, List.append_nil, cond, Nat.reduceBEq, Nat.reduceAdd, Nat.beq]
    have hgc := hrc.good (by omega)
    have hu := hrc.redo
    dsimp only at hu
    have hdl : (L.drop 1).length = L.length - 1 := by simp
    refine ⟨fun hin => ?_, fun hin => ?_⟩
    · have hin : n + 1 < L.length := by simp at hin; omega
      rw [if_neg (by omega)] at hu
      have ht := hu.2.rb.get
      dsimp only at ht
      rw [hu.2.tx] at ht
      have htd : (L.drop 1)[(n : Int).toNat]? = some (redoB c).1.text := by
        rw [List.getElem?_drop, Int.toNat_natCast, ← ht]; congr 1; omega
      refine ⟨⟨rfl, by omega, by rw [sL_len]; omega⟩, row_intro _ (.str (redoB c).1.text) (sL_at htd) rfl ?_⟩
      dsimp only [run_skip, run_reg, plainB, ifB_true, run_seq, run_blk, run_exit, run_ret, run_ite, iteR, regK, thenK_nrm, thenK_exit, thenK_ret, thenR_nrm, thenR_exit, thenR_ret, blkK, keepS, keepE, runOps_nil, runOps_cons, goG_some, fpOk, foot, entOf, allN, memN, goOn_ok, goOn_call, goOn_row, goOn_arr, goOn_ask, goOn_put, guardP, guardO, notInO, stepF, stepLd, stepSt, stepIxs, stepIxa, stepLen, stepApp, stepCpy, stepPick, stepSls, stepSst, stepSla, evX, evL, evB, rd, get, subG, memG, freshG, notInG, hyps, gob, impP, allP, partD, partOf, isOne, isPtr, nth, takeN, dropN, cellsD, lenB, fillD, thirds, entN, setE, sizeE, addE, setL, setN, putE, env0, eqCs, eqAux, eqC, bA, bO, bN, bE, negB, kEq, isShr, lendL, lend, frz, frzL, zRow, closed, closedL, rowsOf, binI, retK, retG, atRet, retD, lendO, resL, resD, oneD, renD, renL, renE, renEs, rho, putAll, entsN, List.append, List.nil_append, List.cons_append, List.append_nil, cond, Nat.reduceBEq, Nat.reduceAdd, Nat.beq]
      refine call_pure (sp_buffer_Buffer_Redo (b := c) hgc.ok hgc.redo) ?_
      dsimp only [retO, buD, run_skip, run_reg, plainB, ifB_true, run_seq, run_blk, run_exit, run_ret, run_ite, iteR, regK, thenK_nrm, thenK_exit, thenK_ret, thenR_nrm, thenR_exit, thenR_ret, blkK, keepS, keepE, runOps_nil, runOps_cons, goG_some, fpOk, foot, entOf, allN, memN, goOn_ok, goOn_call, goOn_row, goOn_arr, goOn_ask, goOn_put, guardP, guardO, notInO, stepF, stepLd, stepSt, stepIxs, stepIxa, stepLen, stepApp, stepCpy, stepPick, stepSls, stepSst, stepSla, evX, evL, evB, rd, get, subG, memG, freshG, notInG, hyps, gob, impP, allP, partD, partOf, isOne, isPtr, nth, takeN, dropN, cellsD, lenB, fillD, thirds, entN, setE, sizeE, addE, setL, setN, putE, env0, eqCs, eqAux, eqC, bA, bO, bN, bE, negB, kEq, isShr, lendL, lend, frz, frzL, zRow, closed, closedL, rowsOf, binI, retK, retG, atRet, retD, lendO, resL, resD, oneD, renD, renL, renE, renEs, rho, putAll, entsN, List.append, List.nil_append, List.cons_append, List.append_nil, cond, Nat.reduceBEq, Nat.reduceAdd, Nat.beq]
      refine call_pure (fun _ => sp_buffer_Buffer_Text (b := (redoB c).1)) ?_
      dsimp only [buD, run_skip, run_reg, plainB, ifB_true, run_seq, run_blk, run_exit, run_ret, run_ite, iteR, regK, thenK_nrm, thenK_exit, thenK_ret, thenR_nrm, thenR_exit, thenR_ret, blkK, keepS, keepE, runOps_nil, runOps_cons, goG_some, fpOk, foot, entOf, allN, memN, goOn_ok, goOn_call, goOn_row, goOn_arr, goOn_ask, goOn_put, guardP, guardO, notInO, stepF, stepLd, stepSt, stepIxs, stepIxa, stepLen, stepApp, stepCpy, stepPick, stepSls, stepSst, stepSla, evX, evL, evB, rd, get, subG, memG, freshG, notInG, hyps, gob, impP, allP, partD, partOf, isOne, isPtr, nth, takeN, dropN, cellsD, lenB, fillD, thirds, entN, setE, sizeE, addE, setL, setN, putE, env0, eqCs, eqAux, eqC, bA, bO, bN, bE, negB, kEq, isShr, lendL, lend, frz, frzL, zRow, closed, closedL, rowsOf, binI, retK, retG, atRet, retD, lendO, resL, resD, oneD, renD, renL, renE, renEs, rho, putAll, entsN, List.append, List.nil_append, List.cons_append, List.append_nil, cond, Nat.reduceBEq, Nat.reduceAdd, Nat.beq]
      rw [hu.1]
      refine ⟨fun h => absurd h (by simp), fun _ => ?_⟩
      refine ⟨by simp only [fits]; omega, ?_⟩
      refine again (jh ⟨(n + 1, (redoB c).1), by dsimp only; omega, hu.2.to (by dsimp only; congr 1)⟩ (by dsimp only; omega)) ?_ ?_ rfl rfl
      · exact ⟨rfl, rfl, rfl, rfl, trivial⟩
      · exact ⟨rfl, rfl, trivial⟩
    · have hin : n + 1 = L.length := by simp at hin; omega
      rw [if_pos (by omega)] at hu
      refine call_pure (sp_buffer_Buffer_Redo (b := c) hgc.ok hgc.redo) ?_
      dsimp only [retO, buD, run_skip, run_reg, plainB, ifB_true, run_seq, run_blk, run_exit, run_ret, run_ite, iteR, regK, thenK_nrm, thenK_exit, thenK_ret, thenR_nrm, thenR_exit, thenR_ret, blkK, keepS, keepE, runOps_nil, runOps_cons, goG_some, fpOk, foot, entOf, allN, memN, goOn_ok, goOn_call, goOn_row, goOn_arr, goOn_ask, goOn_put, guardP, guardO, notInO, stepF, stepLd, stepSt, stepIxs, stepIxa, stepLen, stepApp, stepCpy, stepPick, stepSls, stepSst, stepSla, evX, evL, evB, rd, get, subG, memG, freshG, notInG, hyps, gob, impP, allP, partD, partOf, isOne, isPtr, nth, takeN, dropN, cellsD, lenB, fillD, thirds, entN, setE, sizeE, addE, setL, setN, putE, env0, eqCs, eqAux, eqC, bA, bO, bN, bE, negB, kEq, isShr, lendL, lend, frz, frzL, zRow, closed, closedL, rowsOf, binI, retK, retG, atRet, retD, lendO, resL, resD, oneD, renD, renL, renE, renEs, rho, putAll, entsN, List.append, List.nil_append, List.cons_append, List.append_nil, cond, Nat.reduceBEq, Nat.reduceAdd, Nat.beq]
      rw [hu]
      dsimp only [retO, buD, run_skip, run_reg, plainB, ifB_true, run_seq, run_blk, run_exit, run_ret, run_ite, iteR, regK, thenK_nrm, thenK_exit, thenK_ret, thenR_nrm, thenR_exit, thenR_ret, blkK, keepS, keepE, runOps_nil, runOps_cons, goG_some, fpOk, foot, entOf, allN, memN, goOn_ok, goOn_call, goOn_row, goOn_arr, goOn_ask, goOn_put, guardP, guardO, notInO, stepF, stepLd, stepSt, stepIxs, stepIxa, stepLen, stepApp, stepCpy, stepPick, stepSls, stepSst, stepSla, evX, evL, evB, rd, get, subG, memG, freshG, notInG, hyps, gob, impP, allP, partD, partOf, isOne, isPtr, nth, takeN, dropN, cellsD, lenB, fillD, thirds, entN, setE, sizeE, addE, setL, setN, putE, env0, eqCs, eqAux, eqC, bA, bO, bN, bE, negB, kEq, isShr, lendL, lend, frz, frzL, zRow, closed, closedL, rowsOf, binI, retK, retG, atRet, retD, lendO, resL, resD, oneD, renD, renL, renE, renEs, rho, putAll, entsN, List.append, List.nil_append, List.cons_append, List.append_nil, cond, Nat.reduceBEq, Nat.reduceAdd, Nat.beq]
      refine call_pure (fun _ => sp_law54_awake) ?_
      dsimp only [run_skip, run_reg, plainB, ifB_true, run_seq, run_blk, run_exit, run_ret, run_ite, iteR, regK, thenK_nrm, thenK_exit, thenK_ret, thenR_nrm, thenR_exit, thenR_ret, blkK, keepS, keepE, runOps_nil, runOps_cons, goG_some, fpOk, foot, entOf, allN, memN, goOn_ok, goOn_call, goOn_row, goOn_arr, goOn_ask, goOn_put, guardP, guardO, notInO, stepF, stepLd, stepSt, stepIxs, stepIxa, stepLen, stepApp, stepCpy, stepPick, stepSls, stepSst, stepSla, evX, evL, evB, rd, get, subG, memG, freshG, notInG, hyps, gob, impP, allP, partD, partOf, isOne, isPtr, nth, takeN, dropN, cellsD, lenB, fillD, thirds, entN, setE, sizeE, addE, setL, setN, putE, env0, eqCs, eqAux, eqC, bA, bO, bN, bE, negB, kEq, isShr, lendL, lend, frz, frzL, zRow, closed, closedL, rowsOf, binI, retK, retG, atRet, retD, lendO, resL, resD, oneD, renD, renL, renE, renEs, rho, putAll, entsN, List.append, List.nil_append, List.cons_append, List.append_nil, cond, Nat.reduceBEq, Nat.reduceAdd, Nat.beq]
      rfl
  · exact ⟨rfl, rfl, rfl, rfl, trivial⟩
  · exact ⟨rfl, rfl, trivial⟩
end Go.AM
