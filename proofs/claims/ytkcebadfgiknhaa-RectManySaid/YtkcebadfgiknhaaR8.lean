/- RectPlaces. -/
import Derived.Test.YtkcebadfgiknhaaR7
set_option linter.all false
namespace Go.AM
open Go Go.Proofs

theorem has_between {x1 y1 x2 y2 x y : Int} (h1 : -1048576 ≤ x1) (h2 : -1048576 ≤ y1) (h3 : x2 ≤ 1048576) (h4 : y2 ≤ 1048576) : hasB (betweenR x1 y1 x2 y2) x y = true ↔ x1 ≤ x ∧ x < x2 ∧ y1 ≤ y ∧ y < y2 := by
  rw [has_iff]
  by_cases h : x1 < x2 ∧ y1 < y2
  · rw [between_of h.1 h.2]
    simp only [Vr]
    omega
  · rw [between_o (by omega)]
    constructor
    · rintro ⟨h, _⟩; exact absurd rfl h.ne
    · omega

theorem has_cross (a b : Rc) (x y : Int) : hasB (crossR a b) x y = (hasB a x y && hasB b x y) := by
  rw [Bool.eq_iff_iff, Bool.and_eq_true]
  by_cases ha : Vr a
  · by_cases hb : Vr b
    · rw [cross_vr ha hb]
      have ha' := ha; have hb' := hb
      simp only [Vr] at ha' hb'
      rw [has_between (by omega) (by omega) (by omega) (by omega), has_iff, has_iff]
      simp only [ha, hb, true_and]; omega
    · have e : crossR a b = .o := by unfold crossR; rw [empty_true.2 hb]; simp
      rw [e, has_iff, has_iff, has_iff]
      simp only [hb, false_and, and_false, iff_false]
      rintro ⟨h, _⟩; exact h.ne rfl
  · have e : crossR a b = .o := by unfold crossR; rw [empty_true.2 ha]; simp
    rw [e, has_iff, has_iff, has_iff]
    simp only [ha, false_and, iff_false]
    rintro ⟨h, _⟩; exact h.ne rfl

theorem has_box (a b : Rc) (x y : Int) (h : hasB a x y = true ∨ hasB b x y = true) : hasB (boxL [a, b]) x y = true := by
  rw [box2, step_o]
  by_cases ha : Vr a
  · by_cases hb : Vr b
    · rw [right_of (.inr ha), box_vr ha hb]
      have ha' := ha; have hb' := hb
      simp only [Vr] at ha' hb'
      rw [has_between (by omega) (by omega) (by omega) (by omega)]
      rw [has_iff, has_iff] at h
      omega
    · rw [step_e (empty_true.2 hb), right_of (.inr ha)]
      rcases h with h | h
      · exact h
      · exact absurd (has_iff.1 h).1 hb
  · rw [empty_right (empty_true.2 ha)]
    rcases h with h | h
    · exact absurd (has_iff.1 h).1 ha
    · have hb := (has_iff.1 h).1
      rw [step_o, right_of (.inr hb)]; exact h

def cntL (l : List Rc) (x y : Int) : Nat := (l.filter fun r => hasB r x y).length
theorem cnt_cons (r : Rc) (l : List Rc) (x y : Int) : cntL (r :: l) x y = (if hasB r x y then 1 else 0) + cntL l x y := by
  unfold cntL; rw [List.filter_cons]; split <;> simp <;> omega

theorem cnt_filter (l : List Rc) (x y : Int) : cntL (l.filter fun r => !emptyB r) x y = cntL l x y := by
  induction l with
  | nil => rfl
  | cons r l ih =>
    rw [List.filter_cons]
    cases he : emptyB r with
    | false => simp only [Bool.not_false, if_true]; rw [cnt_cons, cnt_cons, ih]
    | true =>
      simp only [Bool.not_true, Bool.false_eq_true, if_false]
      have : hasB r x y = false := by
        rw [Bool.eq_false_iff]; intro h; exact empty_true.1 he (has_iff.1 h).1
      rw [cnt_cons, this, ih]; simp

theorem cnt_minus (a b : Rc) (x y : Int) : cntL (minusL a b) x y = if hasB a x y && !hasB b x y then 1 else 0 := by
  unfold minusL
  split
  · rename_i h
    have : hasB a x y = false := by rw [Bool.eq_false_iff]; intro h'; exact empty_true.1 h (has_iff.1 h').1
    simp [this, cntL]
  · split
    · rename_i h
      have hc := has_cross a b x y
      have : hasB (crossR a b) x y = false := by rw [Bool.eq_false_iff]; intro h'; exact empty_true.1 h (has_iff.1 h').1
      rw [this] at hc
      rw [cnt_cons]
      cases h1 : hasB a x y <;> cases h2 : hasB b x y <;> simp [h1, h2, cntL] at hc ⊢
    · rename_i h
      rw [cnt_filter]
      have hc := has_cross a b x y
      rcases meet_or a b with h' | m
      · rw [h'] at h; exact absurd empty_o h
      · generalize crossR a b = c at *
        have va := m.va; have vb := m.vb; have vc := m.vc
        have ex := m.x; have ey := m.y; have ex2 := m.x2; have ey2 := m.y2
        simp only [Vr] at va vb vc
        have e : (hasB a x y && !hasB b x y) = (hasB a x y && !hasB c x y) := by rw [hc]; cases hasB a x y <;> cases hasB b x y <;> rfl
        rw [e]
        have ia : hasB a x y = true ↔ a.x ≤ x ∧ x < a.x + a.w ∧ a.y ≤ y ∧ y < a.y + a.h := by rw [has_iff]; simp [m.va]
        have ic : hasB c x y = true ↔ c.x ≤ x ∧ x < c.x + c.w ∧ c.y ≤ y ∧ y < c.y + c.h := by rw [has_iff]; simp [m.vc]
        have i0 := @has_between a.x a.y (a.x + a.w) c.y x y (by omega) (by omega) (by omega) (by omega)
        have i1 := @has_between a.x c.y c.x (c.y + c.h) x y (by omega) (by omega) (by omega) (by omega)
        have i2 := @has_between (c.x + c.w) c.y (a.x + a.w) (c.y + c.h) x y (by omega) (by omega) (by omega) (by omega)
        have i3 := @has_between a.x (c.y + c.h) (a.x + a.w) (a.y + a.h) x y (by omega) (by omega) (by omega) (by omega)
        unfold piecesL
        rw [cnt_cons, cnt_cons, cnt_cons, cnt_cons]
        show _ + (_ + (_ + (_ + 0))) = _
        generalize hasB (betweenR a.x a.y (a.x + a.w) c.y) x y = b0 at *
        generalize hasB (betweenR a.x c.y c.x (c.y + c.h)) x y = b1 at *
        generalize hasB (betweenR (c.x + c.w) c.y (a.x + a.w) (c.y + c.h)) x y = b2 at *
        generalize hasB (betweenR a.x (c.y + c.h) (a.x + a.w) (a.y + a.h)) x y = b3 at *
        generalize hasB a x y = ba at *
        generalize hasB c x y = bc at *
        cases b0 <;> cases b1 <;> cases b2 <;> cases b3 <;> cases ba <;> cases bc <;> simp at ia ic i0 i1 i2 i3 ⊢ <;> omega

def st5 (a b : Rc) (x y : Int) (l : List Rc) (i n : Nat) : St :=
  ⟨[(2, [], .int .i64 x), (3, [], .int .i64 y), (4, [], .box 0 0), (5, [], .box 1 0), (9, [], .bool (hasB a x y)), (10, [], .bool (hasB b x y)), (11, [], .int .i64 n),
          (12, [], .ls 4 (l.map rD)), (13, [], .int .i64 i)],
    [.cells [.int .i64 a.x, .int .i64 a.y, .int .i64 a.w, .int .i64 a.h], .cells [.int .i64 b.x, .int .i64 b.y, .int .i64 b.w, .int .i64 b.h]]⟩

theorem sp_law12_RectPlaces {a b : Rc} {x y : Int} (ha : a.In) (hb : b.In) : TSp 5 [rD a, rD b, .int .i64 x, .int .i64 y] (.bool true) := by
  refine spo_law12_RectPlaces (by rfl) ?_
  dsimp only [c_law12_RectPlaces, r_law12_RectPlaces, rD, run_skip, run_reg, plainB, ifB_true, run_seq, run_blk, run_exit, run_ret, run_ite, iteR, regK, thenK_nrm, thenK_exit, thenK_ret, thenR_nrm, thenR_exit, thenR_ret, blkK, keepS, keepE, runOps_nil, runOps_cons, goG_some, goOn_ok, goOn_call, goOn_row, goOn_arr, goOn_ask, goOn_put, guardP, guardO, notInO, stepF, stepLd, stepSt, stepIxs, stepIxa, stepLen, stepApp, stepCpy, stepPick, stepSls, stepSst, stepSla, evX, evL, evB, rd, get, subG, memG, freshG, notInG, hyps, gob, impP, allP, partD, partOf, isOne, isPtr, nth, takeN, dropN, cellsD, lenB, fillD, thirds, entN, setE, sizeE, addE, setL, setN, putE, env0, eqCs, eqAux, eqC, bA, bO, bN, bE, negB, kEq, isShr, lendL, lend, frz, frzL, zRow, closed, closedL, rowsOf, binI, retK, retG, atRet, retD, lendO, resL, resD, oneD, renD, renL, renE, renEs, rho, putAll, entsN, List.append, List.nil_append, List.cons_append, List.append_nil, cond, Nat.reduceBEq, Nat.reduceAdd, Nat.beq]
  refine call_pure sp_law12_awake ?_
  dsimp only [rD, run_skip, run_reg, plainB, ifB_true, run_seq, run_blk, run_exit, run_ret, run_ite, iteR, regK, thenK_nrm, thenK_exit, thenK_ret, thenR_nrm, thenR_exit, thenR_ret, blkK, keepS, keepE, runOps_nil, runOps_cons, goG_some, goOn_ok, goOn_call, goOn_row, goOn_arr, goOn_ask, goOn_put, guardP, guardO, notInO, stepF, stepLd, stepSt, stepIxs, stepIxa, stepLen, stepApp, stepCpy, stepPick, stepSls, stepSst, stepSla, evX, evL, evB, rd, get, subG, memG, freshG, notInG, hyps, gob, impP, allP, partD, partOf, isOne, isPtr, nth, takeN, dropN, cellsD, lenB, fillD, thirds, entN, setE, sizeE, addE, setL, setN, putE, env0, eqCs, eqAux, eqC, bA, bO, bN, bE, negB, kEq, isShr, lendL, lend, frz, frzL, zRow, closed, closedL, rowsOf, binI, retK, retG, atRet, retD, lendO, resL, resD, oneD, renD, renL, renE, renEs, rho, putAll, entsN, List.append, List.nil_append, List.cons_append, List.append_nil, cond, Nat.reduceBEq, Nat.reduceAdd, Nat.beq]
  refine ⟨nofun, fun _ => ?_⟩
  refine call_pure (sp_rect_Has ha) ?_
  dsimp only [rD, run_skip, run_reg, plainB, ifB_true, run_seq, run_blk, run_exit, run_ret, run_ite, iteR, regK, thenK_nrm, thenK_exit, thenK_ret, thenR_nrm, thenR_exit, thenR_ret, blkK, keepS, keepE, runOps_nil, runOps_cons, goG_some, goOn_ok, goOn_call, goOn_row, goOn_arr, goOn_ask, goOn_put, guardP, guardO, notInO, stepF, stepLd, stepSt, stepIxs, stepIxa, stepLen, stepApp, stepCpy, stepPick, stepSls, stepSst, stepSla, evX, evL, evB, rd, get, subG, memG, freshG, notInG, hyps, gob, impP, allP, partD, partOf, isOne, isPtr, nth, takeN, dropN, cellsD, lenB, fillD, thirds, entN, setE, sizeE, addE, setL, setN, putE, env0, eqCs, eqAux, eqC, bA, bO, bN, bE, negB, kEq, isShr, lendL, lend, frz, frzL, zRow, closed, closedL, rowsOf, binI, retK, retG, atRet, retD, lendO, resL, resD, oneD, renD, renL, renE, renEs, rho, putAll, entsN, List.append, List.nil_append, List.cons_append, List.append_nil, cond, Nat.reduceBEq, Nat.reduceAdd, Nat.beq]
  refine call_pure (sp_rect_Has hb) ?_
  dsimp only [rD, run_skip, run_reg, plainB, ifB_true, run_seq, run_blk, run_exit, run_ret, run_ite, iteR, regK, thenK_nrm, thenK_exit, thenK_ret, thenR_nrm, thenR_exit, thenR_ret, blkK, keepS, keepE, runOps_nil, runOps_cons, goG_some, goOn_ok, goOn_call, goOn_row, goOn_arr, goOn_ask, goOn_put, guardP, guardO, notInO, stepF, stepLd, stepSt, stepIxs, stepIxa, stepLen, stepApp, stepCpy, stepPick, stepSls, stepSst, stepSla, evX, evL, evB, rd, get, subG, memG, freshG, notInG, hyps, gob, impP, allP, partD, partOf, isOne, isPtr, nth, takeN, dropN, cellsD, lenB, fillD, thirds, entN, setE, sizeE, addE, setL, setN, putE, env0, eqCs, eqAux, eqC, bA, bO, bN, bE, negB, kEq, isShr, lendL, lend, frz, frzL, zRow, closed, closedL, rowsOf, binI, retK, retG, atRet, retD, lendO, resL, resD, oneD, renD, renL, renE, renEs, rho, putAll, entsN, List.append, List.nil_append, List.cons_append, List.append_nil, cond, Nat.reduceBEq, Nat.reduceAdd, Nat.beq]
  refine call_pure (sp_rect_Minus ha hb) ?_
  dsimp only [rD, run_skip, run_reg, plainB, ifB_true, run_seq, run_blk, run_exit, run_ret, run_ite, iteR, regK, thenK_nrm, thenK_exit, thenK_ret, thenR_nrm, thenR_exit, thenR_ret, blkK, keepS, keepE, runOps_nil, runOps_cons, goG_some, goOn_ok, goOn_call, goOn_row, goOn_arr, goOn_ask, goOn_put, guardP, guardO, notInO, stepF, stepLd, stepSt, stepIxs, stepIxa, stepLen, stepApp, stepCpy, stepPick, stepSls, stepSst, stepSla, evX, evL, evB, rd, get, subG, memG, freshG, notInG, hyps, gob, impP, allP, partD, partOf, isOne, isPtr, nth, takeN, dropN, cellsD, lenB, fillD, thirds, entN, setE, sizeE, addE, setL, setN, putE, env0, eqCs, eqAux, eqC, bA, bO, bN, bE, negB, kEq, isShr, lendL, lend, frz, frzL, zRow, closed, closedL, rowsOf, binI, retK, retG, atRet, retD, lendO, resL, resD, oneD, renD, renL, renE, renEs, rho, putAll, entsN, List.append, List.nil_append, List.cons_append, List.append_nil, cond, Nat.reduceBEq, Nat.reduceAdd, Nat.beq]
  have hle := minus_le a b
  refine loop_ind (α := {x' : Nat × Nat // x'.1 ≤ (minusL a b).length ∧ x'.2 ≤ x'.1 ∧ x'.2 + cntL ((minusL a b).drop x'.1) x y = cntL (minusL a b) x y})
    (fun s => st5 a b x y (minusL a b) s.1.1 s.1.2) (fun s => (minusL a b).length - s.1.1) ?_ ⟨(0, 0), by simp⟩ rfl
  rintro ⟨⟨i, n⟩, h1, h2, h3⟩ I ih
  dsimp only at h1 h2 h3
  dsimp only [st5, run_skip, run_reg, plainB, ifB_true, run_seq, run_blk, run_exit, run_ret, run_ite, iteR, regK, thenK_nrm, thenK_exit, thenK_ret, thenR_nrm, thenR_exit, thenR_ret, blkK, keepS, keepE, runOps_nil, runOps_cons, goG_some, goOn_ok, goOn_call, goOn_row, goOn_arr, goOn_ask, goOn_put, guardP, guardO, notInO, stepF, stepLd, stepSt, stepIxs, stepIxa, stepLen, stepApp, stepCpy, stepPick, stepSls, stepSst, stepSla, evX, evL, evB, rd, get, subG, memG, freshG, notInG, hyps, gob, impP, allP, partD, partOf, isOne, isPtr, nth, takeN, dropN, cellsD, lenB, fillD, thirds, entN, setE, sizeE, addE, setL, setN, putE, env0, eqCs, eqAux, eqC, bA, bO, bN, bE, negB, kEq, isShr, lendL, lend, frz, frzL, zRow, closed, closedL, rowsOf, binI, retK, retG, atRet, retD, lendO, resL, resD, oneD, renD, renL, renE, renEs, rho, putAll, entsN, List.append, List.nil_append, List.cons_append, List.append_nil, cond, Nat.reduceBEq, Nat.reduceAdd, Nat.beq]
  refine ⟨fun hi => ?_, fun hi => ?_⟩
  · have hi4 : i < (minusL a b).length := by simpa using hi
    have hrow : (List.map rD (minusL a b))[(i : Int).toNat]? = some (rD (minusL a b)[i]) := by simp [hi4]
    have hbd : 4 = 4 ∧ (0 : Int) ≤ i ∧ (i : Int) < (List.map rD (minusL a b)).length := ⟨rfl, by omega, by simpa using hi4⟩
    refine ⟨hbd, ?_⟩
    have hv := minus_vz a b _ (mem_drop hi4)
    have hdrop : (minusL a b).drop i = (minusL a b)[i] :: (minusL a b).drop (i + 1) := List.drop_eq_getElem_cons hi4
    refine row_intro (rD (minusL a b)[i]) (rD (minusL a b)[i]) hrow rfl ?_
    rw [hdrop, cnt_cons] at h3
    generalize (minusL a b)[i] = r at *
    dsimp only [run_skip, run_reg, plainB, ifB_true, run_seq, run_blk, run_exit, run_ret, run_ite, iteR, regK, thenK_nrm, thenK_exit, thenK_ret, thenR_nrm, thenR_exit, thenR_ret, blkK, keepS, keepE, runOps_nil, runOps_cons, goG_some, goOn_ok, goOn_call, goOn_row, goOn_arr, goOn_ask, goOn_put, guardP, guardO, notInO, stepF, stepLd, stepSt, stepIxs, stepIxa, stepLen, stepApp, stepCpy, stepPick, stepSls, stepSst, stepSla, evX, evL, evB, rd, get, subG, memG, freshG, notInG, hyps, gob, impP, allP, partD, partOf, isOne, isPtr, nth, takeN, dropN, cellsD, lenB, fillD, thirds, entN, setE, sizeE, addE, setL, setN, putE, env0, eqCs, eqAux, eqC, bA, bO, bN, bE, negB, kEq, isShr, lendL, lend, frz, frzL, zRow, closed, closedL, rowsOf, binI, retK, retG, atRet, retD, lendO, resL, resD, oneD, renD, renL, renE, renEs, rho, putAll, entsN, List.append, List.nil_append, List.cons_append, List.append_nil, cond, Nat.reduceBEq, Nat.reduceAdd, Nat.beq]
    refine call_pure (sp_rect_Empty hv.in) ?_
    dsimp only [rD, run_skip, run_reg, plainB, ifB_true, run_seq, run_blk, run_exit, run_ret, run_ite, iteR, regK, thenK_nrm, thenK_exit, thenK_ret, thenR_nrm, thenR_exit, thenR_ret, blkK, keepS, keepE, runOps_nil, runOps_cons, goG_some, goOn_ok, goOn_call, goOn_row, goOn_arr, goOn_ask, goOn_put, guardP, guardO, notInO, stepF, stepLd, stepSt, stepIxs, stepIxa, stepLen, stepApp, stepCpy, stepPick, stepSls, stepSst, stepSla, evX, evL, evB, rd, get, subG, memG, freshG, notInG, hyps, gob, impP, allP, partD, partOf, isOne, isPtr, nth, takeN, dropN, cellsD, lenB, fillD, thirds, entN, setE, sizeE, addE, setL, setN, putE, env0, eqCs, eqAux, eqC, bA, bO, bN, bE, negB, kEq, isShr, lendL, lend, frz, frzL, zRow, closed, closedL, rowsOf, binI, retK, retG, atRet, retD, lendO, resL, resD, oneD, renD, renL, renE, renEs, rho, putAll, entsN, List.append, List.nil_append, List.cons_append, List.append_nil, cond, Nat.reduceBEq, Nat.reduceAdd, Nat.beq]
    refine ⟨fun _ => hbd, ?_⟩
    refine row_intro (rD r) (rD r) (fun _ => hrow) rfl ?_
    dsimp only [run_skip, run_reg, plainB, ifB_true, run_seq, run_blk, run_exit, run_ret, run_ite, iteR, regK, thenK_nrm, thenK_exit, thenK_ret, thenR_nrm, thenR_exit, thenR_ret, blkK, keepS, keepE, runOps_nil, runOps_cons, goG_some, goOn_ok, goOn_call, goOn_row, goOn_arr, goOn_ask, goOn_put, guardP, guardO, notInO, stepF, stepLd, stepSt, stepIxs, stepIxa, stepLen, stepApp, stepCpy, stepPick, stepSls, stepSst, stepSla, evX, evL, evB, rd, get, subG, memG, freshG, notInG, hyps, gob, impP, allP, partD, partOf, isOne, isPtr, nth, takeN, dropN, cellsD, lenB, fillD, thirds, entN, setE, sizeE, addE, setL, setN, putE, env0, eqCs, eqAux, eqC, bA, bO, bN, bE, negB, kEq, isShr, lendL, lend, frz, frzL, zRow, closed, closedL, rowsOf, binI, retK, retG, atRet, retD, lendO, resL, resD, oneD, renD, renL, renE, renEs, rho, putAll, entsN, List.append, List.nil_append, List.cons_append, List.append_nil, cond, Nat.reduceBEq, Nat.reduceAdd, Nat.beq]
    refine call_pure (fun _ => sp_rect_Check hv.in) ?_
    rw [empty_iff.2 hv, okB_iff.2 (.inr hv)]
    dsimp only [rD, run_skip, run_reg, plainB, ifB_true, run_seq, run_blk, run_exit, run_ret, run_ite, iteR, regK, thenK_nrm, thenK_exit, thenK_ret, thenR_nrm, thenR_exit, thenR_ret, blkK, keepS, keepE, runOps_nil, runOps_cons, goG_some, goOn_ok, goOn_call, goOn_row, goOn_arr, goOn_ask, goOn_put, guardP, guardO, notInO, stepF, stepLd, stepSt, stepIxs, stepIxa, stepLen, stepApp, stepCpy, stepPick, stepSls, stepSst, stepSla, evX, evL, evB, rd, get, subG, memG, freshG, notInG, hyps, gob, impP, allP, partD, partOf, isOne, isPtr, nth, takeN, dropN, cellsD, lenB, fillD, thirds, entN, setE, sizeE, addE, setL, setN, putE, env0, eqCs, eqAux, eqC, bA, bO, bN, bE, negB, kEq, isShr, lendL, lend, frz, frzL, zRow, closed, closedL, rowsOf, binI, retK, retG, atRet, retD, lendO, resL, resD, oneD, renD, renL, renE, renEs, rho, putAll, entsN, List.append, List.nil_append, List.cons_append, List.append_nil, cond, Nat.reduceBEq, Nat.reduceAdd, Nat.beq]
    refine ⟨fun h => by simp at h, fun _ => ?_⟩
    refine ⟨hbd, ?_⟩
    refine row_intro (rD r) (rD r) hrow rfl ?_
    dsimp only [run_skip, run_reg, plainB, ifB_true, run_seq, run_blk, run_exit, run_ret, run_ite, iteR, regK, thenK_nrm, thenK_exit, thenK_ret, thenR_nrm, thenR_exit, thenR_ret, blkK, keepS, keepE, runOps_nil, runOps_cons, goG_some, goOn_ok, goOn_call, goOn_row, goOn_arr, goOn_ask, goOn_put, guardP, guardO, notInO, stepF, stepLd, stepSt, stepIxs, stepIxa, stepLen, stepApp, stepCpy, stepPick, stepSls, stepSst, stepSla, evX, evL, evB, rd, get, subG, memG, freshG, notInG, hyps, gob, impP, allP, partD, partOf, isOne, isPtr, nth, takeN, dropN, cellsD, lenB, fillD, thirds, entN, setE, sizeE, addE, setL, setN, putE, env0, eqCs, eqAux, eqC, bA, bO, bN, bE, negB, kEq, isShr, lendL, lend, frz, frzL, zRow, closed, closedL, rowsOf, binI, retK, retG, atRet, retD, lendO, resL, resD, oneD, renD, renL, renE, renEs, rho, putAll, entsN, List.append, List.nil_append, List.cons_append, List.append_nil, cond, Nat.reduceBEq, Nat.reduceAdd, Nat.beq]
    refine call_pure (sp_rect_Has hv.in) ?_
    dsimp only [rD, run_skip, run_reg, plainB, ifB_true, run_seq, run_blk, run_exit, run_ret, run_ite, iteR, regK, thenK_nrm, thenK_exit, thenK_ret, thenR_nrm, thenR_exit, thenR_ret, blkK, keepS, keepE, runOps_nil, runOps_cons, goG_some, goOn_ok, goOn_call, goOn_row, goOn_arr, goOn_ask, goOn_put, guardP, guardO, notInO, stepF, stepLd, stepSt, stepIxs, stepIxa, stepLen, stepApp, stepCpy, stepPick, stepSls, stepSst, stepSla, evX, evL, evB, rd, get, subG, memG, freshG, notInG, hyps, gob, impP, allP, partD, partOf, isOne, isPtr, nth, takeN, dropN, cellsD, lenB, fillD, thirds, entN, setE, sizeE, addE, setL, setN, putE, env0, eqCs, eqAux, eqC, bA, bO, bN, bE, negB, kEq, isShr, lendL, lend, frz, frzL, zRow, closed, closedL, rowsOf, binI, retK, retG, atRet, retD, lendO, resL, resD, oneD, renD, renL, renE, renEs, rho, putAll, entsN, List.append, List.nil_append, List.cons_append, List.append_nil, cond, Nat.reduceBEq, Nat.reduceAdd, Nat.beq]
    refine ⟨fun hh => ?_, fun hh => ?_⟩
    · rw [hh, if_pos rfl] at h3
      refine ⟨by simp only [fits]; omega, by simp only [fits]; omega, ?_⟩
      refine again (ih ⟨(i + 1, n + 1), by dsimp only; omega, by dsimp only; omega, by dsimp only; omega⟩ (by dsimp only; omega)) ?_ ?_ rfl rfl
      · exact ⟨rfl, rfl, rfl, rfl, rfl, rfl, rfl, rfl, rfl, trivial⟩
      · exact ⟨rfl, rfl, trivial⟩
    · rw [hh, if_neg (by simp)] at h3
      refine ⟨by simp only [fits]; omega, ?_⟩
      refine again (ih ⟨(i + 1, n), by dsimp only; omega, by dsimp only; omega, by dsimp only; omega⟩ (by dsimp only; omega)) ?_ ?_ rfl rfl
      · exact ⟨rfl, rfl, rfl, rfl, rfl, rfl, rfl, rfl, rfl, trivial⟩
      · exact ⟨rfl, rfl, trivial⟩
  · have : i = (minusL a b).length := by simp at hi; omega
    subst this
    have hn : n = cntL (minusL a b) x y := by simpa [cntL] using h3
    rw [cnt_minus] at hn
    refine call_pure (sp_rect_Cross ha hb) ?_
    dsimp only [rD, run_skip, run_reg, plainB, ifB_true, run_seq, run_blk, run_exit, run_ret, run_ite, iteR, regK, thenK_nrm, thenK_exit, thenK_ret, thenR_nrm, thenR_exit, thenR_ret, blkK, keepS, keepE, runOps_nil, runOps_cons, goG_some, goOn_ok, goOn_call, goOn_row, goOn_arr, goOn_ask, goOn_put, guardP, guardO, notInO, stepF, stepLd, stepSt, stepIxs, stepIxa, stepLen, stepApp, stepCpy, stepPick, stepSls, stepSst, stepSla, evX, evL, evB, rd, get, subG, memG, freshG, notInG, hyps, gob, impP, allP, partD, partOf, isOne, isPtr, nth, takeN, dropN, cellsD, lenB, fillD, thirds, entN, setE, sizeE, addE, setL, setN, putE, env0, eqCs, eqAux, eqC, bA, bO, bN, bE, negB, kEq, isShr, lendL, lend, frz, frzL, zRow, closed, closedL, rowsOf, binI, retK, retG, atRet, retD, lendO, resL, resD, oneD, renD, renL, renE, renEs, rho, putAll, entsN, List.append, List.nil_append, List.cons_append, List.append_nil, cond, Nat.reduceBEq, Nat.reduceAdd, Nat.beq]
    refine call_pure (sp_rect_Has (cross_vz a b).in) ?_
    dsimp only [rD, run_skip, run_reg, plainB, ifB_true, run_seq, run_blk, run_exit, run_ret, run_ite, iteR, regK, thenK_nrm, thenK_exit, thenK_ret, thenR_nrm, thenR_exit, thenR_ret, blkK, keepS, keepE, runOps_nil, runOps_cons, goG_some, goOn_ok, goOn_call, goOn_row, goOn_arr, goOn_ask, goOn_put, guardP, guardO, notInO, stepF, stepLd, stepSt, stepIxs, stepIxa, stepLen, stepApp, stepCpy, stepPick, stepSls, stepSst, stepSla, evX, evL, evB, rd, get, subG, memG, freshG, notInG, hyps, gob, impP, allP, partD, partOf, isOne, isPtr, nth, takeN, dropN, cellsD, lenB, fillD, thirds, entN, setE, sizeE, addE, setL, setN, putE, env0, eqCs, eqAux, eqC, bA, bO, bN, bE, negB, kEq, isShr, lendL, lend, frz, frzL, zRow, closed, closedL, rowsOf, binI, retK, retG, atRet, retD, lendO, resL, resD, oneD, renD, renL, renE, renEs, rho, putAll, entsN, List.append, List.nil_append, List.cons_append, List.append_nil, cond, Nat.reduceBEq, Nat.reduceAdd, Nat.beq]
    rw [has_cross]
    refine ⟨fun h => ?_, fun _ => ?_⟩
    · exfalso
      have h4 : ¬ (4 : Int) < ((List.map rD (minusL a b)).length : Int) := by simp; omega
      cases e1 : hasB a x y <;> cases e2 : hasB b x y <;> simp [e1, e2, hn, h4] at h <;> omega
    · refine call_pure (sp_rect_Box (l := [a, b]) (by simp [ha, hb]) (by simp)) ?_
      dsimp only [rD, run_skip, run_reg, plainB, ifB_true, run_seq, run_blk, run_exit, run_ret, run_ite, iteR, regK, thenK_nrm, thenK_exit, thenK_ret, thenR_nrm, thenR_exit, thenR_ret, blkK, keepS, keepE, runOps_nil, runOps_cons, goG_some, goOn_ok, goOn_call, goOn_row, goOn_arr, goOn_ask, goOn_put, guardP, guardO, notInO, stepF, stepLd, stepSt, stepIxs, stepIxa, stepLen, stepApp, stepCpy, stepPick, stepSls, stepSst, stepSla, evX, evL, evB, rd, get, subG, memG, freshG, notInG, hyps, gob, impP, allP, partD, partOf, isOne, isPtr, nth, takeN, dropN, cellsD, lenB, fillD, thirds, entN, setE, sizeE, addE, setL, setN, putE, env0, eqCs, eqAux, eqC, bA, bO, bN, bE, negB, kEq, isShr, lendL, lend, frz, frzL, zRow, closed, closedL, rowsOf, binI, retK, retG, atRet, retD, lendO, resL, resD, oneD, renD, renL, renE, renEs, rho, putAll, entsN, List.append, List.nil_append, List.cons_append, List.append_nil, cond, Nat.reduceBEq, Nat.reduceAdd, Nat.beq]
      refine call_pure (sp_rect_Has (boxL_vz [a, b]).in) ?_
      dsimp only [rD, run_skip, run_reg, plainB, ifB_true, run_seq, run_blk, run_exit, run_ret, run_ite, iteR, regK, thenK_nrm, thenK_exit, thenK_ret, thenR_nrm, thenR_exit, thenR_ret, blkK, keepS, keepE, runOps_nil, runOps_cons, goG_some, goOn_ok, goOn_call, goOn_row, goOn_arr, goOn_ask, goOn_put, guardP, guardO, notInO, stepF, stepLd, stepSt, stepIxs, stepIxa, stepLen, stepApp, stepCpy, stepPick, stepSls, stepSst, stepSla, evX, evL, evB, rd, get, subG, memG, freshG, notInG, hyps, gob, impP, allP, partD, partOf, isOne, isPtr, nth, takeN, dropN, cellsD, lenB, fillD, thirds, entN, setE, sizeE, addE, setL, setN, putE, env0, eqCs, eqAux, eqC, bA, bO, bN, bE, negB, kEq, isShr, lendL, lend, frz, frzL, zRow, closed, closedL, rowsOf, binI, retK, retG, atRet, retD, lendO, resL, resD, oneD, renD, renL, renE, renEs, rho, putAll, entsN, List.append, List.nil_append, List.cons_append, List.append_nil, cond, Nat.reduceBEq, Nat.reduceAdd, Nat.beq]
      have hbx := has_box a b x y
      cases e1 : hasB a x y <;> cases e2 : hasB b x y <;> simp [e1, e2] at hbx ⊢ <;> exact hbx
end Go.AM
