
/- Chapter 54: BufferSpots. -/
import Derived.Test.YtnhogggpchcbjaaT15
set_option linter.all false
namespace Go.AM
open Go Go.Proofs Go.RowKit

/-- Lines, one text behind the other. -/
def joinL : List Bs → List Bs → List Bs
  | [], r => r
  | [x], y :: r => (x ++ y) :: r
  | [x], [] => [x]
  | x :: y :: l, r => x :: joinL (y :: l) r
theorem lnL_app (u v : Bs) : lnL (u ++ v) = joinL (lnL u) (lnL v) := by
  induction u with
  | nil =>
    show lnL v = joinL [[]] (lnL v)
    cases hv : lnL v with
    | nil => exact absurd hv (lnL_ne v)
    | cons y r => simp [joinL]
  | cons c u ih =>
    show lnL (c :: (u ++ v)) = _
    rw [lnL, ih]
    conv => rhs; rw [lnL]
    cases hv : lnL v with
    | nil => exact absurd hv (lnL_ne v)
    | cons z w =>
      cases hu : lnL u with
      | nil => exact absurd hu (lnL_ne u)
      | cons y r =>
        by_cases hc : c = 10
        · rw [if_pos hc, if_pos hc]; rfl
        · rw [if_neg hc, if_neg hc]
          cases r with
          | nil => simp [joinL]
          | cons y2 r => simp [joinL]
theorem joinL_last : ∀ {l r : List Bs} {x y : Bs}, l[l.length - 1]? = some x → r[0]? = some y → (joinL l r)[l.length - 1]? = some (x ++ y) ∧ posL (joinL l r) (l.length - 1) = posL l (l.length - 1)
  | [], _, _, _, h, _ => by simp at h
  | [x], [], _, _, _, h => by simp at h
  | [x], z :: r, x', y, h, h2 => by
    simp at h h2; subst h h2
    simp [joinL, posL]
  | a :: b :: l, r, x, y, h, h2 => by
    obtain ⟨h3, h4⟩ := joinL_last (l := b :: l) (r := r) (x := x) (y := y) (by simpa using h) h2
    have e : (a :: b :: l).length - 1 = ((b :: l).length - 1) + 1 := by simp
    rw [e]
    simp only [joinL, List.getElem?_cons_succ]
    exact ⟨h3, by simp only [posL]; rw [h4]⟩
theorem joinL_len : ∀ {l r : List Bs}, l ≠ [] → r ≠ [] → (joinL l r).length = l.length + r.length - 1
  | [], _, h, _ => absurd rfl h
  | [x], [], _, h => absurd rfl h
  | [x], z :: r, _, _ => by simp [joinL]
  | a :: b :: l, r, _, h => by simp only [joinL, List.length_cons]; rw [joinL_len (by simp) h]; simp; omega
theorem pos_last : ∀ (n : Nat) (t : Bs), t.length ≤ n → ∀ x, (lnL t)[(lnL t).length - 1]? = some x → posL (lnL t) ((lnL t).length - 1) + x.length = t.length
  | n, t, hn, x, h => by
    rcases cut_or t with h1 | ⟨p, q, rfl, h1⟩
    · rw [lnL_no h1] at h ⊢
      simp at h; subst h; simp [posL]
    · rw [lnL_cut h1] at h ⊢
      have hp : 0 < (lnL q).length := List.length_pos_iff.2 (lnL_ne q)
      have e : (p :: lnL q).length - 1 = ((lnL q).length - 1) + 1 := by simp; omega
      rw [e] at h ⊢
      cases n with
      | zero => simp at hn
      | succ n =>
        have := pos_last n q (by simp at hn; omega) x (by simpa using h)
        simp only [posL]; simp; omega
/-- The place of a byte's spot is the byte. -/
theorem place_spot {t : Bs} {k : Nat} (hk : k ≤ t.length) : placeP t (spotB t k).1 (spotB t k).2 = k ∧ 0 ≤ (spotB t k).2 ∧ (spotB t k).2 ≤ (lineB t (spotB t k).1).length := by
  have hcl : clampN k t = k := by unfold clampN; omega
  unfold spotB
  rw [hcl]
  dsimp only
  have ht : t = t.take k ++ t.drop k := (List.take_append_drop k t).symm
  have hu : (t.take k).length = k := by simp; omega
  obtain ⟨x, hx⟩ := lnL_last (t.take k)
  have hv : (lnL (t.drop k))[0]? = some ((lnL (t.drop k))[0]'(List.length_pos_iff.2 (lnL_ne _))) := List.getElem?_eq_getElem _
  generalize (lnL (t.drop k))[0]'(List.length_pos_iff.2 (lnL_ne _)) = y at hv
  obtain ⟨h1, h2⟩ := joinL_last hx hv
  have hpl := pos_last _ (t.take k) (Nat.le_refl _) x hx
  have hlen := joinL_len (lnL_ne (t.take k)) (lnL_ne (t.drop k))
  rw [← lnL_app, ← ht] at h1 h2 hlen
  have hp1 : 0 < (lnL (t.take k)).length := List.length_pos_iff.2 (lnL_ne _)
  have hp2 : 0 < (lnL (t.drop k)).length := List.length_pos_iff.2 (lnL_ne _)
  rw [show (lnL (t.take k)).getD ((lnL (t.take k)).length - 1) [] = x by simp [List.getD_eq_getElem?_getD, hx]]
  generalize hn : (lnL (t.take k)).length - 1 = n at *
  have hm : min (max (((lnL (t.take k)).length : Int) - 1) 0) (((lnL t).length : Int) - 1) = n := by omega
  have hg : (lnL t).getD n [] = x ++ y := by simp [List.getD_eq_getElem?_getD, h1]
  have hn2 := (List.getElem?_eq_some_iff.1 h1).1
  refine ⟨?_, by omega, ?_⟩
  · unfold placeP
    rw [hm, Int.toNat_natCast, hg, h2]
    simp; omega
  · unfold lineB
    rw [if_neg (by simp; omega), show (((lnL (t.take k)).length : Int) - 1).toNat = n by omega, hg]
    simp; omega

theorem sp_law54_BufferSpots {s : Bs} {at_ : Int} (hs : s.length < 9223372036854775808) (hat : 0 ≤ at_ ∧ at_ ≤ 65535) : TSp 8 [.str s, .int .u16 at_] (.bool true) := by
  refine spo_law54_BufferSpots (by rfl) ?_
  dsimp only [c_law54_BufferSpots, r_law54_BufferSpots, run_skip, run_reg, plainB, ifB_true, run_seq, run_blk, run_exit, run_ret, run_ite, iteR, regK, thenK_nrm, thenK_exit, thenK_ret, thenR_nrm, thenR_exit, thenR_ret, blkK, keepS, keepE, runOps_nil, runOps_cons, goG_some, fpOk, foot, entOf, allN, memN, goOn_ok, goOn_call, goOn_row, goOn_arr, goOn_ask, goOn_put, guardP, guardO, notInO, stepF, stepLd, stepSt, stepIxs, stepIxa, stepLen, stepApp, stepCpy, stepPick, stepSls, stepSst, stepSla, evX, evL, evB, rd, get, subG, memG, freshG, notInG, hyps, gob, impP, allP, partD, partOf, isOne, isPtr, nth, takeN, dropN, cellsD, lenB, fillD, thirds, entN, setE, sizeE, addE, setL, setN, putE, env0, eqCs, eqAux, eqC, bA, bO, bN, bE, negB, kEq, isShr, lendL, lend, frz, frzL, zRow, closed, closedL, rowsOf, binI, retK, retG, atRet, retD, lendO, resL, resD, oneD, renD, renL, renE, renEs, rho, putAll, entsN, List.append, List.nil_append, List.cons_append, List.append_nil, cond, Nat.reduceBEq, Nat.reduceAdd, Nat.beq]
  refine call_pure (fun _ => sp_ref54_Form hs) ?_
  dsimp only [run_skip, run_reg, plainB, ifB_true, run_seq, run_blk, run_exit, run_ret, run_ite, iteR, regK, thenK_nrm, thenK_exit, thenK_ret, thenR_nrm, thenR_exit, thenR_ret, blkK, keepS, keepE, runOps_nil, runOps_cons, goG_some, fpOk, foot, entOf, allN, memN, goOn_ok, goOn_call, goOn_row, goOn_arr, goOn_ask, goOn_put, guardP, guardO, notInO, stepF, stepLd, stepSt, stepIxs, stepIxa, stepLen, stepApp, stepCpy, stepPick, stepSls, stepSst, stepSla, evX, evL, evB, rd, get, subG, memG, freshG, notInG, hyps, gob, impP, allP, partD, partOf, isOne, isPtr, nth, takeN, dropN, cellsD, lenB, fillD, thirds, entN, setE, sizeE, addE, setL, setN, putE, env0, eqCs, eqAux, eqC, bA, bO, bN, bE, negB, kEq, isShr, lendL, lend, frz, frzL, zRow, closed, closedL, rowsOf, binI, retK, retG, atRet, retD, lendO, resL, resD, oneD, renD, renL, renE, renEs, rho, putAll, entsN, List.append, List.nil_append, List.cons_append, List.append_nil, cond, Nat.reduceBEq, Nat.reduceAdd, Nat.beq]
  refine ⟨fun _ => ?_, fun h => ?_⟩
  · refine call_pure sp_law54_awake ?_
    dsimp only [run_skip, run_reg, plainB, ifB_true, run_seq, run_blk, run_exit, run_ret, run_ite, iteR, regK, thenK_nrm, thenK_exit, thenK_ret, thenR_nrm, thenR_exit, thenR_ret, blkK, keepS, keepE, runOps_nil, runOps_cons, goG_some, fpOk, foot, entOf, allN, memN, goOn_ok, goOn_call, goOn_row, goOn_arr, goOn_ask, goOn_put, guardP, guardO, notInO, stepF, stepLd, stepSt, stepIxs, stepIxa, stepLen, stepApp, stepCpy, stepPick, stepSls, stepSst, stepSla, evX, evL, evB, rd, get, subG, memG, freshG, notInG, hyps, gob, impP, allP, partD, partOf, isOne, isPtr, nth, takeN, dropN, cellsD, lenB, fillD, thirds, entN, setE, sizeE, addE, setL, setN, putE, env0, eqCs, eqAux, eqC, bA, bO, bN, bE, negB, kEq, isShr, lendL, lend, frz, frzL, zRow, closed, closedL, rowsOf, binI, retK, retG, atRet, retD, lendO, resL, resD, oneD, renD, renL, renE, renEs, rho, putAll, entsN, List.append, List.nil_append, List.cons_append, List.append_nil, cond, Nat.reduceBEq, Nat.reduceAdd, Nat.beq]
  simp only [Bool.or_eq_false_iff, decide_eq_false_iff_not, Bool.not_eq_false'] at h
  have h3 : s.length ≤ 300 := by omega
  have hb2 : (⟨[], [], s⟩ : Bu).text.length ≤ 65536 := by dsimp only; omega
  refine call_pure (sp_buffer_New hs) ?_
  rw [new_ok (by omega) h.2]
  dsimp only [retB, buD, run_skip, run_reg, plainB, ifB_true, run_seq, run_blk, run_exit, run_ret, run_ite, iteR, regK, thenK_nrm, thenK_exit, thenK_ret, thenR_nrm, thenR_exit, thenR_ret, blkK, keepS, keepE, runOps_nil, runOps_cons, goG_some, fpOk, foot, entOf, allN, memN, goOn_ok, goOn_call, goOn_row, goOn_arr, goOn_ask, goOn_put, guardP, guardO, notInO, stepF, stepLd, stepSt, stepIxs, stepIxa, stepLen, stepApp, stepCpy, stepPick, stepSls, stepSst, stepSla, evX, evL, evB, rd, get, subG, memG, freshG, notInG, hyps, gob, impP, allP, partD, partOf, isOne, isPtr, nth, takeN, dropN, cellsD, lenB, fillD, thirds, entN, setE, sizeE, addE, setL, setN, putE, env0, eqCs, eqAux, eqC, bA, bO, bN, bE, negB, kEq, isShr, lendL, lend, frz, frzL, zRow, closed, closedL, rowsOf, binI, retK, retG, atRet, retD, lendO, resL, resD, oneD, renD, renL, renE, renEs, rho, putAll, entsN, List.append, List.nil_append, List.cons_append, List.append_nil, cond, Nat.reduceBEq, Nat.reduceAdd, Nat.beq]
  refine call_pure (sp_buffer_Buffer_Lines (b := ⟨[], [], s⟩) hb2) ?_
  dsimp only [buD, run_skip, run_reg, plainB, ifB_true, run_seq, run_blk, run_exit, run_ret, run_ite, iteR, regK, thenK_nrm, thenK_exit, thenK_ret, thenR_nrm, thenR_exit, thenR_ret, blkK, keepS, keepE, runOps_nil, runOps_cons, goG_some, fpOk, foot, entOf, allN, memN, goOn_ok, goOn_call, goOn_row, goOn_arr, goOn_ask, goOn_put, guardP, guardO, notInO, stepF, stepLd, stepSt, stepIxs, stepIxa, stepLen, stepApp, stepCpy, stepPick, stepSls, stepSst, stepSla, evX, evL, evB, rd, get, subG, memG, freshG, notInG, hyps, gob, impP, allP, partD, partOf, isOne, isPtr, nth, takeN, dropN, cellsD, lenB, fillD, thirds, entN, setE, sizeE, addE, setL, setN, putE, env0, eqCs, eqAux, eqC, bA, bO, bN, bE, negB, kEq, isShr, lendL, lend, frz, frzL, zRow, closed, closedL, rowsOf, binI, retK, retG, atRet, retD, lendO, resL, resD, oneD, renD, renL, renE, renEs, rho, putAll, entsN, List.append, List.nil_append, List.cons_append, List.append_nil, cond, Nat.reduceBEq, Nat.reduceAdd, Nat.beq]
  have hll := lnL_len s
  have hct : s.count 10 ≤ s.length := List.count_le_length
  refine loop_ind (α := {x : Nat × Nat // x.1 ≤ (lnL s).length}) (fun x => ⟨[(0, [], .str s), (1, [], .int .u16 at_), (5, [], .box 0 0), (6, [], .int .i64 0), (7, [], .own 1 x.1.2), (27, [], .int .i64 (lnL s).length), (28, [], .int .i64 x.1.1)], [.cells [.ls 3 (List.map spD []), .ls 3 (List.map spD []), .str s], .arr 9 1 x.1.2 (sL ((lnL s).take x.1.1))]⟩) (fun x => (lnL s).length - x.1.1) ?_ ⟨(0, 0), by simp⟩ rfl
  rintro ⟨⟨i, v⟩, hi⟩ I ih
  dsimp only at hi
  dsimp only [run_skip, run_reg, plainB, ifB_true, run_seq, run_blk, run_exit, run_ret, run_ite, iteR, regK, thenK_nrm, thenK_exit, thenK_ret, thenR_nrm, thenR_exit, thenR_ret, blkK, keepS, keepE, runOps_nil, runOps_cons, goG_some, fpOk, foot, entOf, allN, memN, goOn_ok, goOn_call, goOn_row, goOn_arr, goOn_ask, goOn_put, guardP, guardO, notInO, stepF, stepLd, stepSt, stepIxs, stepIxa, stepLen, stepApp, stepCpy, stepPick, stepSls, stepSst, stepSla, evX, evL, evB, rd, get, subG, memG, freshG, notInG, hyps, gob, impP, allP, partD, partOf, isOne, isPtr, nth, takeN, dropN, cellsD, lenB, fillD, thirds, entN, setE, sizeE, addE, setL, setN, putE, env0, eqCs, eqAux, eqC, bA, bO, bN, bE, negB, kEq, isShr, lendL, lend, frz, frzL, zRow, closed, closedL, rowsOf, binI, retK, retG, atRet, retD, lendO, resL, resD, oneD, renD, renL, renE, renEs, rho, putAll, entsN, List.append, List.nil_append, List.cons_append, List.append_nil, cond, Nat.reduceBEq, Nat.reduceAdd, Nat.beq]
  refine ⟨fun hin => ?_, fun hin => ?_⟩
  · have hin : i < (lnL s).length := by simpa using hin
    refine call_pure (sp_buffer_Buffer_Line (b := ⟨[], [], s⟩) (n := i) hb2) ?_
    dsimp only [buD, run_skip, run_reg, plainB, ifB_true, run_seq, run_blk, run_exit, run_ret, run_ite, iteR, regK, thenK_nrm, thenK_exit, thenK_ret, thenR_nrm, thenR_exit, thenR_ret, blkK, keepS, keepE, runOps_nil, runOps_cons, goG_some, fpOk, foot, entOf, allN, memN, goOn_ok, goOn_call, goOn_row, goOn_arr, goOn_ask, goOn_put, guardP, guardO, notInO, stepF, stepLd, stepSt, stepIxs, stepIxa, stepLen, stepApp, stepCpy, stepPick, stepSls, stepSst, stepSla, evX, evL, evB, rd, get, subG, memG, freshG, notInG, hyps, gob, impP, allP, partD, partOf, isOne, isPtr, nth, takeN, dropN, cellsD, lenB, fillD, thirds, entN, setE, sizeE, addE, setL, setN, putE, env0, eqCs, eqAux, eqC, bA, bO, bN, bE, negB, kEq, isShr, lendL, lend, frz, frzL, zRow, closed, closedL, rowsOf, binI, retK, retG, atRet, retD, lendO, resL, resD, oneD, renD, renL, renE, renEs, rho, putAll, entsN, List.append, List.nil_append, List.cons_append, List.append_nil, cond, Nat.reduceBEq, Nat.reduceAdd, Nat.beq]
    have el : lineB s i = (lnL s)[i] := by
      unfold lineB
      rw [if_neg (by simp; omega), Int.toNat_natCast]
      simp [hin]
    rw [el]
    refine ⟨⟨rfl, rfl, rfl, rfl, by rw [sL_len]; simp; omega⟩, ?_⟩
    refine ⟨by simp only [fits]; omega, ?_⟩
    refine again (ih ⟨(i + 1, v + 1), by dsimp only; omega⟩ (by dsimp only; omega)) ?_ ?_ rfl rfl
    · exact ⟨rfl, rfl, rfl, rfl, rfl, rfl, rfl, trivial⟩
    · refine ⟨rfl, ?_, trivial⟩
      dsimp only; rw [List.take_succ_eq_append_getElem hin]; simp only [sL, List.map_append, List.map_cons, List.map_nil]
  · have hin : i = (lnL s).length := by simp at hin; omega
    subst hin
    rw [List.take_length]
    have hk0 := Int.emod_nonneg at_ (by omega : (s.length : Int) + 1 ≠ 0)
    have hk1 := Int.emod_lt_of_pos at_ (by omega : (0 : Int) < (s.length : Int) + 1)
    refine ⟨by simp only [fits]; omega, by simp only [fits]; omega, by omega, ?_⟩
    obtain ⟨k, hk⟩ : ∃ k : Nat, at_ % ((s.length : Int) + 1) = k := ⟨(at_ % ((s.length : Int) + 1)).toNat, by omega⟩
    rw [hk] at hk0 hk1 ⊢
    obtain ⟨p1, p2, p3⟩ := place_spot (t := s) (k := k) (by omega)
    refine call_pure (sp_buffer_Buffer_Spot (b := ⟨[], [], s⟩) (at_ := k) hb2) ?_
    dsimp only [buD, run_skip, run_reg, plainB, ifB_true, run_seq, run_blk, run_exit, run_ret, run_ite, iteR, regK, thenK_nrm, thenK_exit, thenK_ret, thenR_nrm, thenR_exit, thenR_ret, blkK, keepS, keepE, runOps_nil, runOps_cons, goG_some, fpOk, foot, entOf, allN, memN, goOn_ok, goOn_call, goOn_row, goOn_arr, goOn_ask, goOn_put, guardP, guardO, notInO, stepF, stepLd, stepSt, stepIxs, stepIxa, stepLen, stepApp, stepCpy, stepPick, stepSls, stepSst, stepSla, evX, evL, evB, rd, get, subG, memG, freshG, notInG, hyps, gob, impP, allP, partD, partOf, isOne, isPtr, nth, takeN, dropN, cellsD, lenB, fillD, thirds, entN, setE, sizeE, addE, setL, setN, putE, env0, eqCs, eqAux, eqC, bA, bO, bN, bE, negB, kEq, isShr, lendL, lend, frz, frzL, zRow, closed, closedL, rowsOf, binI, retK, retG, atRet, retD, lendO, resL, resD, oneD, renD, renL, renE, renEs, rho, putAll, entsN, List.append, List.nil_append, List.cons_append, List.append_nil, cond, Nat.reduceBEq, Nat.reduceAdd, Nat.beq]
    refine call_lent (fun _ => sp_strings_Join (lnL_ne s) (by omega) (by rw [join_lines]; omega)) rfl ⟨rfl, trivial⟩ rfl ?_
    rw [join_lines]
    dsimp only [buD, run_skip, run_reg, plainB, ifB_true, run_seq, run_blk, run_exit, run_ret, run_ite, iteR, regK, thenK_nrm, thenK_exit, thenK_ret, thenR_nrm, thenR_exit, thenR_ret, blkK, keepS, keepE, runOps_nil, runOps_cons, goG_some, fpOk, foot, entOf, allN, memN, goOn_ok, goOn_call, goOn_row, goOn_arr, goOn_ask, goOn_put, guardP, guardO, notInO, stepF, stepLd, stepSt, stepIxs, stepIxa, stepLen, stepApp, stepCpy, stepPick, stepSls, stepSst, stepSla, evX, evL, evB, rd, get, subG, memG, freshG, notInG, hyps, gob, impP, allP, partD, partOf, isOne, isPtr, nth, takeN, dropN, cellsD, lenB, fillD, thirds, entN, setE, sizeE, addE, setL, setN, putE, env0, eqCs, eqAux, eqC, bA, bO, bN, bE, negB, kEq, isShr, lendL, lend, frz, frzL, zRow, closed, closedL, rowsOf, binI, retK, retG, atRet, retD, lendO, resL, resD, oneD, renD, renL, renE, renEs, rho, putAll, entsN, List.append, List.nil_append, List.cons_append, List.append_nil, cond, Nat.reduceBEq, Nat.reduceAdd, Nat.beq]
    refine call_pure (fun _ => sp_buffer_Buffer_Place (b := ⟨[], [], s⟩) hb2) ?_
    dsimp only [buD, run_skip, run_reg, plainB, ifB_true, run_seq, run_blk, run_exit, run_ret, run_ite, iteR, regK, thenK_nrm, thenK_exit, thenK_ret, thenR_nrm, thenR_exit, thenR_ret, blkK, keepS, keepE, runOps_nil, runOps_cons, goG_some, fpOk, foot, entOf, allN, memN, goOn_ok, goOn_call, goOn_row, goOn_arr, goOn_ask, goOn_put, guardP, guardO, notInO, stepF, stepLd, stepSt, stepIxs, stepIxa, stepLen, stepApp, stepCpy, stepPick, stepSls, stepSst, stepSla, evX, evL, evB, rd, get, subG, memG, freshG, notInG, hyps, gob, impP, allP, partD, partOf, isOne, isPtr, nth, takeN, dropN, cellsD, lenB, fillD, thirds, entN, setE, sizeE, addE, setL, setN, putE, env0, eqCs, eqAux, eqC, bA, bO, bN, bE, negB, kEq, isShr, lendL, lend, frz, frzL, zRow, closed, closedL, rowsOf, binI, retK, retG, atRet, retD, lendO, resL, resD, oneD, renD, renL, renE, renEs, rho, putAll, entsN, List.append, List.nil_append, List.cons_append, List.append_nil, cond, Nat.reduceBEq, Nat.reduceAdd, Nat.beq]
    refine call_pure (fun _ => sp_buffer_Buffer_Line (b := ⟨[], [], s⟩) hb2) ?_
    dsimp only [buD, run_skip, run_reg, plainB, ifB_true, run_seq, run_blk, run_exit, run_ret, run_ite, iteR, regK, thenK_nrm, thenK_exit, thenK_ret, thenR_nrm, thenR_exit, thenR_ret, blkK, keepS, keepE, runOps_nil, runOps_cons, goG_some, fpOk, foot, entOf, allN, memN, goOn_ok, goOn_call, goOn_row, goOn_arr, goOn_ask, goOn_put, guardP, guardO, notInO, stepF, stepLd, stepSt, stepIxs, stepIxa, stepLen, stepApp, stepCpy, stepPick, stepSls, stepSst, stepSla, evX, evL, evB, rd, get, subG, memG, freshG, notInG, hyps, gob, impP, allP, partD, partOf, isOne, isPtr, nth, takeN, dropN, cellsD, lenB, fillD, thirds, entN, setE, sizeE, addE, setL, setN, putE, env0, eqCs, eqAux, eqC, bA, bO, bN, bE, negB, kEq, isShr, lendL, lend, frz, frzL, zRow, closed, closedL, rowsOf, binI, retK, retG, atRet, retD, lendO, resL, resD, oneD, renD, renL, renE, renEs, rho, putAll, entsN, List.append, List.nil_append, List.cons_append, List.append_nil, cond, Nat.reduceBEq, Nat.reduceAdd, Nat.beq]
    refine call_pure (fun _ => sp_law54_awake) ?_
    dsimp only [run_skip, run_reg, plainB, ifB_true, run_seq, run_blk, run_exit, run_ret, run_ite, iteR, regK, thenK_nrm, thenK_exit, thenK_ret, thenR_nrm, thenR_exit, thenR_ret, blkK, keepS, keepE, runOps_nil, runOps_cons, goG_some, fpOk, foot, entOf, allN, memN, goOn_ok, goOn_call, goOn_row, goOn_arr, goOn_ask, goOn_put, guardP, guardO, notInO, stepF, stepLd, stepSt, stepIxs, stepIxa, stepLen, stepApp, stepCpy, stepPick, stepSls, stepSst, stepSla, evX, evL, evB, rd, get, subG, memG, freshG, notInG, hyps, gob, impP, allP, partD, partOf, isOne, isPtr, nth, takeN, dropN, cellsD, lenB, fillD, thirds, entN, setE, sizeE, addE, setL, setN, putE, env0, eqCs, eqAux, eqC, bA, bO, bN, bE, negB, kEq, isShr, lendL, lend, frz, frzL, zRow, closed, closedL, rowsOf, binI, retK, retG, atRet, retD, lendO, resL, resD, oneD, renD, renL, renE, renEs, rho, putAll, entsN, List.append, List.nil_append, List.cons_append, List.append_nil, cond, Nat.reduceBEq, Nat.reduceAdd, Nat.beq]
    exact congrArg D.bool (by rw [p1]; simp [p2, p3])
end Go.AM
