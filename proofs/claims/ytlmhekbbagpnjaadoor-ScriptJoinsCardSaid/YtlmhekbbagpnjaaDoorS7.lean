
/- Chapter 63: texts that are cut at a byte. -/
import Derived.Test.YtlmhekbbagpnjaaDoorS6
set_option linter.all false
namespace Go.AM
open Go Go.Proofs Go.RowKit

def cutL (b : UInt8) : Bs → List Bs
  | [] => [[]]
  | c :: t => if c = b then [] :: cutL b t else match cutL b t with | x :: r => (c :: x) :: r | [] => [[c]]
theorem cutL_ne (b : UInt8) : ∀ t, cutL b t ≠ []
  | [] => by simp [cutL]
  | c :: t => by
    unfold cutL
    split
    · simp
    · split <;> simp
theorem cutL_len (b : UInt8) : ∀ t : Bs, (cutL b t).length = t.count b + 1
  | [] => by simp [cutL]
  | c :: t => by
    have ih := cutL_len b t
    unfold cutL
    by_cases h : c = b
    · rw [if_pos h, List.length_cons, ih, List.count_cons, h]; simp
    · rw [if_neg h, List.count_cons]
      cases hl : cutL b t with
      | nil => exact absurd hl (cutL_ne b t)
      | cons x r => rw [hl] at ih; simp at ih ⊢; simp [h]; omega
theorem cutL_no {b : UInt8} {t : Bs} (h : b ∉ t) : cutL b t = [t] := by
  induction t with
  | nil => rfl
  | cons c t ih =>
    simp only [List.mem_cons, not_or] at h
    unfold cutL
    rw [if_neg (Ne.symm h.1), ih h.2]
theorem cutL_cut {b : UInt8} {p q : Bs} (h : b ∉ p) : cutL b (p ++ b :: q) = p :: cutL b q := by
  induction p with
  | nil => simp [cutL]
  | cons c p ih =>
    simp only [List.mem_cons, not_or] at h
    show cutL b (c :: (p ++ b :: q)) = _
    rw [cutL, if_neg (Ne.symm h.1), ih h.2]
theorem cutc_or (b : UInt8) (t : Bs) : b ∉ t ∨ ∃ p q, t = p ++ b :: q ∧ b ∉ p := by
  induction t with
  | nil => left; simp
  | cons c t ih =>
    by_cases hc : c = b
    · right; exact ⟨[], t, by simp [hc], by simp⟩
    · rcases ih with h | ⟨p, q, rfl, h⟩
      · left; simp [Ne.symm hc, h]
      · right; exact ⟨c :: p, q, by simp, by simp [Ne.symm hc, h]⟩
theorem cindex_no {b : UInt8} {t : Bs} (h : b ∉ t) : Lib.indexByte t b = -1 := by
  induction t with
  | nil => rfl
  | cons c t ih =>
    simp only [List.mem_cons, not_or] at h
    unfold Lib.indexByte
    rw [if_neg (by simpa using Ne.symm h.1), ih h.2]; rfl
theorem cindex_cut {b : UInt8} {p q : Bs} (h : b ∉ p) : Lib.indexByte (p ++ b :: q) b = p.length := by
  induction p with
  | nil => simp [Lib.indexByte]
  | cons c p ih =>
    simp only [List.mem_cons, not_or] at h
    show Lib.indexByte (c :: (p ++ b :: q)) b = _
    unfold Lib.indexByte
    rw [if_neg (by simpa using Ne.symm h.1), ih h.2, if_neg (by simp)]; rfl
theorem cutL_le (b : UInt8) : ∀ t : Bs, ∀ x ∈ cutL b t, x.length ≤ t.length
  | [], x, h => by simp [cutL] at h; subst h; simp
  | c :: t, x, h => by
    have ih := cutL_le b t
    unfold cutL at h
    split at h
    · rcases List.mem_cons.1 h with rfl | h
      · simp
      · have := ih x h; simp; omega
    · split at h
      · rename_i y r hl
        rcases List.mem_cons.1 h with rfl | h
        · have := ih y (by rw [hl]; simp); simp; omega
        · have := ih x (by rw [hl]; simp [h]); simp; omega
      · simp at h; subst h; simp
/-- None has the byte. -/
theorem cutL_mem (b : UInt8) : ∀ t : Bs, ∀ x ∈ cutL b t, b ∉ x
  | [], x, h => by simp [cutL] at h; subst h; simp
  | c :: t, x, h => by
    have ih := cutL_mem b t
    unfold cutL at h
    split at h
    · rcases List.mem_cons.1 h with rfl | h
      · simp
      · exact ih x h
    · rename_i hc
      split at h
      · rename_i y r hl
        rcases List.mem_cons.1 h with rfl | h
        · have := ih y (by rw [hl]; simp)
          simp only [List.mem_cons, not_or]; exact ⟨Ne.symm hc, this⟩
        · exact ih x (by rw [hl]; simp [h])
      · simp at h; subst h
        simp only [List.mem_cons, not_or]; exact ⟨Ne.symm hc, by simp⟩

theorem sp_ref63_cut {s : Bs} {b : UInt8} (hs : s.length < 100000000) : TSp 22 [.str s, .int .u8 b.toNat] (.ls 1 (sL (cutL b s))) := by
  refine spo_ref63_cut (by rfl) ?_
  dsimp only [c_ref63_cut, r_ref63_cut, run_skip, run_reg, plainB, ifB_true, run_seq, run_blk, run_exit, run_ret, run_ite, iteR, regK, thenK_nrm, thenK_exit, thenK_ret, thenR_nrm, thenR_exit, thenR_ret, blkK, keepS, keepE, runOps_nil, runOps_cons, goG_some, fpOk, foot, entOf, allN, memN, goOn_ok, goOn_call, goOn_row, goOn_arr, goOn_ask, goOn_put, goOn_prm, goOn_callK, goOn_callC, goOn_all, guardP, guardO, notInO, stepF, stepLd, stepSt, stepIxs, stepIxa, stepLen, stepApp, stepCpy, stepPick, stepSls, stepSst, stepSla, bareZ, evX, evL, evB, rd, get, subG, memG, freshG, notInG, hyps, gob, impP, allP, partD, partOf, isOne, isPtr, nth, takeN, dropN, cellsD, lenB, fillD, thirds, entN, setE, sizeE, addE, setL, setN, putE, env0, eqCs, eqAux, eqC, bA, bO, bN, bE, negB, kEq, isShr, lendL, lend, frz, frzL, zRow, closed, closedL, rowsOf, binI, retK, retG, atRet, retD, lendO, resL, resD, oneD, renD, renL, renE, renEs, rho, putAll, entsN, List.append, List.nil_append, List.cons_append, List.append_nil, cond, Nat.reduceBEq, Nat.reduceAdd, Nat.beq]
  refine loop_ind (α := {x : List Bs × Nat × Nat // x.1.length ≤ x.2.2 ∧ x.2.2 ≤ s.length + 1 ∧ (x.2.2 ≤ s.length → x.2.1 ≤ x.2.2 ∧ x.1 ++ cutL b (s.drop x.2.1) = cutL b s ∧ b ∉ (s.drop x.2.1).take (x.2.2 - x.2.1)) ∧ (x.2.2 = s.length + 1 → x.1 = cutL b s)})
    (fun x => ⟨[(0, [], .str s), (1, [], .int .u8 b.toNat), (5, [], .own 1 x.1.1.length), (6, [], .int .i64 x.1.2.1), (7, [], .int .i64 x.1.2.2)], [.arr 9 1 0 [], .arr 9 1 x.1.1.length (sL x.1.1)]⟩) (fun x => s.length + 1 - x.1.2.2) ?_ ⟨([], 0, 0), by simp⟩ rfl
  rintro ⟨⟨out, fr, i⟩, h1, h2, h3, h4⟩ I ih
  dsimp only at h1 h2 h3 h4
  dsimp only [run_skip, run_reg, plainB, ifB_true, run_seq, run_blk, run_exit, run_ret, run_ite, iteR, regK, thenK_nrm, thenK_exit, thenK_ret, thenR_nrm, thenR_exit, thenR_ret, blkK, keepS, keepE, runOps_nil, runOps_cons, goG_some, fpOk, foot, entOf, allN, memN, goOn_ok, goOn_call, goOn_row, goOn_arr, goOn_ask, goOn_put, goOn_prm, goOn_callK, goOn_callC, goOn_all, guardP, guardO, notInO, stepF, stepLd, stepSt, stepIxs, stepIxa, stepLen, stepApp, stepCpy, stepPick, stepSls, stepSst, stepSla, bareZ, evX, evL, evB, rd, get, subG, memG, freshG, notInG, hyps, gob, impP, allP, partD, partOf, isOne, isPtr, nth, takeN, dropN, cellsD, lenB, fillD, thirds, entN, setE, sizeE, addE, setL, setN, putE, env0, eqCs, eqAux, eqC, bA, bO, bN, bE, negB, kEq, isShr, lendL, lend, frz, frzL, zRow, closed, closedL, rowsOf, binI, retK, retG, atRet, retD, lendO, resL, resD, oneD, renD, renL, renE, renEs, rho, putAll, entsN, List.append, List.nil_append, List.cons_append, List.append_nil, cond, Nat.reduceBEq, Nat.reduceAdd, Nat.beq]
  refine ⟨fun hi => ?_, fun hi => ?_⟩
  · have hi : i ≤ s.length := by simpa using hi
    obtain ⟨h5, h6, h7⟩ := h3 hi
    have hsl : ∀ j : Int, j = i → List.drop (fr : Int).toNat (List.take j.toNat s) = (s.drop fr).take (i - fr) := fun j hj => by
      rw [hj, Int.toNat_natCast, Int.toNat_natCast, List.drop_take]
    refine ⟨fun hne => ?_, fun hc => ?_, fun hc => ?_⟩
    · simp only [decide_eq_false_iff_not] at hne
      exact ⟨by omega, by omega⟩
    · refine ⟨⟨by omega, by omega, by omega⟩, ⟨rfl, rfl, rfl, rfl, by rw [sL_len]; simp; omega⟩, ?_⟩
      refine ⟨by simp only [fits]; omega, by simp only [fits]; omega, ?_⟩
      rw [hsl _ rfl]
      have hp : b ∉ (s.drop fr).take (i - fr) := h7
      have hout : i < s.length → (out ++ [(s.drop fr).take (i - fr)]) ++ cutL b (s.drop (i + 1)) = cutL b s := fun hlt => by
        have hb : s[i] = b := by
          simp only [Bool.or_eq_true, decide_eq_true_eq] at hc
          rcases hc with hc | hc
          · omega
          · apply UInt8.toNat_inj.1
            have e : s.getD (i : Int).toNat 0 = s[i] := by simp [hlt]
            rw [e] at hc; omega
        have e : s.drop fr = (s.drop fr).take (i - fr) ++ b :: s.drop (i + 1) := by
          conv => lhs; rw [← List.take_append_drop (i - fr) (s.drop fr)]
          rw [List.drop_drop, show fr + (i - fr) = i by omega, List.drop_eq_getElem_cons hlt, hb]
        rw [← h6]
        conv => rhs; rw [e]
        rw [cutL_cut hp]; simp
      have hlast : i = s.length → out ++ [(s.drop fr).take (i - fr)] = cutL b s := fun he => by
        subst he
        have e : (s.drop fr).take (s.length - fr) = s.drop fr := List.take_of_length_le (by simp)
        rw [e] at hp ⊢
        rw [← h6, cutL_no hp]
      refine again (ih ⟨(out ++ [(s.drop fr).take (i - fr)], i + 1, i + 1), by dsimp only; simp; omega, by dsimp only; omega, fun h => ⟨Nat.le_refl _, hout (by dsimp only at h; omega), by simp⟩, fun h => hlast (by dsimp only at h; omega)⟩ (by dsimp only; omega)) ?_ ?_ rfl rfl
      · refine ⟨rfl, rfl, ?_, rfl, rfl, trivial⟩
        dsimp only; rw [List.length_append]; rfl
      · refine ⟨rfl, ?_, trivial⟩
        simp [sL]
    · refine ⟨by simp only [fits]; omega, ?_⟩
      simp only [Bool.or_eq_false_iff, decide_eq_false_iff_not] at hc
      have hlt : i < s.length := by omega
      have e : s.getD (i : Int).toNat 0 = s[i] := by simp [hlt]
      have hb : s[i] ≠ b := fun hb => hc.2 (by rw [e, hb])
      refine again (ih ⟨(out, fr, i + 1), by dsimp only; omega, by dsimp only; omega, fun h => ⟨by dsimp only; omega, h6, ?_⟩, fun h => by dsimp only at h; omega⟩ (by dsimp only; omega)) ?_ ?_ rfl rfl
      · dsimp only
        rw [show i + 1 - fr = (i - fr) + 1 by omega, List.take_succ_eq_append_getElem (by simp; omega)]
        simp only [List.mem_append, List.mem_singleton, not_or]
        refine ⟨h7, fun hb2 => hb ?_⟩
        rw [hb2, List.getElem_drop]
        congr 1; omega
      · exact ⟨rfl, rfl, rfl, rfl, rfl, trivial⟩
      · exact ⟨rfl, rfl, trivial⟩
  · have hi : i = s.length + 1 := by simp at hi; omega
    rw [h4 hi]
    exact ⟨rfl, rfl⟩

theorem sp_strings_genSplit {s : Bs} {b : UInt8} (hs : s.length < 100000000) : TSp 33 [.str s, .str [b], .int .i64 0, .int .i64 (-1)] (.ls 1 (sL (cutL b s))) := by
  have hcl := cutL_len b s
  have hct : s.count b ≤ s.length := List.count_le_length
  refine spo_strings_genSplit (by rfl) ?_
  dsimp only [c_strings_genSplit, r_strings_genSplit, run_skip, run_reg, plainB, ifB_true, run_seq, run_blk, run_exit, run_ret, run_ite, iteR, regK, thenK_nrm, thenK_exit, thenK_ret, thenR_nrm, thenR_exit, thenR_ret, blkK, keepS, keepE, runOps_nil, runOps_cons, goG_some, fpOk, foot, entOf, allN, memN, goOn_ok, goOn_call, goOn_row, goOn_arr, goOn_ask, goOn_put, goOn_prm, goOn_callK, goOn_callC, goOn_all, guardP, guardO, notInO, stepF, stepLd, stepSt, stepIxs, stepIxa, stepLen, stepApp, stepCpy, stepPick, stepSls, stepSst, stepSla, bareZ, evX, evL, evB, rd, get, subG, memG, freshG, notInG, hyps, gob, impP, allP, partD, partOf, isOne, isPtr, nth, takeN, dropN, cellsD, lenB, fillD, thirds, entN, setE, sizeE, addE, setL, setN, putE, env0, eqCs, eqAux, eqC, bA, bO, bN, bE, negB, kEq, isShr, lendL, lend, frz, frzL, zRow, closed, closedL, rowsOf, binI, retK, retG, atRet, retD, lendO, resL, resD, oneD, renD, renL, renE, renEs, rho, putAll, entsN, List.append, List.nil_append, List.cons_append, List.append_nil, cond, Nat.reduceBEq, Nat.reduceAdd, Nat.beq]
  refine ⟨fun h => by simp at h, fun _ => ⟨fun h => by simp at h, fun _ => ⟨fun _ => ?_, fun h => by simp at h⟩⟩⟩
  refine call_pure sp_strings_Count ?_
  dsimp only [run_skip, run_reg, plainB, ifB_true, run_seq, run_blk, run_exit, run_ret, run_ite, iteR, regK, thenK_nrm, thenK_exit, thenK_ret, thenR_nrm, thenR_exit, thenR_ret, blkK, keepS, keepE, runOps_nil, runOps_cons, goG_some, fpOk, foot, entOf, allN, memN, goOn_ok, goOn_call, goOn_row, goOn_arr, goOn_ask, goOn_put, goOn_prm, goOn_callK, goOn_callC, goOn_all, guardP, guardO, notInO, stepF, stepLd, stepSt, stepIxs, stepIxa, stepLen, stepApp, stepCpy, stepPick, stepSls, stepSst, stepSla, bareZ, evX, evL, evB, rd, get, subG, memG, freshG, notInG, hyps, gob, impP, allP, partD, partOf, isOne, isPtr, nth, takeN, dropN, cellsD, lenB, fillD, thirds, entN, setE, sizeE, addE, setL, setN, putE, env0, eqCs, eqAux, eqC, bA, bO, bN, bE, negB, kEq, isShr, lendL, lend, frz, frzL, zRow, closed, closedL, rowsOf, binI, retK, retG, atRet, retD, lendO, resL, resD, oneD, renD, renL, renE, renEs, rho, putAll, entsN, List.append, List.nil_append, List.cons_append, List.append_nil, cond, Nat.reduceBEq, Nat.reduceAdd, Nat.beq]
  rw [show min ((s.count b : Nat) + 1 : Int) ((s.length : Nat) + 1) = (s.count b : Nat) + 1 by omega]
  generalize hN : s.count b = cnt at *
  refine ⟨by simp only [fits]; omega, by simp only [fits]; omega, ⟨by omega, by omega, by omega⟩, by simp only [fits]; omega, ?_⟩
  refine loop_ind (α := {x : List Bs × Bs // x.1 ++ cutL b x.2 = cutL b s ∧ x.2.length ≤ s.length}) (fun x => ⟨[(0, [], .str x.1.2), (1, [], .str [b]), (2, [], .int .i64 0), (3, [], .int .i64 ((cnt : Int) + 1 - 1)), (9, [], .own 1 1), (10, [], .int .i64 x.1.1.length)], [.arr 9 1 0 [], .arr 9 1 1 (sL (x.1.1 ++ List.replicate (cnt + 1 - x.1.1.length) []))]⟩) (fun x => cnt + 1 - x.1.1.length) ?_ ⟨([], s), by simp⟩ (by dsimp only; rw [show ((cnt : Int) + 1).toNat = cnt + 1 by omega]; simp [sL])
  rintro ⟨⟨out, u⟩, h1, h2⟩ I ih
  dsimp only at h1 h2
  have hl : out.length + (cutL b u).length = cnt + 1 := by rw [← hcl, ← h1, List.length_append]
  have hu : 0 < (cutL b u).length := List.length_pos_iff.2 (cutL_ne b u)
  have hrl : (sL (out ++ List.replicate (cnt + 1 - out.length) [])).length = cnt + 1 := by simp [sL]; omega
  have hrow : (sL (out ++ List.replicate (cnt + 1 - out.length) []))[(out.length : Int).toNat]? = some (.str []) := by
    rw [Int.toNat_natCast, sL_at (by simp; omega)]
    congr 2
    rw [List.getElem_append_right (Nat.le_refl _)]; simp
  have hset : ∀ p : Bs, (sL (out ++ List.replicate (cnt + 1 - out.length) [])).set (out.length : Int).toNat (.str p) = sL ((out ++ [p]) ++ List.replicate (cnt + 1 - (out ++ [p]).length) []) := fun p => by
    rw [Int.toNat_natCast]
    simp only [sL, ← List.map_set]
    congr 1
    rw [List.set_append_right _ _ (Nat.le_refl _), Nat.sub_self, show cnt + 1 - out.length = (cnt + 1 - (out ++ [p]).length) + 1 by simp; omega, List.replicate_succ]
    simp
  dsimp only [run_skip, run_reg, plainB, ifB_true, run_seq, run_blk, run_exit, run_ret, run_ite, iteR, regK, thenK_nrm, thenK_exit, thenK_ret, thenR_nrm, thenR_exit, thenR_ret, blkK, keepS, keepE, runOps_nil, runOps_cons, goG_some, fpOk, foot, entOf, allN, memN, goOn_ok, goOn_call, goOn_row, goOn_arr, goOn_ask, goOn_put, goOn_prm, goOn_callK, goOn_callC, goOn_all, guardP, guardO, notInO, stepF, stepLd, stepSt, stepIxs, stepIxa, stepLen, stepApp, stepCpy, stepPick, stepSls, stepSst, stepSla, bareZ, evX, evL, evB, rd, get, subG, memG, freshG, notInG, hyps, gob, impP, allP, partD, partOf, isOne, isPtr, nth, takeN, dropN, cellsD, lenB, fillD, thirds, entN, setE, sizeE, addE, setL, setN, putE, env0, eqCs, eqAux, eqC, bA, bO, bN, bE, negB, kEq, isShr, lendL, lend, frz, frzL, zRow, closed, closedL, rowsOf, binI, retK, retG, atRet, retD, lendO, resL, resD, oneD, renD, renL, renE, renEs, rho, putAll, entsN, List.append, List.nil_append, List.cons_append, List.append_nil, cond, Nat.reduceBEq, Nat.reduceAdd, Nat.beq]
  refine ⟨fun hi => ?_, fun hi => ?_⟩
  · have hi : out.length < cnt := by simp only [decide_eq_true_eq] at hi; omega
    refine call_pure sp_strings_Index ?_
    dsimp only [run_skip, run_reg, plainB, ifB_true, run_seq, run_blk, run_exit, run_ret, run_ite, iteR, regK, thenK_nrm, thenK_exit, thenK_ret, thenR_nrm, thenR_exit, thenR_ret, blkK, keepS, keepE, runOps_nil, runOps_cons, goG_some, fpOk, foot, entOf, allN, memN, goOn_ok, goOn_call, goOn_row, goOn_arr, goOn_ask, goOn_put, goOn_prm, goOn_callK, goOn_callC, goOn_all, guardP, guardO, notInO, stepF, stepLd, stepSt, stepIxs, stepIxa, stepLen, stepApp, stepCpy, stepPick, stepSls, stepSst, stepSla, bareZ, evX, evL, evB, rd, get, subG, memG, freshG, notInG, hyps, gob, impP, allP, partD, partOf, isOne, isPtr, nth, takeN, dropN, cellsD, lenB, fillD, thirds, entN, setE, sizeE, addE, setL, setN, putE, env0, eqCs, eqAux, eqC, bA, bO, bN, bE, negB, kEq, isShr, lendL, lend, frz, frzL, zRow, closed, closedL, rowsOf, binI, retK, retG, atRet, retD, lendO, resL, resD, oneD, renD, renL, renE, renEs, rho, putAll, entsN, List.append, List.nil_append, List.cons_append, List.append_nil, cond, Nat.reduceBEq, Nat.reduceAdd, Nat.beq]
    rcases cutc_or b u with h3 | ⟨p, q, rfl, h3⟩
    · rw [cutL_no h3] at hl; simp at hl; omega
    rw [cindex_cut h3]
    refine ⟨fun h => by simp at h; omega, fun _ => ?_⟩
    rw [cutL_cut h3] at h1
    have etk : List.drop (Int.toNat 0) (List.take ((p.length : Int) + 0).toNat (p ++ b :: q)) = p := by simp
    have edr : List.drop ((p.length : Int) + ([b].length : Nat)).toNat (List.take (((p ++ b :: q).length : Nat) : Int).toNat (p ++ b :: q)) = q := by
      rw [Int.toNat_natCast, List.take_length, show ((p.length : Int) + ([b].length : Nat)).toNat = (p ++ [b]).length by simp, show p ++ b :: q = (p ++ [b]) ++ q by simp, List.drop_left]
    rw [etk]
    have hpq : p.length ≤ (p ++ b :: q).length := by simp
    refine ⟨by simp only [fits]; omega, ⟨by omega, by omega, by omega⟩, ⟨rfl, rfl, by omega, by rw [hrl]; omega⟩, ⟨rfl, rfl⟩, putrow_intro (hs := []) (.str []) (.str p) hrow rfl ?_⟩
    dsimp only [run_skip, run_reg, plainB, ifB_true, run_seq, run_blk, run_exit, run_ret, run_ite, iteR, regK, thenK_nrm, thenK_exit, thenK_ret, thenR_nrm, thenR_exit, thenR_ret, blkK, keepS, keepE, runOps_nil, runOps_cons, goG_some, fpOk, foot, entOf, allN, memN, goOn_ok, goOn_call, goOn_row, goOn_arr, goOn_ask, goOn_put, goOn_prm, goOn_callK, goOn_callC, goOn_all, guardP, guardO, notInO, stepF, stepLd, stepSt, stepIxs, stepIxa, stepLen, stepApp, stepCpy, stepPick, stepSls, stepSst, stepSla, bareZ, evX, evL, evB, rd, get, subG, memG, freshG, notInG, hyps, gob, impP, allP, partD, partOf, isOne, isPtr, nth, takeN, dropN, cellsD, lenB, fillD, thirds, entN, setE, sizeE, addE, setL, setN, putE, env0, eqCs, eqAux, eqC, bA, bO, bN, bE, negB, kEq, isShr, lendL, lend, frz, frzL, zRow, closed, closedL, rowsOf, binI, retK, retG, atRet, retD, lendO, resL, resD, oneD, renD, renL, renE, renEs, rho, putAll, entsN, List.append, List.nil_append, List.cons_append, List.append_nil, cond, Nat.reduceBEq, Nat.reduceAdd, Nat.beq]
    rw [hset, edr]
    have hb1 : (([b].length : Nat) : Int) = 1 := rfl
    refine ⟨by simp only [fits]; rw [hb1]; omega, ⟨by omega, by rw [hb1]; simp; omega, by omega⟩, by simp only [fits]; omega, ?_⟩
    refine again (ih ⟨(out ++ [p], q), by rw [← h1]; simp, by dsimp only; simp at h2; omega⟩ (by dsimp only; simp; omega)) ?_ ?_ rfl rfl
    · refine ⟨rfl, rfl, rfl, rfl, rfl, ?_, trivial⟩
      dsimp only; rw [List.length_append]; rfl
    · exact ⟨rfl, rfl, trivial⟩
  · have hi : cnt ≤ out.length := by simp only [decide_eq_false_iff_not] at hi; omega
    have h5 : b ∉ u := fun h => by
      rcases cutc_or b u with h3 | ⟨p, q, rfl, h3⟩
      · exact h3 h
      · rw [cutL_cut h3] at hl
        have := List.length_pos_iff.2 (cutL_ne b q)
        simp at hl; omega
    have h6 : cutL b s = out ++ [u] := by rw [← h1, cutL_no h5]
    have h7 : out.length = cnt := by rw [cutL_no h5] at hl; simp at hl; omega
    refine ⟨⟨rfl, rfl, by omega, by rw [hrl]; omega⟩, ⟨rfl, rfl⟩, putrow_intro (hs := []) (.str []) (.str u) hrow rfl ?_⟩
    dsimp only [run_skip, run_reg, plainB, ifB_true, run_seq, run_blk, run_exit, run_ret, run_ite, iteR, regK, thenK_nrm, thenK_exit, thenK_ret, thenR_nrm, thenR_exit, thenR_ret, blkK, keepS, keepE, runOps_nil, runOps_cons, goG_some, fpOk, foot, entOf, allN, memN, goOn_ok, goOn_call, goOn_row, goOn_arr, goOn_ask, goOn_put, goOn_prm, goOn_callK, goOn_callC, goOn_all, guardP, guardO, notInO, stepF, stepLd, stepSt, stepIxs, stepIxa, stepLen, stepApp, stepCpy, stepPick, stepSls, stepSst, stepSla, bareZ, evX, evL, evB, rd, get, subG, memG, freshG, notInG, hyps, gob, impP, allP, partD, partOf, isOne, isPtr, nth, takeN, dropN, cellsD, lenB, fillD, thirds, entN, setE, sizeE, addE, setL, setN, putE, env0, eqCs, eqAux, eqC, bA, bO, bN, bE, negB, kEq, isShr, lendL, lend, frz, frzL, zRow, closed, closedL, rowsOf, binI, retK, retG, atRet, retD, lendO, resL, resD, oneD, renD, renL, renE, renEs, rho, putAll, entsN, List.append, List.nil_append, List.cons_append, List.append_nil, cond, Nat.reduceBEq, Nat.reduceAdd, Nat.beq]
    rw [hset]
    have e : cnt + 1 - (out ++ [u]).length = 0 := by simp; omega
    rw [e, List.replicate_zero, List.append_nil, h6]
    have h8 : (sL (out ++ [u])).length = cnt + 1 := by rw [sL_len]; simp; omega
    have h9 : ((out.length : Int) + 1).toNat = (sL (out ++ [u])).length := by omega
    rw [h9, List.take_length]
    refine ⟨by simp only [fits]; omega, ⟨rfl, rfl, by omega, by omega, by omega⟩, ?_⟩
    rfl
theorem sp_strings_Split {s : Bs} {b : UInt8} (hs : s.length < 100000000) : TSp 19 [.str s, .str [b]] (.ls 1 (sL (cutL b s))) := by
  refine spo_strings_Split (by rfl) ?_
  dsimp only [c_strings_Split, r_strings_Split, run_skip, run_reg, plainB, ifB_true, run_seq, run_blk, run_exit, run_ret, run_ite, iteR, regK, thenK_nrm, thenK_exit, thenK_ret, thenR_nrm, thenR_exit, thenR_ret, blkK, keepS, keepE, runOps_nil, runOps_cons, goG_some, fpOk, foot, entOf, allN, memN, goOn_ok, goOn_call, goOn_row, goOn_arr, goOn_ask, goOn_put, goOn_prm, goOn_callK, goOn_callC, goOn_all, guardP, guardO, notInO, stepF, stepLd, stepSt, stepIxs, stepIxa, stepLen, stepApp, stepCpy, stepPick, stepSls, stepSst, stepSla, bareZ, evX, evL, evB, rd, get, subG, memG, freshG, notInG, hyps, gob, impP, allP, partD, partOf, isOne, isPtr, nth, takeN, dropN, cellsD, lenB, fillD, thirds, entN, setE, sizeE, addE, setL, setN, putE, env0, eqCs, eqAux, eqC, bA, bO, bN, bE, negB, kEq, isShr, lendL, lend, frz, frzL, zRow, closed, closedL, rowsOf, binI, retK, retG, atRet, retD, lendO, resL, resD, oneD, renD, renL, renE, renEs, rho, putAll, entsN, List.append, List.nil_append, List.cons_append, List.append_nil, cond, Nat.reduceBEq, Nat.reduceAdd, Nat.beq]
  refine call_pure (sp_strings_genSplit hs) ?_
  dsimp only [run_skip, run_reg, plainB, ifB_true, run_seq, run_blk, run_exit, run_ret, run_ite, iteR, regK, thenK_nrm, thenK_exit, thenK_ret, thenR_nrm, thenR_exit, thenR_ret, blkK, keepS, keepE, runOps_nil, runOps_cons, goG_some, fpOk, foot, entOf, allN, memN, goOn_ok, goOn_call, goOn_row, goOn_arr, goOn_ask, goOn_put, goOn_prm, goOn_callK, goOn_callC, goOn_all, guardP, guardO, notInO, stepF, stepLd, stepSt, stepIxs, stepIxa, stepLen, stepApp, stepCpy, stepPick, stepSls, stepSst, stepSla, bareZ, evX, evL, evB, rd, get, subG, memG, freshG, notInG, hyps, gob, impP, allP, partD, partOf, isOne, isPtr, nth, takeN, dropN, cellsD, lenB, fillD, thirds, entN, setE, sizeE, addE, setL, setN, putE, env0, eqCs, eqAux, eqC, bA, bO, bN, bE, negB, kEq, isShr, lendL, lend, frz, frzL, zRow, closed, closedL, rowsOf, binI, retK, retG, atRet, retD, lendO, resL, resD, oneD, renD, renL, renE, renEs, rho, putAll, entsN, List.append, List.nil_append, List.cons_append, List.append_nil, cond, Nat.reduceBEq, Nat.reduceAdd, Nat.beq]
end Go.AM
