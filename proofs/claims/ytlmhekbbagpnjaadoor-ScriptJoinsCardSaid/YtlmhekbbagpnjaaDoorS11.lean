
/- Chapter 63: Parse. -/
import Derived.Test.YtlmhekbbagpnjaaDoorS9
set_option linter.all false
namespace Go.AM
open Go Go.Proofs Go.RowKit

def skipB (s : Bs) : Bool := decide (s = []) || decide (((s.getD (Int.toNat 0) 0).toNat : Int) = 35)
def goP (f : Bool → Bs → Cm × Int) : List Bs → Nat → List Cm → List Cm × Int × Int
  | [], _, acc => if decide ((acc.length : Int) = 0) then ([], 0, 13) else (acc, 0, 0)
  | s :: l, i, acc =>
    if skipB s then goP f l (i + 1) acc
    else if decide ((f (decide ((acc.length : Int) = 0)) s).2 = 0) then
      if decide (1000 ≤ (acc.length : Int)) then ([], (i : Int) + 1, 5)
      else goP f l (i + 1) (acc ++ [{ (f (decide ((acc.length : Int) = 0)) s).1 with line := (i : Int) + 1 }])
    else ([], (i : Int) + 1, (f (decide ((acc.length : Int) = 0)) s).2)
theorem goP_drop {f : Bool → Bs → Cm × Int} {l : List Bs} {i j : Nat} {acc : List Cm} (h : i < l.length) :
    goP f (l.drop i) j acc = if skipB l[i] then goP f (l.drop (i + 1)) (j + 1) acc
    else if decide ((f (decide ((acc.length : Int) = 0)) l[i]).2 = 0) then
      if decide (1000 ≤ (acc.length : Int)) then ([], (j : Int) + 1, 5)
      else goP f (l.drop (i + 1)) (j + 1) (acc ++ [{ (f (decide ((acc.length : Int) = 0)) l[i]).1 with line := (j : Int) + 1 }])
    else ([], (j : Int) + 1, (f (decide ((acc.length : Int) = 0)) l[i]).2) := by
  rw [List.drop_eq_getElem_cons h]; rfl
def lineP (first : Bool) (s : Bs) : Cm × Int := if decide ((readP s).2 = 0) then ((readP s).1, checkS (readP s).1 first) else readP s
def parseW (f : Bool → Bs → Cm × Int) (s : Bs) : List Cm × Int × Int := if decide (65536 < (s.length : Int)) then ([], 0, 4) else goP f (cutL 10 s) 0 []
def resP (x : List Cm × Int × Int) : D := .tup [.ls 4 (cL x.1), .int .i64 x.2.1, .int .i64 x.2.2]
/-- What is read is built. -/
structure Good (c : Cm) (k : Nat) : Prop where
  lt : k < 16
  op : c.op = k
  built : builtB c = true
  ok : CmOk c
theorem readP_good {s : Bs} (hs : s.length < 900000) (h : (readP s).2 = 0) : ∃ k, Good (readP s).1 k ∧ (readP s).1.line = 0 := by
  unfold readP at h ⊢
  cases hop : opS ((cutL 32 s).getD 0 []) with
  | none => rw [hop] at h; cases h
  | some k =>
    rw [hop] at h
    dsimp only at h ⊢
    obtain ⟨hk, _⟩ := opS_some hop
    unfold readK at h ⊢
    have hok := rdB_ok (f := numP) (at_ := atP k) hs (line := 0) (op := k)
    rcases hr : rdB numP (atP k) ((cutL 32 s).drop 1) 0 [] [] with ⟨b, ns, ws⟩
    rw [hr] at h hok
    cases b with
    | false => cases h
    | true =>
      dsimp only at h ⊢
      by_cases hb : builtB ⟨0, k, ns, ws⟩ = true
      · rw [if_pos hb]
        exact ⟨k, ⟨hk, rfl, hb, hok⟩, rfl⟩
      · rw [if_neg hb] at h; cases h
theorem Good.three {c : Cm} {k : Nat} (h : Good c k) : k = 4 → 3 ≤ c.nums.length := by
  rintro rfl
  have h1 := (built_len h.op h.built).1
  have h2 : (3 : Int) ≤ c.nums.length := h1
  omega
theorem sp_script_Parse {s : Bs} (hs : s.length < 900000) : TSp 10 [.str s] (resP (parseW lineP s)) := by
  refine spo_script_Parse (by rfl) ?_
  dsimp only [c_script_Parse, r_script_Parse, run_skip, run_reg, plainB, ifB_true, run_seq, run_blk, run_exit, run_ret, run_ite, iteR, regK, thenK_nrm, thenK_exit, thenK_ret, thenR_nrm, thenR_exit, thenR_ret, blkK, keepS, keepE, runOps_nil, runOps_cons, goG_some, fpOk, foot, entOf, allN, memN, goOn_ok, goOn_call, goOn_row, goOn_arr, goOn_ask, goOn_put, goOn_prm, goOn_callK, goOn_callC, goOn_all, guardP, guardO, notInO, stepF, stepLd, stepSt, stepIxs, stepIxa, stepLen, stepApp, stepCpy, stepPick, stepSls, stepSst, stepSla, bareZ, evX, evL, evB, rd, get, subG, memG, freshG, notInG, hyps, gob, impP, allP, partD, partOf, isOne, isPtr, nth, takeN, dropN, cellsD, lenB, fillD, thirds, entN, setE, sizeE, addE, setL, setN, putE, env0, eqCs, eqAux, eqC, bA, bO, bN, bE, negB, kEq, isShr, lendL, lend, frz, frzL, zRow, closed, closedL, rowsOf, binI, retK, retG, atRet, retD, lendO, resL, resD, oneD, renD, renL, renE, renEs, rho, putAll, entsN, List.append, List.nil_append, List.cons_append, List.append_nil, cond, Nat.reduceBEq, Nat.reduceAdd, Nat.beq]
  unfold parseW
  refine ⟨fun h => ?_, fun h => ?_⟩
  · rw [if_pos h]; exact ⟨rfl, rfl⟩
  rw [if_neg (by rw [h]; simp)]
  simp only [decide_eq_false_iff_not] at h
  refine call_pure (sp_strings_Split (by omega)) ?_
  dsimp only [run_skip, run_reg, plainB, ifB_true, run_seq, run_blk, run_exit, run_ret, run_ite, iteR, regK, thenK_nrm, thenK_exit, thenK_ret, thenR_nrm, thenR_exit, thenR_ret, blkK, keepS, keepE, runOps_nil, runOps_cons, goG_some, fpOk, foot, entOf, allN, memN, goOn_ok, goOn_call, goOn_row, goOn_arr, goOn_ask, goOn_put, goOn_prm, goOn_callK, goOn_callC, goOn_all, guardP, guardO, notInO, stepF, stepLd, stepSt, stepIxs, stepIxa, stepLen, stepApp, stepCpy, stepPick, stepSls, stepSst, stepSla, bareZ, evX, evL, evB, rd, get, subG, memG, freshG, notInG, hyps, gob, impP, allP, partD, partOf, isOne, isPtr, nth, takeN, dropN, cellsD, lenB, fillD, thirds, entN, setE, sizeE, addE, setL, setN, putE, env0, eqCs, eqAux, eqC, bA, bO, bN, bE, negB, kEq, isShr, lendL, lend, frz, frzL, zRow, closed, closedL, rowsOf, binI, retK, retG, atRet, retD, lendO, resL, resD, oneD, renD, renL, renE, renEs, rho, putAll, entsN, List.append, List.nil_append, List.cons_append, List.append_nil, cond, Nat.reduceBEq, Nat.reduceAdd, Nat.beq]
  simp only [sL_len]
  have hcl := cutL_len 10 s
  have hct : s.count 10 ≤ s.length := List.count_le_length
  have hby : ∀ w ∈ cutL 10 s, w.length < 900000 := fun w hw => by have := cutL_le 10 s w hw; omega
  generalize cutL 10 s = L at *
  refine loop_ind (α := {x : Nat × List Cm // goP lineP (L.drop x.1) x.1 x.2 = goP lineP L 0 [] ∧ x.1 ≤ L.length ∧ x.2.length ≤ x.1})
    (fun x => ⟨[(5, [], .own 1 x.1.2.length), (14, [], .ls 1 (sL L)), (15, [], .int .i64 L.length), (16, [], .int .i64 x.1.1)], [.arr 42 4 0 [], .arr 42 4 x.1.2.length (cL x.1.2)]⟩) (fun x => L.length - x.1.1) ?_ ⟨(0, []), by simp⟩ rfl
  rintro ⟨⟨i, acc⟩, h1, h2, h3⟩ I ih
  dsimp only at h1 h2 h3
  dsimp only [run_skip, run_reg, plainB, ifB_true, run_seq, run_blk, run_exit, run_ret, run_ite, iteR, regK, thenK_nrm, thenK_exit, thenK_ret, thenR_nrm, thenR_exit, thenR_ret, blkK, keepS, keepE, runOps_nil, runOps_cons, goG_some, fpOk, foot, entOf, allN, memN, goOn_ok, goOn_call, goOn_row, goOn_arr, goOn_ask, goOn_put, goOn_prm, goOn_callK, goOn_callC, goOn_all, guardP, guardO, notInO, stepF, stepLd, stepSt, stepIxs, stepIxa, stepLen, stepApp, stepCpy, stepPick, stepSls, stepSst, stepSla, bareZ, evX, evL, evB, rd, get, subG, memG, freshG, notInG, hyps, gob, impP, allP, partD, partOf, isOne, isPtr, nth, takeN, dropN, cellsD, lenB, fillD, thirds, entN, setE, sizeE, addE, setL, setN, putE, env0, eqCs, eqAux, eqC, bA, bO, bN, bE, negB, kEq, isShr, lendL, lend, frz, frzL, zRow, closed, closedL, rowsOf, binI, retK, retG, atRet, retD, lendO, resL, resD, oneD, renD, renL, renE, renEs, rho, putAll, entsN, List.append, List.nil_append, List.cons_append, List.append_nil, cond, Nat.reduceBEq, Nat.reduceAdd, Nat.beq]
  refine ⟨fun hi => ?_, fun hi => ?_⟩
  · have hi : i < L.length := by simpa using hi
    rw [goP_drop hi] at h1
    have hwl := hby _ (List.getElem_mem hi)
    refine ⟨⟨rfl, by omega, by rw [sL_len]; omega⟩, row_intro _ (.str L[i]) (show _ = some (D.str L[i]) from by rw [Int.toNat_natCast]; exact sL_at hi) rfl ?_⟩
    dsimp only [run_skip, run_reg, plainB, ifB_true, run_seq, run_blk, run_exit, run_ret, run_ite, iteR, regK, thenK_nrm, thenK_exit, thenK_ret, thenR_nrm, thenR_exit, thenR_ret, blkK, keepS, keepE, runOps_nil, runOps_cons, goG_some, fpOk, foot, entOf, allN, memN, goOn_ok, goOn_call, goOn_row, goOn_arr, goOn_ask, goOn_put, goOn_prm, goOn_callK, goOn_callC, goOn_all, guardP, guardO, notInO, stepF, stepLd, stepSt, stepIxs, stepIxa, stepLen, stepApp, stepCpy, stepPick, stepSls, stepSst, stepSla, bareZ, evX, evL, evB, rd, get, subG, memG, freshG, notInG, hyps, gob, impP, allP, partD, partOf, isOne, isPtr, nth, takeN, dropN, cellsD, lenB, fillD, thirds, entN, setE, sizeE, addE, setL, setN, putE, env0, eqCs, eqAux, eqC, bA, bO, bN, bE, negB, kEq, isShr, lendL, lend, frz, frzL, zRow, closed, closedL, rowsOf, binI, retK, retG, atRet, retD, lendO, resL, resD, oneD, renD, renL, renE, renEs, rho, putAll, entsN, List.append, List.nil_append, List.cons_append, List.append_nil, cond, Nat.reduceBEq, Nat.reduceAdd, Nat.beq]
    refine ⟨fun hne => ?_, fun hs => ?_, fun hs => ?_⟩
    · have : 0 < (L[i]).length := List.length_pos_iff.2 (by simpa using hne)
      exact ⟨by omega, by omega⟩
    · rw [if_pos (show skipB L[i] = true from hs)] at h1
      refine ⟨by simp only [fits]; omega, ?_⟩
      refine again (ih ⟨(i + 1, acc), h1, by dsimp only; omega, by dsimp only; omega⟩ (by dsimp only; omega)) ?_ ?_ rfl rfl
      · exact ⟨rfl, rfl, rfl, rfl, trivial⟩
      · exact ⟨rfl, rfl, trivial⟩
    · rw [if_neg (by rw [show skipB L[i] = false from hs]; simp)] at h1
      refine call_pure (sp_script_read hwl) ?_
      have hgood := readP_good hwl
      have hlp : ∀ b, lineP b L[i] = if decide ((readP L[i]).2 = 0) then ((readP L[i]).1, checkS (readP L[i]).1 b) else readP L[i] := fun _ => rfl
      simp only [hlp] at h1
      dsimp only [resC, cmD, run_skip, run_reg, plainB, ifB_true, run_seq, run_blk, run_exit, run_ret, run_ite, iteR, regK, thenK_nrm, thenK_exit, thenK_ret, thenR_nrm, thenR_exit, thenR_ret, blkK, keepS, keepE, runOps_nil, runOps_cons, goG_some, fpOk, foot, entOf, allN, memN, goOn_ok, goOn_call, goOn_row, goOn_arr, goOn_ask, goOn_put, goOn_prm, goOn_callK, goOn_callC, goOn_all, guardP, guardO, notInO, stepF, stepLd, stepSt, stepIxs, stepIxa, stepLen, stepApp, stepCpy, stepPick, stepSls, stepSst, stepSla, bareZ, evX, evL, evB, rd, get, subG, memG, freshG, notInG, hyps, gob, impP, allP, partD, partOf, isOne, isPtr, nth, takeN, dropN, cellsD, lenB, fillD, thirds, entN, setE, sizeE, addE, setL, setN, putE, env0, eqCs, eqAux, eqC, bA, bO, bN, bE, negB, kEq, isShr, lendL, lend, frz, frzL, zRow, closed, closedL, rowsOf, binI, retK, retG, atRet, retD, lendO, resL, resD, oneD, renD, renL, renE, renEs, rho, putAll, entsN, List.append, List.nil_append, List.cons_append, List.append_nil, cond, Nat.reduceBEq, Nat.reduceAdd, Nat.beq]
      rcases hr : readP L[i] with ⟨c, e⟩
      rw [hr] at h1 hgood
      dsimp only at h1 hgood ⊢
      simp only [cL_len]
      refine ⟨fun he => ?_, fun he => ?_⟩
      · rw [if_pos he] at h1
        simp only [decide_eq_true_eq] at he
        subst he
        obtain ⟨k, hg, hl0⟩ := hgood rfl
        refine ⟨trivial, ?_⟩
        refine call_pure (show TSp _ [cmD c, .bool (decide ((acc.length : Int) = 0))] _ from sp_script_check hg.lt hg.op hg.ok.nums hg.three) ?_
        dsimp only at h1
        generalize checkS c (decide ((acc.length : Int) = 0)) = e at *
        dsimp only [run_skip, run_reg, plainB, ifB_true, run_seq, run_blk, run_exit, run_ret, run_ite, iteR, regK, thenK_nrm, thenK_exit, thenK_ret, thenR_nrm, thenR_exit, thenR_ret, blkK, keepS, keepE, runOps_nil, runOps_cons, goG_some, fpOk, foot, entOf, allN, memN, goOn_ok, goOn_call, goOn_row, goOn_arr, goOn_ask, goOn_put, goOn_prm, goOn_callK, goOn_callC, goOn_all, guardP, guardO, notInO, stepF, stepLd, stepSt, stepIxs, stepIxa, stepLen, stepApp, stepCpy, stepPick, stepSls, stepSst, stepSla, bareZ, evX, evL, evB, rd, get, subG, memG, freshG, notInG, hyps, gob, impP, allP, partD, partOf, isOne, isPtr, nth, takeN, dropN, cellsD, lenB, fillD, thirds, entN, setE, sizeE, addE, setL, setN, putE, env0, eqCs, eqAux, eqC, bA, bO, bN, bE, negB, kEq, isShr, lendL, lend, frz, frzL, zRow, closed, closedL, rowsOf, binI, retK, retG, atRet, retD, lendO, resL, resD, oneD, renD, renL, renE, renEs, rho, putAll, entsN, List.append, List.nil_append, List.cons_append, List.append_nil, cond, Nat.reduceBEq, Nat.reduceAdd, Nat.beq]
        simp only [cL_len]
        refine ⟨fun _ => trivial, fun h5 => ?_, fun h5 => ?_⟩
        · simp only [Bool.and_eq_true] at h5
          rw [if_pos h5.1, if_pos h5.2] at h1
          refine ⟨fun _ => ?_, fun h => by simp at h⟩
          rw [← h1]
          exact ⟨by simp only [fits]; omega, trivial, rfl⟩
        · refine ⟨fun h6 => ?_, fun h6 => ?_⟩
          · have h6 : decide (e = 0) = false := by simpa using h6
            rw [if_neg (by rw [h6]; simp)] at h1
            rw [← h1]
            exact ⟨by simp only [fits]; omega, trivial, rfl⟩
          · have h6 : decide (e = 0) = true := by simpa using h6
            rw [h6] at h5
            have h5 : decide (1000 ≤ (acc.length : Int)) = false := by simpa using h5
            rw [if_pos h6, if_neg (by rw [h5]; simp)] at h1
            simp only [decide_eq_false_iff_not] at h5
            refine ⟨by simp only [fits]; omega, ⟨trivial, trivial, trivial, trivial, by simp; omega⟩, ?_⟩
            refine ⟨by simp only [fits]; omega, ?_⟩
            refine again (ih ⟨(i + 1, acc ++ [{ c with line := (i : Int) + 1 }]), h1, by dsimp only; omega, by dsimp only; simp; omega⟩ (by dsimp only; omega)) ?_ ?_ rfl rfl
            · refine ⟨?_, rfl, rfl, rfl, trivial⟩
              dsimp only; rw [List.length_append]; rfl
            · refine ⟨rfl, ?_, trivial⟩
              dsimp only; rw [List.length_append]; simp [cL, cmD]
      · have hne : (!decide (e = 0)) = true := by rw [he]; rfl
        rw [he] at h1
        simp only [if_neg (show ¬ (false = true) by simp), he] at h1
        refine ⟨fun _ => trivial, fun h5 => ?_, fun h5 => ?_⟩
        · rw [he] at h5; simp at h5
        · refine ⟨fun _ => ?_, fun h6 => by rw [hne] at h6; cases h6⟩
          rw [← h1]
          exact ⟨by simp only [fits]; omega, trivial, rfl⟩
  · have hi : i = L.length := by simp at hi; omega
    subst hi
    rw [List.drop_length] at h1
    rw [← h1]
    simp only [cL_len]
    unfold goP
    refine ⟨trivial, fun h => ?_, fun h => ?_⟩
    · rw [if_pos h]; exact ⟨trivial, rfl⟩
    · rw [if_neg (by rw [h]; simp)]; exact ⟨trivial, rfl⟩
end Go.AM
