
/- Chapter 63: a line that is read. -/
import Derived.Test.YtlmhekbbagpnjaaDoorS8
set_option linter.all false
namespace Go.AM
open Go Go.Proofs Go.RowKit

/-- What words come to: the one at a place is kept, the others are numbers. -/
def rdB (f : Bs → Int) (at_ : Int) : List Bs → Nat → List Int → List Bs → Bool × List Int × List Bs
  | [], _, ns, ws => (true, ns, ws)
  | w :: l, i, ns, ws => if decide ((i : Int) = at_) then rdB f at_ l (i + 1) ns (ws ++ [w]) else if isNum w then rdB f at_ l (i + 1) (ns ++ [f w]) ws else (false, ns, ws)
theorem rdB_drop {f : Bs → Int} {at_ : Int} {l : List Bs} {i j : Nat} {ns : List Int} {ws : List Bs} (h : i < l.length) :
    rdB f at_ (l.drop i) j ns ws = if decide ((j : Int) = at_) then rdB f at_ (l.drop (i + 1)) (j + 1) ns (ws ++ [l[i]]) else if isNum l[i] then rdB f at_ (l.drop (i + 1)) (j + 1) (ns ++ [f l[i]]) ws else (false, ns, ws) := by
  rw [List.drop_eq_getElem_cons h]; rfl
def cm0 : Cm := ⟨0, 0, [], []⟩
def atP (k : Nat) : Int := if decide ((sh k).word = 0) then -1 else (sh k).ahead
def readK (k : Nat) (l : List Bs) : Cm × Int :=
  match rdB numP (atP k) l 0 [] [] with
  | (false, _, _) => (cm0, 2)
  | (true, ns, ws) => if builtB ⟨0, k, ns, ws⟩ then (⟨0, k, ns, ws⟩, 0) else (cm0, 2)
def readP (s : Bs) : Cm × Int :=
  match opS ((cutL 32 s).getD 0 []) with
  | none => (cm0, 11)
  | some k => readK k ((cutL 32 s).drop 1)
def resC (x : Cm × Int) : D := .tup [cmD x.1, .int .i64 x.2]
theorem rdB_words {f : Bs → Int} {at_ : Int} : ∀ (l : List Bs) (i : Nat) (ns : List Int) (ws : List Bs), ∀ w ∈ (rdB f at_ l i ns ws).2.2, w ∈ ws ∨ w ∈ l
  | [], _, _, _, w, h => .inl h
  | x :: l, i, ns, ws, w, h => by
    unfold rdB at h
    split at h
    · rcases rdB_words l _ _ _ w h with h | h
      · rcases List.mem_append.1 h with h | h
        · exact .inl h
        · right; simp at h; simp [h]
      · right; simp [h]
    · split at h
      · rcases rdB_words l _ _ _ w h with h | h
        · exact .inl h
        · right; simp [h]
      · exact .inl h
theorem rdB_len {f : Bs → Int} {at_ : Int} : ∀ (l : List Bs) (i : Nat) (ns : List Int) (ws : List Bs), (rdB f at_ l i ns ws).2.1.length + (rdB f at_ l i ns ws).2.2.length ≤ ns.length + ws.length + l.length
  | [], _, ns, ws => by simp [rdB]
  | x :: l, i, ns, ws => by
    unfold rdB
    split
    · have := rdB_len (f := f) (at_ := at_) l (i + 1) ns (ws ++ [x]); simp at this ⊢; omega
    · split
      · have := rdB_len (f := f) (at_ := at_) l (i + 1) (ns ++ [f x]) ws; simp at this ⊢; omega
      · simp
/-- A line's words' sizes. -/
theorem cut_bytes {s w : Bs} (hs : s.length < 900000) (h : w ∈ (cutL 32 s)) : w.length < 900000 := by
  have := cutL_le 32 s w h; omega
theorem cut_few {s : Bs} (hs : s.length < 900000) : (cutL 32 s).length ≤ 900000 := by
  have := cutL_len 32 s
  have h2 : s.count 32 ≤ s.length := List.count_le_length
  omega
theorem rdB_ok {f : Bs → Int} {at_ : Int} {s : Bs} (hs : s.length < 900000) {line op : Int} : CmOk ⟨line, op, (rdB f at_ ((cutL 32 s).drop 1) 0 [] []).2.1, (rdB f at_ ((cutL 32 s).drop 1) 0 [] []).2.2⟩ := by
  have h1 := rdB_len (f := f) (at_ := at_) ((cutL 32 s).drop 1) 0 [] []
  have h2 := cut_few hs
  simp only [List.length_nil, Nat.zero_add, List.length_drop] at h1
  refine ⟨by dsimp only; omega, by dsimp only; omega, fun w hw => ?_⟩
  rcases rdB_words _ _ _ _ w hw with h | h
  · simp at h
  · have := cut_bytes hs (List.mem_of_mem_drop h); omega
theorem head_row {l : List Bs} (h : l ≠ []) : (sL l)[Int.toNat 0]? = some (.str (l.getD 0 [])) := by
  cases l with
  | nil => exact absurd rfl h
  | cons w l => simp [sL]
theorem built42 (n : Int) : Tryd.prog.built 42 [(1, .int .i64 n)] = some [Value.int .i64 0, .int .i64 n, .slice none 0 0, .slice none 0 0].toArray := by kernel_rfl
theorem atP_eq {k i : Nat} : (!decide ((sh k).word = 0) && decide ((i : Int) = (sh k).ahead)) = decide ((i : Int) = atP k) := by
  unfold atP
  by_cases h : (sh k).word = 0
  · have : ¬ ((i : Int) = -1) := by omega
    simp [h, this]
  · simp [h]
theorem sp_script_read {s : Bs} (hs : s.length < 900000) : TSp 20 [.str s] (resC (readP s)) := by
  have hne := cutL_ne 32 s
  have hcl := cut_few hs
  have hpos : 0 < (cutL 32 s).length := List.length_pos_iff.2 hne
  refine spo_script_read (by rfl) ?_
  dsimp only [c_script_read, r_script_read, run_skip, run_reg, plainB, ifB_true, run_seq, run_blk, run_exit, run_ret, run_ite, iteR, regK, thenK_nrm, thenK_exit, thenK_ret, thenR_nrm, thenR_exit, thenR_ret, blkK, keepS, keepE, runOps_nil, runOps_cons, goG_some, fpOk, foot, entOf, allN, memN, goOn_ok, goOn_call, goOn_row, goOn_arr, goOn_ask, goOn_put, goOn_prm, goOn_callK, goOn_callC, goOn_all, guardP, guardO, notInO, stepF, stepLd, stepSt, stepIxs, stepIxa, stepLen, stepApp, stepCpy, stepPick, stepSls, stepSst, stepSla, bareZ, evX, evL, evB, rd, get, subG, memG, freshG, notInG, hyps, gob, impP, allP, partD, partOf, isOne, isPtr, nth, takeN, dropN, cellsD, lenB, fillD, thirds, entN, setE, sizeE, addE, setL, setN, putE, env0, eqCs, eqAux, eqC, bA, bO, bN, bE, negB, kEq, isShr, lendL, lend, frz, frzL, zRow, closed, closedL, rowsOf, binI, retK, retG, atRet, retD, lendO, resL, resD, oneD, renD, renL, renE, renEs, rho, putAll, entsN, List.append, List.nil_append, List.cons_append, List.append_nil, cond, Nat.reduceBEq, Nat.reduceAdd, Nat.beq]
  refine call_pure (sp_strings_Split (by omega)) ?_
  dsimp only [run_skip, run_reg, plainB, ifB_true, run_seq, run_blk, run_exit, run_ret, run_ite, iteR, regK, thenK_nrm, thenK_exit, thenK_ret, thenR_nrm, thenR_exit, thenR_ret, blkK, keepS, keepE, runOps_nil, runOps_cons, goG_some, fpOk, foot, entOf, allN, memN, goOn_ok, goOn_call, goOn_row, goOn_arr, goOn_ask, goOn_put, goOn_prm, goOn_callK, goOn_callC, goOn_all, guardP, guardO, notInO, stepF, stepLd, stepSt, stepIxs, stepIxa, stepLen, stepApp, stepCpy, stepPick, stepSls, stepSst, stepSla, bareZ, evX, evL, evB, rd, get, subG, memG, freshG, notInG, hyps, gob, impP, allP, partD, partOf, isOne, isPtr, nth, takeN, dropN, cellsD, lenB, fillD, thirds, entN, setE, sizeE, addE, setL, setN, putE, env0, eqCs, eqAux, eqC, bA, bO, bN, bE, negB, kEq, isShr, lendL, lend, frz, frzL, zRow, closed, closedL, rowsOf, binI, retK, retG, atRet, retD, lendO, resL, resD, oneD, renD, renL, renE, renEs, rho, putAll, entsN, List.append, List.nil_append, List.cons_append, List.append_nil, cond, Nat.reduceBEq, Nat.reduceAdd, Nat.beq]
  simp only [sL_len]
  refine ⟨⟨trivial, by omega, by omega⟩, row_intro _ (.str ((cutL 32 s).getD 0 [])) (head_row hne) rfl ?_⟩
  dsimp only [run_skip, run_reg, plainB, ifB_true, run_seq, run_blk, run_exit, run_ret, run_ite, iteR, regK, thenK_nrm, thenK_exit, thenK_ret, thenR_nrm, thenR_exit, thenR_ret, blkK, keepS, keepE, runOps_nil, runOps_cons, goG_some, fpOk, foot, entOf, allN, memN, goOn_ok, goOn_call, goOn_row, goOn_arr, goOn_ask, goOn_put, goOn_prm, goOn_callK, goOn_callC, goOn_all, guardP, guardO, notInO, stepF, stepLd, stepSt, stepIxs, stepIxa, stepLen, stepApp, stepCpy, stepPick, stepSls, stepSst, stepSla, bareZ, evX, evL, evB, rd, get, subG, memG, freshG, notInG, hyps, gob, impP, allP, partD, partOf, isOne, isPtr, nth, takeN, dropN, cellsD, lenB, fillD, thirds, entN, setE, sizeE, addE, setL, setN, putE, env0, eqCs, eqAux, eqC, bA, bO, bN, bE, negB, kEq, isShr, lendL, lend, frz, frzL, zRow, closed, closedL, rowsOf, binI, retK, retG, atRet, retD, lendO, resL, resD, oneD, renD, renL, renE, renEs, rho, putAll, entsN, List.append, List.nil_append, List.cons_append, List.append_nil, cond, Nat.reduceBEq, Nat.reduceAdd, Nat.beq]
  refine call_pure sp_script_find ?_
  unfold readP
  cases hop : opS ((cutL 32 s).getD 0 []) with
  | none =>
    dsimp only [opD, run_skip, run_reg, plainB, ifB_true, run_seq, run_blk, run_exit, run_ret, run_ite, iteR, regK, thenK_nrm, thenK_exit, thenK_ret, thenR_nrm, thenR_exit, thenR_ret, blkK, keepS, keepE, runOps_nil, runOps_cons, goG_some, fpOk, foot, entOf, allN, memN, goOn_ok, goOn_call, goOn_row, goOn_arr, goOn_ask, goOn_put, goOn_prm, goOn_callK, goOn_callC, goOn_all, guardP, guardO, notInO, stepF, stepLd, stepSt, stepIxs, stepIxa, stepLen, stepApp, stepCpy, stepPick, stepSls, stepSst, stepSla, bareZ, evX, evL, evB, rd, get, subG, memG, freshG, notInG, hyps, gob, impP, allP, partD, partOf, isOne, isPtr, nth, takeN, dropN, cellsD, lenB, fillD, thirds, entN, setE, sizeE, addE, setL, setN, putE, env0, eqCs, eqAux, eqC, bA, bO, bN, bE, negB, kEq, isShr, lendL, lend, frz, frzL, zRow, closed, closedL, rowsOf, binI, retK, retG, atRet, retD, lendO, resL, resD, oneD, renD, renL, renE, renEs, rho, putAll, entsN, List.append, List.nil_append, List.cons_append, List.append_nil, cond, Nat.reduceBEq, Nat.reduceAdd, Nat.beq]
    exact ⟨fun _ => rfl, fun h => by simp at h⟩
  | some k =>
    obtain ⟨hk, _⟩ := opS_some hop
    dsimp only [opD, run_skip, run_reg, plainB, ifB_true, run_seq, run_blk, run_exit, run_ret, run_ite, iteR, regK, thenK_nrm, thenK_exit, thenK_ret, thenR_nrm, thenR_exit, thenR_ret, blkK, keepS, keepE, runOps_nil, runOps_cons, goG_some, fpOk, foot, entOf, allN, memN, goOn_ok, goOn_call, goOn_row, goOn_arr, goOn_ask, goOn_put, goOn_prm, goOn_callK, goOn_callC, goOn_all, guardP, guardO, notInO, stepF, stepLd, stepSt, stepIxs, stepIxa, stepLen, stepApp, stepCpy, stepPick, stepSls, stepSst, stepSla, bareZ, evX, evL, evB, rd, get, subG, memG, freshG, notInG, hyps, gob, impP, allP, partD, partOf, isOne, isPtr, nth, takeN, dropN, cellsD, lenB, fillD, thirds, entN, setE, sizeE, addE, setL, setN, putE, env0, eqCs, eqAux, eqC, bA, bO, bN, bE, negB, kEq, isShr, lendL, lend, frz, frzL, zRow, closed, closedL, rowsOf, binI, retK, retG, atRet, retD, lendO, resL, resD, oneD, renD, renL, renE, renEs, rho, putAll, entsN, List.append, List.nil_append, List.cons_append, List.append_nil, cond, Nat.reduceBEq, Nat.reduceAdd, Nat.beq]
    refine ⟨fun h => by simp at h, fun _ => ?_⟩
    refine prm_eff _ _ (pr_blt (a := 2) 2 (z := [.int .i64 0, .int .i64 k, .ls 1 [], .ls 1 []]) (built42 _) (by simp [repsB, repB, kEq]) rfl) ?_
    dsimp only [List.set, run_skip, run_reg, plainB, ifB_true, run_seq, run_blk, run_exit, run_ret, run_ite, iteR, regK, thenK_nrm, thenK_exit, thenK_ret, thenR_nrm, thenR_exit, thenR_ret, blkK, keepS, keepE, runOps_nil, runOps_cons, goG_some, fpOk, foot, entOf, allN, memN, goOn_ok, goOn_call, goOn_row, goOn_arr, goOn_ask, goOn_put, goOn_prm, goOn_callK, goOn_callC, goOn_all, guardP, guardO, notInO, stepF, stepLd, stepSt, stepIxs, stepIxa, stepLen, stepApp, stepCpy, stepPick, stepSls, stepSst, stepSla, bareZ, evX, evL, evB, rd, get, subG, memG, freshG, notInG, hyps, gob, impP, allP, partD, partOf, isOne, isPtr, nth, takeN, dropN, cellsD, lenB, fillD, thirds, entN, setE, sizeE, addE, setL, setN, putE, env0, eqCs, eqAux, eqC, bA, bO, bN, bE, negB, kEq, isShr, lendL, lend, frz, frzL, zRow, closed, closedL, rowsOf, binI, retK, retG, atRet, retD, lendO, resL, resD, oneD, renD, renL, renE, renEs, rho, putAll, entsN, List.append, List.nil_append, List.cons_append, List.append_nil, cond, Nat.reduceBEq, Nat.reduceAdd, Nat.beq]
    simp only [sL_len]
    have etl : List.drop (Int.toNat 1) (List.take ((cutL 32 s).length : Int).toNat (sL (cutL 32 s))) = sL ((cutL 32 s).drop 1) := by
      rw [Int.toNat_natCast, List.take_of_length_le (by rw [sL_len]; exact Nat.le_refl _)]; simp [sL]
    rw [etl]
    simp only [sL_len]
    have hok := fun line op => rdB_ok (f := numP) (at_ := atP k) hs (line := line) (op := op)
    have hby : ∀ w ∈ (cutL 32 s).drop 1, w.length < 900000 := fun w hw => cut_bytes hs (List.mem_of_mem_drop hw)
    have htl : ((cutL 32 s).drop 1).length < 900000 := by simp; omega
    generalize (cutL 32 s).drop 1 = tl at *
    refine ⟨⟨trivial, by omega, by omega, by omega⟩, ?_⟩
    refine loop_ind (α := {x : Nat × List Int × List Bs // rdB numP (atP k) (tl.drop x.1) x.1 x.2.1 x.2.2 = rdB numP (atP k) tl 0 [] [] ∧ x.1 ≤ tl.length ∧ x.2.1.length ≤ x.1 ∧ ((x.1 : Int) ≤ atP k → x.2.2 = [])})
      (fun x => ⟨[(2, [], .box 0 0), (5, [], .int .i64 k), (7, [], .box 2 0), (27, [], .ls 1 (sL tl)), (28, [], .int .i64 tl.length), (29, [], .int .i64 x.1.1)], [.cells [.int .i64 0, .int .i64 0, .ls 1 [], .ls 1 []], .arr 2 1 x.1.2.1.length (nL x.1.2.1), .cells [.int .i64 0, .int .i64 k, .own 1 x.1.2.1.length, .ls 1 (sL x.1.2.2)]]⟩) (fun x => tl.length - x.1.1) ?_ ⟨(0, [], []), by simp⟩ rfl
    rintro ⟨⟨i, ns, ws⟩, h1, h2, h3, h4⟩ I ih
    dsimp only at h1 h2 h3 h4
    dsimp only [run_skip, run_reg, plainB, ifB_true, run_seq, run_blk, run_exit, run_ret, run_ite, iteR, regK, thenK_nrm, thenK_exit, thenK_ret, thenR_nrm, thenR_exit, thenR_ret, blkK, keepS, keepE, runOps_nil, runOps_cons, goG_some, fpOk, foot, entOf, allN, memN, goOn_ok, goOn_call, goOn_row, goOn_arr, goOn_ask, goOn_put, goOn_prm, goOn_callK, goOn_callC, goOn_all, guardP, guardO, notInO, stepF, stepLd, stepSt, stepIxs, stepIxa, stepLen, stepApp, stepCpy, stepPick, stepSls, stepSst, stepSla, bareZ, evX, evL, evB, rd, get, subG, memG, freshG, notInG, hyps, gob, impP, allP, partD, partOf, isOne, isPtr, nth, takeN, dropN, cellsD, lenB, fillD, thirds, entN, setE, sizeE, addE, setL, setN, putE, env0, eqCs, eqAux, eqC, bA, bO, bN, bE, negB, kEq, isShr, lendL, lend, frz, frzL, zRow, closed, closedL, rowsOf, binI, retK, retG, atRet, retD, lendO, resL, resD, oneD, renD, renL, renE, renEs, rho, putAll, entsN, List.append, List.nil_append, List.cons_append, List.append_nil, cond, Nat.reduceBEq, Nat.reduceAdd, Nat.beq]
    refine ⟨fun hi => ?_, fun hi => ?_⟩
    · have hi : i < tl.length := by simpa using hi
      rw [rdB_drop hi] at h1
      refine ⟨⟨rfl, by omega, by rw [sL_len]; omega⟩, row_intro _ (.str tl[i]) (show _ = some (D.str tl[i]) from by rw [Int.toNat_natCast]; exact sL_at hi) rfl ?_⟩
      dsimp only [run_skip, run_reg, plainB, ifB_true, run_seq, run_blk, run_exit, run_ret, run_ite, iteR, regK, thenK_nrm, thenK_exit, thenK_ret, thenR_nrm, thenR_exit, thenR_ret, blkK, keepS, keepE, runOps_nil, runOps_cons, goG_some, fpOk, foot, entOf, allN, memN, goOn_ok, goOn_call, goOn_row, goOn_arr, goOn_ask, goOn_put, goOn_prm, goOn_callK, goOn_callC, goOn_all, guardP, guardO, notInO, stepF, stepLd, stepSt, stepIxs, stepIxa, stepLen, stepApp, stepCpy, stepPick, stepSls, stepSst, stepSla, bareZ, evX, evL, evB, rd, get, subG, memG, freshG, notInG, hyps, gob, impP, allP, partD, partOf, isOne, isPtr, nth, takeN, dropN, cellsD, lenB, fillD, thirds, entN, setE, sizeE, addE, setL, setN, putE, env0, eqCs, eqAux, eqC, bA, bO, bN, bE, negB, kEq, isShr, lendL, lend, frz, frzL, zRow, closed, closedL, rowsOf, binI, retK, retG, atRet, retD, lendO, resL, resD, oneD, renD, renL, renE, renEs, rho, putAll, entsN, List.append, List.nil_append, List.cons_append, List.append_nil, cond, Nat.reduceBEq, Nat.reduceAdd, Nat.beq]
      have hkb : (0 : Int) ≤ k ∧ (k : Int) < 16 := ⟨by omega, by omega⟩
      refine ⟨hkb, ?_⟩
      rw [glob0]
      dsimp only [run_skip, run_reg, plainB, ifB_true, run_seq, run_blk, run_exit, run_ret, run_ite, iteR, regK, thenK_nrm, thenK_exit, thenK_ret, thenR_nrm, thenR_exit, thenR_ret, blkK, keepS, keepE, runOps_nil, runOps_cons, goG_some, fpOk, foot, entOf, allN, memN, goOn_ok, goOn_call, goOn_row, goOn_arr, goOn_ask, goOn_put, goOn_prm, goOn_callK, goOn_callC, goOn_all, guardP, guardO, notInO, stepF, stepLd, stepSt, stepIxs, stepIxa, stepLen, stepApp, stepCpy, stepPick, stepSls, stepSst, stepSla, bareZ, evX, evL, evB, rd, get, subG, memG, freshG, notInG, hyps, gob, impP, allP, partD, partOf, isOne, isPtr, nth, takeN, dropN, cellsD, lenB, fillD, thirds, entN, setE, sizeE, addE, setL, setN, putE, env0, eqCs, eqAux, eqC, bA, bO, bN, bE, negB, kEq, isShr, lendL, lend, frz, frzL, zRow, closed, closedL, rowsOf, binI, retK, retG, atRet, retD, lendO, resL, resD, oneD, renD, renL, renE, renEs, rho, putAll, entsN, List.append, List.nil_append, List.cons_append, List.append_nil, cond, Nat.reduceBEq, Nat.reduceAdd, Nat.beq]
      refine arr_intro (.int .i64 (sh k).word) (by rw [Int.toNat_natCast]; exact sh_word hk) ?_
      dsimp only [run_skip, run_reg, plainB, ifB_true, run_seq, run_blk, run_exit, run_ret, run_ite, iteR, regK, thenK_nrm, thenK_exit, thenK_ret, thenR_nrm, thenR_exit, thenR_ret, blkK, keepS, keepE, runOps_nil, runOps_cons, goG_some, fpOk, foot, entOf, allN, memN, goOn_ok, goOn_call, goOn_row, goOn_arr, goOn_ask, goOn_put, goOn_prm, goOn_callK, goOn_callC, goOn_all, guardP, guardO, notInO, stepF, stepLd, stepSt, stepIxs, stepIxa, stepLen, stepApp, stepCpy, stepPick, stepSls, stepSst, stepSla, bareZ, evX, evL, evB, rd, get, subG, memG, freshG, notInG, hyps, gob, impP, allP, partD, partOf, isOne, isPtr, nth, takeN, dropN, cellsD, lenB, fillD, thirds, entN, setE, sizeE, addE, setL, setN, putE, env0, eqCs, eqAux, eqC, bA, bO, bN, bE, negB, kEq, isShr, lendL, lend, frz, frzL, zRow, closed, closedL, rowsOf, binI, retK, retG, atRet, retD, lendO, resL, resD, oneD, renD, renL, renE, renEs, rho, putAll, entsN, List.append, List.nil_append, List.cons_append, List.append_nil, cond, Nat.reduceBEq, Nat.reduceAdd, Nat.beq]
      refine ⟨fun _ => hkb, ?_⟩
      rw [glob0]
      dsimp only [run_skip, run_reg, plainB, ifB_true, run_seq, run_blk, run_exit, run_ret, run_ite, iteR, regK, thenK_nrm, thenK_exit, thenK_ret, thenR_nrm, thenR_exit, thenR_ret, blkK, keepS, keepE, runOps_nil, runOps_cons, goG_some, fpOk, foot, entOf, allN, memN, goOn_ok, goOn_call, goOn_row, goOn_arr, goOn_ask, goOn_put, goOn_prm, goOn_callK, goOn_callC, goOn_all, guardP, guardO, notInO, stepF, stepLd, stepSt, stepIxs, stepIxa, stepLen, stepApp, stepCpy, stepPick, stepSls, stepSst, stepSla, bareZ, evX, evL, evB, rd, get, subG, memG, freshG, notInG, hyps, gob, impP, allP, partD, partOf, isOne, isPtr, nth, takeN, dropN, cellsD, lenB, fillD, thirds, entN, setE, sizeE, addE, setL, setN, putE, env0, eqCs, eqAux, eqC, bA, bO, bN, bE, negB, kEq, isShr, lendL, lend, frz, frzL, zRow, closed, closedL, rowsOf, binI, retK, retG, atRet, retD, lendO, resL, resD, oneD, renD, renL, renE, renEs, rho, putAll, entsN, List.append, List.nil_append, List.cons_append, List.append_nil, cond, Nat.reduceBEq, Nat.reduceAdd, Nat.beq]
      refine arr_intro (.int .i64 (sh k).ahead) (fun _ => by rw [Int.toNat_natCast]; exact sh_ahead hk) ?_
      dsimp only [run_skip, run_reg, plainB, ifB_true, run_seq, run_blk, run_exit, run_ret, run_ite, iteR, regK, thenK_nrm, thenK_exit, thenK_ret, thenR_nrm, thenR_exit, thenR_ret, blkK, keepS, keepE, runOps_nil, runOps_cons, goG_some, fpOk, foot, entOf, allN, memN, goOn_ok, goOn_call, goOn_row, goOn_arr, goOn_ask, goOn_put, goOn_prm, goOn_callK, goOn_callC, goOn_all, guardP, guardO, notInO, stepF, stepLd, stepSt, stepIxs, stepIxa, stepLen, stepApp, stepCpy, stepPick, stepSls, stepSst, stepSla, bareZ, evX, evL, evB, rd, get, subG, memG, freshG, notInG, hyps, gob, impP, allP, partD, partOf, isOne, isPtr, nth, takeN, dropN, cellsD, lenB, fillD, thirds, entN, setE, sizeE, addE, setL, setN, putE, env0, eqCs, eqAux, eqC, bA, bO, bN, bE, negB, kEq, isShr, lendL, lend, frz, frzL, zRow, closed, closedL, rowsOf, binI, retK, retG, atRet, retD, lendO, resL, resD, oneD, renD, renL, renE, renEs, rho, putAll, entsN, List.append, List.nil_append, List.cons_append, List.append_nil, cond, Nat.reduceBEq, Nat.reduceAdd, Nat.beq]
      rw [atP_eq]
      have hwl := hby _ (List.getElem_mem hi)
      refine ⟨fun hat => ?_, fun hat => ?_⟩
      · rw [if_pos hat] at h1
        simp only [decide_eq_true_eq] at hat
        have hws : ws = [] := h4 (by omega)
        subst hws
        refine call_pure (sp_strings_Clone (by omega)) ?_
        dsimp only [run_skip, run_reg, plainB, ifB_true, run_seq, run_blk, run_exit, run_ret, run_ite, iteR, regK, thenK_nrm, thenK_exit, thenK_ret, thenR_nrm, thenR_exit, thenR_ret, blkK, keepS, keepE, runOps_nil, runOps_cons, goG_some, fpOk, foot, entOf, allN, memN, goOn_ok, goOn_call, goOn_row, goOn_arr, goOn_ask, goOn_put, goOn_prm, goOn_callK, goOn_callC, goOn_all, guardP, guardO, notInO, stepF, stepLd, stepSt, stepIxs, stepIxa, stepLen, stepApp, stepCpy, stepPick, stepSls, stepSst, stepSla, bareZ, evX, evL, evB, rd, get, subG, memG, freshG, notInG, hyps, gob, impP, allP, partD, partOf, isOne, isPtr, nth, takeN, dropN, cellsD, lenB, fillD, thirds, entN, setE, sizeE, addE, setL, setN, putE, env0, eqCs, eqAux, eqC, bA, bO, bN, bE, negB, kEq, isShr, lendL, lend, frz, frzL, zRow, closed, closedL, rowsOf, binI, retK, retG, atRet, retD, lendO, resL, resD, oneD, renD, renL, renE, renEs, rho, putAll, entsN, List.append, List.nil_append, List.cons_append, List.append_nil, cond, Nat.reduceBEq, Nat.reduceAdd, Nat.beq]
        refine ⟨by simp only [fits]; omega, ?_⟩
        refine again (ih ⟨(i + 1, ns, [] ++ [tl[i]]), h1, by dsimp only; omega, by dsimp only; omega, fun h => by dsimp only at h; omega⟩ (by dsimp only; omega)) ?_ ?_ rfl rfl
        · exact ⟨rfl, rfl, rfl, rfl, rfl, rfl, trivial⟩
        · exact ⟨rfl, rfl, rfl, trivial⟩
      · rw [if_neg (by rw [hat]; simp)] at h1
        simp only [decide_eq_false_iff_not] at hat
        refine call_pure (sp_script_number (by omega)) ?_
        dsimp only [numD, run_skip, run_reg, plainB, ifB_true, run_seq, run_blk, run_exit, run_ret, run_ite, iteR, regK, thenK_nrm, thenK_exit, thenK_ret, thenR_nrm, thenR_exit, thenR_ret, blkK, keepS, keepE, runOps_nil, runOps_cons, goG_some, fpOk, foot, entOf, allN, memN, goOn_ok, goOn_call, goOn_row, goOn_arr, goOn_ask, goOn_put, goOn_prm, goOn_callK, goOn_callC, goOn_all, guardP, guardO, notInO, stepF, stepLd, stepSt, stepIxs, stepIxa, stepLen, stepApp, stepCpy, stepPick, stepSls, stepSst, stepSla, bareZ, evX, evL, evB, rd, get, subG, memG, freshG, notInG, hyps, gob, impP, allP, partD, partOf, isOne, isPtr, nth, takeN, dropN, cellsD, lenB, fillD, thirds, entN, setE, sizeE, addE, setL, setN, putE, env0, eqCs, eqAux, eqC, bA, bO, bN, bE, negB, kEq, isShr, lendL, lend, frz, frzL, zRow, closed, closedL, rowsOf, binI, retK, retG, atRet, retD, lendO, resL, resD, oneD, renD, renL, renE, renEs, rho, putAll, entsN, List.append, List.nil_append, List.cons_append, List.append_nil, cond, Nat.reduceBEq, Nat.reduceAdd, Nat.beq]
        refine ⟨fun hn => ?_, fun hn => ?_⟩
        · have hn : isNum tl[i] = false := by simpa using hn
          rw [if_neg (by rw [hn]; simp)] at h1
          unfold readK
          rw [← h1]
          rfl
        · have hn : isNum tl[i] = true := by simpa using hn
          rw [if_pos hn] at h1 ⊢
          refine ⟨⟨rfl, rfl, rfl, rfl, by rw [nL_len]; simp; omega⟩, ?_⟩
          refine ⟨by simp only [fits]; omega, ?_⟩
          refine again (ih ⟨(i + 1, ns ++ [numP tl[i]], ws), h1, by dsimp only; omega, by dsimp only; simp; omega, fun h => h4 (by dsimp only at h; omega)⟩ (by dsimp only; omega)) ?_ ?_ rfl rfl
          · exact ⟨rfl, rfl, rfl, rfl, rfl, rfl, trivial⟩
          · refine ⟨rfl, ?_, ?_, trivial⟩
            · dsimp only; rw [List.length_append]; simp [nL]
            · dsimp only; rw [List.length_append]; rfl
    · have hi : i = tl.length := by simp at hi; omega
      subst hi
      rw [List.drop_length] at h1
      have hr : rdB numP (atP k) tl 0 [] [] = (true, ns, ws) := by rw [← h1]; rfl
      have hc : CmOk ⟨0, k, ns, ws⟩ := by have := hok 0 k; rw [hr] at this; exact this
      refine call_lent (sp_script_built (c := ⟨0, k, ns, ws⟩) hk rfl hc) rfl ⟨rfl, trivial⟩ rfl ?_
      unfold readK
      rw [hr]
      dsimp only [run_skip, run_reg, plainB, ifB_true, run_seq, run_blk, run_exit, run_ret, run_ite, iteR, regK, thenK_nrm, thenK_exit, thenK_ret, thenR_nrm, thenR_exit, thenR_ret, blkK, keepS, keepE, runOps_nil, runOps_cons, goG_some, fpOk, foot, entOf, allN, memN, goOn_ok, goOn_call, goOn_row, goOn_arr, goOn_ask, goOn_put, goOn_prm, goOn_callK, goOn_callC, goOn_all, guardP, guardO, notInO, stepF, stepLd, stepSt, stepIxs, stepIxa, stepLen, stepApp, stepCpy, stepPick, stepSls, stepSst, stepSla, bareZ, evX, evL, evB, rd, get, subG, memG, freshG, notInG, hyps, gob, impP, allP, partD, partOf, isOne, isPtr, nth, takeN, dropN, cellsD, lenB, fillD, thirds, entN, setE, sizeE, addE, setL, setN, putE, env0, eqCs, eqAux, eqC, bA, bO, bN, bE, negB, kEq, isShr, lendL, lend, frz, frzL, zRow, closed, closedL, rowsOf, binI, retK, retG, atRet, retD, lendO, resL, resD, oneD, renD, renL, renE, renEs, rho, putAll, entsN, List.append, List.nil_append, List.cons_append, List.append_nil, cond, Nat.reduceBEq, Nat.reduceAdd, Nat.beq]
      refine ⟨fun hb => ?_, fun hb => ?_⟩
      · have hb : builtB ⟨0, k, ns, ws⟩ = false := by simpa using hb
        rw [if_neg (by rw [hb]; simp)]
        rfl
      · have hb : builtB ⟨0, k, ns, ws⟩ = true := by simpa using hb
        rw [if_pos hb]
        exact ⟨rfl, rfl⟩
end Go.AM
