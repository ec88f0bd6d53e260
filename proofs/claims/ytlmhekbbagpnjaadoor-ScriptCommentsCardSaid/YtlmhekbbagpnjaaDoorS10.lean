
/- Chapter 63: a line that is read, by the document. -/
import Derived.Test.YtlmhekbbagpnjaaDoorS9
set_option linter.all false
namespace Go.AM
open Go Go.Proofs Go.RowKit

theorem nilAt2 {K : Kn} {pl : Pl} {z : List D} {vs : List Value} {a k : Nat} (hv : vs[a]? = some (.slice none 0 0)) (hk : pl k 0 = some (.slice none 0 0)) (hr : RepL K pl z vs) : RepL K pl (z.set a (.own k 0)) vs := by
  induction z generalizing a vs with
  | nil => simpa using hr
  | cons d z ih =>
    simp only [RepL] at hr
    obtain ⟨v, r, rfl, h1, h2⟩ := hr
    cases a with
    | zero =>
      simp at hv; subst hv
      simp only [List.set_cons_zero, RepL, Rep]
      exact ⟨_, _, rfl, ⟨hk, none, 0, 0, rfl⟩, h2⟩
    | succ a =>
      simp only [List.set_cons_succ, RepL]
      exact ⟨_, _, rfl, h1, ih (by simpa using hv) h2⟩
/-- .. with two own nil rows. -/
theorem pr_blt2 {P : Program} {gt : Nat → Option (List D)} {t : TypeId} {bx : List Ent} {i a a2 sz sz2 : Nat} (e e2 : TypeId) {z : List D} {r : List Value} {n : Int} (hb : P.built t [(i, .int .i64 n)] = some r.toArray) (hz : repsB z r = true) (ha : r[a]? = some (.slice none 0 0)) (ha2 : r[a2]? = some (.slice none 0 0)) :
    PrM P gt (.blt t i) [.int .i64 n] bx (.agg ((z.set a (.own (sizeE bx) 0)).set a2 (.own (sizeE bx + 1) 0))) (addE (addE bx (.arr e sz 0 [])) (.arr e2 sz2 0 [])) := by
  intro F K pl w o ρ xs hF hρ hI hq hr
  obtain ⟨x, rfl, hop⟩ := one_op (f := fun x => .build t #[(i, x)]) (fun _ => rfl) rfl (fun _ _ _ => rfl) hq
  have h1 := repL1 hr
  simp only [Rep] at h1
  rw [sizeE_eq, addE_eq, addE_eq]
  obtain ⟨q1, q2⟩ := hI.addNil e sz
  obtain ⟨q3, q4⟩ := q2.addNil e2 sz2
  obtain ⟨h3, h4⟩ := repsB_ok K (updPl (updPl pl bx.length 0 (.slice none 0 0)) (bx ++ [Ent.arr e sz 0 []]).length 0 (.slice none 0 0)) hz
  have hl : (bx ++ [Ent.arr e sz 0 []]).length = bx.length + 1 := by simp
  have h5 := nilAt2 (k := bx.length) ha (by rw [updPl_ne (.inl (by rw [hl]; omega))]; exact updPl_self _ _ _ _) h3
  have h6 := nilAt2 (k := bx.length + 1) ha2 (by rw [hl]; exact updPl_self _ _ _ _) h5
  refine ⟨.agg r.toArray, w, K, _, .inl ?_, KLe.refl _, q1.trans q3, q4, by simp only [Rep]; exact ⟨r, rfl, h6, h4⟩⟩
  have := run_build w t #[(i, .int .i64 n)] r.toArray hb
  simp [execOp, hop, h1, this]

def lastOp (s : Bs) : Nat → Int
  | 0 => -1
  | i + 1 => if decide ((sh i).name = s) then i else lastOp s i
theorem name_inj : ∀ i, i < 16 → ∀ j, j < 16 → (sh i).name = (sh j).name → i = j := by
  intro i hi j hj h
  rcases sixteen hi with rfl | rfl | rfl | rfl | rfl | rfl | rfl | rfl | rfl | rfl | rfl | rfl | rfl | rfl | rfl | rfl <;>
  rcases sixteen hj with rfl | rfl | rfl | rfl | rfl | rfl | rfl | rfl | rfl | rfl | rfl | rfl | rfl | rfl | rfl | rfl <;> first | rfl | (revert h; decide)
theorem lastOp_none {s : Bs} : ∀ {i : Nat}, (∀ j, j < i → (sh j).name ≠ s) → lastOp s i = -1
  | 0, _ => rfl
  | i + 1, h => by
    unfold lastOp
    rw [if_neg (by simpa using h i (by omega))]
    exact lastOp_none fun j hj => h j (by omega)
theorem lastOp_eq {s : Bs} {k : Nat} (hk : k < 16) (hn : (sh k).name = s) : ∀ {i : Nat}, i ≤ 16 → k < i → lastOp s i = k
  | 0, _, h => by omega
  | i + 1, hi, h => by
    unfold lastOp
    by_cases hik : i = k
    · subst hik; rw [if_pos (by simpa using hn)]
    · rw [if_neg (by
        simp only [decide_eq_true_eq]
        intro hc
        exact hik (name_inj i (by omega) k hk (by rw [hc, hn])))]
      exact lastOp_eq hk hn (by omega) (by omega)
theorem lastOp_op (s : Bs) : lastOp s 16 = match opS s with | some k => (k : Int) | none => -1 := by
  cases h : opS s with
  | none => exact lastOp_none fun j hj => findS_none h j (by omega) (by omega)
  | some k =>
    obtain ⟨h1, h2⟩ := opS_some h
    exact lastOp_eq h1 h2 (Nat.le_refl _) h1
def atR (k : Nat) (n : Nat) : Int := if k = 1 then 1 else if k = 3 then 3 else if fewW k = 1 then n else -1
def readRK (k : Nat) (l : List Bs) : Cm × Int :=
  match rdB numR (atR k l.length) l 1 [] [] with
  | (false, ns, ws) => (⟨0, k, ns, ws⟩, 2)
  | (true, ns, ws) => if !formB ⟨0, k, ns, ws⟩ then (⟨0, k, ns, ws⟩, 2) else if !rangeB ⟨0, k, ns, ws⟩ then (⟨0, k, ns, ws⟩, 1) else (⟨0, k, ns, ws⟩, 0)
def readR (s : Bs) : Cm × Int :=
  match opS ((cutL 32 s).getD 0 []) with
  | none => (⟨0, -1, [], []⟩, 11)
  | some k => readRK k ((cutL 32 s).drop 1)
theorem rdB_ok1 {f : Bs → Int} {at_ : Int} {s : Bs} (hs : s.length < 900000) {line op : Int} : CmOk ⟨line, op, (rdB f at_ ((cutL 32 s).drop 1) 1 [] []).2.1, (rdB f at_ ((cutL 32 s).drop 1) 1 [] []).2.2⟩ := by
  have h1 := rdB_len (f := f) (at_ := at_) ((cutL 32 s).drop 1) 1 [] []
  have h2 := cut_few hs
  simp only [List.length_nil, Nat.zero_add, List.length_drop] at h1
  refine ⟨by dsimp only; omega, by dsimp only; omega, fun w hw => ?_⟩
  rcases rdB_words _ _ _ _ w hw with h | h
  · simp at h
  · have := cut_bytes hs (List.mem_of_mem_drop h); omega
set_option maxRecDepth 100000 in
set_option maxHeartbeats 8000000 in
theorem sp_ref63_read {s : Bs} (hs : s.length < 900000) : TSp 23 [.str s] (resC (readR s)) := by
  have hne := cutL_ne 32 s
  have hcl := cut_few hs
  have hpos : 0 < (cutL 32 s).length := List.length_pos_iff.2 hne
  refine spo_ref63_read (by rfl) ?_
  dsimp only [c_ref63_read, r_ref63_read, run_skip, run_reg, plainB, ifB_true, run_seq, run_blk, run_exit, run_ret, run_ite, iteR, regK, thenK_nrm, thenK_exit, thenK_ret, thenR_nrm, thenR_exit, thenR_ret, blkK, keepS, keepE, runOps_nil, runOps_cons, goG_some, fpOk, foot, entOf, allN, memN, goOn_ok, goOn_call, goOn_row, goOn_arr, goOn_ask, goOn_put, goOn_prm, goOn_callK, goOn_callC, goOn_all, guardP, guardO, notInO, stepF, stepLd, stepSt, stepIxs, stepIxa, stepLen, stepApp, stepCpy, stepPick, stepSls, stepSst, stepSla, bareZ, evX, evL, evB, rd, get, subG, memG, freshG, notInG, hyps, gob, impP, allP, partD, partOf, isOne, isPtr, nth, takeN, dropN, cellsD, lenB, fillD, thirds, entN, setE, sizeE, addE, setL, setN, putE, env0, eqCs, eqAux, eqC, bA, bO, bN, bE, negB, kEq, isShr, lendL, lend, frz, frzL, zRow, closed, closedL, rowsOf, binI, retK, retG, atRet, retD, lendO, resL, resD, oneD, renD, renL, renE, renEs, rho, putAll, entsN, List.append, List.nil_append, List.cons_append, List.append_nil, cond, Nat.reduceBEq, Nat.reduceAdd, Nat.beq]
  refine call_pure (by have := sp_ref63_cut (s := s) (b := 32) (by omega); exact this) ?_
  dsimp only [run_skip, run_reg, plainB, ifB_true, run_seq, run_blk, run_exit, run_ret, run_ite, iteR, regK, thenK_nrm, thenK_exit, thenK_ret, thenR_nrm, thenR_exit, thenR_ret, blkK, keepS, keepE, runOps_nil, runOps_cons, goG_some, fpOk, foot, entOf, allN, memN, goOn_ok, goOn_call, goOn_row, goOn_arr, goOn_ask, goOn_put, goOn_prm, goOn_callK, goOn_callC, goOn_all, guardP, guardO, notInO, stepF, stepLd, stepSt, stepIxs, stepIxa, stepLen, stepApp, stepCpy, stepPick, stepSls, stepSst, stepSla, bareZ, evX, evL, evB, rd, get, subG, memG, freshG, notInG, hyps, gob, impP, allP, partD, partOf, isOne, isPtr, nth, takeN, dropN, cellsD, lenB, fillD, thirds, entN, setE, sizeE, addE, setL, setN, putE, env0, eqCs, eqAux, eqC, bA, bO, bN, bE, negB, kEq, isShr, lendL, lend, frz, frzL, zRow, closed, closedL, rowsOf, binI, retK, retG, atRet, retD, lendO, resL, resD, oneD, renD, renL, renE, renEs, rho, putAll, entsN, List.append, List.nil_append, List.cons_append, List.append_nil, cond, Nat.reduceBEq, Nat.reduceAdd, Nat.beq]
  refine prm_eff _ _ (pr_blt2 (a := 2) (a2 := 3) (sz := 1) (sz2 := 1) 2 9 (n := -1) (r := [Value.int .i64 0, .int .i64 (-1), .slice none 0 0, .slice none 0 0]) (z := [.int .i64 0, .int .i64 (-1), .ls 1 [], .ls 1 []]) (built42 (-1)) (by decide) rfl rfl) ?_
  dsimp only [List.set, run_skip, run_reg, plainB, ifB_true, run_seq, run_blk, run_exit, run_ret, run_ite, iteR, regK, thenK_nrm, thenK_exit, thenK_ret, thenR_nrm, thenR_exit, thenR_ret, blkK, keepS, keepE, runOps_nil, runOps_cons, goG_some, fpOk, foot, entOf, allN, memN, goOn_ok, goOn_call, goOn_row, goOn_arr, goOn_ask, goOn_put, goOn_prm, goOn_callK, goOn_callC, goOn_all, guardP, guardO, notInO, stepF, stepLd, stepSt, stepIxs, stepIxa, stepLen, stepApp, stepCpy, stepPick, stepSls, stepSst, stepSla, bareZ, evX, evL, evB, rd, get, subG, memG, freshG, notInG, hyps, gob, impP, allP, partD, partOf, isOne, isPtr, nth, takeN, dropN, cellsD, lenB, fillD, thirds, entN, setE, sizeE, addE, setL, setN, putE, env0, eqCs, eqAux, eqC, bA, bO, bN, bE, negB, kEq, isShr, lendL, lend, frz, frzL, zRow, closed, closedL, rowsOf, binI, retK, retG, atRet, retD, lendO, resL, resD, oneD, renD, renL, renE, renEs, rho, putAll, entsN, List.append, List.nil_append, List.cons_append, List.append_nil, cond, Nat.reduceBEq, Nat.reduceAdd, Nat.beq]
  have hw0 := head_row hne
  have hlop := lastOp_op ((cutL 32 s).getD 0 [])
  unfold readR
  refine loop_ind (α := {i : Nat // i ≤ 16}) (fun i => ⟨[(2, [], .box 0 0), (4, [], .ls 1 (sL (cutL 32 s))), (5, [], .box 3 0), (6, [], .int .i64 i.1)], [.cells [.int .i64 0, .int .i64 0, .ls 1 [], .ls 1 []], .arr 2 1 0 [], .arr 9 1 0 [], .cells [.int .i64 0, .int .i64 (lastOp ((cutL 32 s).getD 0 []) i.1), .own 1 0, .own 2 0]]⟩) (fun i => 16 - i.1) ?_ ⟨0, by omega⟩ rfl
  rintro ⟨i, h1⟩ I ih
  dsimp only [run_skip, run_reg, plainB, ifB_true, run_seq, run_blk, run_exit, run_ret, run_ite, iteR, regK, thenK_nrm, thenK_exit, thenK_ret, thenR_nrm, thenR_exit, thenR_ret, blkK, keepS, keepE, runOps_nil, runOps_cons, goG_some, fpOk, foot, entOf, allN, memN, goOn_ok, goOn_call, goOn_row, goOn_arr, goOn_ask, goOn_put, goOn_prm, goOn_callK, goOn_callC, goOn_all, guardP, guardO, notInO, stepF, stepLd, stepSt, stepIxs, stepIxa, stepLen, stepApp, stepCpy, stepPick, stepSls, stepSst, stepSla, bareZ, evX, evL, evB, rd, get, subG, memG, freshG, notInG, hyps, gob, impP, allP, partD, partOf, isOne, isPtr, nth, takeN, dropN, cellsD, lenB, fillD, thirds, entN, setE, sizeE, addE, setL, setN, putE, env0, eqCs, eqAux, eqC, bA, bO, bN, bE, negB, kEq, isShr, lendL, lend, frz, frzL, zRow, closed, closedL, rowsOf, binI, retK, retG, atRet, retD, lendO, resL, resD, oneD, renD, renL, renE, renEs, rho, putAll, entsN, List.append, List.nil_append, List.cons_append, List.append_nil, cond, Nat.reduceBEq, Nat.reduceAdd, Nat.beq]
  refine ⟨fun hi => ?_, fun hi => ?_⟩
  · have hi : i < 16 := by simp at hi; omega
    refine call_pure sp_ref63_Names ?_
    dsimp only [run_skip, run_reg, plainB, ifB_true, run_seq, run_blk, run_exit, run_ret, run_ite, iteR, regK, thenK_nrm, thenK_exit, thenK_ret, thenR_nrm, thenR_exit, thenR_ret, blkK, keepS, keepE, runOps_nil, runOps_cons, goG_some, fpOk, foot, entOf, allN, memN, goOn_ok, goOn_call, goOn_row, goOn_arr, goOn_ask, goOn_put, goOn_prm, goOn_callK, goOn_callC, goOn_all, guardP, guardO, notInO, stepF, stepLd, stepSt, stepIxs, stepIxa, stepLen, stepApp, stepCpy, stepPick, stepSls, stepSst, stepSla, bareZ, evX, evL, evB, rd, get, subG, memG, freshG, notInG, hyps, gob, impP, allP, partD, partOf, isOne, isPtr, nth, takeN, dropN, cellsD, lenB, fillD, thirds, entN, setE, sizeE, addE, setL, setN, putE, env0, eqCs, eqAux, eqC, bA, bO, bN, bE, negB, kEq, isShr, lendL, lend, frz, frzL, zRow, closed, closedL, rowsOf, binI, retK, retG, atRet, retD, lendO, resL, resD, oneD, renD, renL, renE, renEs, rho, putAll, entsN, List.append, List.nil_append, List.cons_append, List.append_nil, cond, Nat.reduceBEq, Nat.reduceAdd, Nat.beq]
    have hnl : (sL nmL).length = 16 := rfl
    refine ⟨⟨rfl, by omega, by rw [hnl]; omega⟩, row_intro _ (.str (sh i).name) (by rw [Int.toNat_natCast]; exact nm_at hi) rfl ?_⟩
    dsimp only [run_skip, run_reg, plainB, ifB_true, run_seq, run_blk, run_exit, run_ret, run_ite, iteR, regK, thenK_nrm, thenK_exit, thenK_ret, thenR_nrm, thenR_exit, thenR_ret, blkK, keepS, keepE, runOps_nil, runOps_cons, goG_some, fpOk, foot, entOf, allN, memN, goOn_ok, goOn_call, goOn_row, goOn_arr, goOn_ask, goOn_put, goOn_prm, goOn_callK, goOn_callC, goOn_all, guardP, guardO, notInO, stepF, stepLd, stepSt, stepIxs, stepIxa, stepLen, stepApp, stepCpy, stepPick, stepSls, stepSst, stepSla, bareZ, evX, evL, evB, rd, get, subG, memG, freshG, notInG, hyps, gob, impP, allP, partD, partOf, isOne, isPtr, nth, takeN, dropN, cellsD, lenB, fillD, thirds, entN, setE, sizeE, addE, setL, setN, putE, env0, eqCs, eqAux, eqC, bA, bO, bN, bE, negB, kEq, isShr, lendL, lend, frz, frzL, zRow, closed, closedL, rowsOf, binI, retK, retG, atRet, retD, lendO, resL, resD, oneD, renD, renL, renE, renEs, rho, putAll, entsN, List.append, List.nil_append, List.cons_append, List.append_nil, cond, Nat.reduceBEq, Nat.reduceAdd, Nat.beq]
    refine ⟨⟨rfl, by omega, by rw [sL_len]; omega⟩, row_intro _ (.str ((cutL 32 s).getD 0 [])) hw0 rfl ?_⟩
    dsimp only [run_skip, run_reg, plainB, ifB_true, run_seq, run_blk, run_exit, run_ret, run_ite, iteR, regK, thenK_nrm, thenK_exit, thenK_ret, thenR_nrm, thenR_exit, thenR_ret, blkK, keepS, keepE, runOps_nil, runOps_cons, goG_some, fpOk, foot, entOf, allN, memN, goOn_ok, goOn_call, goOn_row, goOn_arr, goOn_ask, goOn_put, goOn_prm, goOn_callK, goOn_callC, goOn_all, guardP, guardO, notInO, stepF, stepLd, stepSt, stepIxs, stepIxa, stepLen, stepApp, stepCpy, stepPick, stepSls, stepSst, stepSla, bareZ, evX, evL, evB, rd, get, subG, memG, freshG, notInG, hyps, gob, impP, allP, partD, partOf, isOne, isPtr, nth, takeN, dropN, cellsD, lenB, fillD, thirds, entN, setE, sizeE, addE, setL, setN, putE, env0, eqCs, eqAux, eqC, bA, bO, bN, bE, negB, kEq, isShr, lendL, lend, frz, frzL, zRow, closed, closedL, rowsOf, binI, retK, retG, atRet, retD, lendO, resL, resD, oneD, renD, renL, renE, renEs, rho, putAll, entsN, List.append, List.nil_append, List.cons_append, List.append_nil, cond, Nat.reduceBEq, Nat.reduceAdd, Nat.beq]
    refine ⟨fun h => ?_, fun h => ?_⟩
    · refine ⟨by simp only [fits]; omega, ?_⟩
      refine again (ih ⟨i + 1, by omega⟩ (by dsimp only; omega)) ?_ ?_ rfl rfl
      · exact ⟨rfl, rfl, rfl, rfl, trivial⟩
      · refine ⟨rfl, rfl, rfl, ?_, trivial⟩
        dsimp only; unfold lastOp; rw [if_pos h]
    · refine ⟨by simp only [fits]; omega, ?_⟩
      refine again (ih ⟨i + 1, by omega⟩ (by dsimp only; omega)) ?_ ?_ rfl rfl
      · exact ⟨rfl, rfl, rfl, rfl, trivial⟩
      · refine ⟨rfl, rfl, rfl, ?_, trivial⟩
        dsimp only; conv => rhs; unfold lastOp
        rw [if_neg (by rw [h]; simp)]
  · have hi : i = 16 := by simp at hi; omega
    subst hi
    rw [hlop]
    clear ih hlop
    cases hop : opS ((cutL 32 s).getD 0 []) with
    | none =>
      dsimp only
      exact ⟨fun _ => ⟨rfl, rfl, rfl⟩, fun h => by simp at h⟩
    | some k =>
      obtain ⟨hk, _⟩ := opS_some hop
      dsimp only
      refine ⟨fun h => by simp at h; omega, fun _ => ?_⟩
      refine call_pure (sp_ref63_Few hk) ?_
      dsimp only [run_skip, run_reg, plainB, ifB_true, run_seq, run_blk, run_exit, run_ret, run_ite, iteR, regK, thenK_nrm, thenK_exit, thenK_ret, thenR_nrm, thenR_exit, thenR_ret, blkK, keepS, keepE, runOps_nil, runOps_cons, goG_some, fpOk, foot, entOf, allN, memN, goOn_ok, goOn_call, goOn_row, goOn_arr, goOn_ask, goOn_put, goOn_prm, goOn_callK, goOn_callC, goOn_all, guardP, guardO, notInO, stepF, stepLd, stepSt, stepIxs, stepIxa, stepLen, stepApp, stepCpy, stepPick, stepSls, stepSst, stepSla, bareZ, evX, evL, evB, rd, get, subG, memG, freshG, notInG, hyps, gob, impP, allP, partD, partOf, isOne, isPtr, nth, takeN, dropN, cellsD, lenB, fillD, thirds, entN, setE, sizeE, addE, setL, setN, putE, env0, eqCs, eqAux, eqC, bA, bO, bN, bE, negB, kEq, isShr, lendL, lend, frz, frzL, zRow, closed, closedL, rowsOf, binI, retK, retG, atRet, retD, lendO, resL, resD, oneD, renD, renL, renE, renEs, rho, putAll, entsN, List.append, List.nil_append, List.cons_append, List.append_nil, cond, Nat.reduceBEq, Nat.reduceAdd, Nat.beq]
      simp only [sL_len]
      have hok := fun line op => rdB_ok1 (f := numR) (at_ := atR k ((cutL 32 s).drop 1).length) hs (line := line) (op := op)
      have hby : ∀ w ∈ cutL 32 s, w.length < 900000 := fun w hw => cut_bytes hs hw
      have hnl : ((cutL 32 s).drop 1).length = (cutL 32 s).length - 1 := by simp
      generalize cutL 32 s = W at *
      refine ⟨fun q1 => ?a, fun q1 => ⟨fun q2 => ?b, fun q2 => ⟨fun q3 => ?c, fun q3 => ?d⟩⟩⟩
      case' a => have e : atR k (W.drop 1).length = 1 := by simp only [decide_eq_true_eq] at q1; unfold atR; rw [if_pos (by omega)]
      case' b =>
        have e : atR k (W.drop 1).length = 3 := by
          simp only [decide_eq_true_eq, decide_eq_false_iff_not] at q1 q2
          unfold atR; rw [if_neg (by omega), if_pos (by omega)]
      case' c =>
        have e : atR k (W.drop 1).length = (W.length : Int) - 1 := by
          simp only [decide_eq_true_eq, decide_eq_false_iff_not] at q1 q2 q3
          unfold atR; rw [if_neg (by omega), if_neg (by omega), if_pos (by omega), hnl]; omega
        refine ⟨by simp only [fits]; omega, ?_⟩
      case' d =>
        have e : atR k (W.drop 1).length = -1 := by
          simp only [decide_eq_true_eq, decide_eq_false_iff_not] at q1 q2 q3
          unfold atR; rw [if_neg (by omega), if_neg (by omega), if_neg (by omega)]
      all_goals
        unfold readRK
        generalize atR k (W.drop 1).length = at_ at *
        refine loop_ind (α := {x : Nat × List Int × List Bs // rdB numR at_ (W.drop x.1) x.1 x.2.1 x.2.2 = rdB numR at_ (W.drop 1) 1 [] [] ∧ x.1 ≤ W.length ∧ x.2.1.length ≤ x.1 ∧ x.2.2.length ≤ x.1})
          (fun x => ⟨[(2, [], .box 0 0), (4, [], .ls 1 (sL W)), (5, [], .box 3 0), (10, [], .int .i64 at_), (11, [], .int .i64 x.1.1)], [.cells [.int .i64 0, .int .i64 0, .ls 1 [], .ls 1 []], .arr 2 1 x.1.2.1.length (nL x.1.2.1), .arr 9 1 x.1.2.2.length (sL x.1.2.2), .cells [.int .i64 0, .int .i64 k, .own 1 x.1.2.1.length, .own 2 x.1.2.2.length]]⟩) (fun x => W.length - x.1.1) ?_ ⟨(1, [], []), rfl, by dsimp only; omega, by simp, by simp⟩ (by dsimp only; rw [e]; rfl)
        clear q1 e
        rintro ⟨⟨i, ns, ws⟩, h1, h2, h3, h4⟩ I ih
        dsimp only at h1 h2 h3 h4
        dsimp only [run_skip, run_reg, plainB, ifB_true, run_seq, run_blk, run_exit, run_ret, run_ite, iteR, regK, thenK_nrm, thenK_exit, thenK_ret, thenR_nrm, thenR_exit, thenR_ret, blkK, keepS, keepE, runOps_nil, runOps_cons, goG_some, fpOk, foot, entOf, allN, memN, goOn_ok, goOn_call, goOn_row, goOn_arr, goOn_ask, goOn_put, goOn_prm, goOn_callK, goOn_callC, goOn_all, guardP, guardO, notInO, stepF, stepLd, stepSt, stepIxs, stepIxa, stepLen, stepApp, stepCpy, stepPick, stepSls, stepSst, stepSla, bareZ, evX, evL, evB, rd, get, subG, memG, freshG, notInG, hyps, gob, impP, allP, partD, partOf, isOne, isPtr, nth, takeN, dropN, cellsD, lenB, fillD, thirds, entN, setE, sizeE, addE, setL, setN, putE, env0, eqCs, eqAux, eqC, bA, bO, bN, bE, negB, kEq, isShr, lendL, lend, frz, frzL, zRow, closed, closedL, rowsOf, binI, retK, retG, atRet, retD, lendO, resL, resD, oneD, renD, renL, renE, renEs, rho, putAll, entsN, List.append, List.nil_append, List.cons_append, List.append_nil, cond, Nat.reduceBEq, Nat.reduceAdd, Nat.beq]
        simp only [sL_len]
        refine ⟨fun hi => ?_, fun hi => ?_⟩
        · have hi : i < W.length := by simpa using hi
          rw [rdB_drop hi] at h1
          have hwl := hby _ (List.getElem_mem hi)
          refine ⟨fun hat => ?_, fun hat => ?_⟩
          · rw [if_pos hat] at h1
            refine ⟨⟨trivial, by omega, by omega⟩, row_intro _ (.str W[i]) (show _ = some (D.str W[i]) from by rw [Int.toNat_natCast]; exact sL_at hi) rfl ?_⟩
            dsimp only [run_skip, run_reg, plainB, ifB_true, run_seq, run_blk, run_exit, run_ret, run_ite, iteR, regK, thenK_nrm, thenK_exit, thenK_ret, thenR_nrm, thenR_exit, thenR_ret, blkK, keepS, keepE, runOps_nil, runOps_cons, goG_some, fpOk, foot, entOf, allN, memN, goOn_ok, goOn_call, goOn_row, goOn_arr, goOn_ask, goOn_put, goOn_prm, goOn_callK, goOn_callC, goOn_all, guardP, guardO, notInO, stepF, stepLd, stepSt, stepIxs, stepIxa, stepLen, stepApp, stepCpy, stepPick, stepSls, stepSst, stepSla, bareZ, evX, evL, evB, rd, get, subG, memG, freshG, notInG, hyps, gob, impP, allP, partD, partOf, isOne, isPtr, nth, takeN, dropN, cellsD, lenB, fillD, thirds, entN, setE, sizeE, addE, setL, setN, putE, env0, eqCs, eqAux, eqC, bA, bO, bN, bE, negB, kEq, isShr, lendL, lend, frz, frzL, zRow, closed, closedL, rowsOf, binI, retK, retG, atRet, retD, lendO, resL, resD, oneD, renD, renL, renE, renEs, rho, putAll, entsN, List.append, List.nil_append, List.cons_append, List.append_nil, cond, Nat.reduceBEq, Nat.reduceAdd, Nat.beq]
            refine ⟨⟨rfl, rfl, rfl, rfl, by rw [sL_len]; simp; omega⟩, ?_⟩
            refine ⟨by simp only [fits]; omega, ?_⟩
            refine again (ih ⟨(i + 1, ns, ws ++ [W[i]]), h1, by dsimp only; omega, by dsimp only; omega, by dsimp only; simp; omega⟩ (by dsimp only; omega)) ?_ ?_ rfl rfl
            · exact ⟨rfl, rfl, rfl, rfl, rfl, trivial⟩
            · refine ⟨rfl, rfl, ?_, ?_, trivial⟩
              · dsimp only; rw [List.length_append]; simp [sL]
              · dsimp only; rw [List.length_append]; rfl
          · rw [if_neg (by rw [hat]; simp)] at h1
            refine ⟨⟨trivial, by omega, by omega⟩, row_intro _ (.str W[i]) (show _ = some (D.str W[i]) from by rw [Int.toNat_natCast]; exact sL_at hi) rfl ?_⟩
            dsimp only [run_skip, run_reg, plainB, ifB_true, run_seq, run_blk, run_exit, run_ret, run_ite, iteR, regK, thenK_nrm, thenK_exit, thenK_ret, thenR_nrm, thenR_exit, thenR_ret, blkK, keepS, keepE, runOps_nil, runOps_cons, goG_some, fpOk, foot, entOf, allN, memN, goOn_ok, goOn_call, goOn_row, goOn_arr, goOn_ask, goOn_put, goOn_prm, goOn_callK, goOn_callC, goOn_all, guardP, guardO, notInO, stepF, stepLd, stepSt, stepIxs, stepIxa, stepLen, stepApp, stepCpy, stepPick, stepSls, stepSst, stepSla, bareZ, evX, evL, evB, rd, get, subG, memG, freshG, notInG, hyps, gob, impP, allP, partD, partOf, isOne, isPtr, nth, takeN, dropN, cellsD, lenB, fillD, thirds, entN, setE, sizeE, addE, setL, setN, putE, env0, eqCs, eqAux, eqC, bA, bO, bN, bE, negB, kEq, isShr, lendL, lend, frz, frzL, zRow, closed, closedL, rowsOf, binI, retK, retG, atRet, retD, lendO, resL, resD, oneD, renD, renL, renE, renEs, rho, putAll, entsN, List.append, List.nil_append, List.cons_append, List.append_nil, cond, Nat.reduceBEq, Nat.reduceAdd, Nat.beq]
            refine call_pure (sp_ref63_number (by omega)) ?_
            dsimp only [numD, run_skip, run_reg, plainB, ifB_true, run_seq, run_blk, run_exit, run_ret, run_ite, iteR, regK, thenK_nrm, thenK_exit, thenK_ret, thenR_nrm, thenR_exit, thenR_ret, blkK, keepS, keepE, runOps_nil, runOps_cons, goG_some, fpOk, foot, entOf, allN, memN, goOn_ok, goOn_call, goOn_row, goOn_arr, goOn_ask, goOn_put, goOn_prm, goOn_callK, goOn_callC, goOn_all, guardP, guardO, notInO, stepF, stepLd, stepSt, stepIxs, stepIxa, stepLen, stepApp, stepCpy, stepPick, stepSls, stepSst, stepSla, bareZ, evX, evL, evB, rd, get, subG, memG, freshG, notInG, hyps, gob, impP, allP, partD, partOf, isOne, isPtr, nth, takeN, dropN, cellsD, lenB, fillD, thirds, entN, setE, sizeE, addE, setL, setN, putE, env0, eqCs, eqAux, eqC, bA, bO, bN, bE, negB, kEq, isShr, lendL, lend, frz, frzL, zRow, closed, closedL, rowsOf, binI, retK, retG, atRet, retD, lendO, resL, resD, oneD, renD, renL, renE, renEs, rho, putAll, entsN, List.append, List.nil_append, List.cons_append, List.append_nil, cond, Nat.reduceBEq, Nat.reduceAdd, Nat.beq]
            refine ⟨fun hn => ?_, fun hn => ?_⟩
            · have hn : isNum W[i] = false := by simpa using hn
              rw [if_neg (by rw [hn]; simp)] at h1
              rw [← h1]
              exact ⟨rfl, rfl, rfl⟩
            · have hn : isNum W[i] = true := by simpa using hn
              rw [if_pos hn] at h1 ⊢
              refine ⟨⟨rfl, rfl, rfl, rfl, by rw [nL_len]; simp; omega⟩, ?_⟩
              refine ⟨by simp only [fits]; omega, ?_⟩
              refine again (ih ⟨(i + 1, ns ++ [numR W[i]], ws), h1, by dsimp only; omega, by dsimp only; simp; omega, by dsimp only; omega⟩ (by dsimp only; omega)) ?_ ?_ rfl rfl
              · exact ⟨rfl, rfl, rfl, rfl, rfl, trivial⟩
              · refine ⟨rfl, ?_, rfl, ?_, trivial⟩
                · dsimp only; rw [List.length_append]; simp [nL]
                · dsimp only; rw [List.length_append]; rfl
        · have hi : i = W.length := by simp at hi; omega
          subst hi
          rw [List.drop_length] at h1
          have hr : rdB numR at_ (W.drop 1) 1 [] [] = (true, ns, ws) := by rw [← h1]; rfl
          have hc : CmOk ⟨0, k, ns, ws⟩ := by have := hok 0 k; rw [hr] at this; exact this
          refine call_lent (sp_ref63_form (c := ⟨0, k, ns, ws⟩) hk rfl hc) rfl ⟨rfl, rfl, trivial⟩ rfl ?_
          rw [hr]
          dsimp only [run_skip, run_reg, plainB, ifB_true, run_seq, run_blk, run_exit, run_ret, run_ite, iteR, regK, thenK_nrm, thenK_exit, thenK_ret, thenR_nrm, thenR_exit, thenR_ret, blkK, keepS, keepE, runOps_nil, runOps_cons, goG_some, fpOk, foot, entOf, allN, memN, goOn_ok, goOn_call, goOn_row, goOn_arr, goOn_ask, goOn_put, goOn_prm, goOn_callK, goOn_callC, goOn_all, guardP, guardO, notInO, stepF, stepLd, stepSt, stepIxs, stepIxa, stepLen, stepApp, stepCpy, stepPick, stepSls, stepSst, stepSla, bareZ, evX, evL, evB, rd, get, subG, memG, freshG, notInG, hyps, gob, impP, allP, partD, partOf, isOne, isPtr, nth, takeN, dropN, cellsD, lenB, fillD, thirds, entN, setE, sizeE, addE, setL, setN, putE, env0, eqCs, eqAux, eqC, bA, bO, bN, bE, negB, kEq, isShr, lendL, lend, frz, frzL, zRow, closed, closedL, rowsOf, binI, retK, retG, atRet, retD, lendO, resL, resD, oneD, renD, renL, renE, renEs, rho, putAll, entsN, List.append, List.nil_append, List.cons_append, List.append_nil, cond, Nat.reduceBEq, Nat.reduceAdd, Nat.beq]
          have hfb := form_built (c := ⟨0, k, ns, ws⟩) hk rfl
          cases hb : formB ⟨0, k, ns, ws⟩ with
          | false =>
            refine ⟨fun _ => ?_, fun h => by simp at h⟩
            exact ⟨rfl, rfl, rfl⟩
          | true =>
            refine ⟨fun h => by simp at h, fun _ => ?_⟩
            refine call_lent (sp_ref63_bounds (c := ⟨0, k, ns, ws⟩) hk rfl hc (by rw [← hfb, hb])) rfl ⟨rfl, rfl, trivial⟩ rfl ?_
            dsimp only [run_skip, run_reg, plainB, ifB_true, run_seq, run_blk, run_exit, run_ret, run_ite, iteR, regK, thenK_nrm, thenK_exit, thenK_ret, thenR_nrm, thenR_exit, thenR_ret, blkK, keepS, keepE, runOps_nil, runOps_cons, goG_some, fpOk, foot, entOf, allN, memN, goOn_ok, goOn_call, goOn_row, goOn_arr, goOn_ask, goOn_put, goOn_prm, goOn_callK, goOn_callC, goOn_all, guardP, guardO, notInO, stepF, stepLd, stepSt, stepIxs, stepIxa, stepLen, stepApp, stepCpy, stepPick, stepSls, stepSst, stepSla, bareZ, evX, evL, evB, rd, get, subG, memG, freshG, notInG, hyps, gob, impP, allP, partD, partOf, isOne, isPtr, nth, takeN, dropN, cellsD, lenB, fillD, thirds, entN, setE, sizeE, addE, setL, setN, putE, env0, eqCs, eqAux, eqC, bA, bO, bN, bE, negB, kEq, isShr, lendL, lend, frz, frzL, zRow, closed, closedL, rowsOf, binI, retK, retG, atRet, retD, lendO, resL, resD, oneD, renD, renL, renE, renEs, rho, putAll, entsN, List.append, List.nil_append, List.cons_append, List.append_nil, cond, Nat.reduceBEq, Nat.reduceAdd, Nat.beq]
            cases hb2 : rangeB ⟨0, k, ns, ws⟩ with
            | false =>
              refine ⟨fun _ => ?_, fun h => by simp at h⟩
              exact ⟨rfl, rfl, rfl⟩
            | true =>
              refine ⟨fun h => by simp at h, fun _ => ?_⟩
              exact ⟨rfl, rfl, rfl⟩
end Go.AM
