
/- Chapter 63: a command's line, as the program prints it. -/
import Derived.Test.YtlmhekbbagpnjaaDoorS15
set_option linter.all false
namespace Go.AM
open Go Go.Proofs Go.RowKit

theorem callK_own2 {P : Program} {gt : Nat → Option (List D)} {f : Nat} {ds : List D} {dst : Option Nat} {g : G} {os : List O} {st : St} {K : St → Prop} {l : List Nat} (ks : List Nat) {ds' : List D} {es es' : List Ent} {d : D} (h : SpM P gt f ds' es d es') (h1 : ds = renL ks (sizeE st.bx) ds') (h2 : entsN st.bx ks = some (renEs ks (sizeE st.bx) es))
    (hl : Kept l st.bx (putAll st.bx ks (renEs ks (sizeE st.bx) es'))) (hk : runOps (SpC P gt) gt os K ⟨putE dst g (renD ks (sizeE st.bx) d) st.env, putAll st.bx ks (renEs ks (sizeE st.bx) es')⟩) (hks : okKs ks = true := by rfl) : atCallK (SpC P gt) gt l f ds dst g os st K :=
  ⟨_, _, SpM.own h ks h1 h2 hks, hl, hk⟩
def wordsP (k : Nat) (nums : List Int) (w : Bs) : List Bs :=
  if !decide ((sh k).word = 0) then ins ((sh k).name :: nums.map Lib.itoa) (1 + (sh k).ahead).toNat w else (sh k).name :: nums.map Lib.itoa
def textP (c : Cm) : Bs := Lib.join (wordsP c.op.toNat c.nums (c.words.getD 0 [])) [32]
theorem join_le {m : Nat} : ∀ (l : List Bs), (∀ x ∈ l, x.length ≤ m) → (Lib.join l [32]).length ≤ l.length * (m + 1)
  | [], _ => by simp [Lib.join, List.intercalate]
  | [x], h => by
    have := h x (by simp)
    simp [Lib.join, List.intercalate]; omega
  | x :: y :: l, h => by
    have h1 := h x (by simp)
    have h2 := join_le (y :: l) fun z hz => h z (by simp [hz])
    have e : Lib.join (x :: y :: l) [32] = x ++ ([32] ++ Lib.join (y :: l) [32]) := by simp [Lib.join, List.intercalate, List.intersperse]
    rw [e]
    simp only [List.length_append, List.length_cons, List.length_nil] at h2 ⊢
    rw [Nat.succ_mul]
    omega
theorem decDigits_len (u k : Nat) (hk : u < 10 ^ (k + 1)) : (Lib.decDigits u).length ≤ k + 1 := by
  induction k generalizing u with
  | zero =>
    unfold Lib.decDigits
    rw [dif_pos (by simpa using hk)]; simp
  | succ k ih =>
    unfold Lib.decDigits
    split
    · simp
    · have := ih (u / 10) (by rw [Nat.pow_succ] at hk; omega)
      simp; omega
theorem itoa_len {n : Int} (h : inR n = true) : (Lib.itoa n).length ≤ 11 := by
  simp only [inR, Bool.and_eq_true, decide_eq_true_eq] at h
  have h10 : (10 : Nat) ^ (9 + 1) = 10000000000 := by decide
  unfold Lib.itoa
  split
  · have := decDigits_len n.natAbs 9 (by omega)
    simp; omega
  · have := decDigits_len n.toNat 9 (by omega)
    omega
theorem allR_at {l : List Int} {i : Nat} (h : allR l = true) (hi : i < l.length) : inR l[i] = true := by
  unfold allR at h
  exact List.all_eq_true.1 h _ (List.getElem_mem hi)
theorem ahead_le {k : Nat} (hk : k < 16) : 0 ≤ (sh k).ahead ∧ (sh k).ahead ≤ (sh k).least ∧ (sh k).most ≤ 100 ∧ (sh k).name.length ≤ 6 := by
  rcases sixteen hk with rfl | rfl | rfl | rfl | rfl | rfl | rfl | rfl | rfl | rfl | rfl | rfl | rfl | rfl | rfl | rfl <;> decide
theorem built_word {c : Cm} {k : Nat} (hop : c.op = k) (h : builtB c = true) (hw : (!decide ((sh k).word = 0)) = true) : c.words.length = 1 := by
  unfold builtB at h
  rw [show c.op.toNat = k by rw [hop]; rfl] at h
  split at h
  · cases h
  · rw [if_neg (by simpa using hw)] at h
    simp only [Bool.and_eq_true, decide_eq_true_eq] at h
    omega
theorem sp_script_text {c : Cm} {k : Nat} (hg : Good c k) (hr : allR c.nums = true) (hw : (c.words.getD 0 []).length < 1000000) : TSp 26 [cmD c] (.str (textP c)) := by
  have hk := hg.lt
  have hko : c.op.toNat = k := by rw [hg.op]; rfl
  obtain ⟨b1, b2⟩ := built_len hg.op hg.built
  obtain ⟨a1, a2, a3, a4⟩ := ahead_le hk
  have hnl : c.nums.length ≤ 100 := by omega
  refine spo_script_Command_text (by rfl) ?_
  dsimp only [c_script_Command_text, r_script_Command_text, cmD, run_skip, run_reg, plainB, ifB_true, run_seq, run_blk, run_exit, run_ret, run_ite, iteR, regK, thenK_nrm, thenK_exit, thenK_ret, thenR_nrm, thenR_exit, thenR_ret, blkK, keepS, keepE, runOps_nil, runOps_cons, goG_some, fpOk, foot, entOf, allN, memN, goOn_ok, goOn_call, goOn_row, goOn_arr, goOn_ask, goOn_put, goOn_prm, goOn_callK, goOn_callC, goOn_all, guardP, guardO, notInO, stepF, stepLd, stepSt, stepIxs, stepIxa, stepLen, stepApp, stepCpy, stepPick, stepSls, stepSst, stepSla, bareZ, evX, evL, evB, rd, get, subG, memG, freshG, notInG, hyps, gob, impP, allP, partD, partOf, isOne, isPtr, nth, takeN, dropN, cellsD, lenB, fillD, thirds, entN, setE, sizeE, addE, setL, setN, putE, env0, eqCs, eqAux, eqC, bA, bO, bN, bE, negB, kEq, isShr, lendL, lend, frz, frzL, zRow, closed, closedL, rowsOf, binI, retK, retG, atRet, retD, lendO, resL, resD, oneD, renD, renL, renE, renEs, rho, putAll, entsN, List.append, List.nil_append, List.cons_append, List.append_nil, cond, Nat.reduceBEq, Nat.reduceAdd, Nat.beq]
  have hop := hg.op
  refine ⟨⟨by omega, by omega⟩, ?_⟩
  rw [glob0]
  dsimp only [run_skip, run_reg, plainB, ifB_true, run_seq, run_blk, run_exit, run_ret, run_ite, iteR, regK, thenK_nrm, thenK_exit, thenK_ret, thenR_nrm, thenR_exit, thenR_ret, blkK, keepS, keepE, runOps_nil, runOps_cons, goG_some, fpOk, foot, entOf, allN, memN, goOn_ok, goOn_call, goOn_row, goOn_arr, goOn_ask, goOn_put, goOn_prm, goOn_callK, goOn_callC, goOn_all, guardP, guardO, notInO, stepF, stepLd, stepSt, stepIxs, stepIxa, stepLen, stepApp, stepCpy, stepPick, stepSls, stepSst, stepSla, bareZ, evX, evL, evB, rd, get, subG, memG, freshG, notInG, hyps, gob, impP, allP, partD, partOf, isOne, isPtr, nth, takeN, dropN, cellsD, lenB, fillD, thirds, entN, setE, sizeE, addE, setL, setN, putE, env0, eqCs, eqAux, eqC, bA, bO, bN, bE, negB, kEq, isShr, lendL, lend, frz, frzL, zRow, closed, closedL, rowsOf, binI, retK, retG, atRet, retD, lendO, resL, resD, oneD, renD, renL, renE, renEs, rho, putAll, entsN, List.append, List.nil_append, List.cons_append, List.append_nil, cond, Nat.reduceBEq, Nat.reduceAdd, Nat.beq]
  refine arr_intro (.agg (shC (sh k))) (by rw [hko]; exact sh_at hk) ?_
  dsimp only [shC, run_skip, run_reg, plainB, ifB_true, run_seq, run_blk, run_exit, run_ret, run_ite, iteR, regK, thenK_nrm, thenK_exit, thenK_ret, thenR_nrm, thenR_exit, thenR_ret, blkK, keepS, keepE, runOps_nil, runOps_cons, goG_some, fpOk, foot, entOf, allN, memN, goOn_ok, goOn_call, goOn_row, goOn_arr, goOn_ask, goOn_put, goOn_prm, goOn_callK, goOn_callC, goOn_all, guardP, guardO, notInO, stepF, stepLd, stepSt, stepIxs, stepIxa, stepLen, stepApp, stepCpy, stepPick, stepSls, stepSst, stepSla, bareZ, evX, evL, evB, rd, get, subG, memG, freshG, notInG, hyps, gob, impP, allP, partD, partOf, isOne, isPtr, nth, takeN, dropN, cellsD, lenB, fillD, thirds, entN, setE, sizeE, addE, setL, setN, putE, env0, eqCs, eqAux, eqC, bA, bO, bN, bE, negB, kEq, isShr, lendL, lend, frz, frzL, zRow, closed, closedL, rowsOf, binI, retK, retG, atRet, retD, lendO, resL, resD, oneD, renD, renL, renE, renEs, rho, putAll, entsN, List.append, List.nil_append, List.cons_append, List.append_nil, cond, Nat.reduceBEq, Nat.reduceAdd, Nat.beq]
  simp only [nL_len]
  refine loop_ind (α := {i : Nat // i ≤ c.nums.length}) (fun i => ⟨[(1, [], .box 0 0), (3, [], .box 1 0), (4, [], .own 2 (i.1 + 1)), (15, [], .ls 1 (nL c.nums)), (16, [], .int .i64 c.nums.length), (17, [], .int .i64 i.1)],
    [.cells [.int .i64 c.line, .int .i64 c.op, .ls 1 (nL c.nums), .ls 1 (sL c.words)], .cells [.str (sh k).name, .int .i64 (sh k).least, .int .i64 (sh k).most, .int .i64 (sh k).word, .int .i64 (sh k).ahead], .arr 9 1 (i.1 + 1) (sL ((sh k).name :: (c.nums.take i.1).map Lib.itoa))]⟩) (fun i => c.nums.length - i.1) ?_ ⟨0, by omega⟩ rfl
  rintro ⟨i, h1⟩ I ih
  dsimp only [run_skip, run_reg, plainB, ifB_true, run_seq, run_blk, run_exit, run_ret, run_ite, iteR, regK, thenK_nrm, thenK_exit, thenK_ret, thenR_nrm, thenR_exit, thenR_ret, blkK, keepS, keepE, runOps_nil, runOps_cons, goG_some, fpOk, foot, entOf, allN, memN, goOn_ok, goOn_call, goOn_row, goOn_arr, goOn_ask, goOn_put, goOn_prm, goOn_callK, goOn_callC, goOn_all, guardP, guardO, notInO, stepF, stepLd, stepSt, stepIxs, stepIxa, stepLen, stepApp, stepCpy, stepPick, stepSls, stepSst, stepSla, bareZ, evX, evL, evB, rd, get, subG, memG, freshG, notInG, hyps, gob, impP, allP, partD, partOf, isOne, isPtr, nth, takeN, dropN, cellsD, lenB, fillD, thirds, entN, setE, sizeE, addE, setL, setN, putE, env0, eqCs, eqAux, eqC, bA, bO, bN, bE, negB, kEq, isShr, lendL, lend, frz, frzL, zRow, closed, closedL, rowsOf, binI, retK, retG, atRet, retD, lendO, resL, resD, oneD, renD, renL, renE, renEs, rho, putAll, entsN, List.append, List.nil_append, List.cons_append, List.append_nil, cond, Nat.reduceBEq, Nat.reduceAdd, Nat.beq]
  refine ⟨fun hi => ?_, fun hi => ?_⟩
  · have hi : i < c.nums.length := by simpa using hi
    have hin := allR_at hr hi
    simp only [inR, Bool.and_eq_true, decide_eq_true_eq] at hin
    refine ⟨⟨rfl, by omega, by rw [nL_len]; omega⟩, row_intro _ (.int .i64 c.nums[i]) (show _ = some (D.int .i64 c.nums[i]) from by rw [Int.toNat_natCast]; exact nL_at hi) rfl ?_⟩
    dsimp only [run_skip, run_reg, plainB, ifB_true, run_seq, run_blk, run_exit, run_ret, run_ite, iteR, regK, thenK_nrm, thenK_exit, thenK_ret, thenR_nrm, thenR_exit, thenR_ret, blkK, keepS, keepE, runOps_nil, runOps_cons, goG_some, fpOk, foot, entOf, allN, memN, goOn_ok, goOn_call, goOn_row, goOn_arr, goOn_ask, goOn_put, goOn_prm, goOn_callK, goOn_callC, goOn_all, guardP, guardO, notInO, stepF, stepLd, stepSt, stepIxs, stepIxa, stepLen, stepApp, stepCpy, stepPick, stepSls, stepSst, stepSla, bareZ, evX, evL, evB, rd, get, subG, memG, freshG, notInG, hyps, gob, impP, allP, partD, partOf, isOne, isPtr, nth, takeN, dropN, cellsD, lenB, fillD, thirds, entN, setE, sizeE, addE, setL, setN, putE, env0, eqCs, eqAux, eqC, bA, bO, bN, bE, negB, kEq, isShr, lendL, lend, frz, frzL, zRow, closed, closedL, rowsOf, binI, retK, retG, atRet, retD, lendO, resL, resD, oneD, renD, renL, renE, renEs, rho, putAll, entsN, List.append, List.nil_append, List.cons_append, List.append_nil, cond, Nat.reduceBEq, Nat.reduceAdd, Nat.beq]
    refine call_pure (sp_FormatInt (by omega) (by omega)) ?_
    dsimp only [run_skip, run_reg, plainB, ifB_true, run_seq, run_blk, run_exit, run_ret, run_ite, iteR, regK, thenK_nrm, thenK_exit, thenK_ret, thenR_nrm, thenR_exit, thenR_ret, blkK, keepS, keepE, runOps_nil, runOps_cons, goG_some, fpOk, foot, entOf, allN, memN, goOn_ok, goOn_call, goOn_row, goOn_arr, goOn_ask, goOn_put, goOn_prm, goOn_callK, goOn_callC, goOn_all, guardP, guardO, notInO, stepF, stepLd, stepSt, stepIxs, stepIxa, stepLen, stepApp, stepCpy, stepPick, stepSls, stepSst, stepSla, bareZ, evX, evL, evB, rd, get, subG, memG, freshG, notInG, hyps, gob, impP, allP, partD, partOf, isOne, isPtr, nth, takeN, dropN, cellsD, lenB, fillD, thirds, entN, setE, sizeE, addE, setL, setN, putE, env0, eqCs, eqAux, eqC, bA, bO, bN, bE, negB, kEq, isShr, lendL, lend, frz, frzL, zRow, closed, closedL, rowsOf, binI, retK, retG, atRet, retD, lendO, resL, resD, oneD, renD, renL, renE, renEs, rho, putAll, entsN, List.append, List.nil_append, List.cons_append, List.append_nil, cond, Nat.reduceBEq, Nat.reduceAdd, Nat.beq]
    refine ⟨⟨rfl, rfl, rfl, rfl, by rw [sL_len]; simp; omega⟩, ?_⟩
    refine ⟨by simp only [fits]; omega, ?_⟩
    refine again (ih ⟨i + 1, by omega⟩ (by dsimp only; omega)) ?_ ?_ rfl rfl
    · exact ⟨rfl, rfl, rfl, rfl, rfl, rfl, trivial⟩
    · refine ⟨rfl, rfl, ?_, trivial⟩
      dsimp only
      rw [List.take_succ_eq_append_getElem hi, List.map_append]
      simp [sL]
  · have hi : i = c.nums.length := by simp at hi; omega
    subst hi
    rw [List.take_length]
    have htp : textP c = Lib.join (wordsP k c.nums (c.words.getD 0 [])) [32] := by unfold textP; rw [hko]
    rw [htp]
    have hwl : ((sh k).name :: c.nums.map Lib.itoa).length = c.nums.length + 1 := by simp
    have hall : ∀ x ∈ wordsP k c.nums (c.words.getD 0 []), x.length ≤ 1000000 := fun x hx => by
      have hb : ∀ y ∈ (sh k).name :: c.nums.map Lib.itoa, y.length ≤ 1000000 := fun y hy => by
        rcases List.mem_cons.1 hy with rfl | hy
        · omega
        · obtain ⟨n, hn, rfl⟩ := List.mem_map.1 hy
          have := itoa_len (n := n) (List.all_eq_true.1 hr n hn)
          omega
      unfold wordsP at hx
      split at hx
      · unfold ins at hx
        rcases List.mem_append.1 hx with hx | hx
        · exact hb x (List.mem_of_mem_take hx)
        · rcases List.mem_cons.1 hx with rfl | hx
          · omega
          · exact hb x (List.mem_of_mem_drop hx)
      · exact hb x hx
    have hjl := join_le _ hall
    refine ⟨fun hwd => ?_, fun hwd => ?_⟩
    · have hw1 := built_word hg.op hg.built hwd
      have hil : (1 + (sh k).ahead).toNat ≤ ((sh k).name :: c.nums.map Lib.itoa).length := by rw [hwl]; omega
      have e : wordsP k c.nums (c.words.getD 0 []) = ins ((sh k).name :: c.nums.map Lib.itoa) (1 + (sh k).ahead).toNat (c.words.getD 0 []) := by unfold wordsP; rw [if_pos hwd]
      have hwr : (sL c.words)[Int.toNat 0]? = some (.str (c.words.getD 0 [])) := words_row (by omega)
      refine ⟨by simp only [fits]; omega, ⟨rfl, by omega, by rw [sL_len]; omega⟩, row_intro _ _ hwr rfl ?_⟩
      dsimp only [run_skip, run_reg, plainB, ifB_true, run_seq, run_blk, run_exit, run_ret, run_ite, iteR, regK, thenK_nrm, thenK_exit, thenK_ret, thenR_nrm, thenR_exit, thenR_ret, blkK, keepS, keepE, runOps_nil, runOps_cons, goG_some, fpOk, foot, entOf, allN, memN, goOn_ok, goOn_call, goOn_row, goOn_arr, goOn_ask, goOn_put, goOn_prm, goOn_callK, goOn_callC, goOn_all, guardP, guardO, notInO, stepF, stepLd, stepSt, stepIxs, stepIxa, stepLen, stepApp, stepCpy, stepPick, stepSls, stepSst, stepSla, bareZ, evX, evL, evB, rd, get, subG, memG, freshG, notInG, hyps, gob, impP, allP, partD, partOf, isOne, isPtr, nth, takeN, dropN, cellsD, lenB, fillD, thirds, entN, setE, sizeE, addE, setL, setN, putE, env0, eqCs, eqAux, eqC, bA, bO, bN, bE, negB, kEq, isShr, lendL, lend, frz, frzL, zRow, closed, closedL, rowsOf, binI, retK, retG, atRet, retD, lendO, resL, resD, oneD, renD, renL, renE, renEs, rho, putAll, entsN, List.append, List.nil_append, List.cons_append, List.append_nil, cond, Nat.reduceBEq, Nat.reduceAdd, Nat.beq]
      rw [show (1 + (sh k).ahead : Int) = ((1 + (sh k).ahead).toNat : Nat) by omega]
      refine callK_own2 [2] (sm_Insert (l := (sh k).name :: c.nums.map Lib.itoa) (by omega) (ver := c.nums.length + 1) (at_ := (1 + (sh k).ahead).toNat) hil (id := c.words.getD 0 [])) rfl rfl (fun j hj => ?_) ?_
      · match j with
        | 0 | 1 => rfl
        | 2 => simp at hj
        | j + 3 => rfl
      dsimp only [run_skip, run_reg, plainB, ifB_true, run_seq, run_blk, run_exit, run_ret, run_ite, iteR, regK, thenK_nrm, thenK_exit, thenK_ret, thenR_nrm, thenR_exit, thenR_ret, blkK, keepS, keepE, runOps_nil, runOps_cons, goG_some, fpOk, foot, entOf, allN, memN, goOn_ok, goOn_call, goOn_row, goOn_arr, goOn_ask, goOn_put, goOn_prm, goOn_callK, goOn_callC, goOn_all, guardP, guardO, notInO, stepF, stepLd, stepSt, stepIxs, stepIxa, stepLen, stepApp, stepCpy, stepPick, stepSls, stepSst, stepSla, bareZ, evX, evL, evB, rd, get, subG, memG, freshG, notInG, hyps, gob, impP, allP, partD, partOf, isOne, isPtr, nth, takeN, dropN, cellsD, lenB, fillD, thirds, entN, setE, sizeE, addE, setL, setN, putE, env0, eqCs, eqAux, eqC, bA, bO, bN, bE, negB, kEq, isShr, lendL, lend, frz, frzL, zRow, closed, closedL, rowsOf, binI, retK, retG, atRet, retD, lendO, resL, resD, oneD, renD, renL, renE, renEs, rho, putAll, entsN, List.append, List.nil_append, List.cons_append, List.append_nil, cond, Nat.reduceBEq, Nat.reduceAdd, Nat.beq]
      rw [← e]
      have hlen : (wordsP k c.nums (c.words.getD 0 [])).length ≤ 102 := by rw [e, ins_len hil, hwl]; omega
      refine call_lent (sp_strings_Join (l := wordsP k c.nums (c.words.getD 0 [])) (fun h => by rw [e] at h; have := ins_len (x := c.words.getD 0 []) hil; rw [h] at this; simp at this) (by omega) (by omega)) rfl ⟨rfl, trivial⟩ rfl ?_
      dsimp only [run_skip, run_reg, plainB, ifB_true, run_seq, run_blk, run_exit, run_ret, run_ite, iteR, regK, thenK_nrm, thenK_exit, thenK_ret, thenR_nrm, thenR_exit, thenR_ret, blkK, keepS, keepE, runOps_nil, runOps_cons, goG_some, fpOk, foot, entOf, allN, memN, goOn_ok, goOn_call, goOn_row, goOn_arr, goOn_ask, goOn_put, goOn_prm, goOn_callK, goOn_callC, goOn_all, guardP, guardO, notInO, stepF, stepLd, stepSt, stepIxs, stepIxa, stepLen, stepApp, stepCpy, stepPick, stepSls, stepSst, stepSla, bareZ, evX, evL, evB, rd, get, subG, memG, freshG, notInG, hyps, gob, impP, allP, partD, partOf, isOne, isPtr, nth, takeN, dropN, cellsD, lenB, fillD, thirds, entN, setE, sizeE, addE, setL, setN, putE, env0, eqCs, eqAux, eqC, bA, bO, bN, bE, negB, kEq, isShr, lendL, lend, frz, frzL, zRow, closed, closedL, rowsOf, binI, retK, retG, atRet, retD, lendO, resL, resD, oneD, renD, renL, renE, renEs, rho, putAll, entsN, List.append, List.nil_append, List.cons_append, List.append_nil, cond, Nat.reduceBEq, Nat.reduceAdd, Nat.beq]
    · have e : wordsP k c.nums (c.words.getD 0 []) = (sh k).name :: c.nums.map Lib.itoa := by unfold wordsP; rw [if_neg (by rw [hwd]; simp)]
      rw [← e]
      have hlen : (wordsP k c.nums (c.words.getD 0 [])).length ≤ 102 := by rw [e, hwl]; omega
      refine call_lent (sp_strings_Join (l := wordsP k c.nums (c.words.getD 0 [])) (fun h => by rw [e] at h; cases h) (by omega) (by omega)) rfl ⟨rfl, trivial⟩ rfl ?_
      dsimp only [run_skip, run_reg, plainB, ifB_true, run_seq, run_blk, run_exit, run_ret, run_ite, iteR, regK, thenK_nrm, thenK_exit, thenK_ret, thenR_nrm, thenR_exit, thenR_ret, blkK, keepS, keepE, runOps_nil, runOps_cons, goG_some, fpOk, foot, entOf, allN, memN, goOn_ok, goOn_call, goOn_row, goOn_arr, goOn_ask, goOn_put, goOn_prm, goOn_callK, goOn_callC, goOn_all, guardP, guardO, notInO, stepF, stepLd, stepSt, stepIxs, stepIxa, stepLen, stepApp, stepCpy, stepPick, stepSls, stepSst, stepSla, bareZ, evX, evL, evB, rd, get, subG, memG, freshG, notInG, hyps, gob, impP, allP, partD, partOf, isOne, isPtr, nth, takeN, dropN, cellsD, lenB, fillD, thirds, entN, setE, sizeE, addE, setL, setN, putE, env0, eqCs, eqAux, eqC, bA, bO, bN, bE, negB, kEq, isShr, lendL, lend, frz, frzL, zRow, closed, closedL, rowsOf, binI, retK, retG, atRet, retD, lendO, resL, resD, oneD, renD, renL, renE, renEs, rho, putAll, entsN, List.append, List.nil_append, List.cons_append, List.append_nil, cond, Nat.reduceBEq, Nat.reduceAdd, Nat.beq]
end Go.AM
