
/- Chapter 52: the sums. -/
import Derived.Test.YtnjmjiajbgdnlaaN14
set_option linter.all false
namespace Go.AM
open Go Go.Proofs

theorem up_zero {grow : List Int} {left : Int} : upU grow left 0 = 0 := by simp [upU]
theorem parts_sum {least grow : List Int} {left : Int} (hl : least.length = grow.length) : ∀ i, i ≤ least.length → ((partsL left grow.sum 0 0 least grow).take i).sum = (least.take i).sum + upU grow left i
  | 0, _ => by simp [up_zero]
  | i + 1, h => by
    have hp := parts_len (left := left) (all := grow.sum) (gn := 0) (gv := 0) hl
    have hg := parts_get (left := left) hl (i := i) (by omega)
    rw [take_sum (by omega), parts_sum hl i (by omega), take_sum (by omega)]
    rw [List.getElem?_eq_getElem (by omega)] at hg
    have := Option.some.inj hg
    omega
theorem g_take {grow : List Int} (h : ∀ x ∈ grow, 0 ≤ x ∧ x ≤ 1000000) (i : Nat) : 0 ≤ (grow.take i).sum ∧ (grow.take i).sum ≤ grow.sum := by
  have h1 : 0 ≤ (grow.take i).sum := sum_nonneg fun x hx => (h x (List.mem_of_mem_take hx)).1
  have h2 : 0 ≤ (grow.drop i).sum := sum_nonneg fun x hx => (h x (List.mem_of_mem_drop hx)).1
  have e : grow.sum = (grow.take i).sum + (grow.drop i).sum := by rw [← List.sum_append, List.take_append_drop]
  omega
theorem up_mono {grow : List Int} {left left' : Int} (h : ∀ x ∈ grow, 0 ≤ x ∧ x ≤ 1000000) (hl : left ≤ left') (i : Nat) : upU grow left i ≤ upU grow left' i := by
  unfold upU
  split
  · rename_i ha
    exact Int.ediv_le_ediv ha (Int.mul_le_mul_of_nonneg_right hl (g_take h i).1)
  · split <;> omega
theorem up_step {grow : List Int} {left : Int} (h : ∀ x ∈ grow, 0 ≤ x ∧ x ≤ 1000000) (h0 : 0 ≤ left) {i : Nat} (hi : i < grow.length) : upU grow left i ≤ upU grow left (i + 1) := by
  unfold upU
  split
  · rename_i ha
    have := h _ (List.getElem_mem hi)
    exact Int.ediv_le_ediv ha (Int.mul_le_mul_of_nonneg_left (by rw [take_sum hi]; omega) h0)
  · rw [if_neg (by omega)]; split <;> omega
theorem up_same {grow : List Int} {left : Int} (ha : 0 < grow.sum) {i : Nat} (hi : i < grow.length) (h : grow[i] = 0) : upU grow left (i + 1) = upU grow left i := by
  unfold upU
  rw [if_pos ha, if_pos ha, take_sum hi, h, Int.add_zero]
theorem up_bd {grow : List Int} {left : Int} (h : ∀ x ∈ grow, 0 ≤ x ∧ x ≤ 1000000) (h0 : 0 ≤ left) (i : Nat) : 0 ≤ upU grow left i ∧ upU grow left i ≤ left := by
  unfold upU
  split
  · rename_i ha; exact part_le h0 (g_take h i).1 (g_take h i).2 ha
  · split <;> omega
theorem up_last {grow : List Int} {left : Int} (h0 : 0 < grow.length) : upU grow left grow.length = left := by
  unfold upU
  split
  · rename_i ha; rw [List.take_length, Int.mul_ediv_cancel _ (by omega)]
  · rw [if_pos ⟨h0, rfl⟩]
theorem split_err {total : Int} {least grow : List Int} (h : ¬ (splitS total least grow).2 = 0) : (splitS total least grow).1 = [] := by
  unfold splitS at h ⊢
  split; rfl
  split; rfl
  split; rfl
  split; rfl
  split; rfl
  rename_i h1 h2 _ _ _ hs h3 h4
  rw [if_neg h1, if_neg h2, hs] at h
  simp only [if_neg h3, if_neg h4] at h
  exact absurd trivial h
theorem grows_iff {grow : List Int} (h : ∀ x ∈ grow, 0 ≤ x ∧ x ≤ 1000000) : grow.any (fun x => decide (0 < x)) = true → 0 < grow.sum := by
  intro ha
  rw [List.any_eq_true] at ha
  obtain ⟨x, hx, hp⟩ := ha
  induction grow with
  | nil => simp at hx
  | cons y l ih =>
    have h1 := h y (by simp)
    have h2 := sum_nonneg (l := l) fun z hz => (h z (by simp [hz])).1
    rcases List.mem_cons.1 hx with rfl | hx
    · simp at hp ⊢; omega
    · have := ih (fun z hz => h z (by simp [hz])) hx; simp; omega
theorem least_take {least : List Int} (h : ∀ x ∈ least, 0 ≤ x ∧ x ≤ 1000000) (i : Nat) : 0 ≤ (least.take i).sum ∧ (least.take i).sum ≤ least.sum := g_take h i

def gAny (grow : List Int) (i : Nat) : Bool := (grow.take i).any fun x => decide (0 < x)
theorem gAny_step {grow : List Int} {i : Nat} (h : i < grow.length) : gAny grow (i + 1) = (gAny grow i || decide (0 < grow[i])) := by
  unfold gAny; rw [List.take_succ_eq_append_getElem h, List.any_append]; simp

set_option maxHeartbeats 1000000 in
theorem sp_law52_LayoutSums {total more : Int} {least grow : List Int} (ht : fits .i64 total) (hm : fits .i64 more) : TSp 4 [.int .i64 total, .int .i64 more, .ls 1 (iD least), .ls 1 (iD grow)] (.bool true) := by
  refine spo_law52_LayoutSums (by rfl) ?_
  dsimp only [c_law52_LayoutSums, r_law52_LayoutSums, run_skip, run_reg, plainB, ifB_true, run_seq, run_blk, run_exit, run_ret, run_ite, iteR, regK, thenK_nrm, thenK_exit, thenK_ret, thenR_nrm, thenR_exit, thenR_ret, blkK, keepS, keepE, runOps_nil, runOps_cons, goG_some, fpOk, foot, entOf, allN, memN, goOn_ok, goOn_call, goOn_row, goOn_arr, goOn_ask, goOn_put, guardP, guardO, notInO, stepF, stepLd, stepSt, stepIxs, stepIxa, stepLen, stepApp, stepCpy, stepPick, stepSls, stepSst, stepSla, evX, evL, evB, rd, get, subG, memG, freshG, notInG, hyps, gob, impP, allP, partD, partOf, isOne, isPtr, nth, takeN, dropN, cellsD, lenB, fillD, thirds, entN, setE, sizeE, addE, setL, setN, putE, env0, eqCs, eqAux, eqC, bA, bO, bN, bE, negB, kEq, isShr, lendL, lend, frz, frzL, zRow, closed, closedL, rowsOf, binI, retK, retG, atRet, retD, lendO, resL, resD, oneD, renD, renL, renE, renEs, rho, putAll, entsN, List.append, List.nil_append, List.cons_append, List.append_nil, cond, Nat.reduceBEq, Nat.reduceAdd, Nat.beq]
  refine call_pure sp_law52_awake ?_
  dsimp only [run_skip, run_reg, plainB, ifB_true, run_seq, run_blk, run_exit, run_ret, run_ite, iteR, regK, thenK_nrm, thenK_exit, thenK_ret, thenR_nrm, thenR_exit, thenR_ret, blkK, keepS, keepE, runOps_nil, runOps_cons, goG_some, fpOk, foot, entOf, allN, memN, goOn_ok, goOn_call, goOn_row, goOn_arr, goOn_ask, goOn_put, guardP, guardO, notInO, stepF, stepLd, stepSt, stepIxs, stepIxa, stepLen, stepApp, stepCpy, stepPick, stepSls, stepSst, stepSla, evX, evL, evB, rd, get, subG, memG, freshG, notInG, hyps, gob, impP, allP, partD, partOf, isOne, isPtr, nth, takeN, dropN, cellsD, lenB, fillD, thirds, entN, setE, sizeE, addE, setL, setN, putE, env0, eqCs, eqAux, eqC, bA, bO, bN, bE, negB, kEq, isShr, lendL, lend, frz, frzL, zRow, closed, closedL, rowsOf, binI, retK, retG, atRet, retD, lendO, resL, resD, oneD, renD, renL, renE, renEs, rho, putAll, entsN, List.append, List.nil_append, List.cons_append, List.append_nil, cond, Nat.reduceBEq, Nat.reduceAdd, Nat.beq]
  refine ⟨nofun, fun _ => ?_⟩
  simp only [iD_len]
  refine ⟨fun _ => trivial, fun hc => ?_⟩
  simp only [Bool.or_eq_false_iff, decide_eq_false_iff_not, Bool.not_eq_false', decide_eq_true_eq] at hc
  refine call_pure (sp_layout_Split ht) ?_
  dsimp only [splitD, run_skip, run_reg, plainB, ifB_true, run_seq, run_blk, run_exit, run_ret, run_ite, iteR, regK, thenK_nrm, thenK_exit, thenK_ret, thenR_nrm, thenR_exit, thenR_ret, blkK, keepS, keepE, runOps_nil, runOps_cons, goG_some, fpOk, foot, entOf, allN, memN, goOn_ok, goOn_call, goOn_row, goOn_arr, goOn_ask, goOn_put, guardP, guardO, notInO, stepF, stepLd, stepSt, stepIxs, stepIxa, stepLen, stepApp, stepCpy, stepPick, stepSls, stepSst, stepSla, evX, evL, evB, rd, get, subG, memG, freshG, notInG, hyps, gob, impP, allP, partD, partOf, isOne, isPtr, nth, takeN, dropN, cellsD, lenB, fillD, thirds, entN, setE, sizeE, addE, setL, setN, putE, env0, eqCs, eqAux, eqC, bA, bO, bN, bE, negB, kEq, isShr, lendL, lend, frz, frzL, zRow, closed, closedL, rowsOf, binI, retK, retG, atRet, retD, lendO, resL, resD, oneD, renD, renL, renE, renEs, rho, putAll, entsN, List.append, List.nil_append, List.cons_append, List.append_nil, cond, Nat.reduceBEq, Nat.reduceAdd, Nat.beq]
  refine call_pure (sp_layout_Split hm) ?_
  dsimp only [splitD, run_skip, run_reg, plainB, ifB_true, run_seq, run_blk, run_exit, run_ret, run_ite, iteR, regK, thenK_nrm, thenK_exit, thenK_ret, thenR_nrm, thenR_exit, thenR_ret, blkK, keepS, keepE, runOps_nil, runOps_cons, goG_some, fpOk, foot, entOf, allN, memN, goOn_ok, goOn_call, goOn_row, goOn_arr, goOn_ask, goOn_put, guardP, guardO, notInO, stepF, stepLd, stepSt, stepIxs, stepIxa, stepLen, stepApp, stepCpy, stepPick, stepSls, stepSst, stepSla, evX, evL, evB, rd, get, subG, memG, freshG, notInG, hyps, gob, impP, allP, partD, partOf, isOne, isPtr, nth, takeN, dropN, cellsD, lenB, fillD, thirds, entN, setE, sizeE, addE, setL, setN, putE, env0, eqCs, eqAux, eqC, bA, bO, bN, bE, negB, kEq, isShr, lendL, lend, frz, frzL, zRow, closed, closedL, rowsOf, binI, retK, retG, atRet, retD, lendO, resL, resD, oneD, renD, renL, renE, renEs, rho, putAll, entsN, List.append, List.nil_append, List.cons_append, List.append_nil, cond, Nat.reduceBEq, Nat.reduceAdd, Nat.beq]
  have he := split_err (total := total) (least := least) (grow := grow)
  have ho := splitOk (total := total) (least := least) (grow := grow)
  have hq := splitOk (total := more) (least := least) (grow := grow)
  generalize splitS total least grow = X at *
  generalize splitS more least grow = Y at *
  obtain ⟨P, e⟩ := X
  obtain ⟨Q, f⟩ := Y
  dsimp only at he ho hq ⊢
  refine ⟨fun h => ?_, fun h => ?_⟩
  · rw [he (by simpa using h)]; rfl
  have h0 : e = 0 := by simpa using h
  have hP := ho h0
  have hPl : P.length = least.length := by rw [hP.P]; exact parts_len hP.len
  simp only [iD_len]
  refine ⟨fun h => by simp at h; omega, fun _ => ?_⟩
  have hlen := hP.len
  refine loop_ind (α := {i : Nat // i ≤ grow.length}) (fun i => ⟨[(0, [], .int .i64 total), (2, [], .ls 1 (iD least)), (3, [], .ls 1 (iD grow)), (9, [], .ls 1 (iD P)), (11, [], .ls 1 (iD Q)), (12, [], .int .i64 f), (13, [], .int .i64 0), (14, [], .bool (gAny grow i.1)), (15, [], .int .i64 i.1)], []⟩) (fun i => grow.length - i.1) ?_ ⟨0, by omega⟩ rfl
  rintro ⟨i, h1⟩ I ih
  dsimp only [run_skip, run_reg, plainB, ifB_true, run_seq, run_blk, run_exit, run_ret, run_ite, iteR, regK, thenK_nrm, thenK_exit, thenK_ret, thenR_nrm, thenR_exit, thenR_ret, blkK, keepS, keepE, runOps_nil, runOps_cons, goG_some, fpOk, foot, entOf, allN, memN, goOn_ok, goOn_call, goOn_row, goOn_arr, goOn_ask, goOn_put, guardP, guardO, notInO, stepF, stepLd, stepSt, stepIxs, stepIxa, stepLen, stepApp, stepCpy, stepPick, stepSls, stepSst, stepSla, evX, evL, evB, rd, get, subG, memG, freshG, notInG, hyps, gob, impP, allP, partD, partOf, isOne, isPtr, nth, takeN, dropN, cellsD, lenB, fillD, thirds, entN, setE, sizeE, addE, setL, setN, putE, env0, eqCs, eqAux, eqC, bA, bO, bN, bE, negB, kEq, isShr, lendL, lend, frz, frzL, zRow, closed, closedL, rowsOf, binI, retK, retG, atRet, retD, lendO, resL, resD, oneD, renD, renL, renE, renEs, rho, putAll, entsN, List.append, List.nil_append, List.cons_append, List.append_nil, cond, Nat.reduceBEq, Nat.reduceAdd, Nat.beq]
  rw [iD_len]
  refine ⟨fun hi => ?_, fun hi => ?_⟩
  · have hi : i < grow.length := by simp at hi; omega
    refine ⟨fun _ => ⟨rfl, by omega, by omega⟩, row_intro _ _ (fun _ => iD_at hi) rfl ?_⟩
    dsimp only [run_skip, run_reg, plainB, ifB_true, run_seq, run_blk, run_exit, run_ret, run_ite, iteR, regK, thenK_nrm, thenK_exit, thenK_ret, thenR_nrm, thenR_exit, thenR_ret, blkK, keepS, keepE, runOps_nil, runOps_cons, goG_some, fpOk, foot, entOf, allN, memN, goOn_ok, goOn_call, goOn_row, goOn_arr, goOn_ask, goOn_put, guardP, guardO, notInO, stepF, stepLd, stepSt, stepIxs, stepIxa, stepLen, stepApp, stepCpy, stepPick, stepSls, stepSst, stepSla, evX, evL, evB, rd, get, subG, memG, freshG, notInG, hyps, gob, impP, allP, partD, partOf, isOne, isPtr, nth, takeN, dropN, cellsD, lenB, fillD, thirds, entN, setE, sizeE, addE, setL, setN, putE, env0, eqCs, eqAux, eqC, bA, bO, bN, bE, negB, kEq, isShr, lendL, lend, frz, frzL, zRow, closed, closedL, rowsOf, binI, retK, retG, atRet, retD, lendO, resL, resD, oneD, renD, renL, renE, renEs, rho, putAll, entsN, List.append, List.nil_append, List.cons_append, List.append_nil, cond, Nat.reduceBEq, Nat.reduceAdd, Nat.beq]
    refine ⟨by simp only [fits]; omega, ?_⟩
    refine again (ih ⟨i + 1, by omega⟩ (by dsimp only; omega)) ?_ ?_ rfl rfl
    · exact ⟨rfl, rfl, rfl, rfl, rfl, rfl, rfl, by rw [gAny_step hi]; rfl, rfl, trivial⟩
    · exact trivial
  have hi : i = grow.length := by simp at hi; omega
  subst hi
  have hga : gAny grow grow.length = true → 0 < grow.sum := by unfold gAny; rw [List.take_length]; exact grows_iff hP.g0
  generalize gAny grow grow.length = ga at *
  have hPs := parts_sum (left := total - least.sum) hlen
  rw [← hP.P] at hPs
  have hPg : ∀ i (h : i < least.length), P[i]? = some (least[i] + upU grow (total - least.sum) (i + 1) - upU grow (total - least.sum) i) := fun i h => by
    have := parts_get (left := total - least.sum) hlen h
    rwa [← hP.P] at this
  have hle := hP.le
  have ht0 := hP.t0
  have h64 := hP.len64
  have hl0 : least.sum ≤ 64000000 ∧ 0 ≤ least.sum := by
    have := least_take hP.l0 0
    simp only [List.take_zero, List.sum_nil] at this
    omega
  refine loop_ind (α := {x : Nat × Int // x.1 ≤ P.length ∧ (f = 0 → x.2 = (Q.take x.1).sum) ∧ (-1 ≤ x.2 ∧ x.2 ≤ 200000000)}) (fun x => ⟨[(0, [], .int .i64 total), (2, [], .ls 1 (iD least)), (3, [], .ls 1 (iD grow)), (9, [], .ls 1 (iD P)), (11, [], .ls 1 (iD Q)), (12, [], .int .i64 f), (13, [], .int .i64 (P.take x.1.1).sum), (14, [], .bool ga), (16, [], .int .i64 x.1.2), (17, [], .int .i64 x.1.1)], []⟩) (fun x => P.length - x.1.1) ?_ ⟨(0, 0), by simp⟩ (by simp)
  rintro ⟨⟨i, far⟩, j1, j2, j3⟩ J jh
  dsimp only at j1 j2 j3
  dsimp only [run_skip, run_reg, plainB, ifB_true, run_seq, run_blk, run_exit, run_ret, run_ite, iteR, regK, thenK_nrm, thenK_exit, thenK_ret, thenR_nrm, thenR_exit, thenR_ret, blkK, keepS, keepE, runOps_nil, runOps_cons, goG_some, fpOk, foot, entOf, allN, memN, goOn_ok, goOn_call, goOn_row, goOn_arr, goOn_ask, goOn_put, guardP, guardO, notInO, stepF, stepLd, stepSt, stepIxs, stepIxa, stepLen, stepApp, stepCpy, stepPick, stepSls, stepSst, stepSla, evX, evL, evB, rd, get, subG, memG, freshG, notInG, hyps, gob, impP, allP, partD, partOf, isOne, isPtr, nth, takeN, dropN, cellsD, lenB, fillD, thirds, entN, setE, sizeE, addE, setL, setN, putE, env0, eqCs, eqAux, eqC, bA, bO, bN, bE, negB, kEq, isShr, lendL, lend, frz, frzL, zRow, closed, closedL, rowsOf, binI, retK, retG, atRet, retD, lendO, resL, resD, oneD, renD, renL, renE, renEs, rho, putAll, entsN, List.append, List.nil_append, List.cons_append, List.append_nil, cond, Nat.reduceBEq, Nat.reduceAdd, Nat.beq]
  simp only [iD_len]
  refine ⟨fun hi => ?_, fun hi => ?_⟩
  · have hi : i < P.length := by simp at hi; omega
    have hiP : (iD P)[(i : Int).toNat]? = some (.int .i64 P[i]) := by rw [Int.toNat_natCast]; exact iD_at hi
    have hPi : P[i] = least[i]'(by omega) + upU grow (total - least.sum) (i + 1) - upU grow (total - least.sum) i := by
      have := hPg i (by omega); rw [List.getElem?_eq_getElem hi] at this; exact Option.some.inj this
    have hs1 := hPs (i + 1) (by omega)
    have hts := take_sum hi
    have hlt := least_take hP.l0 (i + 1)
    have hub := up_bd (left := total - least.sum) hP.g0 (by omega) (i + 1)
    have hus := up_step (left := total - least.sum) hP.g0 (by omega) (i := i) (by omega)
    have hsame := fun (ha : 0 < grow.sum) (h : grow[i]'(by omega) = 0) => up_same (left := total - least.sum) ha (by omega) h
    have hil : (iD least)[(i : Int).toNat]? = some (.int .i64 (least[i]'(by omega))) := by rw [Int.toNat_natCast]; exact iD_at (by omega)
    have hig : (iD grow)[(i : Int).toNat]? = some (.int .i64 (grow[i]'(by omega))) := by rw [Int.toNat_natCast]; exact iD_at (by omega)
    have gP : 1 = 1 ∧ (0 : Int) ≤ i ∧ (i : Int) < (iD P).length := ⟨rfl, by omega, by rw [iD_len]; omega⟩
    have gl : 1 = 1 ∧ (0 : Int) ≤ i ∧ (i : Int) < (iD least).length := ⟨rfl, by omega, by rw [iD_len]; omega⟩
    have gg : 1 = 1 ∧ (0 : Int) ≤ i ∧ (i : Int) < (iD grow).length := ⟨rfl, by omega, by rw [iD_len]; omega⟩
    have hps0 := hPs i (by omega)
    have hlt0 := least_take hP.l0 i
    have hub0 := up_bd (left := total - least.sum) hP.g0 (by omega) i
    refine ⟨⟨by first | rfl | trivial, by omega, by first | omega | (rw [iD_len]; omega)⟩, row_intro _ _ hiP rfl ?_⟩
    dsimp only [run_skip, run_reg, plainB, ifB_true, run_seq, run_blk, run_exit, run_ret, run_ite, iteR, regK, thenK_nrm, thenK_exit, thenK_ret, thenR_nrm, thenR_exit, thenR_ret, blkK, keepS, keepE, runOps_nil, runOps_cons, goG_some, fpOk, foot, entOf, allN, memN, goOn_ok, goOn_call, goOn_row, goOn_arr, goOn_ask, goOn_put, guardP, guardO, notInO, stepF, stepLd, stepSt, stepIxs, stepIxa, stepLen, stepApp, stepCpy, stepPick, stepSls, stepSst, stepSla, evX, evL, evB, rd, get, subG, memG, freshG, notInG, hyps, gob, impP, allP, partD, partOf, isOne, isPtr, nth, takeN, dropN, cellsD, lenB, fillD, thirds, entN, setE, sizeE, addE, setL, setN, putE, env0, eqCs, eqAux, eqC, bA, bO, bN, bE, negB, kEq, isShr, lendL, lend, frz, frzL, zRow, closed, closedL, rowsOf, binI, retK, retG, atRet, retD, lendO, resL, resD, oneD, renD, renL, renE, renEs, rho, putAll, entsN, List.append, List.nil_append, List.cons_append, List.append_nil, cond, Nat.reduceBEq, Nat.reduceAdd, Nat.beq]
    refine ⟨by simp only [fits]; omega, ?_⟩
    by_cases hf : f = 0
    · have hQ := hq hf
      have hQl : Q.length = least.length := by rw [hQ.P]; exact parts_len hQ.len
      have hQs := parts_sum (left := more - least.sum) hlen
      rw [← hQ.P] at hQs
      have hiQ : i < Q.length := by omega
      have hmono0 := up_mono (left := total - least.sum) (left' := more - least.sum) hP.g0 (by omega) i
      have hmono := up_mono (left := total - least.sum) (left' := more - least.sum) hP.g0 (by omega) (i + 1)
      have hq1 := hQs (i + 1) (by omega)
      have hq0 := hQs i (by omega)
      have hqt := take_sum hiQ
      have hm0 := hQ.t0
      have hubq := up_bd (left := more - least.sum) hP.g0 (by have := hQ.le; omega) (i + 1)
      have hfar := j2 hf
      refine ⟨fun _ => ?_, fun h => by rw [hf] at h; simp [iD_len] at h; omega⟩
      refine ⟨⟨by first | rfl | trivial, by omega, by first | omega | (rw [iD_len]; omega)⟩, row_intro _ _ (iD_at hiQ) rfl ?_⟩
      dsimp only [run_skip, run_reg, plainB, ifB_true, run_seq, run_blk, run_exit, run_ret, run_ite, iteR, regK, thenK_nrm, thenK_exit, thenK_ret, thenR_nrm, thenR_exit, thenR_ret, blkK, keepS, keepE, runOps_nil, runOps_cons, goG_some, fpOk, foot, entOf, allN, memN, goOn_ok, goOn_call, goOn_row, goOn_arr, goOn_ask, goOn_put, guardP, guardO, notInO, stepF, stepLd, stepSt, stepIxs, stepIxa, stepLen, stepApp, stepCpy, stepPick, stepSls, stepSst, stepSla, evX, evL, evB, rd, get, subG, memG, freshG, notInG, hyps, gob, impP, allP, partD, partOf, isOne, isPtr, nth, takeN, dropN, cellsD, lenB, fillD, thirds, entN, setE, sizeE, addE, setL, setN, putE, env0, eqCs, eqAux, eqC, bA, bO, bN, bE, negB, kEq, isShr, lendL, lend, frz, frzL, zRow, closed, closedL, rowsOf, binI, retK, retG, atRet, retD, lendO, resL, resD, oneD, renD, renL, renE, renEs, rho, putAll, entsN, List.append, List.nil_append, List.cons_append, List.append_nil, cond, Nat.reduceBEq, Nat.reduceAdd, Nat.beq]
      refine ⟨by simp only [fits]; omega, ?_⟩
      refine ⟨⟨by first | rfl | trivial, by omega, by first | omega | (rw [iD_len]; omega)⟩, row_intro _ _ hiP rfl ?_⟩
      dsimp only [run_skip, run_reg, plainB, ifB_true, run_seq, run_blk, run_exit, run_ret, run_ite, iteR, regK, thenK_nrm, thenK_exit, thenK_ret, thenR_nrm, thenR_exit, thenR_ret, blkK, keepS, keepE, runOps_nil, runOps_cons, goG_some, fpOk, foot, entOf, allN, memN, goOn_ok, goOn_call, goOn_row, goOn_arr, goOn_ask, goOn_put, guardP, guardO, notInO, stepF, stepLd, stepSt, stepIxs, stepIxa, stepLen, stepApp, stepCpy, stepPick, stepSls, stepSst, stepSla, evX, evL, evB, rd, get, subG, memG, freshG, notInG, hyps, gob, impP, allP, partD, partOf, isOne, isPtr, nth, takeN, dropN, cellsD, lenB, fillD, thirds, entN, setE, sizeE, addE, setL, setN, putE, env0, eqCs, eqAux, eqC, bA, bO, bN, bE, negB, kEq, isShr, lendL, lend, frz, frzL, zRow, closed, closedL, rowsOf, binI, retK, retG, atRet, retD, lendO, resL, resD, oneD, renD, renL, renE, renEs, rho, putAll, entsN, List.append, List.nil_append, List.cons_append, List.append_nil, cond, Nat.reduceBEq, Nat.reduceAdd, Nat.beq]
      refine ⟨⟨by first | rfl | trivial, by omega, by first | omega | (rw [iD_len]; omega)⟩, row_intro _ _ hil rfl ?_⟩
      dsimp only [run_skip, run_reg, plainB, ifB_true, run_seq, run_blk, run_exit, run_ret, run_ite, iteR, regK, thenK_nrm, thenK_exit, thenK_ret, thenR_nrm, thenR_exit, thenR_ret, blkK, keepS, keepE, runOps_nil, runOps_cons, goG_some, fpOk, foot, entOf, allN, memN, goOn_ok, goOn_call, goOn_row, goOn_arr, goOn_ask, goOn_put, guardP, guardO, notInO, stepF, stepLd, stepSt, stepIxs, stepIxa, stepLen, stepApp, stepCpy, stepPick, stepSls, stepSst, stepSla, evX, evL, evB, rd, get, subG, memG, freshG, notInG, hyps, gob, impP, allP, partD, partOf, isOne, isPtr, nth, takeN, dropN, cellsD, lenB, fillD, thirds, entN, setE, sizeE, addE, setL, setN, putE, env0, eqCs, eqAux, eqC, bA, bO, bN, bE, negB, kEq, isShr, lendL, lend, frz, frzL, zRow, closed, closedL, rowsOf, binI, retK, retG, atRet, retD, lendO, resL, resD, oneD, renD, renL, renE, renEs, rho, putAll, entsN, List.append, List.nil_append, List.cons_append, List.append_nil, cond, Nat.reduceBEq, Nat.reduceAdd, Nat.beq]
      refine ⟨fun _ _ => ⟨by first | rfl | trivial, by omega, by first | omega | (rw [iD_len]; omega)⟩, row_intro _ _ (fun _ _ => hig) rfl ?_⟩
      dsimp only [run_skip, run_reg, plainB, ifB_true, run_seq, run_blk, run_exit, run_ret, run_ite, iteR, regK, thenK_nrm, thenK_exit, thenK_ret, thenR_nrm, thenR_exit, thenR_ret, blkK, keepS, keepE, runOps_nil, runOps_cons, goG_some, fpOk, foot, entOf, allN, memN, goOn_ok, goOn_call, goOn_row, goOn_arr, goOn_ask, goOn_put, guardP, guardO, notInO, stepF, stepLd, stepSt, stepIxs, stepIxa, stepLen, stepApp, stepCpy, stepPick, stepSls, stepSst, stepSla, evX, evL, evB, rd, get, subG, memG, freshG, notInG, hyps, gob, impP, allP, partD, partOf, isOne, isPtr, nth, takeN, dropN, cellsD, lenB, fillD, thirds, entN, setE, sizeE, addE, setL, setN, putE, env0, eqCs, eqAux, eqC, bA, bO, bN, bE, negB, kEq, isShr, lendL, lend, frz, frzL, zRow, closed, closedL, rowsOf, binI, retK, retG, atRet, retD, lendO, resL, resD, oneD, renD, renL, renE, renEs, rho, putAll, entsN, List.append, List.nil_append, List.cons_append, List.append_nil, cond, Nat.reduceBEq, Nat.reduceAdd, Nat.beq]
      refine ⟨fun _ _ => ⟨by first | rfl | trivial, by omega, by first | omega | (rw [iD_len]; omega)⟩, row_intro _ _ (fun _ _ => hiP) rfl ?_⟩
      dsimp only [run_skip, run_reg, plainB, ifB_true, run_seq, run_blk, run_exit, run_ret, run_ite, iteR, regK, thenK_nrm, thenK_exit, thenK_ret, thenR_nrm, thenR_exit, thenR_ret, blkK, keepS, keepE, runOps_nil, runOps_cons, goG_some, fpOk, foot, entOf, allN, memN, goOn_ok, goOn_call, goOn_row, goOn_arr, goOn_ask, goOn_put, guardP, guardO, notInO, stepF, stepLd, stepSt, stepIxs, stepIxa, stepLen, stepApp, stepCpy, stepPick, stepSls, stepSst, stepSla, evX, evL, evB, rd, get, subG, memG, freshG, notInG, hyps, gob, impP, allP, partD, partOf, isOne, isPtr, nth, takeN, dropN, cellsD, lenB, fillD, thirds, entN, setE, sizeE, addE, setL, setN, putE, env0, eqCs, eqAux, eqC, bA, bO, bN, bE, negB, kEq, isShr, lendL, lend, frz, frzL, zRow, closed, closedL, rowsOf, binI, retK, retG, atRet, retD, lendO, resL, resD, oneD, renD, renL, renE, renEs, rho, putAll, entsN, List.append, List.nil_append, List.cons_append, List.append_nil, cond, Nat.reduceBEq, Nat.reduceAdd, Nat.beq]
      refine ⟨fun _ _ => ⟨by first | rfl | trivial, by omega, by first | omega | (rw [iD_len]; omega)⟩, row_intro _ _ (fun _ _ => hil) rfl ?_⟩
      dsimp only [run_skip, run_reg, plainB, ifB_true, run_seq, run_blk, run_exit, run_ret, run_ite, iteR, regK, thenK_nrm, thenK_exit, thenK_ret, thenR_nrm, thenR_exit, thenR_ret, blkK, keepS, keepE, runOps_nil, runOps_cons, goG_some, fpOk, foot, entOf, allN, memN, goOn_ok, goOn_call, goOn_row, goOn_arr, goOn_ask, goOn_put, guardP, guardO, notInO, stepF, stepLd, stepSt, stepIxs, stepIxa, stepLen, stepApp, stepCpy, stepPick, stepSls, stepSst, stepSla, evX, evL, evB, rd, get, subG, memG, freshG, notInG, hyps, gob, impP, allP, partD, partOf, isOne, isPtr, nth, takeN, dropN, cellsD, lenB, fillD, thirds, entN, setE, sizeE, addE, setL, setN, putE, env0, eqCs, eqAux, eqC, bA, bO, bN, bE, negB, kEq, isShr, lendL, lend, frz, frzL, zRow, closed, closedL, rowsOf, binI, retK, retG, atRet, retD, lendO, resL, resD, oneD, renD, renL, renE, renEs, rho, putAll, entsN, List.append, List.nil_append, List.cons_append, List.append_nil, cond, Nat.reduceBEq, Nat.reduceAdd, Nat.beq]
      try simp only [iD_len]
      refine ⟨fun hbad => ?_, fun _ => ?_⟩
      · exfalso
        simp only [Bool.or_eq_true, Bool.and_eq_true, decide_eq_true_eq, Bool.not_eq_true', decide_eq_false_iff_not] at hbad
        rcases hbad with (hb | ⟨⟨hb1, hb2⟩, hb3⟩) | ⟨_, hb⟩
        · omega
        · have := hsame (hga hb1) hb2; omega
        · omega
      · refine ⟨by simp only [fits]; omega, ?_⟩
        refine again (jh ⟨(i + 1, far + Q[i]), by dsimp only; omega, fun _ => by dsimp only; omega, by dsimp only; omega⟩ (by dsimp only; omega)) ?_ ?_ rfl rfl
        · exact ⟨rfl, rfl, rfl, rfl, rfl, rfl, by dsimp only; rw [hts]; rfl, rfl, rfl, rfl, trivial⟩
        · exact trivial
    · refine ⟨fun h => by simp [hf] at h, fun _ => ?_⟩
      refine ⟨⟨by first | rfl | trivial, by omega, by first | omega | (rw [iD_len]; omega)⟩, row_intro _ _ hiP rfl ?_⟩
      dsimp only [run_skip, run_reg, plainB, ifB_true, run_seq, run_blk, run_exit, run_ret, run_ite, iteR, regK, thenK_nrm, thenK_exit, thenK_ret, thenR_nrm, thenR_exit, thenR_ret, blkK, keepS, keepE, runOps_nil, runOps_cons, goG_some, fpOk, foot, entOf, allN, memN, goOn_ok, goOn_call, goOn_row, goOn_arr, goOn_ask, goOn_put, guardP, guardO, notInO, stepF, stepLd, stepSt, stepIxs, stepIxa, stepLen, stepApp, stepCpy, stepPick, stepSls, stepSst, stepSla, evX, evL, evB, rd, get, subG, memG, freshG, notInG, hyps, gob, impP, allP, partD, partOf, isOne, isPtr, nth, takeN, dropN, cellsD, lenB, fillD, thirds, entN, setE, sizeE, addE, setL, setN, putE, env0, eqCs, eqAux, eqC, bA, bO, bN, bE, negB, kEq, isShr, lendL, lend, frz, frzL, zRow, closed, closedL, rowsOf, binI, retK, retG, atRet, retD, lendO, resL, resD, oneD, renD, renL, renE, renEs, rho, putAll, entsN, List.append, List.nil_append, List.cons_append, List.append_nil, cond, Nat.reduceBEq, Nat.reduceAdd, Nat.beq]
      refine ⟨⟨by first | rfl | trivial, by omega, by first | omega | (rw [iD_len]; omega)⟩, row_intro _ _ hil rfl ?_⟩
      dsimp only [run_skip, run_reg, plainB, ifB_true, run_seq, run_blk, run_exit, run_ret, run_ite, iteR, regK, thenK_nrm, thenK_exit, thenK_ret, thenR_nrm, thenR_exit, thenR_ret, blkK, keepS, keepE, runOps_nil, runOps_cons, goG_some, fpOk, foot, entOf, allN, memN, goOn_ok, goOn_call, goOn_row, goOn_arr, goOn_ask, goOn_put, guardP, guardO, notInO, stepF, stepLd, stepSt, stepIxs, stepIxa, stepLen, stepApp, stepCpy, stepPick, stepSls, stepSst, stepSla, evX, evL, evB, rd, get, subG, memG, freshG, notInG, hyps, gob, impP, allP, partD, partOf, isOne, isPtr, nth, takeN, dropN, cellsD, lenB, fillD, thirds, entN, setE, sizeE, addE, setL, setN, putE, env0, eqCs, eqAux, eqC, bA, bO, bN, bE, negB, kEq, isShr, lendL, lend, frz, frzL, zRow, closed, closedL, rowsOf, binI, retK, retG, atRet, retD, lendO, resL, resD, oneD, renD, renL, renE, renEs, rho, putAll, entsN, List.append, List.nil_append, List.cons_append, List.append_nil, cond, Nat.reduceBEq, Nat.reduceAdd, Nat.beq]
      refine ⟨fun _ _ => ⟨by first | rfl | trivial, by omega, by first | omega | (rw [iD_len]; omega)⟩, row_intro _ _ (fun _ _ => hig) rfl ?_⟩
      dsimp only [run_skip, run_reg, plainB, ifB_true, run_seq, run_blk, run_exit, run_ret, run_ite, iteR, regK, thenK_nrm, thenK_exit, thenK_ret, thenR_nrm, thenR_exit, thenR_ret, blkK, keepS, keepE, runOps_nil, runOps_cons, goG_some, fpOk, foot, entOf, allN, memN, goOn_ok, goOn_call, goOn_row, goOn_arr, goOn_ask, goOn_put, guardP, guardO, notInO, stepF, stepLd, stepSt, stepIxs, stepIxa, stepLen, stepApp, stepCpy, stepPick, stepSls, stepSst, stepSla, evX, evL, evB, rd, get, subG, memG, freshG, notInG, hyps, gob, impP, allP, partD, partOf, isOne, isPtr, nth, takeN, dropN, cellsD, lenB, fillD, thirds, entN, setE, sizeE, addE, setL, setN, putE, env0, eqCs, eqAux, eqC, bA, bO, bN, bE, negB, kEq, isShr, lendL, lend, frz, frzL, zRow, closed, closedL, rowsOf, binI, retK, retG, atRet, retD, lendO, resL, resD, oneD, renD, renL, renE, renEs, rho, putAll, entsN, List.append, List.nil_append, List.cons_append, List.append_nil, cond, Nat.reduceBEq, Nat.reduceAdd, Nat.beq]
      refine ⟨fun _ _ => ⟨by first | rfl | trivial, by omega, by first | omega | (rw [iD_len]; omega)⟩, row_intro _ _ (fun _ _ => hiP) rfl ?_⟩
      dsimp only [run_skip, run_reg, plainB, ifB_true, run_seq, run_blk, run_exit, run_ret, run_ite, iteR, regK, thenK_nrm, thenK_exit, thenK_ret, thenR_nrm, thenR_exit, thenR_ret, blkK, keepS, keepE, runOps_nil, runOps_cons, goG_some, fpOk, foot, entOf, allN, memN, goOn_ok, goOn_call, goOn_row, goOn_arr, goOn_ask, goOn_put, guardP, guardO, notInO, stepF, stepLd, stepSt, stepIxs, stepIxa, stepLen, stepApp, stepCpy, stepPick, stepSls, stepSst, stepSla, evX, evL, evB, rd, get, subG, memG, freshG, notInG, hyps, gob, impP, allP, partD, partOf, isOne, isPtr, nth, takeN, dropN, cellsD, lenB, fillD, thirds, entN, setE, sizeE, addE, setL, setN, putE, env0, eqCs, eqAux, eqC, bA, bO, bN, bE, negB, kEq, isShr, lendL, lend, frz, frzL, zRow, closed, closedL, rowsOf, binI, retK, retG, atRet, retD, lendO, resL, resD, oneD, renD, renL, renE, renEs, rho, putAll, entsN, List.append, List.nil_append, List.cons_append, List.append_nil, cond, Nat.reduceBEq, Nat.reduceAdd, Nat.beq]
      refine ⟨fun _ _ => ⟨by first | rfl | trivial, by omega, by first | omega | (rw [iD_len]; omega)⟩, row_intro _ _ (fun _ _ => hil) rfl ?_⟩
      dsimp only [run_skip, run_reg, plainB, ifB_true, run_seq, run_blk, run_exit, run_ret, run_ite, iteR, regK, thenK_nrm, thenK_exit, thenK_ret, thenR_nrm, thenR_exit, thenR_ret, blkK, keepS, keepE, runOps_nil, runOps_cons, goG_some, fpOk, foot, entOf, allN, memN, goOn_ok, goOn_call, goOn_row, goOn_arr, goOn_ask, goOn_put, guardP, guardO, notInO, stepF, stepLd, stepSt, stepIxs, stepIxa, stepLen, stepApp, stepCpy, stepPick, stepSls, stepSst, stepSla, evX, evL, evB, rd, get, subG, memG, freshG, notInG, hyps, gob, impP, allP, partD, partOf, isOne, isPtr, nth, takeN, dropN, cellsD, lenB, fillD, thirds, entN, setE, sizeE, addE, setL, setN, putE, env0, eqCs, eqAux, eqC, bA, bO, bN, bE, negB, kEq, isShr, lendL, lend, frz, frzL, zRow, closed, closedL, rowsOf, binI, retK, retG, atRet, retD, lendO, resL, resD, oneD, renD, renL, renE, renEs, rho, putAll, entsN, List.append, List.nil_append, List.cons_append, List.append_nil, cond, Nat.reduceBEq, Nat.reduceAdd, Nat.beq]
      try simp only [iD_len]
      refine ⟨fun hbad => ?_, fun _ => ?_⟩
      · exfalso
        simp only [Bool.or_eq_true, Bool.and_eq_true, decide_eq_true_eq, Bool.not_eq_true', decide_eq_false_iff_not] at hbad
        rcases hbad with (hb | ⟨⟨hb1, hb2⟩, hb3⟩) | ⟨hb, _⟩
        · omega
        · have := hsame (hga hb1) hb2; omega
        · exact hf hb
      · refine ⟨by simp only [fits]; omega, ?_⟩
        refine again (jh ⟨(i + 1, far), by dsimp only; omega, fun h => absurd h hf, j3⟩ (by dsimp only; omega)) ?_ ?_ rfl rfl
        · exact ⟨rfl, rfl, rfl, rfl, rfl, rfl, by dsimp only; rw [hts]; rfl, rfl, rfl, rfl, trivial⟩
        · exact trivial
  · have hi : i = P.length := by simp at hi; omega
    subst hi
    congr 1
    simp only [Bool.or_eq_true, decide_eq_true_eq]
    by_cases h0 : P.length = 0
    · left; omega
    · right
      have h1 := hPs P.length (by omega)
      have h2 := up_last (grow := grow) (left := total - least.sum) (by omega)
      rw [List.take_length] at h1
      rw [show P.length = grow.length by omega, h2, List.take_of_length_le (by omega)] at h1
      rw [List.take_length]
      omega
end Go.AM
