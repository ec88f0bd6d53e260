
/- Chapter 52: the split. -/
import Derived.Test.YtnjmjiajbgdnlaaN1
set_option linter.all false
namespace Go.AM
open Go Go.Proofs

def inM (x : Int) : Bool := decide (0 ≤ x) && decide (x ≤ 1000000)
/-- The sums of the least sizes and of the growths, if all may be. -/
def scan : Int → Int → List Int → List Int → Option (Int × Int)
  | s, a, x :: l, g :: r => if inM x && inM g then scan (s + x) (a + g) l r else none
  | s, a, _, _ => some (s, a)
def partsL (left all : Int) : Int → Int → List Int → List Int → List Int
  | gn, gv, x :: l, g :: r => (x + (if 0 < all then left * (gn + g) / all else if l = [] then left else 0) - gv) :: partsL left all (gn + g) (if 0 < all then left * (gn + g) / all else if l = [] then left else 0) l r
  | _, _, _, _ => []
def splitS (total : Int) (least grow : List Int) : List Int × Int :=
  if least.length ≠ grow.length then ([], 14) else if 64 < least.length then ([], 5) else
  match scan 0 0 least grow with
  | none => ([], 1)
  | some (s, a) => if decide (total < 0) || decide (1000000 < total) then ([], 1) else if total < s then ([], 17) else (partsL (total - s) a 0 0 least grow, 0)
def splitD (x : List Int × Int) : D := .tup [.ls 1 (iD x.1), .int .i64 x.2]

theorem inM_or {x g : Int} : (decide (x < 0) || decide (1000000 < x) || decide (g < 0) || decide (1000000 < g)) = !(inM x && inM g) := by
  unfold inM
  rw [Bool.eq_iff_iff]
  simp only [Bool.or_eq_true, decide_eq_true_eq, Bool.not_eq_true', Bool.and_eq_false_iff, decide_eq_false_iff_not]
  omega

theorem parts_len {left all : Int} : ∀ {gn gv : Int} {l r : List Int}, l.length = r.length → (partsL left all gn gv l r).length = l.length
  | gn, gv, [], [], _ => rfl
  | gn, gv, x :: l, g :: r, h => by simp only [partsL, List.length_cons]; rw [parts_len (by simpa using h)]
  | gn, gv, [], _ :: _, h => by simp at h
  | gn, gv, _ :: _, [], h => by simp at h

def stS (total : Int) (least grow : List Int) (s a : Int) (i : Nat) : St :=
  ⟨[(0, [], .int .i64 total), (1, [], .ls 1 (iD least)), (2, [], .ls 1 (iD grow)), (8, [], .int .i64 s), (9, [], .int .i64 a), (26, [], .int .i64 least.length), (27, [], .int .i64 i)], [.arr 3 1 0 []]⟩

theorem iD_rep (n : Nat) : List.replicate n (D.int .i64 0) = iD (List.replicate n 0) := by simp [iD]
theorem iD_set {done : List Int} {n : Nat} {v : Int} (h : 0 < n) : (iD (done ++ List.replicate n 0)).set done.length (.int .i64 v) = iD (done ++ [v] ++ List.replicate (n - 1) 0) := by
  obtain ⟨m, rfl⟩ : ∃ m, n = m + 1 := ⟨n - 1, by omega⟩
  simp [iD, List.replicate_succ, List.set_append_right]

def stP (least grow : List Int) (left all gn gv : Int) (i : Nat) (done : List Int) : St :=
  ⟨[(1, [], .ls 1 (iD least)), (2, [], .ls 1 (iD grow)), (9, [], .int .i64 all), (11, [], .int .i64 left), (12, [], .own 1 0), (13, [], .int .i64 gn), (14, [], .int .i64 gv), (85, [], .int .i64 least.length), (86, [], .int .i64 i)], [.arr 3 1 0 [], .arr 3 1 0 (iD (done ++ List.replicate (least.length - done.length) 0))]⟩

theorem scan_step {s a : Int} {l r : List Int} {i : Nat} (h : i < l.length) (h' : i < r.length) : scan s a (l.drop i) (r.drop i) = if inM l[i] && inM r[i] then scan (s + l[i]) (a + r[i]) (l.drop (i + 1)) (r.drop (i + 1)) else none := by
  rw [List.drop_eq_getElem_cons h, List.drop_eq_getElem_cons h']; rfl
theorem scan_end {s a : Int} {l r : List Int} {i : Nat} (h : l.length ≤ i) : scan s a (l.drop i) (r.drop i) = some (s, a) := by
  rw [List.drop_of_length_le h]; unfold scan; rfl
theorem parts_step {left all gn gv : Int} {l r : List Int} {i : Nat} (h : i < l.length) (h' : i < r.length) : partsL left all gn gv (l.drop i) (r.drop i) =
    (l[i] + (if 0 < all then left * (gn + r[i]) / all else if i + 1 = l.length then left else 0) - gv) :: partsL left all (gn + r[i]) (if 0 < all then left * (gn + r[i]) / all else if i + 1 = l.length then left else 0) (l.drop (i + 1)) (r.drop (i + 1)) := by
  rw [List.drop_eq_getElem_cons h, List.drop_eq_getElem_cons h']
  have e : (l.drop (i + 1) = []) = (i + 1 = l.length) := by
    rw [eq_iff_iff, List.drop_eq_nil_iff]; omega
  simp only [partsL, e]

theorem layout_loop1 {total : Int} {least grow : List Int} {body : C} {K : Ex → St → Prop} (hl : least.length = grow.length) (h64 : least.length ≤ 64) (hb : c_layout_Split.lp = some body)
    (hbad : scan 0 0 least grow = none → K .ret ⟨[(6, [], .own 1 0), (7, [], .int .i64 1)], [.arr 3 1 0 [], .arr 3 1 0 []]⟩)
    (hok : ∀ s a t, scan 0 0 least grow = some (s, a) → 0 ≤ s ∧ s ≤ 64000000 → 0 ≤ a ∧ a ≤ 64000000 → K (.exit 0) ⟨(stS total least grow s a least.length).env ++ [(28, [], .bool t)], (stS total least grow s a least.length).bx⟩) :
    run TSpM gtab 0 (.loop body) K (stS total least grow 0 0 0) := by
  dsimp only [c_layout_Split, C.lp] at hb
  cases hb
  refine loop_ind (α := {x : Int × Int × Nat // x.2.2 ≤ least.length ∧ scan x.1 x.2.1 (least.drop x.2.2) (grow.drop x.2.2) = scan 0 0 least grow ∧ (0 ≤ x.1 ∧ x.1 ≤ x.2.2 * 1000000) ∧ (0 ≤ x.2.1 ∧ x.2.1 ≤ x.2.2 * 1000000)})
    (fun x => stS total least grow x.1.1 x.1.2.1 x.1.2.2) (fun x => least.length - x.1.2.2) ?_ ⟨(0, 0, 0), by simp⟩ rfl
  rintro ⟨⟨s, a, i⟩, h1, h2, h3, h4⟩ I ih
  dsimp only at h1 h2 h3 h4
  dsimp only [stS, run_skip, run_reg, plainB, ifB_true, run_seq, run_blk, run_exit, run_ret, run_ite, iteR, regK, thenK_nrm, thenK_exit, thenK_ret, thenR_nrm, thenR_exit, thenR_ret, blkK, keepS, keepE, runOps_nil, runOps_cons, goG_some, fpOk, foot, entOf, allN, memN, goOn_ok, goOn_call, goOn_row, goOn_arr, goOn_ask, goOn_put, guardP, guardO, notInO, stepF, stepLd, stepSt, stepIxs, stepIxa, stepLen, stepApp, stepCpy, stepPick, stepSls, stepSst, stepSla, evX, evL, evB, rd, get, subG, memG, freshG, notInG, hyps, gob, impP, allP, partD, partOf, isOne, isPtr, nth, takeN, dropN, cellsD, lenB, fillD, thirds, entN, setE, sizeE, addE, setL, setN, putE, env0, eqCs, eqAux, eqC, bA, bO, bN, bE, negB, kEq, isShr, lendL, lend, frz, frzL, zRow, closed, closedL, rowsOf, binI, retK, retG, atRet, retD, lendO, resL, resD, oneD, renD, renL, renE, renEs, rho, putAll, entsN, List.append, List.nil_append, List.cons_append, List.append_nil, cond, Nat.reduceBEq, Nat.reduceAdd, Nat.beq]
  refine ⟨fun hi => ?_, fun hi => ?_⟩
  · have hi : i < least.length := by simp at hi; omega
    have hi' : i < grow.length := by omega
    have g1 : 1 = 1 ∧ (0 : Int) ≤ i ∧ (i : Int) < (iD least).length := ⟨rfl, by omega, by rw [iD_len]; omega⟩
    have g2 : 1 = 1 ∧ (0 : Int) ≤ i ∧ (i : Int) < (iD grow).length := ⟨rfl, by omega, by rw [iD_len]; omega⟩
    refine ⟨g1, row_intro _ _ (iD_at hi) rfl ?_⟩
    dsimp only [run_skip, run_reg, plainB, ifB_true, run_seq, run_blk, run_exit, run_ret, run_ite, iteR, regK, thenK_nrm, thenK_exit, thenK_ret, thenR_nrm, thenR_exit, thenR_ret, blkK, keepS, keepE, runOps_nil, runOps_cons, goG_some, fpOk, foot, entOf, allN, memN, goOn_ok, goOn_call, goOn_row, goOn_arr, goOn_ask, goOn_put, guardP, guardO, notInO, stepF, stepLd, stepSt, stepIxs, stepIxa, stepLen, stepApp, stepCpy, stepPick, stepSls, stepSst, stepSla, evX, evL, evB, rd, get, subG, memG, freshG, notInG, hyps, gob, impP, allP, partD, partOf, isOne, isPtr, nth, takeN, dropN, cellsD, lenB, fillD, thirds, entN, setE, sizeE, addE, setL, setN, putE, env0, eqCs, eqAux, eqC, bA, bO, bN, bE, negB, kEq, isShr, lendL, lend, frz, frzL, zRow, closed, closedL, rowsOf, binI, retK, retG, atRet, retD, lendO, resL, resD, oneD, renD, renL, renE, renEs, rho, putAll, entsN, List.append, List.nil_append, List.cons_append, List.append_nil, cond, Nat.reduceBEq, Nat.reduceAdd, Nat.beq]
    refine ⟨fun _ => g1, row_intro _ _ (fun _ => iD_at hi) rfl ?_⟩
    dsimp only [run_skip, run_reg, plainB, ifB_true, run_seq, run_blk, run_exit, run_ret, run_ite, iteR, regK, thenK_nrm, thenK_exit, thenK_ret, thenR_nrm, thenR_exit, thenR_ret, blkK, keepS, keepE, runOps_nil, runOps_cons, goG_some, fpOk, foot, entOf, allN, memN, goOn_ok, goOn_call, goOn_row, goOn_arr, goOn_ask, goOn_put, guardP, guardO, notInO, stepF, stepLd, stepSt, stepIxs, stepIxa, stepLen, stepApp, stepCpy, stepPick, stepSls, stepSst, stepSla, evX, evL, evB, rd, get, subG, memG, freshG, notInG, hyps, gob, impP, allP, partD, partOf, isOne, isPtr, nth, takeN, dropN, cellsD, lenB, fillD, thirds, entN, setE, sizeE, addE, setL, setN, putE, env0, eqCs, eqAux, eqC, bA, bO, bN, bE, negB, kEq, isShr, lendL, lend, frz, frzL, zRow, closed, closedL, rowsOf, binI, retK, retG, atRet, retD, lendO, resL, resD, oneD, renD, renL, renE, renEs, rho, putAll, entsN, List.append, List.nil_append, List.cons_append, List.append_nil, cond, Nat.reduceBEq, Nat.reduceAdd, Nat.beq]
    refine ⟨fun _ => g2, row_intro _ _ (fun _ => iD_at hi') rfl ?_⟩
    dsimp only [run_skip, run_reg, plainB, ifB_true, run_seq, run_blk, run_exit, run_ret, run_ite, iteR, regK, thenK_nrm, thenK_exit, thenK_ret, thenR_nrm, thenR_exit, thenR_ret, blkK, keepS, keepE, runOps_nil, runOps_cons, goG_some, fpOk, foot, entOf, allN, memN, goOn_ok, goOn_call, goOn_row, goOn_arr, goOn_ask, goOn_put, guardP, guardO, notInO, stepF, stepLd, stepSt, stepIxs, stepIxa, stepLen, stepApp, stepCpy, stepPick, stepSls, stepSst, stepSla, evX, evL, evB, rd, get, subG, memG, freshG, notInG, hyps, gob, impP, allP, partD, partOf, isOne, isPtr, nth, takeN, dropN, cellsD, lenB, fillD, thirds, entN, setE, sizeE, addE, setL, setN, putE, env0, eqCs, eqAux, eqC, bA, bO, bN, bE, negB, kEq, isShr, lendL, lend, frz, frzL, zRow, closed, closedL, rowsOf, binI, retK, retG, atRet, retD, lendO, resL, resD, oneD, renD, renL, renE, renEs, rho, putAll, entsN, List.append, List.nil_append, List.cons_append, List.append_nil, cond, Nat.reduceBEq, Nat.reduceAdd, Nat.beq]
    refine ⟨fun _ => g2, row_intro _ _ (fun _ => iD_at hi') rfl ?_⟩
    dsimp only [run_skip, run_reg, plainB, ifB_true, run_seq, run_blk, run_exit, run_ret, run_ite, iteR, regK, thenK_nrm, thenK_exit, thenK_ret, thenR_nrm, thenR_exit, thenR_ret, blkK, keepS, keepE, runOps_nil, runOps_cons, goG_some, fpOk, foot, entOf, allN, memN, goOn_ok, goOn_call, goOn_row, goOn_arr, goOn_ask, goOn_put, guardP, guardO, notInO, stepF, stepLd, stepSt, stepIxs, stepIxa, stepLen, stepApp, stepCpy, stepPick, stepSls, stepSst, stepSla, evX, evL, evB, rd, get, subG, memG, freshG, notInG, hyps, gob, impP, allP, partD, partOf, isOne, isPtr, nth, takeN, dropN, cellsD, lenB, fillD, thirds, entN, setE, sizeE, addE, setL, setN, putE, env0, eqCs, eqAux, eqC, bA, bO, bN, bE, negB, kEq, isShr, lendL, lend, frz, frzL, zRow, closed, closedL, rowsOf, binI, retK, retG, atRet, retD, lendO, resL, resD, oneD, renD, renL, renE, renEs, rho, putAll, entsN, List.append, List.nil_append, List.cons_append, List.append_nil, cond, Nat.reduceBEq, Nat.reduceAdd, Nat.beq]
    rw [inM_or]
    rw [scan_step hi hi'] at h2
    refine ⟨fun hc => ?_, fun hc => ?_⟩
    · rw [if_neg (by intro h; rw [h] at hc; cases hc)] at h2
      exact hbad h2.symm
    · have hc' : (inM least[i] && inM grow[i]) = true := by simpa using hc
      rw [if_pos hc'] at h2
      simp only [inM, Bool.and_eq_true, decide_eq_true_eq] at hc'
      refine ⟨g1, row_intro _ _ (iD_at hi) rfl ?_⟩
      dsimp only [run_skip, run_reg, plainB, ifB_true, run_seq, run_blk, run_exit, run_ret, run_ite, iteR, regK, thenK_nrm, thenK_exit, thenK_ret, thenR_nrm, thenR_exit, thenR_ret, blkK, keepS, keepE, runOps_nil, runOps_cons, goG_some, fpOk, foot, entOf, allN, memN, goOn_ok, goOn_call, goOn_row, goOn_arr, goOn_ask, goOn_put, guardP, guardO, notInO, stepF, stepLd, stepSt, stepIxs, stepIxa, stepLen, stepApp, stepCpy, stepPick, stepSls, stepSst, stepSla, evX, evL, evB, rd, get, subG, memG, freshG, notInG, hyps, gob, impP, allP, partD, partOf, isOne, isPtr, nth, takeN, dropN, cellsD, lenB, fillD, thirds, entN, setE, sizeE, addE, setL, setN, putE, env0, eqCs, eqAux, eqC, bA, bO, bN, bE, negB, kEq, isShr, lendL, lend, frz, frzL, zRow, closed, closedL, rowsOf, binI, retK, retG, atRet, retD, lendO, resL, resD, oneD, renD, renL, renE, renEs, rho, putAll, entsN, List.append, List.nil_append, List.cons_append, List.append_nil, cond, Nat.reduceBEq, Nat.reduceAdd, Nat.beq]
      refine ⟨by simp only [fits]; omega, g2, row_intro _ _ (iD_at hi') rfl ?_⟩
      dsimp only [run_skip, run_reg, plainB, ifB_true, run_seq, run_blk, run_exit, run_ret, run_ite, iteR, regK, thenK_nrm, thenK_exit, thenK_ret, thenR_nrm, thenR_exit, thenR_ret, blkK, keepS, keepE, runOps_nil, runOps_cons, goG_some, fpOk, foot, entOf, allN, memN, goOn_ok, goOn_call, goOn_row, goOn_arr, goOn_ask, goOn_put, guardP, guardO, notInO, stepF, stepLd, stepSt, stepIxs, stepIxa, stepLen, stepApp, stepCpy, stepPick, stepSls, stepSst, stepSla, evX, evL, evB, rd, get, subG, memG, freshG, notInG, hyps, gob, impP, allP, partD, partOf, isOne, isPtr, nth, takeN, dropN, cellsD, lenB, fillD, thirds, entN, setE, sizeE, addE, setL, setN, putE, env0, eqCs, eqAux, eqC, bA, bO, bN, bE, negB, kEq, isShr, lendL, lend, frz, frzL, zRow, closed, closedL, rowsOf, binI, retK, retG, atRet, retD, lendO, resL, resD, oneD, renD, renL, renE, renEs, rho, putAll, entsN, List.append, List.nil_append, List.cons_append, List.append_nil, cond, Nat.reduceBEq, Nat.reduceAdd, Nat.beq]
      refine ⟨by simp only [fits]; omega, by simp only [fits]; omega, ?_⟩
      refine again (ih ⟨(s + least[i], a + grow[i], i + 1), by dsimp only; omega, h2, by dsimp only; omega, by dsimp only; omega⟩ (by dsimp only; omega)) ?_ ?_ rfl rfl
      · exact ⟨rfl, rfl, rfl, rfl, rfl, rfl, rfl, trivial⟩
      · exact ⟨rfl, trivial⟩
  · have hi : i = least.length := by simp at hi; omega
    subst hi
    rw [scan_end (Nat.le_refl _)] at h2
    exact hok s a _ h2.symm (by omega) (by omega)
theorem scan_mono : ∀ {l r : List Int} {s a s' a' : Int}, scan s a l r = some (s', a') → s ≤ s' ∧ a ≤ a'
  | x :: l, g :: r, s, a, s', a', h => by
    simp only [scan] at h
    split at h
    · rename_i hc
      have := scan_mono h
      simp only [inM, Bool.and_eq_true, decide_eq_true_eq] at hc
      omega
    · cases h
  | [], _, s, a, s', a', h => by simp [scan] at h; omega
  | _ :: _, [], s, a, s', a', h => by simp [scan] at h; omega
theorem part_le {left g all : Int} (h : 0 ≤ left) (h1 : 0 ≤ g) (h2 : g ≤ all) (h3 : 0 < all) : 0 ≤ left * g / all ∧ left * g / all ≤ left := by
  refine ⟨Int.ediv_nonneg (Int.mul_nonneg h h1) (by omega), ?_⟩
  have := Int.ediv_le_ediv h3 (Int.mul_le_mul_of_nonneg_left h2 h)
  rwa [Int.mul_ediv_cancel _ (by omega)] at this

/-- The second loop of a code. -/
theorem layout_loop2 {least grow : List Int} {s0 left all : Int} {body : C} {K : Ex → St → Prop} (hl : least.length = grow.length) (h64 : least.length ≤ 64) (hb : c_layout_Split.tl.tl.tl.tl.tl.lp = some body)
    (h0 : scan 0 0 least grow = some (s0, all)) (hleft : 0 ≤ left ∧ left ≤ 1000000) (hall : 0 ≤ all ∧ all ≤ 64000000)
    (hok : ∀ gn gv t, K (.exit 2) ⟨(stP least grow left all gn gv least.length (partsL left all 0 0 least grow)).env ++ [(87, [], .bool t)], (stP least grow left all gn gv least.length (partsL left all 0 0 least grow)).bx⟩) :
    run TSpM gtab 0 (.loop body) K (stP least grow left all 0 0 0 []) := by
  dsimp only [c_layout_Split, C.lp, C.tl] at hb
  cases hb
  refine loop_ind (α := {x : Int × Int × Int × Nat × List Int // x.2.2.2.1 ≤ least.length ∧ x.2.2.2.2.length = x.2.2.2.1 ∧ x.2.2.2.2 ++ partsL left all x.2.1 x.2.2.1 (least.drop x.2.2.2.1) (grow.drop x.2.2.2.1) = partsL left all 0 0 least grow ∧
      scan x.1 x.2.1 (least.drop x.2.2.2.1) (grow.drop x.2.2.2.1) = some (s0, all) ∧ (0 ≤ x.2.1 ∧ x.2.1 ≤ all) ∧ (0 ≤ x.2.2.1 ∧ x.2.2.1 ≤ left)})
    (fun x => stP least grow left all x.1.2.1 x.1.2.2.1 x.1.2.2.2.1 x.1.2.2.2.2) (fun x => least.length - x.1.2.2.2.1) ?_ ⟨(0, 0, 0, 0, []), ?_⟩ rfl
  · rintro ⟨⟨s, gn, gv, i, done⟩, h1, h2, h3, h4, h5, h6⟩ I ih
    dsimp only at h1 h2 h3 h4 h5 h6
    dsimp only [stP, run_skip, run_reg, plainB, ifB_true, run_seq, run_blk, run_exit, run_ret, run_ite, iteR, regK, thenK_nrm, thenK_exit, thenK_ret, thenR_nrm, thenR_exit, thenR_ret, blkK, keepS, keepE, runOps_nil, runOps_cons, goG_some, fpOk, foot, entOf, allN, memN, goOn_ok, goOn_call, goOn_row, goOn_arr, goOn_ask, goOn_put, guardP, guardO, notInO, stepF, stepLd, stepSt, stepIxs, stepIxa, stepLen, stepApp, stepCpy, stepPick, stepSls, stepSst, stepSla, evX, evL, evB, rd, get, subG, memG, freshG, notInG, hyps, gob, impP, allP, partD, partOf, isOne, isPtr, nth, takeN, dropN, cellsD, lenB, fillD, thirds, entN, setE, sizeE, addE, setL, setN, putE, env0, eqCs, eqAux, eqC, bA, bO, bN, bE, negB, kEq, isShr, lendL, lend, frz, frzL, zRow, closed, closedL, rowsOf, binI, retK, retG, atRet, retD, lendO, resL, resD, oneD, renD, renL, renE, renEs, rho, putAll, entsN, List.append, List.nil_append, List.cons_append, List.append_nil, cond, Nat.reduceBEq, Nat.reduceAdd, Nat.beq]
    refine ⟨fun hi => ?_, fun hi => ?_⟩
    · have hi : i < least.length := by simp at hi; omega
      have hi' : i < grow.length := by omega
      have g1 : 1 = 1 ∧ (0 : Int) ≤ i ∧ (i : Int) < (iD least).length := ⟨rfl, by omega, by rw [iD_len]; omega⟩
      have g2 : 1 = 1 ∧ (0 : Int) ≤ i ∧ (i : Int) < (iD grow).length := ⟨rfl, by omega, by rw [iD_len]; omega⟩
      rw [scan_step hi hi'] at h4
      rw [parts_step hi hi'] at h3
      split at h4
      case isFalse => cases h4
      rename_i hc
      simp only [inM, Bool.and_eq_true, decide_eq_true_eq] at hc
      have hm := scan_mono h4
      refine ⟨g2, row_intro _ _ (iD_at hi') rfl ?_⟩
      dsimp only [run_skip, run_reg, plainB, ifB_true, run_seq, run_blk, run_exit, run_ret, run_ite, iteR, regK, thenK_nrm, thenK_exit, thenK_ret, thenR_nrm, thenR_exit, thenR_ret, blkK, keepS, keepE, runOps_nil, runOps_cons, goG_some, fpOk, foot, entOf, allN, memN, goOn_ok, goOn_call, goOn_row, goOn_arr, goOn_ask, goOn_put, guardP, guardO, notInO, stepF, stepLd, stepSt, stepIxs, stepIxa, stepLen, stepApp, stepCpy, stepPick, stepSls, stepSst, stepSla, evX, evL, evB, rd, get, subG, memG, freshG, notInG, hyps, gob, impP, allP, partD, partOf, isOne, isPtr, nth, takeN, dropN, cellsD, lenB, fillD, thirds, entN, setE, sizeE, addE, setL, setN, putE, env0, eqCs, eqAux, eqC, bA, bO, bN, bE, negB, kEq, isShr, lendL, lend, frz, frzL, zRow, closed, closedL, rowsOf, binI, retK, retG, atRet, retD, lendO, resL, resD, oneD, renD, renL, renE, renEs, rho, putAll, entsN, List.append, List.nil_append, List.cons_append, List.append_nil, cond, Nat.reduceBEq, Nat.reduceAdd, Nat.beq]
      refine ⟨by simp only [fits]; omega, fun ha => ?_, fun ha => ?_⟩
      · have ha : 0 < all := by simpa using ha
        simp only [if_pos ha] at h3
        have hp := part_le hleft.1 (g := gn + grow[i]) (by omega) hm.2 ha
        have hm2 : 0 ≤ left * (gn + grow[i]) ∧ left * (gn + grow[i]) ≤ 1000000 * 64000000 := ⟨Int.mul_nonneg hleft.1 (by omega), Int.mul_le_mul hleft.2 (by omega) (by omega) (by omega)⟩
        refine ⟨by simp only [fits]; omega, ⟨by omega, ha, by simp only [fits]; omega⟩, ?_⟩
        refine ⟨g1, row_intro _ _ (iD_at hi) rfl ?_⟩
        dsimp only [run_skip, run_reg, plainB, ifB_true, run_seq, run_blk, run_exit, run_ret, run_ite, iteR, regK, thenK_nrm, thenK_exit, thenK_ret, thenR_nrm, thenR_exit, thenR_ret, blkK, keepS, keepE, runOps_nil, runOps_cons, goG_some, fpOk, foot, entOf, allN, memN, goOn_ok, goOn_call, goOn_row, goOn_arr, goOn_ask, goOn_put, guardP, guardO, notInO, stepF, stepLd, stepSt, stepIxs, stepIxa, stepLen, stepApp, stepCpy, stepPick, stepSls, stepSst, stepSla, evX, evL, evB, rd, get, subG, memG, freshG, notInG, hyps, gob, impP, allP, partD, partOf, isOne, isPtr, nth, takeN, dropN, cellsD, lenB, fillD, thirds, entN, setE, sizeE, addE, setL, setN, putE, env0, eqCs, eqAux, eqC, bA, bO, bN, bE, negB, kEq, isShr, lendL, lend, frz, frzL, zRow, closed, closedL, rowsOf, binI, retK, retG, atRet, retD, lendO, resL, resD, oneD, renD, renL, renE, renEs, rho, putAll, entsN, List.append, List.nil_append, List.cons_append, List.append_nil, cond, Nat.reduceBEq, Nat.reduceAdd, Nat.beq]
        refine ⟨by simp only [fits]; omega, by simp only [fits]; omega, ⟨rfl, rfl, by omega, by rw [iD_len]; simp; omega⟩, ⟨rfl, rfl⟩, ?_⟩
        refine putrow_intro (hs := []) (.int .i64 0) (.int .i64 (least[i] + left * (gn + grow[i]) / all - gv)) ?_ rfl ?_
        · rw [show (i : Int).toNat = i by omega, iD_at (by simp; omega)]
          simp [h2]
        dsimp only [run_skip, run_reg, plainB, ifB_true, run_seq, run_blk, run_exit, run_ret, run_ite, iteR, regK, thenK_nrm, thenK_exit, thenK_ret, thenR_nrm, thenR_exit, thenR_ret, blkK, keepS, keepE, runOps_nil, runOps_cons, goG_some, fpOk, foot, entOf, allN, memN, goOn_ok, goOn_call, goOn_row, goOn_arr, goOn_ask, goOn_put, guardP, guardO, notInO, stepF, stepLd, stepSt, stepIxs, stepIxa, stepLen, stepApp, stepCpy, stepPick, stepSls, stepSst, stepSla, evX, evL, evB, rd, get, subG, memG, freshG, notInG, hyps, gob, impP, allP, partD, partOf, isOne, isPtr, nth, takeN, dropN, cellsD, lenB, fillD, thirds, entN, setE, sizeE, addE, setL, setN, putE, env0, eqCs, eqAux, eqC, bA, bO, bN, bE, negB, kEq, isShr, lendL, lend, frz, frzL, zRow, closed, closedL, rowsOf, binI, retK, retG, atRet, retD, lendO, resL, resD, oneD, renD, renL, renE, renEs, rho, putAll, entsN, List.append, List.nil_append, List.cons_append, List.append_nil, cond, Nat.reduceBEq, Nat.reduceAdd, Nat.beq]
        refine ⟨by simp only [fits]; omega, ?_⟩
        refine again (ih ⟨(s + least[i], gn + grow[i], left * (gn + grow[i]) / all, i + 1, done ++ [least[i] + left * (gn + grow[i]) / all - gv]), by dsimp only; omega, by simp [h2], by simpa using h3, h4, ⟨by dsimp only; omega, by dsimp only; omega⟩, by dsimp only; omega, by dsimp only; omega⟩ (by dsimp only; omega)) ?_ ?_ rfl rfl
        · exact ⟨rfl, rfl, rfl, rfl, rfl, rfl, rfl, rfl, rfl, trivial⟩
        · refine ⟨rfl, ?_, trivial⟩
          dsimp only
          rw [show (i : Int).toNat = done.length by omega, iD_set (by omega)]
          simp [h2, Nat.sub_sub]
      · have ha : ¬ 0 < all := by simpa using ha
        simp only [if_neg ha] at h3
        have hgv : gn = 0 ∧ grow[i] = 0 := by omega
        rw [iD_len]
        refine ⟨by simp only [fits]; omega, fun he => ?_, fun he => ?_⟩
        · have he : i + 1 = least.length := by simp at he; omega
          simp only [if_pos he] at h3
          refine ⟨by rw [iD_len] at g1; exact g1, row_intro _ _ (iD_at hi) rfl ?_⟩
          dsimp only [run_skip, run_reg, plainB, ifB_true, run_seq, run_blk, run_exit, run_ret, run_ite, iteR, regK, thenK_nrm, thenK_exit, thenK_ret, thenR_nrm, thenR_exit, thenR_ret, blkK, keepS, keepE, runOps_nil, runOps_cons, goG_some, fpOk, foot, entOf, allN, memN, goOn_ok, goOn_call, goOn_row, goOn_arr, goOn_ask, goOn_put, guardP, guardO, notInO, stepF, stepLd, stepSt, stepIxs, stepIxa, stepLen, stepApp, stepCpy, stepPick, stepSls, stepSst, stepSla, evX, evL, evB, rd, get, subG, memG, freshG, notInG, hyps, gob, impP, allP, partD, partOf, isOne, isPtr, nth, takeN, dropN, cellsD, lenB, fillD, thirds, entN, setE, sizeE, addE, setL, setN, putE, env0, eqCs, eqAux, eqC, bA, bO, bN, bE, negB, kEq, isShr, lendL, lend, frz, frzL, zRow, closed, closedL, rowsOf, binI, retK, retG, atRet, retD, lendO, resL, resD, oneD, renD, renL, renE, renEs, rho, putAll, entsN, List.append, List.nil_append, List.cons_append, List.append_nil, cond, Nat.reduceBEq, Nat.reduceAdd, Nat.beq]
          refine ⟨by simp only [fits]; omega, by simp only [fits]; omega, ⟨rfl, rfl, by omega, by rw [iD_len]; simp; omega⟩, ⟨rfl, rfl⟩, ?_⟩
          refine putrow_intro (hs := []) (.int .i64 0) (.int .i64 (least[i] + left - gv)) ?_ rfl ?_
          · rw [show (i : Int).toNat = i by omega, iD_at (by simp; omega)]
            simp [h2]
          dsimp only [run_skip, run_reg, plainB, ifB_true, run_seq, run_blk, run_exit, run_ret, run_ite, iteR, regK, thenK_nrm, thenK_exit, thenK_ret, thenR_nrm, thenR_exit, thenR_ret, blkK, keepS, keepE, runOps_nil, runOps_cons, goG_some, fpOk, foot, entOf, allN, memN, goOn_ok, goOn_call, goOn_row, goOn_arr, goOn_ask, goOn_put, guardP, guardO, notInO, stepF, stepLd, stepSt, stepIxs, stepIxa, stepLen, stepApp, stepCpy, stepPick, stepSls, stepSst, stepSla, evX, evL, evB, rd, get, subG, memG, freshG, notInG, hyps, gob, impP, allP, partD, partOf, isOne, isPtr, nth, takeN, dropN, cellsD, lenB, fillD, thirds, entN, setE, sizeE, addE, setL, setN, putE, env0, eqCs, eqAux, eqC, bA, bO, bN, bE, negB, kEq, isShr, lendL, lend, frz, frzL, zRow, closed, closedL, rowsOf, binI, retK, retG, atRet, retD, lendO, resL, resD, oneD, renD, renL, renE, renEs, rho, putAll, entsN, List.append, List.nil_append, List.cons_append, List.append_nil, cond, Nat.reduceBEq, Nat.reduceAdd, Nat.beq]
          refine ⟨by simp only [fits]; omega, ?_⟩
          refine again (ih ⟨(s + least[i], gn + grow[i], left, i + 1, done ++ [least[i] + left - gv]), by dsimp only; omega, by simp [h2], by simpa using h3, h4, ⟨by dsimp only; omega, by dsimp only; omega⟩, by dsimp only; omega, by dsimp only; omega⟩ (by dsimp only; omega)) ?_ ?_ rfl rfl
          · exact ⟨rfl, rfl, rfl, rfl, rfl, rfl, rfl, rfl, rfl, trivial⟩
          · refine ⟨rfl, ?_, trivial⟩
            dsimp only
            rw [show (i : Int).toNat = done.length by omega, iD_set (by omega)]
            simp [h2, Nat.sub_sub]
        · have he : ¬ i + 1 = least.length := by simp at he; omega
          simp only [if_neg he] at h3
          refine ⟨by rw [iD_len] at g1; exact g1, row_intro _ _ (iD_at hi) rfl ?_⟩
          dsimp only [run_skip, run_reg, plainB, ifB_true, run_seq, run_blk, run_exit, run_ret, run_ite, iteR, regK, thenK_nrm, thenK_exit, thenK_ret, thenR_nrm, thenR_exit, thenR_ret, blkK, keepS, keepE, runOps_nil, runOps_cons, goG_some, fpOk, foot, entOf, allN, memN, goOn_ok, goOn_call, goOn_row, goOn_arr, goOn_ask, goOn_put, guardP, guardO, notInO, stepF, stepLd, stepSt, stepIxs, stepIxa, stepLen, stepApp, stepCpy, stepPick, stepSls, stepSst, stepSla, evX, evL, evB, rd, get, subG, memG, freshG, notInG, hyps, gob, impP, allP, partD, partOf, isOne, isPtr, nth, takeN, dropN, cellsD, lenB, fillD, thirds, entN, setE, sizeE, addE, setL, setN, putE, env0, eqCs, eqAux, eqC, bA, bO, bN, bE, negB, kEq, isShr, lendL, lend, frz, frzL, zRow, closed, closedL, rowsOf, binI, retK, retG, atRet, retD, lendO, resL, resD, oneD, renD, renL, renE, renEs, rho, putAll, entsN, List.append, List.nil_append, List.cons_append, List.append_nil, cond, Nat.reduceBEq, Nat.reduceAdd, Nat.beq]
          refine ⟨by simp only [fits]; omega, by simp only [fits]; omega, ⟨rfl, rfl, by omega, by rw [iD_len]; simp; omega⟩, ⟨rfl, rfl⟩, ?_⟩
          refine putrow_intro (hs := []) (.int .i64 0) (.int .i64 (least[i] + 0 - gv)) ?_ rfl ?_
          · rw [show (i : Int).toNat = i by omega, iD_at (by simp; omega)]
            simp [h2]
          dsimp only [run_skip, run_reg, plainB, ifB_true, run_seq, run_blk, run_exit, run_ret, run_ite, iteR, regK, thenK_nrm, thenK_exit, thenK_ret, thenR_nrm, thenR_exit, thenR_ret, blkK, keepS, keepE, runOps_nil, runOps_cons, goG_some, fpOk, foot, entOf, allN, memN, goOn_ok, goOn_call, goOn_row, goOn_arr, goOn_ask, goOn_put, guardP, guardO, notInO, stepF, stepLd, stepSt, stepIxs, stepIxa, stepLen, stepApp, stepCpy, stepPick, stepSls, stepSst, stepSla, evX, evL, evB, rd, get, subG, memG, freshG, notInG, hyps, gob, impP, allP, partD, partOf, isOne, isPtr, nth, takeN, dropN, cellsD, lenB, fillD, thirds, entN, setE, sizeE, addE, setL, setN, putE, env0, eqCs, eqAux, eqC, bA, bO, bN, bE, negB, kEq, isShr, lendL, lend, frz, frzL, zRow, closed, closedL, rowsOf, binI, retK, retG, atRet, retD, lendO, resL, resD, oneD, renD, renL, renE, renEs, rho, putAll, entsN, List.append, List.nil_append, List.cons_append, List.append_nil, cond, Nat.reduceBEq, Nat.reduceAdd, Nat.beq]
          refine ⟨by simp only [fits]; omega, ?_⟩
          refine again (ih ⟨(s + least[i], gn + grow[i], 0, i + 1, done ++ [least[i] + 0 - gv]), by dsimp only; omega, by simp [h2], by simpa using h3, h4, ⟨by dsimp only; omega, by dsimp only; omega⟩, by dsimp only; omega, by dsimp only; omega⟩ (by dsimp only; omega)) ?_ ?_ rfl rfl
          · exact ⟨rfl, rfl, rfl, rfl, rfl, rfl, rfl, rfl, rfl, trivial⟩
          · refine ⟨rfl, ?_, trivial⟩
            dsimp only
            rw [show (i : Int).toNat = done.length by omega, iD_set (by omega)]
            simp [h2, Nat.sub_sub]
    · have hi : i = least.length := by simp at hi; omega
      subst hi
      have hd : done = partsL left all 0 0 least grow := by
        rw [← h3, List.drop_of_length_le (Nat.le_refl _)]; simp [partsL]
      have := hok gn gv (decide ((least.length : Int) < least.length))
      rw [hd]; exact this
  · exact ⟨by simp, rfl, by simp, by simpa using h0, by simp; omega, by simp; omega⟩

theorem sp_layout_Split {total : Int} {least grow : List Int} (ht : fits .i64 total) : TSp 10 [.int .i64 total, .ls 1 (iD least), .ls 1 (iD grow)] (splitD (splitS total least grow)) := by
  refine spo_layout_Split (by rfl) ?_
  have hlp1 := @layout_loop1
  have hlp2 := @layout_loop2
  dsimp only [c_layout_Split, r_layout_Split, run_skip, run_reg, plainB, ifB_true, run_seq, run_blk, run_exit, run_ret, run_ite, iteR, regK, thenK_nrm, thenK_exit, thenK_ret, thenR_nrm, thenR_exit, thenR_ret, blkK, keepS, keepE, runOps_nil, runOps_cons, goG_some, fpOk, foot, entOf, allN, memN, goOn_ok, goOn_call, goOn_row, goOn_arr, goOn_ask, goOn_put, guardP, guardO, notInO, stepF, stepLd, stepSt, stepIxs, stepIxa, stepLen, stepApp, stepCpy, stepPick, stepSls, stepSst, stepSla, evX, evL, evB, rd, get, subG, memG, freshG, notInG, hyps, gob, impP, allP, partD, partOf, isOne, isPtr, nth, takeN, dropN, cellsD, lenB, fillD, thirds, entN, setE, sizeE, addE, setL, setN, putE, env0, eqCs, eqAux, eqC, bA, bO, bN, bE, negB, kEq, isShr, lendL, lend, frz, frzL, zRow, closed, closedL, rowsOf, binI, retK, retG, atRet, retD, lendO, resL, resD, oneD, renD, renL, renE, renEs, rho, putAll, entsN, List.append, List.nil_append, List.cons_append, List.append_nil, cond, Nat.reduceBEq, Nat.reduceAdd, Nat.beq]
  simp only [iD_len]
  refine ⟨fun h => ?_, fun h => ?_⟩
  · unfold splitS; rw [if_pos (by simp at h; omega)]; exact ⟨trivial, rfl⟩
  have hl : least.length = grow.length := by simp at h; omega
  refine ⟨fun h => ?_, fun h => ?_⟩
  · unfold splitS; rw [if_neg (by omega), if_pos (by simp at h; omega)]; exact ⟨trivial, rfl⟩
  have h64 : least.length ≤ 64 := by simp at h; omega
  unfold splitS
  rw [if_neg (by omega), if_neg (by omega)]
  refine hlp1 (total := total) hl h64 rfl (fun hn => ?_) (fun s a t hs h1 h2 => ?_)
  · rw [hn]; exact ⟨rfl, rfl⟩
  · rw [hs]
    dsimp only [stS, run_skip, run_reg, plainB, ifB_true, run_seq, run_blk, run_exit, run_ret, run_ite, iteR, regK, thenK_nrm, thenK_exit, thenK_ret, thenR_nrm, thenR_exit, thenR_ret, blkK, keepS, keepE, runOps_nil, runOps_cons, goG_some, fpOk, foot, entOf, allN, memN, goOn_ok, goOn_call, goOn_row, goOn_arr, goOn_ask, goOn_put, guardP, guardO, notInO, stepF, stepLd, stepSt, stepIxs, stepIxa, stepLen, stepApp, stepCpy, stepPick, stepSls, stepSst, stepSla, evX, evL, evB, rd, get, subG, memG, freshG, notInG, hyps, gob, impP, allP, partD, partOf, isOne, isPtr, nth, takeN, dropN, cellsD, lenB, fillD, thirds, entN, setE, sizeE, addE, setL, setN, putE, env0, eqCs, eqAux, eqC, bA, bO, bN, bE, negB, kEq, isShr, lendL, lend, frz, frzL, zRow, closed, closedL, rowsOf, binI, retK, retG, atRet, retD, lendO, resL, resD, oneD, renD, renL, renE, renEs, rho, putAll, entsN, List.append, List.nil_append, List.cons_append, List.append_nil, cond, Nat.reduceBEq, Nat.reduceAdd, Nat.beq]
    refine ⟨fun hc => ?_, fun hc => ?_⟩
    · rw [if_pos hc]; exact ⟨rfl, rfl⟩
    rw [if_neg (by rw [hc]; simp)]
    simp only [Bool.or_eq_false_iff, decide_eq_false_iff_not] at hc
    refine ⟨fun hc2 => ?_, fun hc2 => ?_⟩
    · rw [if_pos (by simpa using hc2)]; exact ⟨rfl, rfl⟩
    have hc3 : ¬ total < s := by simpa using hc2
    rw [if_neg hc3]
    simp only [iD_len]
    refine ⟨by simp only [fits]; omega, ⟨by omega, by omega, by omega⟩, ?_⟩
    have e : List.replicate (least.length : Int).toNat (D.int .i64 0) = iD ([] ++ List.replicate (least.length - ([] : List Int).length) 0) := by simp [iD]
    rw [e]
    refine hlp2 (s0 := s) (left := total - s) (all := a) (least := least) (grow := grow) hl h64 rfl hs (by omega) h2 (fun gn gv t => ?_)
    have hp := parts_len (left := total - s) (all := a) (gn := 0) (gv := 0) hl
    dsimp only [stP, run_skip, run_reg, plainB, ifB_true, run_seq, run_blk, run_exit, run_ret, run_ite, iteR, regK, thenK_nrm, thenK_exit, thenK_ret, thenR_nrm, thenR_exit, thenR_ret, blkK, keepS, keepE, runOps_nil, runOps_cons, goG_some, fpOk, foot, entOf, allN, memN, goOn_ok, goOn_call, goOn_row, goOn_arr, goOn_ask, goOn_put, guardP, guardO, notInO, stepF, stepLd, stepSt, stepIxs, stepIxa, stepLen, stepApp, stepCpy, stepPick, stepSls, stepSst, stepSla, evX, evL, evB, rd, get, subG, memG, freshG, notInG, hyps, gob, impP, allP, partD, partOf, isOne, isPtr, nth, takeN, dropN, cellsD, lenB, fillD, thirds, entN, setE, sizeE, addE, setL, setN, putE, env0, eqCs, eqAux, eqC, bA, bO, bN, bE, negB, kEq, isShr, lendL, lend, frz, frzL, zRow, closed, closedL, rowsOf, binI, retK, retG, atRet, retD, lendO, resL, resD, oneD, renD, renL, renE, renEs, rho, putAll, entsN, List.append, List.nil_append, List.cons_append, List.append_nil, cond, Nat.reduceBEq, Nat.reduceAdd, Nat.beq]
    rw [hp]
    simp only [Nat.sub_self, List.replicate_zero, List.append_nil]
    exact ⟨trivial, rfl⟩
end Go.AM
