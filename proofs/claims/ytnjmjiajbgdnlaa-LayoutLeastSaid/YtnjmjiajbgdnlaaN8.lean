
/- Chapter 52: a node's kids, laid in its rectangle. -/
import Derived.Test.YtnjmjiajbgdnlaaN7
set_option linter.all false
namespace Go.AM
open Go Go.Proofs

theorem parts_bd {left all s0 : Int} (hleft : 0 ≤ left) : ∀ {l r : List Int} {s gn gv : Int}, scan s gn l r = some (s0, all) → 0 ≤ gn → 0 ≤ gv → (0 < all → gv = left * gn / all) → (¬ 0 < all → l ≠ [] → gv = 0) →
    ∀ p ∈ partsL left all gn gv l r, 0 ≤ p ∧ p ≤ 1000000 + left
  | [], _, _, _, _, _, _, _, _, _, p, hp => by simp [partsL] at hp
  | _ :: _, [], _, _, _, _, _, _, _, _, p, hp => by simp [partsL] at hp
  | x :: l, g :: r, s, gn, gv, h, h1, h2, h3, h4, p, hp => by
    simp only [scan] at h
    split at h
    case isFalse => cases h
    rename_i hc
    have hm := scan_mono h
    simp only [inM, Bool.and_eq_true, decide_eq_true_eq] at hc
    simp only [partsL, List.mem_cons] at hp
    by_cases ha : 0 < all
    · simp only [if_pos ha] at hp
      have hb := part_le hleft (g := gn + g) (by omega) hm.2 ha
      have hmono : gv ≤ left * (gn + g) / all := by
        rw [h3 ha]; exact Int.ediv_le_ediv ha (Int.mul_le_mul_of_nonneg_left (by omega) hleft)
      rcases hp with rfl | hp
      · omega
      · exact parts_bd hleft h (by omega) hb.1 (fun _ => rfl) (fun h => absurd ha h) p hp
    · simp only [if_neg ha] at hp
      have := h4 ha (by simp)
      rcases hp with rfl | hp
      · split <;> omega
      · refine parts_bd hleft h (by omega) (by split <;> omega) (fun h => absurd h ha) (fun _ hl => by rw [if_neg hl]) p hp
theorem split_bd {total : Int} {least grow : List Int} : ∀ p ∈ (splitS total least grow).1, 0 ≤ p ∧ p ≤ 2000000 := by
  unfold splitS
  intro p hp
  split at hp
  · simp at hp
  split at hp
  · simp at hp
  split at hp
  · simp at hp
  rename_i s a hs
  split at hp
  · simp at hp
  rename_i hc
  simp only [Bool.or_eq_true, decide_eq_true_eq] at hc
  split at hp
  · simp at hp
  have hm := scan_mono hs
  have := parts_bd (left := total - s) (by omega) hs (by omega) (by omega) (fun h => by simp) (fun _ _ => rfl) p hp
  omega
theorem split_len {total : Int} {least grow : List Int} (h : (splitS total least grow).2 = 0) : (splitS total least grow).1.length = least.length ∧ least.length = grow.length := by
  unfold splitS at h ⊢
  split at h
  · simp at h
  rename_i h1
  rw [if_neg h1]
  split at h
  · simp at h
  rename_i h2
  rw [if_neg h2]
  have hl : least.length = grow.length := by omega
  split at h
  · simp at h
  rename_i s a hs
  split at h
  · simp at h
  split at h
  · simp at h
  rename_i h3 h4
  rw [if_neg h3, if_neg h4]
  exact ⟨parts_len hl, hl⟩

def leastL (L : List Nd) (nd : Nd) : List Int := nd.kids.map fun k => (turnP nd (siz L k.toNat).1 (siz L k.toNat).2).1
def growL (L : List Nd) (nd : Nd) : List Int := nd.kids.map fun k => match L[k.toNat]? with | some n => n.grow | none => 0
def layK (nd : Nd) (r : Rc) : Int → List Int → List Int → List Rc → List Rc
  | pos, k :: ks, p :: ps, A => layK nd r (pos + (p + nd.gap)) ks ps (A.set k.toNat (if nd.down then ⟨r.x, pos, r.w, p⟩ else ⟨pos, r.y, p, r.h⟩))
  | _, _, _, A => A
def partsOf (L : List Nd) (nd : Nd) (r : Rc) : List Int × Int := splitS (max ((turnP nd r.w r.h).1 - gapsI nd) 0) (leastL L nd) (growL L nd)
def kidsAt (L : List Nd) (nd : Nd) (r : Rc) (A : List Rc) : List Rc := if (partsOf L nd r).2 = 0 then layK nd r (if nd.down then r.y else r.x) nd.kids (partsOf L nd r).1 A else A
def aD (A : List Rc) : List D := A.map rD
theorem aD_len (A : List Rc) : (aD A).length = A.length := by simp [aD]
theorem aD_at {A : List Rc} {i : Nat} {r : Rc} (h : A[i]? = some r) : (aD A)[i]? = some (rD r) := by simp [aD, h]

def stY (L : List Nd) (nd : Nd) (r : Rc) (A : List Rc) (S : List (Int × Int)) (a b : List Int) (v u j : Nat) : St :=
  ⟨[(2, [], .own 0 0), (3, [], .ls 4 (sD S)), (4, [], .ls 6 (lD L)), (5, [], .box 1 0), (6, [], .box 2 0), (10, [], .own 3 v), (11, [], .own 4 u), (29, [], .ls 1 (iD nd.kids)), (30, [], .int .i64 nd.kids.length), (31, [], .int .i64 j)],
    [.arr 33 4 0 (aD A), .cells [.bool nd.down, .int .i64 nd.gap, .int .i64 nd.w, .int .i64 nd.h, .int .i64 nd.grow, .ls 1 (iD nd.kids)], .cells [.int .i64 r.x, .int .i64 r.y, .int .i64 r.w, .int .i64 r.h], .arr 3 1 v (iD a), .arr 3 1 u (iD b)]⟩

theorem loopPK1 {L : List Nd} {nd : Nd} {r : Rc} {A : List Rc} {body : C} {K : Ex → St → Prop} (hs : Small L) (hk : ∀ k ∈ nd.kids, 0 ≤ k ∧ k < L.length) (hlen : nd.kids.length ≤ 64) (hb : c_layout_placeKids.lp = some body)
    (hok : ∀ v u t, K (.exit 0) ⟨(stY L nd r A ((List.range L.length).map (siz L)) (leastL L nd) (growL L nd) v u nd.kids.length).env ++ [(32, [], .bool t)], (stY L nd r A ((List.range L.length).map (siz L)) (leastL L nd) (growL L nd) v u nd.kids.length).bx⟩) :
    run TSpM gtab 1 (.loop body) K (stY L nd r A ((List.range L.length).map (siz L)) [] [] 0 0 0) := by
  dsimp only [c_layout_placeKids, C.lp] at hb
  cases hb
  refine loop_ind (α := {x : Nat × Nat × Nat × List Int × List Int // x.1 ≤ nd.kids.length ∧ x.2.2.2.1 = (leastL L nd).take x.1 ∧ x.2.2.2.2 = (growL L nd).take x.1})
    (fun x => stY L nd r A ((List.range L.length).map (siz L)) x.1.2.2.2.1 x.1.2.2.2.2 x.1.2.1 x.1.2.2.1 x.1.1) (fun x => nd.kids.length - x.1.1) ?_ ⟨(0, 0, 0, [], []), by simp⟩ rfl
  rintro ⟨⟨j, v, u, a, b⟩, j1, j2, j3⟩ I ih
  dsimp only at j1 j2 j3
  dsimp only [stY, run_skip, run_reg, plainB, ifB_true, run_seq, run_blk, run_exit, run_ret, run_ite, iteR, regK, thenK_nrm, thenK_exit, thenK_ret, thenR_nrm, thenR_exit, thenR_ret, blkK, keepS, keepE, runOps_nil, runOps_cons, goG_some, fpOk, foot, entOf, allN, memN, goOn_ok, goOn_call, goOn_row, goOn_arr, goOn_ask, goOn_put, guardP, guardO, notInO, stepF, stepLd, stepSt, stepIxs, stepIxa, stepLen, stepApp, stepCpy, stepPick, stepSls, stepSst, stepSla, evX, evL, evB, rd, get, subG, memG, freshG, notInG, hyps, gob, impP, allP, partD, partOf, isOne, isPtr, nth, takeN, dropN, cellsD, lenB, fillD, thirds, entN, setE, sizeE, addE, setL, setN, putE, env0, eqCs, eqAux, eqC, bA, bO, bN, bE, negB, kEq, isShr, lendL, lend, frz, frzL, zRow, closed, closedL, rowsOf, binI, retK, retG, atRet, retD, lendO, resL, resD, oneD, renD, renL, renE, renEs, rho, putAll, entsN, List.append, List.nil_append, List.cons_append, List.append_nil, cond, Nat.reduceBEq, Nat.reduceAdd, Nat.beq]
  refine ⟨fun hj => ?_, fun hj => ?_⟩
  · have hj : j < nd.kids.length := by simp at hj; omega
    have hkj := hk _ (List.getElem_mem hj)
    have ha : (leastL L nd).take (j + 1) = (leastL L nd).take j ++ [(turnP nd (siz L nd.kids[j].toNat).1 (siz L nd.kids[j].toNat).2).1] := by
      rw [List.take_succ_eq_append_getElem (by simp [leastL]; omega)]; simp [leastL]
    have hla : a.length = j := by rw [j2]; simp [leastL]; omega
    have hlb : b.length = j := by rw [j3]; simp [growL]; omega
    refine ⟨⟨rfl, by omega, by rw [iD_len]; omega⟩, row_intro _ _ (iD_at hj) rfl ?_⟩
    have hb : ∀ n : Nd, L[nd.kids[j].toNat]? = some n → (growL L nd).take (j + 1) = (growL L nd).take j ++ [n.grow] := fun n hn => by
      rw [List.take_succ_eq_append_getElem (by simp [growL]; omega)]
      simp only [growL, List.getElem_map, hn]
    generalize nd.kids[j] = k at *
    dsimp only [run_skip, run_reg, plainB, ifB_true, run_seq, run_blk, run_exit, run_ret, run_ite, iteR, regK, thenK_nrm, thenK_exit, thenK_ret, thenR_nrm, thenR_exit, thenR_ret, blkK, keepS, keepE, runOps_nil, runOps_cons, goG_some, fpOk, foot, entOf, allN, memN, goOn_ok, goOn_call, goOn_row, goOn_arr, goOn_ask, goOn_put, guardP, guardO, notInO, stepF, stepLd, stepSt, stepIxs, stepIxa, stepLen, stepApp, stepCpy, stepPick, stepSls, stepSst, stepSla, evX, evL, evB, rd, get, subG, memG, freshG, notInG, hyps, gob, impP, allP, partD, partOf, isOne, isPtr, nth, takeN, dropN, cellsD, lenB, fillD, thirds, entN, setE, sizeE, addE, setL, setN, putE, env0, eqCs, eqAux, eqC, bA, bO, bN, bE, negB, kEq, isShr, lendL, lend, frz, frzL, zRow, closed, closedL, rowsOf, binI, retK, retG, atRet, retD, lendO, resL, resD, oneD, renD, renL, renE, renEs, rho, putAll, entsN, List.append, List.nil_append, List.cons_append, List.append_nil, cond, Nat.reduceBEq, Nat.reduceAdd, Nat.beq]
    have hn : L[k.toNat]? = some L[k.toNat] := List.getElem?_eq_getElem (by omega)
    have hb := hb _ hn
    have hrow : (sD ((List.range L.length).map (siz L)))[k.toNat]? = some (.agg [.int .i64 0, .int .i64 0, .int .i64 (siz L k.toNat).1, .int .i64 (siz L k.toNat).2]) := sD_at (by rw [List.getElem?_map, List.getElem?_range (by omega)]; rfl)
    have g1 : 4 = 4 ∧ 0 ≤ k ∧ k < (sD ((List.range L.length).map (siz L))).length := ⟨rfl, by omega, by rw [sD_len]; simp; omega⟩
    refine ⟨g1, row_intro _ _ hrow rfl ?_⟩
    dsimp only [run_skip, run_reg, plainB, ifB_true, run_seq, run_blk, run_exit, run_ret, run_ite, iteR, regK, thenK_nrm, thenK_exit, thenK_ret, thenR_nrm, thenR_exit, thenR_ret, blkK, keepS, keepE, runOps_nil, runOps_cons, goG_some, fpOk, foot, entOf, allN, memN, goOn_ok, goOn_call, goOn_row, goOn_arr, goOn_ask, goOn_put, guardP, guardO, notInO, stepF, stepLd, stepSt, stepIxs, stepIxa, stepLen, stepApp, stepCpy, stepPick, stepSls, stepSst, stepSla, evX, evL, evB, rd, get, subG, memG, freshG, notInG, hyps, gob, impP, allP, partD, partOf, isOne, isPtr, nth, takeN, dropN, cellsD, lenB, fillD, thirds, entN, setE, sizeE, addE, setL, setN, putE, env0, eqCs, eqAux, eqC, bA, bO, bN, bE, negB, kEq, isShr, lendL, lend, frz, frzL, zRow, closed, closedL, rowsOf, binI, retK, retG, atRet, retD, lendO, resL, resD, oneD, renD, renL, renE, renEs, rho, putAll, entsN, List.append, List.nil_append, List.cons_append, List.append_nil, cond, Nat.reduceBEq, Nat.reduceAdd, Nat.beq]
    refine ⟨g1, row_intro _ _ hrow rfl ?_⟩
    dsimp only [run_skip, run_reg, plainB, ifB_true, run_seq, run_blk, run_exit, run_ret, run_ite, iteR, regK, thenK_nrm, thenK_exit, thenK_ret, thenR_nrm, thenR_exit, thenR_ret, blkK, keepS, keepE, runOps_nil, runOps_cons, goG_some, fpOk, foot, entOf, allN, memN, goOn_ok, goOn_call, goOn_row, goOn_arr, goOn_ask, goOn_put, guardP, guardO, notInO, stepF, stepLd, stepSt, stepIxs, stepIxa, stepLen, stepApp, stepCpy, stepPick, stepSls, stepSst, stepSla, evX, evL, evB, rd, get, subG, memG, freshG, notInG, hyps, gob, impP, allP, partD, partOf, isOne, isPtr, nth, takeN, dropN, cellsD, lenB, fillD, thirds, entN, setE, sizeE, addE, setL, setN, putE, env0, eqCs, eqAux, eqC, bA, bO, bN, bE, negB, kEq, isShr, lendL, lend, frz, frzL, zRow, closed, closedL, rowsOf, binI, retK, retG, atRet, retD, lendO, resL, resD, oneD, renD, renL, renE, renEs, rho, putAll, entsN, List.append, List.nil_append, List.cons_append, List.append_nil, cond, Nat.reduceBEq, Nat.reduceAdd, Nat.beq]
    refine call_pure (sp_layout_Node_turned (n := nd)) ?_
    dsimp only [run_skip, run_reg, plainB, ifB_true, run_seq, run_blk, run_exit, run_ret, run_ite, iteR, regK, thenK_nrm, thenK_exit, thenK_ret, thenR_nrm, thenR_exit, thenR_ret, blkK, keepS, keepE, runOps_nil, runOps_cons, goG_some, fpOk, foot, entOf, allN, memN, goOn_ok, goOn_call, goOn_row, goOn_arr, goOn_ask, goOn_put, guardP, guardO, notInO, stepF, stepLd, stepSt, stepIxs, stepIxa, stepLen, stepApp, stepCpy, stepPick, stepSls, stepSst, stepSla, evX, evL, evB, rd, get, subG, memG, freshG, notInG, hyps, gob, impP, allP, partD, partOf, isOne, isPtr, nth, takeN, dropN, cellsD, lenB, fillD, thirds, entN, setE, sizeE, addE, setL, setN, putE, env0, eqCs, eqAux, eqC, bA, bO, bN, bE, negB, kEq, isShr, lendL, lend, frz, frzL, zRow, closed, closedL, rowsOf, binI, retK, retG, atRet, retD, lendO, resL, resD, oneD, renD, renL, renE, renEs, rho, putAll, entsN, List.append, List.nil_append, List.cons_append, List.append_nil, cond, Nat.reduceBEq, Nat.reduceAdd, Nat.beq]
    refine ⟨⟨rfl, rfl, rfl, rfl, by rw [iD_len]; simp; omega⟩, ⟨rfl, by omega, by rw [lD_len]; omega⟩, row_intro _ (.int .i64 L[k.toNat].grow) (lD_at (by omega)) rfl ?_⟩
    dsimp only [run_skip, run_reg, plainB, ifB_true, run_seq, run_blk, run_exit, run_ret, run_ite, iteR, regK, thenK_nrm, thenK_exit, thenK_ret, thenR_nrm, thenR_exit, thenR_ret, blkK, keepS, keepE, runOps_nil, runOps_cons, goG_some, fpOk, foot, entOf, allN, memN, goOn_ok, goOn_call, goOn_row, goOn_arr, goOn_ask, goOn_put, guardP, guardO, notInO, stepF, stepLd, stepSt, stepIxs, stepIxa, stepLen, stepApp, stepCpy, stepPick, stepSls, stepSst, stepSla, evX, evL, evB, rd, get, subG, memG, freshG, notInG, hyps, gob, impP, allP, partD, partOf, isOne, isPtr, nth, takeN, dropN, cellsD, lenB, fillD, thirds, entN, setE, sizeE, addE, setL, setN, putE, env0, eqCs, eqAux, eqC, bA, bO, bN, bE, negB, kEq, isShr, lendL, lend, frz, frzL, zRow, closed, closedL, rowsOf, binI, retK, retG, atRet, retD, lendO, resL, resD, oneD, renD, renL, renE, renEs, rho, putAll, entsN, List.append, List.nil_append, List.cons_append, List.append_nil, cond, Nat.reduceBEq, Nat.reduceAdd, Nat.beq]
    refine ⟨⟨rfl, rfl, rfl, rfl, by rw [iD_len]; simp; omega⟩, by simp only [fits]; omega, ?_⟩
    refine again (ih ⟨(j + 1, v + 1, u + 1, (leastL L nd).take (j + 1), (growL L nd).take (j + 1)), by dsimp only; omega, rfl, rfl⟩ (by dsimp only; omega)) ?_ ?_ rfl rfl
    · exact ⟨rfl, rfl, rfl, rfl, rfl, rfl, rfl, rfl, rfl, rfl, trivial⟩
    · refine ⟨rfl, rfl, rfl, ?_, ?_, trivial⟩
      · dsimp only; rw [ha, j2]; simp [iD]
      · dsimp only; rw [hb, j3]; simp [iD]
  · have hj : j = nd.kids.length := by simp at hj; omega
    subst hj
    rw [List.take_of_length_le (by simp [leastL])] at j2
    rw [List.take_of_length_le (by simp [growL])] at j3
    rw [j2, j3]
    exact hok v u _
end Go.AM
