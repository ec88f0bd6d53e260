
/- Chapter 36: CrossEnds. -/
import Derived.Test.YtfoepbkbclmghaaV24
set_option linter.all false
namespace Go.AM
open Go Go.Proofs

structure CEx where
  i : Nat
  at_ : Int
  a : List Int
  u : Ins
def stCE (T : Ent) (ps ws : List Int) (L : Nodes) (x : CEx) : St := ⟨[(0, [], .ls 1 (bL ps)), (5, [], .box 0 0), (6, [], .ls 2 (nD L)), (8, [], .ownm 1 0), (9, [], .int .u32 x.at_), (40, [], .ls 1 (bL ws)), (41, [], .int .i64 ws.length), (42, [], .int .i64 x.i)], [T, mapE .u32 (bKV x.u)]⟩
def stC1 (T : Ent) (ps ws : List Int) (L : Nodes) (i : Nat) (to : Int) (l : List Stp) (u : Ins) (j : Nat) : St := ⟨[(0, [], .ls 1 (bL ps)), (5, [], .box 0 0), (6, [], .ls 2 (nD L)), (8, [], .ownm 1 0), (12, [], .int .u32 to), (40, [], .ls 1 (bL ws)), (41, [], .int .i64 ws.length), (42, [], .int .i64 i), (60, [], .ls 3 (sL l)), (61, [], .int .i64 l.length), (62, [], .int .i64 j)], [T, mapE .u32 (bKV (runIn u (l.take j)))]⟩
def stC2 (T : Ent) (ps ws : List Int) (L : Nodes) (i : Nat) (to : Int) (b : List Int) (u : Ins) (j : Nat) : St := ⟨[(0, [], .ls 1 (bL ps)), (5, [], .box 0 0), (6, [], .ls 2 (nD L)), (8, [], .ownm 1 0), (12, [], .int .u32 to), (17, [], .int .i64 j), (40, [], .ls 1 (bL ws)), (41, [], .int .i64 ws.length), (42, [], .int .i64 i), (101, [], .ls 1 (iL b)), (102, [], .int .i64 b.length), (103, [], .int .i64 j)], [T, mapE .u32 (bKV u)]⟩
structure CGx where
  g : Gh
  seen : Array Nat
  cur : Option (D × D)
  left : Ins
def stC3 (T : Ent) (ps ws : List Int) (L : Nodes) (i : Nat) (to : Int) (u : Ins) (x : CGx) : St := ⟨[(0, [], .ls 1 (bL ps)), (5, [], .box 0 0), (6, [], .ls 2 (nD L)), (8, [], .ownm 1 0), (12, [], .int .u32 to), (17, [], .int .i64 (trues x.left)), (40, [], .ls 1 (bL ws)), (41, [], .int .i64 ws.length), (42, [], .int .i64 i), (115, [], .box 2 0)], [T, .mapx x.g (mpK .u32 (bKV u)) (mpV (bKV u)), .ito x.g x.seen x.cur (mpK .u32 (bKV x.left)) (mpV (bKV x.left))]⟩

@[reducible] def toOf {ps : List Int} {to : Int} {b : List Int} (_ : WayI ps to b) : Int := to
set_option maxHeartbeats 4000000 in
theorem sp_law36_CrossEnds {ps ws : List Int} (hb : ∀ p ∈ ps, 0 ≤ p ∧ p ≤ 255) (hw : ∀ p ∈ ws, 0 ≤ p ∧ p ≤ 255) : TSp 4 [.ls 1 (bL ps), .ls 1 (bL ws)] (.bool true) := by
  refine spo_law36_CrossEnds (by rfl) ?_
  dsimp only [c_law36_CrossEnds, r_law36_CrossEnds, run_skip, run_reg, plainB, ifB_true, run_seq, run_blk, run_exit, run_ret, run_ite, iteR, regK, thenK_nrm, thenK_exit, thenK_ret, thenR_nrm, thenR_exit, thenR_ret, blkK, keepS, keepE, runOps_nil, runOps_cons, goG_some, fpOk, foot, entOf, allN, memN, goOn_ok, goOn_call, goOn_row, goOn_arr, goOn_ask, goOn_put, goOn_prm, goOn_callK, goOn_all, guardP, guardO, notInO, stepF, stepLd, stepSt, stepIxs, stepIxa, stepLen, stepApp, stepCpy, stepPick, stepSls, stepSst, stepSla, bareZ, evX, evL, evB, rd, get, subG, memG, freshG, notInG, hyps, gob, impP, allP, partD, partOf, isOne, isPtr, nth, takeN, dropN, cellsD, lenB, fillD, thirds, entN, setE, sizeE, addE, setL, setN, putE, env0, eqCs, eqAux, eqC, bA, bO, bN, bE, negB, kEq, isShr, lendL, lend, frz, frzL, zRow, closed, closedL, rowsOf, binI, retK, retG, atRet, retD, lendO, resL, resD, oneD, renD, renL, renE, renEs, rho, putAll, entsN, List.append, List.nil_append, List.cons_append, List.append_nil, cond, Nat.reduceBEq, Nat.reduceAdd, Nat.beq]
  have hbl := bL_len ps
  have hwl := bL_len ws
  refine ⟨fun _ => ?_, fun h => ?_⟩
  · refine call_pure sp_law36_awake ?_
    rfl
  have hl : ps.length ≤ 20 ∧ ws.length ≤ 20 := by simp at h; omega
  obtain ⟨hl, hl2⟩ := hl
  refine call_pure (sp_law36_Made hl hb) ?_
  have hok := mok_made (ps := ps) (by omega)
  rw [show tD (madeT ps).1 = .agg [mpD .u32 (kKV (madeT ps).1.kids), mpD .u32 (uKV (madeT ps).1.up)] from rfl]
  dsimp only [run_skip, run_reg, plainB, ifB_true, run_seq, run_blk, run_exit, run_ret, run_ite, iteR, regK, thenK_nrm, thenK_exit, thenK_ret, thenR_nrm, thenR_exit, thenR_ret, blkK, keepS, keepE, runOps_nil, runOps_cons, goG_some, fpOk, foot, entOf, allN, memN, goOn_ok, goOn_call, goOn_row, goOn_arr, goOn_ask, goOn_put, goOn_prm, goOn_callK, goOn_all, guardP, guardO, notInO, stepF, stepLd, stepSt, stepIxs, stepIxa, stepLen, stepApp, stepCpy, stepPick, stepSls, stepSst, stepSla, bareZ, evX, evL, evB, rd, get, subG, memG, freshG, notInG, hyps, gob, impP, allP, partD, partOf, isOne, isPtr, nth, takeN, dropN, cellsD, lenB, fillD, thirds, entN, setE, sizeE, addE, setL, setN, putE, env0, eqCs, eqAux, eqC, bA, bO, bN, bE, negB, kEq, isShr, lendL, lend, frz, frzL, zRow, closed, closedL, rowsOf, binI, retK, retG, atRet, retD, lendO, resL, resD, oneD, renD, renL, renE, renEs, rho, putAll, entsN, List.append, List.nil_append, List.cons_append, List.append_nil, cond, Nat.reduceBEq, Nat.reduceAdd, Nat.beq]
  refine ⟨nofun, fun _ => ?_⟩
  refine prm_eff _ _ (pr_mkm (ik := .u32)) ?_
  dsimp only [run_skip, run_reg, plainB, ifB_true, run_seq, run_blk, run_exit, run_ret, run_ite, iteR, regK, thenK_nrm, thenK_exit, thenK_ret, thenR_nrm, thenR_exit, thenR_ret, blkK, keepS, keepE, runOps_nil, runOps_cons, goG_some, fpOk, foot, entOf, allN, memN, goOn_ok, goOn_call, goOn_row, goOn_arr, goOn_ask, goOn_put, goOn_prm, goOn_callK, goOn_all, guardP, guardO, notInO, stepF, stepLd, stepSt, stepIxs, stepIxa, stepLen, stepApp, stepCpy, stepPick, stepSls, stepSst, stepSla, bareZ, evX, evL, evB, rd, get, subG, memG, freshG, notInG, hyps, gob, impP, allP, partD, partOf, isOne, isPtr, nth, takeN, dropN, cellsD, lenB, fillD, thirds, entN, setE, sizeE, addE, setL, setN, putE, env0, eqCs, eqAux, eqC, bA, bO, bN, bE, negB, kEq, isShr, lendL, lend, frz, frzL, zRow, closed, closedL, rowsOf, binI, retK, retG, atRet, retD, lendO, resL, resD, oneD, renD, renL, renE, renEs, rho, putAll, entsN, List.append, List.nil_append, List.cons_append, List.append_nil, cond, Nat.reduceBEq, Nat.reduceAdd, Nat.beq]
  rw [hwl]
  obtain ⟨z, hz⟩ := wayI (ps := ps) (by omega) (fun p hp => (hb p hp).1) 0
  have hz0 := wayI_zero hz
  subst hz0
  have hT : lowB 2 [Ent.cells [mpD .u32 (kKV (madeT ps).1.kids), mpD .u32 (uKV (madeT ps).1.up)]] = true := rfl
  have htD : tD (madeT ps).1 = .agg [mpD .u32 (kKV (madeT ps).1.kids), mpD .u32 (uKV (madeT ps).1.up)] := rfl
  generalize hk1 : mpD .u32 (kKV (madeT ps).1.kids) = k1 at *
  generalize hk2 : mpD .u32 (uKV (madeT ps).1.up) = k2 at *
  refine loop_from (α := {x : CEx // x.i ≤ ws.length ∧ WayI ps x.at_ x.a ∧ NdK x.u ∧ ∀ y, inB x.u y = true ↔ y ∈ x.a}) (fun x => stCE (.cells [k1, k2]) ps ws (madeT ps).2 x.1) (fun x => ws.length - x.1.i) ?_
    ⟨⟨0, 0, [], []⟩, by simp, hz, by simp [NdK], fun y => by simp [inB, lk]⟩ ⟨rfl, rfl, rfl, rfl, rfl, rfl, rfl, rfl, trivial⟩ ⟨rfl, rfl, trivial⟩ rfl (by subst hk1 hk2; simp [stCE, lowB, mapE, lowL_mpK, lowL_bKV, lowL, low, mpD])
  rintro ⟨⟨i, f, a, u⟩, hi, ha, hn, hu⟩ I ih
  dsimp only at hi ha hn hu
  dsimp only [stCE, run_skip, run_reg, plainB, ifB_true, run_seq, run_blk, run_exit, run_ret, run_ite, iteR, regK, thenK_nrm, thenK_exit, thenK_ret, thenR_nrm, thenR_exit, thenR_ret, blkK, keepS, keepE, runOps_nil, runOps_cons, goG_some, fpOk, foot, entOf, allN, memN, goOn_ok, goOn_call, goOn_row, goOn_arr, goOn_ask, goOn_put, goOn_prm, goOn_callK, goOn_all, guardP, guardO, notInO, stepF, stepLd, stepSt, stepIxs, stepIxa, stepLen, stepApp, stepCpy, stepPick, stepSls, stepSst, stepSla, bareZ, evX, evL, evB, rd, get, subG, memG, freshG, notInG, hyps, gob, impP, allP, partD, partOf, isOne, isPtr, nth, takeN, dropN, cellsD, lenB, fillD, thirds, entN, setE, sizeE, addE, setL, setN, putE, env0, eqCs, eqAux, eqC, bA, bO, bN, bE, negB, kEq, isShr, lendL, lend, frz, frzL, zRow, closed, closedL, rowsOf, binI, retK, retG, atRet, retD, lendO, resL, resD, oneD, renD, renL, renE, renEs, rho, putAll, entsN, List.append, List.nil_append, List.cons_append, List.append_nil, cond, Nat.reduceBEq, Nat.reduceAdd, Nat.beq]
  refine ⟨fun hj => ?_, fun hj => ?_⟩
  rotate_left
  · refine call_pure sp_law36_awake ?_
    rfl
  have hj : i < ws.length := by simp at hj; omega
  refine ⟨⟨rfl, by omega, by omega⟩, row_intro _ _ (bL_at hj) rfl ?_⟩
  dsimp only [run_skip, run_reg, plainB, ifB_true, run_seq, run_blk, run_exit, run_ret, run_ite, iteR, regK, thenK_nrm, thenK_exit, thenK_ret, thenR_nrm, thenR_exit, thenR_ret, blkK, keepS, keepE, runOps_nil, runOps_cons, goG_some, fpOk, foot, entOf, allN, memN, goOn_ok, goOn_call, goOn_row, goOn_arr, goOn_ask, goOn_put, goOn_prm, goOn_callK, goOn_all, guardP, guardO, notInO, stepF, stepLd, stepSt, stepIxs, stepIxa, stepLen, stepApp, stepCpy, stepPick, stepSls, stepSst, stepSla, bareZ, evX, evL, evB, rd, get, subG, memG, freshG, notInG, hyps, gob, impP, allP, partD, partOf, isOne, isPtr, nth, takeN, dropN, cellsD, lenB, fillD, thirds, entN, setE, sizeE, addE, setL, setN, putE, env0, eqCs, eqAux, eqC, bA, bO, bN, bE, negB, kEq, isShr, lendL, lend, frz, frzL, zRow, closed, closedL, rowsOf, binI, retK, retG, atRet, retD, lendO, resL, resD, oneD, renD, renL, renE, renEs, rho, putAll, entsN, List.append, List.nil_append, List.cons_append, List.append_nil, cond, Nat.reduceBEq, Nat.reduceAdd, Nat.beq]
  have hwi := hw _ (List.getElem_mem hj)
  generalize ws[i] = w at *
  rw [hbl]
  have e0 : 0 ≤ w % ((ps.length : Int) + 2) := Int.emod_nonneg _ (by omega)
  have e1 : w % ((ps.length : Int) + 2) < (ps.length : Int) + 2 := Int.emod_lt_of_pos _ (by omega)
  generalize w % ((ps.length : Int) + 2) = m at *
  have hto0 : ∃ b, WayI ps 0 b := ⟨_, hz⟩
  have hto1 : ∃ b, WayI ps (idN (m - 1)) b := wayI (ps := ps) (by omega) (fun p hp => (hb p hp).1) _
  refine ⟨by simp only [fits]; omega, by simp only [fits]; omega, ⟨by omega, by omega⟩, ?_⟩
  refine ⟨fun h1 => ⟨by simp only [fits]; omega, call_pure (sp_law36_ID (by simp at h1; omega) (by omega)) ?_⟩, fun h1 => ?_⟩
  rotate_left
  obtain ⟨b, hB⟩ := hto0
  rotate_left
  obtain ⟨b, hB⟩ := hto1
  all_goals
    try dsimp only [run_skip, run_reg, plainB, ifB_true, run_seq, run_blk, run_exit, run_ret, run_ite, iteR, regK, thenK_nrm, thenK_exit, thenK_ret, thenR_nrm, thenR_exit, thenR_ret, blkK, keepS, keepE, runOps_nil, runOps_cons, goG_some, fpOk, foot, entOf, allN, memN, goOn_ok, goOn_call, goOn_row, goOn_arr, goOn_ask, goOn_put, goOn_prm, goOn_callK, goOn_all, guardP, guardO, notInO, stepF, stepLd, stepSt, stepIxs, stepIxa, stepLen, stepApp, stepCpy, stepPick, stepSls, stepSst, stepSla, bareZ, evX, evL, evB, rd, get, subG, memG, freshG, notInG, hyps, gob, impP, allP, partD, partOf, isOne, isPtr, nth, takeN, dropN, cellsD, lenB, fillD, thirds, entN, setE, sizeE, addE, setL, setN, putE, env0, eqCs, eqAux, eqC, bA, bO, bN, bE, negB, kEq, isShr, lendL, lend, frz, frzL, zRow, closed, closedL, rowsOf, binI, retK, retG, atRet, retD, lendO, resL, resD, oneD, renD, renL, renE, renEs, rho, putAll, entsN, List.append, List.nil_append, List.cons_append, List.append_nil, cond, Nat.reduceBEq, Nat.reduceAdd, Nat.beq]
    have hX := sp_cross (by omega) ha hB
    rw [htD] at hX
    refine call_pure hX ?_ (hc := by subst hk1 hk2; rfl)
    dsimp only [run_skip, run_reg, plainB, ifB_true, run_seq, run_blk, run_exit, run_ret, run_ite, iteR, regK, thenK_nrm, thenK_exit, thenK_ret, thenR_nrm, thenR_exit, thenR_ret, blkK, keepS, keepE, runOps_nil, runOps_cons, goG_some, fpOk, foot, entOf, allN, memN, goOn_ok, goOn_call, goOn_row, goOn_arr, goOn_ask, goOn_put, goOn_prm, goOn_callK, goOn_all, guardP, guardO, notInO, stepF, stepLd, stepSt, stepIxs, stepIxa, stepLen, stepApp, stepCpy, stepPick, stepSls, stepSst, stepSla, bareZ, evX, evL, evB, rd, get, subG, memG, freshG, notInG, hyps, gob, impP, allP, partD, partOf, isOne, isPtr, nth, takeN, dropN, cellsD, lenB, fillD, thirds, entN, setE, sizeE, addE, setL, setN, putE, env0, eqCs, eqAux, eqC, bA, bO, bN, bE, negB, kEq, isShr, lendL, lend, frz, frzL, zRow, closed, closedL, rowsOf, binI, retK, retG, atRet, retD, lendO, resL, resD, oneD, renD, renL, renE, renEs, rho, putAll, entsN, List.append, List.nil_append, List.cons_append, List.append_nil, cond, Nat.reduceBEq, Nat.reduceAdd, Nat.beq]
    have hok := cross_ok ha.pw hB.pw (fun e => by subst e; exact wayI_det ha hB)
    have hnd := cross_ids ha.pw hB.pw
    have hla := ha.len
    have hlb := hB.len
    have hlen := cross_len (a := a) (b := b) (f := f) (g := toOf hB)
    dsimp only [toOf] at hlen
    generalize crossS a b f _ = l at *
    have hsl := sL_len l
    rw [hsl]
    refine loop_from (α := {j : Nat // j ≤ l.length}) (fun j => stC1 (.cells [k1, k2]) ps ws (madeT ps).2 i (toOf hB) l u j.1) (fun j => l.length - j.1) ?_ ⟨0, by simp⟩ ⟨rfl, rfl, rfl, rfl, rfl, rfl, rfl, rfl, rfl, rfl, rfl, trivial⟩ ⟨rfl, rfl, trivial⟩ rfl (by subst hk1 hk2; simp [stC1, lowB, mapE, lowL_mpK, lowL_bKV, lowL, low, mpD])
    rintro ⟨j, hj0⟩ I1 ih1
    dsimp only [stC1, run_skip, run_reg, plainB, ifB_true, run_seq, run_blk, run_exit, run_ret, run_ite, iteR, regK, thenK_nrm, thenK_exit, thenK_ret, thenR_nrm, thenR_exit, thenR_ret, blkK, keepS, keepE, runOps_nil, runOps_cons, goG_some, fpOk, foot, entOf, allN, memN, goOn_ok, goOn_call, goOn_row, goOn_arr, goOn_ask, goOn_put, goOn_prm, goOn_callK, goOn_all, guardP, guardO, notInO, stepF, stepLd, stepSt, stepIxs, stepIxa, stepLen, stepApp, stepCpy, stepPick, stepSls, stepSst, stepSla, bareZ, evX, evL, evB, rd, get, subG, memG, freshG, notInG, hyps, gob, impP, allP, partD, partOf, isOne, isPtr, nth, takeN, dropN, cellsD, lenB, fillD, thirds, entN, setE, sizeE, addE, setL, setN, putE, env0, eqCs, eqAux, eqC, bA, bO, bN, bE, negB, kEq, isShr, lendL, lend, frz, frzL, zRow, closed, closedL, rowsOf, binI, retK, retG, atRet, retD, lendO, resL, resD, oneD, renD, renL, renE, renEs, rho, putAll, entsN, List.append, List.nil_append, List.cons_append, List.append_nil, cond, Nat.reduceBEq, Nat.reduceAdd, Nat.beq]
    refine ⟨fun hj1 => ?_, fun hj1 => ?_⟩
    · have hj1 : j < l.length := by simp at hj1; omega
      refine ⟨⟨rfl, by omega, by omega⟩, row_intro _ _ (sL_at hj1) rfl ?_⟩
      dsimp only [stD, run_skip, run_reg, plainB, ifB_true, run_seq, run_blk, run_exit, run_ret, run_ite, iteR, regK, thenK_nrm, thenK_exit, thenK_ret, thenR_nrm, thenR_exit, thenR_ret, blkK, keepS, keepE, runOps_nil, runOps_cons, goG_some, fpOk, foot, entOf, allN, memN, goOn_ok, goOn_call, goOn_row, goOn_arr, goOn_ask, goOn_put, goOn_prm, goOn_callK, goOn_all, guardP, guardO, notInO, stepF, stepLd, stepSt, stepIxs, stepIxa, stepLen, stepApp, stepCpy, stepPick, stepSls, stepSst, stepSla, bareZ, evX, evL, evB, rd, get, subG, memG, freshG, notInG, hyps, gob, impP, allP, partD, partOf, isOne, isPtr, nth, takeN, dropN, cellsD, lenB, fillD, thirds, entN, setE, sizeE, addE, setL, setN, putE, env0, eqCs, eqAux, eqC, bA, bO, bN, bE, negB, kEq, isShr, lendL, lend, frz, frzL, zRow, closed, closedL, rowsOf, binI, retK, retG, atRet, retD, lendO, resL, resD, oneD, renD, renL, renE, renEs, rho, putAll, entsN, List.append, List.nil_append, List.cons_append, List.append_nil, cond, Nat.reduceBEq, Nat.reduceAdd, Nat.beq]
      have hs := hok.step _ (List.getElem_mem hj1)
      have hnd1 : (((l.take j) ++ [l[j]]).map (·.id)).Nodup := by
        rw [← List.take_succ_eq_append_getElem hj1, List.map_take]
        exact hnd.sublist (List.take_sublist _ _)
      rw [List.map_append] at hnd1
      have hnin : l[j].id ∉ (l.take j).map (·.id) := fun h => (List.nodup_append.1 hnd1).2.2 _ h _ (by simp) rfl
      have hin : inB (runIn u (l.take j)) l[j].id = true ↔ l[j].id ∈ a := by rw [runIn_other hnin]; exact hu _
      have hsn : runIn u (l.take (j + 1)) = put (runIn u (l.take j)) l[j].id (l[j].en || decide (l[j].det = 2)) := by
        rw [List.take_succ_eq_append_getElem hj1, runIn_snoc]; rfl
      have hnk := runIn_nd (l := l.take j) hn
      generalize l[j] = s at *
      have hk := pr_inB (bx := [.cells [k1, k2], mapE .u32 (bKV (runIn u (l.take j))), .cells [.int .u32 s.id, .bool s.en, .int .i64 s.det]]) (j := 1) rfl hnk s.id
      refine prm_look _ (fun _ => hk) ?_
      dsimp only [run_skip, run_reg, plainB, ifB_true, run_seq, run_blk, run_exit, run_ret, run_ite, iteR, regK, thenK_nrm, thenK_exit, thenK_ret, thenR_nrm, thenR_exit, thenR_ret, blkK, keepS, keepE, runOps_nil, runOps_cons, goG_some, fpOk, foot, entOf, allN, memN, goOn_ok, goOn_call, goOn_row, goOn_arr, goOn_ask, goOn_put, goOn_prm, goOn_callK, goOn_all, guardP, guardO, notInO, stepF, stepLd, stepSt, stepIxs, stepIxa, stepLen, stepApp, stepCpy, stepPick, stepSls, stepSst, stepSla, bareZ, evX, evL, evB, rd, get, subG, memG, freshG, notInG, hyps, gob, impP, allP, partD, partOf, isOne, isPtr, nth, takeN, dropN, cellsD, lenB, fillD, thirds, entN, setE, sizeE, addE, setL, setN, putE, env0, eqCs, eqAux, eqC, bA, bO, bN, bE, negB, kEq, isShr, lendL, lend, frz, frzL, zRow, closed, closedL, rowsOf, binI, retK, retG, atRet, retD, lendO, resL, resD, oneD, renD, renL, renE, renEs, rho, putAll, entsN, List.append, List.nil_append, List.cons_append, List.append_nil, cond, Nat.reduceBEq, Nat.reduceAdd, Nat.beq]
      refine prm_look _ (fun _ _ => hk) ?_
      dsimp only [run_skip, run_reg, plainB, ifB_true, run_seq, run_blk, run_exit, run_ret, run_ite, iteR, regK, thenK_nrm, thenK_exit, thenK_ret, thenR_nrm, thenR_exit, thenR_ret, blkK, keepS, keepE, runOps_nil, runOps_cons, goG_some, fpOk, foot, entOf, allN, memN, goOn_ok, goOn_call, goOn_row, goOn_arr, goOn_ask, goOn_put, goOn_prm, goOn_callK, goOn_all, guardP, guardO, notInO, stepF, stepLd, stepSt, stepIxs, stepIxa, stepLen, stepApp, stepCpy, stepPick, stepSls, stepSst, stepSla, bareZ, evX, evL, evB, rd, get, subG, memG, freshG, notInG, hyps, gob, impP, allP, partD, partOf, isOne, isPtr, nth, takeN, dropN, cellsD, lenB, fillD, thirds, entN, setE, sizeE, addE, setL, setN, putE, env0, eqCs, eqAux, eqC, bA, bO, bN, bE, negB, kEq, isShr, lendL, lend, frz, frzL, zRow, closed, closedL, rowsOf, binI, retK, retG, atRet, retD, lendO, resL, resD, oneD, renD, renL, renE, renEs, rho, putAll, entsN, List.append, List.nil_append, List.cons_append, List.append_nil, cond, Nat.reduceBEq, Nat.reduceAdd, Nat.beq]
      refine ⟨fun h => ?_, fun _ => ?_⟩
      · have hw1 := hs.was
        revert h hw1 hin
        cases hp : inB (runIn u (l.take j)) s.id <;> cases hq : s.en <;> by_cases hd : s.det = 2 <;> simp [hd] <;> intro h1 h2 h3 <;> simp_all
      · refine prm_eff _ _ (pr_upd tMB tI rfl (bKV_nd hnk) s.id (.bool (s.en || decide (s.det = 2)))) ?_
        dsimp only [run_skip, run_reg, plainB, ifB_true, run_seq, run_blk, run_exit, run_ret, run_ite, iteR, regK, thenK_nrm, thenK_exit, thenK_ret, thenR_nrm, thenR_exit, thenR_ret, blkK, keepS, keepE, runOps_nil, runOps_cons, goG_some, fpOk, foot, entOf, allN, memN, goOn_ok, goOn_call, goOn_row, goOn_arr, goOn_ask, goOn_put, goOn_prm, goOn_callK, goOn_all, guardP, guardO, notInO, stepF, stepLd, stepSt, stepIxs, stepIxa, stepLen, stepApp, stepCpy, stepPick, stepSls, stepSst, stepSla, bareZ, evX, evL, evB, rd, get, subG, memG, freshG, notInG, hyps, gob, impP, allP, partD, partOf, isOne, isPtr, nth, takeN, dropN, cellsD, lenB, fillD, thirds, entN, setE, sizeE, addE, setL, setN, putE, env0, eqCs, eqAux, eqC, bA, bO, bN, bE, negB, kEq, isShr, lendL, lend, frz, frzL, zRow, closed, closedL, rowsOf, binI, retK, retG, atRet, retD, lendO, resL, resD, oneD, renD, renL, renE, renEs, rho, putAll, entsN, List.append, List.nil_append, List.cons_append, List.append_nil, cond, Nat.reduceBEq, Nat.reduceAdd, Nat.beq]
        rw [bKV_put, ← hsn]
        refine ⟨by simp only [fits]; omega, ?_⟩
        exact again (ih1 ⟨j + 1, by omega⟩ (by dsimp only; omega)) ⟨rfl, rfl, rfl, rfl, rfl, rfl, rfl, rfl, rfl, rfl, rfl, trivial⟩ ⟨rfl, rfl, trivial⟩ rfl (by subst hk1 hk2; simp [stC1, lowB, mapE, lowL_mpK, lowL_bKV, lowL, low, mpD])
    · have hj1 : j = l.length := by simp at hj1; omega
      subst hj1
      rw [List.take_length]
      have hnv := runIn_nd (l := l) hn
      have hvb : ∀ y, inB (runIn u l) y = true ↔ y ∈ b := fun y => by
        by_cases hy : y ∈ l.map (·.id)
        · obtain ⟨s, hs, rfl⟩ := List.mem_map.1 hy
          rw [runIn_at hnd hs, (hok.step s hs).now]
        · rw [runIn_other hy, hu, hok.rest y hy]
      generalize runIn u l = v at *
      refine call_pure hB.spr ?_
      dsimp only [run_skip, run_reg, plainB, ifB_true, run_seq, run_blk, run_exit, run_ret, run_ite, iteR, regK, thenK_nrm, thenK_exit, thenK_ret, thenR_nrm, thenR_exit, thenR_ret, blkK, keepS, keepE, runOps_nil, runOps_cons, goG_some, fpOk, foot, entOf, allN, memN, goOn_ok, goOn_call, goOn_row, goOn_arr, goOn_ask, goOn_put, goOn_prm, goOn_callK, goOn_all, guardP, guardO, notInO, stepF, stepLd, stepSt, stepIxs, stepIxa, stepLen, stepApp, stepCpy, stepPick, stepSls, stepSst, stepSla, bareZ, evX, evL, evB, rd, get, subG, memG, freshG, notInG, hyps, gob, impP, allP, partD, partOf, isOne, isPtr, nth, takeN, dropN, cellsD, lenB, fillD, thirds, entN, setE, sizeE, addE, setL, setN, putE, env0, eqCs, eqAux, eqC, bA, bO, bN, bE, negB, kEq, isShr, lendL, lend, frz, frzL, zRow, closed, closedL, rowsOf, binI, retK, retG, atRet, retD, lendO, resL, resD, oneD, renD, renL, renE, renEs, rho, putAll, entsN, List.append, List.nil_append, List.cons_append, List.append_nil, cond, Nat.reduceBEq, Nat.reduceAdd, Nat.beq]
      have hib := iL_len b
      rw [hib]
      refine loop_from (α := {j : Nat // j ≤ b.length}) (fun j => stC2 (.cells [k1, k2]) ps ws (madeT ps).2 i (toOf hB) b v j.1) (fun j => b.length - j.1) ?_ ⟨0, by simp⟩ ⟨rfl, rfl, rfl, rfl, rfl, rfl, rfl, rfl, rfl, rfl, rfl, rfl, trivial⟩ ⟨rfl, rfl, trivial⟩ rfl (by subst hk1 hk2; simp [stC2, lowB, mapE, lowL_mpK, lowL_bKV, lowL, low, mpD])
      rintro ⟨j, hj2⟩ I2 ih2
      dsimp only [stC2, run_skip, run_reg, plainB, ifB_true, run_seq, run_blk, run_exit, run_ret, run_ite, iteR, regK, thenK_nrm, thenK_exit, thenK_ret, thenR_nrm, thenR_exit, thenR_ret, blkK, keepS, keepE, runOps_nil, runOps_cons, goG_some, fpOk, foot, entOf, allN, memN, goOn_ok, goOn_call, goOn_row, goOn_arr, goOn_ask, goOn_put, goOn_prm, goOn_callK, goOn_all, guardP, guardO, notInO, stepF, stepLd, stepSt, stepIxs, stepIxa, stepLen, stepApp, stepCpy, stepPick, stepSls, stepSst, stepSla, bareZ, evX, evL, evB, rd, get, subG, memG, freshG, notInG, hyps, gob, impP, allP, partD, partOf, isOne, isPtr, nth, takeN, dropN, cellsD, lenB, fillD, thirds, entN, setE, sizeE, addE, setL, setN, putE, env0, eqCs, eqAux, eqC, bA, bO, bN, bE, negB, kEq, isShr, lendL, lend, frz, frzL, zRow, closed, closedL, rowsOf, binI, retK, retG, atRet, retD, lendO, resL, resD, oneD, renD, renL, renE, renEs, rho, putAll, entsN, List.append, List.nil_append, List.cons_append, List.append_nil, cond, Nat.reduceBEq, Nat.reduceAdd, Nat.beq]
      refine ⟨fun hj3 => ?_, fun hj3 => ?_⟩
      · have hj3 : j < b.length := by simp at hj3; omega
        refine ⟨⟨rfl, by omega, by omega⟩, row_intro _ _ (iL_at hj3) rfl ?_⟩
        dsimp only [run_skip, run_reg, plainB, ifB_true, run_seq, run_blk, run_exit, run_ret, run_ite, iteR, regK, thenK_nrm, thenK_exit, thenK_ret, thenR_nrm, thenR_exit, thenR_ret, blkK, keepS, keepE, runOps_nil, runOps_cons, goG_some, fpOk, foot, entOf, allN, memN, goOn_ok, goOn_call, goOn_row, goOn_arr, goOn_ask, goOn_put, goOn_prm, goOn_callK, goOn_all, guardP, guardO, notInO, stepF, stepLd, stepSt, stepIxs, stepIxa, stepLen, stepApp, stepCpy, stepPick, stepSls, stepSst, stepSla, bareZ, evX, evL, evB, rd, get, subG, memG, freshG, notInG, hyps, gob, impP, allP, partD, partOf, isOne, isPtr, nth, takeN, dropN, cellsD, lenB, fillD, thirds, entN, setE, sizeE, addE, setL, setN, putE, env0, eqCs, eqAux, eqC, bA, bO, bN, bE, negB, kEq, isShr, lendL, lend, frz, frzL, zRow, closed, closedL, rowsOf, binI, retK, retG, atRet, retD, lendO, resL, resD, oneD, renD, renL, renE, renEs, rho, putAll, entsN, List.append, List.nil_append, List.cons_append, List.append_nil, cond, Nat.reduceBEq, Nat.reduceAdd, Nat.beq]
        have hk := pr_inB (bx := [.cells [k1, k2], mapE .u32 (bKV v)]) (j := 1) rfl hnv b[j]
        rw [(hvb b[j]).2 (List.getElem_mem hj3)] at hk
        refine prm_look _ hk ?_
        dsimp only [run_skip, run_reg, plainB, ifB_true, run_seq, run_blk, run_exit, run_ret, run_ite, iteR, regK, thenK_nrm, thenK_exit, thenK_ret, thenR_nrm, thenR_exit, thenR_ret, blkK, keepS, keepE, runOps_nil, runOps_cons, goG_some, fpOk, foot, entOf, allN, memN, goOn_ok, goOn_call, goOn_row, goOn_arr, goOn_ask, goOn_put, goOn_prm, goOn_callK, goOn_all, guardP, guardO, notInO, stepF, stepLd, stepSt, stepIxs, stepIxa, stepLen, stepApp, stepCpy, stepPick, stepSls, stepSst, stepSla, bareZ, evX, evL, evB, rd, get, subG, memG, freshG, notInG, hyps, gob, impP, allP, partD, partOf, isOne, isPtr, nth, takeN, dropN, cellsD, lenB, fillD, thirds, entN, setE, sizeE, addE, setL, setN, putE, env0, eqCs, eqAux, eqC, bA, bO, bN, bE, negB, kEq, isShr, lendL, lend, frz, frzL, zRow, closed, closedL, rowsOf, binI, retK, retG, atRet, retD, lendO, resL, resD, oneD, renD, renL, renE, renEs, rho, putAll, entsN, List.append, List.nil_append, List.cons_append, List.append_nil, cond, Nat.reduceBEq, Nat.reduceAdd, Nat.beq]
        refine ⟨nofun, fun _ => ?_⟩
        refine ⟨by simp only [fits]; omega, by simp only [fits]; omega, ?_⟩
        exact again (ih2 ⟨j + 1, by omega⟩ (by dsimp only; omega)) ⟨rfl, rfl, rfl, rfl, rfl, rfl, rfl, rfl, rfl, rfl, rfl, rfl, trivial⟩ ⟨rfl, rfl, trivial⟩ rfl (by subst hk1 hk2; simp [stC2, lowB, mapE, lowL_mpK, lowL_bKV, lowL, low, mpD])
      · have hj3 : j = b.length := by simp at hj3; omega
        subst hj3
        refine prm_all _ (pr_rngO (ks := mpK .u32 (bKV v)) (vs := mpV (bKV v)) tMB rfl closedL_bKV) ?_
        rintro d bx' ⟨g, rfl, rfl⟩
        dsimp only [run_skip, run_reg, plainB, ifB_true, run_seq, run_blk, run_exit, run_ret, run_ite, iteR, regK, thenK_nrm, thenK_exit, thenK_ret, thenR_nrm, thenR_exit, thenR_ret, blkK, keepS, keepE, runOps_nil, runOps_cons, goG_some, fpOk, foot, entOf, allN, memN, goOn_ok, goOn_call, goOn_row, goOn_arr, goOn_ask, goOn_put, goOn_prm, goOn_callK, goOn_all, guardP, guardO, notInO, stepF, stepLd, stepSt, stepIxs, stepIxa, stepLen, stepApp, stepCpy, stepPick, stepSls, stepSst, stepSla, bareZ, evX, evL, evB, rd, get, subG, memG, freshG, notInG, hyps, gob, impP, allP, partD, partOf, isOne, isPtr, nth, takeN, dropN, cellsD, lenB, fillD, thirds, entN, setE, sizeE, addE, setL, setN, putE, env0, eqCs, eqAux, eqC, bA, bO, bN, bE, negB, kEq, isShr, lendL, lend, frz, frzL, zRow, closed, closedL, rowsOf, binI, retK, retG, atRet, retD, lendO, resL, resD, oneD, renD, renL, renE, renEs, rho, putAll, entsN, List.append, List.nil_append, List.cons_append, List.append_nil, cond, Nat.reduceBEq, Nat.reduceAdd, Nat.beq]
        have htv := trues_of hnv hB.pw.nd hvb
        refine loop_from (α := {x : CGx // trues x.left ≤ 100}) (fun x => stC3 (.cells [k1, k2]) ps ws (madeT ps).2 i (toOf hB) v x.1) (fun x => x.1.left.length) ?_ ⟨⟨g, #[], none, v⟩, by dsimp only; omega⟩ ⟨rfl, rfl, rfl, rfl, rfl, by rw [htv]; rfl, rfl, rfl, rfl, rfl, trivial⟩ ⟨rfl, rfl, rfl, trivial⟩ rfl (by subst hk1 hk2; simp [stC3, lowB, mapE, lowL_mpK, lowL_bKV, lowL, low, mpD])
        rintro ⟨⟨g, seen, cur, left⟩, ht100⟩ I3 ih3
        dsimp only at ht100
        dsimp only [stC3, run_skip, run_reg, plainB, ifB_true, run_seq, run_blk, run_exit, run_ret, run_ite, iteR, regK, thenK_nrm, thenK_exit, thenK_ret, thenR_nrm, thenR_exit, thenR_ret, blkK, keepS, keepE, runOps_nil, runOps_cons, goG_some, fpOk, foot, entOf, allN, memN, goOn_ok, goOn_call, goOn_row, goOn_arr, goOn_ask, goOn_put, goOn_prm, goOn_callK, goOn_all, guardP, guardO, notInO, stepF, stepLd, stepSt, stepIxs, stepIxa, stepLen, stepApp, stepCpy, stepPick, stepSls, stepSst, stepSla, bareZ, evX, evL, evB, rd, get, subG, memG, freshG, notInG, hyps, gob, impP, allP, partD, partOf, isOne, isPtr, nth, takeN, dropN, cellsD, lenB, fillD, thirds, entN, setE, sizeE, addE, setL, setN, putE, env0, eqCs, eqAux, eqC, bA, bO, bN, bE, negB, kEq, isShr, lendL, lend, frz, frzL, zRow, closed, closedL, rowsOf, binI, retK, retG, atRet, retD, lendO, resL, resD, oneD, renD, renL, renE, renEs, rho, putAll, entsN, List.append, List.nil_append, List.cons_append, List.append_nil, cond, Nat.reduceBEq, Nat.reduceAdd, Nat.beq]
        refine prm_all _ (pr_nxtO (i := 1) rfl rfl) ?_
        rintro d bx' (⟨hnil, rfl, rfl⟩ | ⟨n, dk, dv, s, hk, hv, rfl, rfl⟩)
        · have hl0 : left = [] := by
            cases left with
            | nil => rfl
            | cons p r => simp [mpK, bKV] at hnil
          subst hl0
          dsimp only [run_skip, run_reg, plainB, ifB_true, run_seq, run_blk, run_exit, run_ret, run_ite, iteR, regK, thenK_nrm, thenK_exit, thenK_ret, thenR_nrm, thenR_exit, thenR_ret, blkK, keepS, keepE, runOps_nil, runOps_cons, goG_some, fpOk, foot, entOf, allN, memN, goOn_ok, goOn_call, goOn_row, goOn_arr, goOn_ask, goOn_put, goOn_prm, goOn_callK, goOn_all, guardP, guardO, notInO, stepF, stepLd, stepSt, stepIxs, stepIxa, stepLen, stepApp, stepCpy, stepPick, stepSls, stepSst, stepSla, bareZ, evX, evL, evB, rd, get, subG, memG, freshG, notInG, hyps, gob, impP, allP, partD, partOf, isOne, isPtr, nth, takeN, dropN, cellsD, lenB, fillD, thirds, entN, setE, sizeE, addE, setL, setN, putE, env0, eqCs, eqAux, eqC, bA, bO, bN, bE, negB, kEq, isShr, lendL, lend, frz, frzL, zRow, closed, closedL, rowsOf, binI, retK, retG, atRet, retD, lendO, resL, resD, oneD, renD, renL, renE, renEs, rho, putAll, entsN, List.append, List.nil_append, List.cons_append, List.append_nil, cond, Nat.reduceBEq, Nat.reduceAdd, Nat.beq]
          refine ⟨nofun, fun _ => ?_⟩
          refine ⟨fun h => by simp [trues] at h, fun _ => ?_⟩
          refine ⟨by simp only [fits]; omega, ?_⟩
          exact again (ih ⟨⟨i + 1, toOf hB, b, v⟩, by dsimp only; omega, hB, hnv, hvb⟩ (by dsimp only; omega)) ⟨rfl, rfl, rfl, rfl, rfl, rfl, rfl, rfl, trivial⟩ ⟨rfl, rfl, trivial⟩ rfl (by subst hk1 hk2; simp [stCE, lowB, mapE, lowL_mpK, lowL_bKV, lowL, low, mpD])
        · obtain ⟨q, hq, rfl⟩ := mpK_at hk
          rw [mpV_at hq] at hv
          injection hv with hv
          simp only [bKV, List.getElem?_map, Option.map_eq_some_iff] at hq
          obtain ⟨p, hp, rfl⟩ := hq
          dsimp only at hv
          subst hv
          rw [mpK_erase, mpV_erase, bKV_erase]
          dsimp only [run_skip, run_reg, plainB, ifB_true, run_seq, run_blk, run_exit, run_ret, run_ite, iteR, regK, thenK_nrm, thenK_exit, thenK_ret, thenR_nrm, thenR_exit, thenR_ret, blkK, keepS, keepE, runOps_nil, runOps_cons, goG_some, fpOk, foot, entOf, allN, memN, goOn_ok, goOn_call, goOn_row, goOn_arr, goOn_ask, goOn_put, goOn_prm, goOn_callK, goOn_all, guardP, guardO, notInO, stepF, stepLd, stepSt, stepIxs, stepIxa, stepLen, stepApp, stepCpy, stepPick, stepSls, stepSst, stepSla, bareZ, evX, evL, evB, rd, get, subG, memG, freshG, notInG, hyps, gob, impP, allP, partD, partOf, isOne, isPtr, nth, takeN, dropN, cellsD, lenB, fillD, thirds, entN, setE, sizeE, addE, setL, setN, putE, env0, eqCs, eqAux, eqC, bA, bO, bN, bE, negB, kEq, isShr, lendL, lend, frz, frzL, zRow, closed, closedL, rowsOf, binI, retK, retG, atRet, retD, lendO, resL, resD, oneD, renD, renL, renE, renEs, rho, putAll, entsN, List.append, List.nil_append, List.cons_append, List.append_nil, cond, Nat.reduceBEq, Nat.reduceAdd, Nat.beq]
          refine ⟨fun _ => ?_, nofun⟩
          refine prm_look _ (pr_entO (i := 1) rfl rfl) ?_
          dsimp only [run_skip, run_reg, plainB, ifB_true, run_seq, run_blk, run_exit, run_ret, run_ite, iteR, regK, thenK_nrm, thenK_exit, thenK_ret, thenR_nrm, thenR_exit, thenR_ret, blkK, keepS, keepE, runOps_nil, runOps_cons, goG_some, fpOk, foot, entOf, allN, memN, goOn_ok, goOn_call, goOn_row, goOn_arr, goOn_ask, goOn_put, goOn_prm, goOn_callK, goOn_all, guardP, guardO, notInO, stepF, stepLd, stepSt, stepIxs, stepIxa, stepLen, stepApp, stepCpy, stepPick, stepSls, stepSst, stepSla, bareZ, evX, evL, evB, rd, get, subG, memG, freshG, notInG, hyps, gob, impP, allP, partD, partOf, isOne, isPtr, nth, takeN, dropN, cellsD, lenB, fillD, thirds, entN, setE, sizeE, addE, setL, setN, putE, env0, eqCs, eqAux, eqC, bA, bO, bN, bE, negB, kEq, isShr, lendL, lend, frz, frzL, zRow, closed, closedL, rowsOf, binI, retK, retG, atRet, retD, lendO, resL, resD, oneD, renD, renL, renE, renEs, rho, putAll, entsN, List.append, List.nil_append, List.cons_append, List.append_nil, cond, Nat.reduceBEq, Nat.reduceAdd, Nat.beq]
          have hte := trues_erase hp
          have hel := erase_len hp
          have htl : trues left ≤ left.length := List.length_filter_le _ _
          refine ⟨fun hp2 => ?_, fun hp2 => ?_⟩
          · rw [if_pos hp2] at hte
            refine ⟨by simp only [fits]; omega, ?_⟩
            rw [show (trues left : Int) - 1 = (trues (left.eraseIdx n) : Int) by omega]
            exact again (ih3 ⟨⟨g, s, _, left.eraseIdx n⟩, by dsimp only; omega⟩ (by dsimp only; omega)) ⟨rfl, rfl, rfl, rfl, rfl, rfl, rfl, rfl, rfl, rfl, trivial⟩ ⟨rfl, rfl, rfl, trivial⟩ rfl (by subst hk1 hk2; simp [stC3, lowB, mapE, lowL_mpK, lowL_bKV, lowL, low, mpD])
          · rw [if_neg (by simp [hp2])] at hte
            rw [show (trues left : Int) = (trues (left.eraseIdx n) : Int) by omega]
            exact again (ih3 ⟨⟨g, s, _, left.eraseIdx n⟩, by dsimp only; omega⟩ (by dsimp only; omega)) ⟨rfl, rfl, rfl, rfl, rfl, rfl, rfl, rfl, rfl, rfl, trivial⟩ ⟨rfl, rfl, rfl, trivial⟩ rfl (by subst hk1 hk2; simp [stC3, lowB, mapE, lowL_mpK, lowL_bKV, lowL, low, mpD])
end Go.AM
