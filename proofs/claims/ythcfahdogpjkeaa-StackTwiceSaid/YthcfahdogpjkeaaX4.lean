
/- Chapter 29: Restack. -/
import Derived.Test.YthcfahdogpjkeaaX3
set_option linter.all false
namespace Go.AM
open Go Go.Proofs

/-- Whose kids' lists and parents agree. -/
structure TT.Reg (t : TT) : Prop where
  ok : t.Ok
  root : lk t.up 1 = none
  mem : ∀ {id p : Int}, lk t.up id = some p → id ∈ kidsT t p
  nd : ∀ p, (kidsT t p).Nodup
  up : ∀ {id p : Int}, id ∈ kidsT t p → lk t.up id = some p
  nz : ∀ {id p : Int}, id ∈ kidsT t p → id ≠ 0
def upT (t : TT) (id : Int) : Int := (lk t.up id).getD 0
def othersT (t : TT) (id : Int) : List Int := offL (kidsT t (upT t id)) id
def way29 (t : TT) (id sib mode : Int) (m : Ats) : Int × Bool := wayR t id sib m (othersT t id) (decide (sib = 0)) (idxF (othersT t id) sib 0) mode
def restackT (t : TT) (id sib mode : Int) (m : Ats) : TT × Bool × Int :=
  if id = 1 then (t, false, 23)
  else if !(lk t.up id).isSome then (t, false, 6)
  else if decide (mode < 0) || decide (4 < mode) then (t, false, 10)
  else if !decide (sib = 0) && decide (idxF (othersT t id) sib 0 < 0) then (t, false, 14)
  else if !(way29 t id sib mode m).2 || decide ((kidsT t (upT t id)).getD (way29 t id sib mode m).1.toNat 0 = id) then (t, false, 0)
  else (placeT t id (way29 t id sib mode m).1.toNat, true, 0)

theorem nd_off {l : List Int} {id : Int} (hn : l.Nodup) (hm : id ∈ l) : (offL l id).length + 1 = l.length := by
  induction l with
  | nil => cases hm
  | cons x r ih =>
    obtain ⟨h1, h2⟩ := List.nodup_cons.1 hn
    by_cases e : x = id
    · subst e
      have : offL r x = r := List.filter_eq_self.2 fun y hy => by
        have : y ≠ x := fun e => h1 (e ▸ hy)
        simpa using this
      simp only [offL, List.filter_cons] at this ⊢
      simp [this]
    · have hr : id ∈ r := by
        rcases List.mem_cons.1 hm with h | h
        · exact absurd h.symm e
        · exact h
      have := ih h2 hr
      simp only [offL, List.filter_cons] at this ⊢
      simp [e]; simpa using this

theorem idxF_ge {x : Int} : ∀ {l : List Int} {i : Int}, 0 ≤ i → -1 ≤ idxF l x i
  | [], i, _ => Int.le_refl _
  | y :: r, i, h => by
    simp only [idxF]
    split
    · omega
    · exact idxF_ge (by omega)

theorem way_range {t : TT} {id sib mode : Int} {m : Ats} {n : Nat} (hn : (othersT t id).length = n) (hs : sib = 0 ∨ 0 ≤ idxF (othersT t id) sib 0) : 0 ≤ (way29 t id sib mode m).1 ∧ (way29 t id sib mode m).1 ≤ n := by
  have hlt := idxF_lt (x := sib) (l := othersT t id) (i := 0)
  unfold way29 wayR
  subst hn
  by_cases h0 : sib = 0
  · simp only [h0, decide_true, if_true]
    repeat' split
    all_goals simp
  · have hs := hs.resolve_left h0
    simp only [h0, decide_false, Bool.false_eq_true, if_false]
    repeat' split
    all_goals dsimp only
    all_goals omega

theorem sp_stack_Restack {t : TT} (h : t.Reg) {m : Ats} (hm : m.Ok) (id sib mode : Int) : TSp 12 [tD t, .int .u32 id, .int .u32 sib, .int .i64 mode, mpD .u32 (aKV m)] (.tup [tD (restackT t id sib mode m).1, .bool (restackT t id sib mode m).2.1, .int .i64 (restackT t id sib mode m).2.2]) := by
  refine spo_stack_Restack (by rfl) ?_
  have hup := sp_tree_Parent h.ok id
  have hki := sp_tree_Kids h.ok ((lk t.up id).getD 0)
  have htD : ∀ t : TT, tD t = .agg [mpD .u32 (kKV t.kids), mpD .u32 (uKV t.up)] := fun _ => rfl
  rw [htD t] at *
  dsimp only [c_stack_Restack, r_stack_Restack, run_skip, run_reg, plainB, ifB_true, run_seq, run_blk, run_exit, run_ret, run_ite, iteR, regK, thenK_nrm, thenK_exit, thenK_ret, thenR_nrm, thenR_exit, thenR_ret, blkK, keepS, keepE, runOps_nil, runOps_cons, goG_some, fpOk, foot, entOf, allN, memN, goOn_ok, goOn_call, goOn_row, goOn_arr, goOn_ask, goOn_put, goOn_prm, goOn_callK, goOn_callC, goOn_all, guardP, guardO, notInO, stepF, stepLd, stepSt, stepIxs, stepIxa, stepLen, stepApp, stepCpy, stepPick, stepSls, stepSst, stepSla, bareZ, evX, evL, evB, rd, get, subG, memG, freshG, notInG, hyps, gob, impP, allP, partD, partOf, isOne, isPtr, nth, takeN, dropN, cellsD, lenB, fillD, thirds, entN, setE, sizeE, addE, setL, setN, putE, env0, eqCs, eqAux, eqC, bA, bO, bN, bE, negB, kEq, isShr, lendL, lend, frz, frzL, zRow, closed, closedL, rowsOf, binI, retK, retG, atRet, retD, lendO, resL, resD, oneD, renD, renL, renE, renEs, rho, putAll, entsN, List.append, List.nil_append, List.cons_append, List.append_nil, cond, Nat.reduceBEq, Nat.reduceAdd, Nat.beq]
  refine call_pure hup ?_
  dsimp only [run_skip, run_reg, plainB, ifB_true, run_seq, run_blk, run_exit, run_ret, run_ite, iteR, regK, thenK_nrm, thenK_exit, thenK_ret, thenR_nrm, thenR_exit, thenR_ret, blkK, keepS, keepE, runOps_nil, runOps_cons, goG_some, fpOk, foot, entOf, allN, memN, goOn_ok, goOn_call, goOn_row, goOn_arr, goOn_ask, goOn_put, goOn_prm, goOn_callK, goOn_callC, goOn_all, guardP, guardO, notInO, stepF, stepLd, stepSt, stepIxs, stepIxa, stepLen, stepApp, stepCpy, stepPick, stepSls, stepSst, stepSla, bareZ, evX, evL, evB, rd, get, subG, memG, freshG, notInG, hyps, gob, impP, allP, partD, partOf, isOne, isPtr, nth, takeN, dropN, cellsD, lenB, fillD, thirds, entN, setE, sizeE, addE, setL, setN, putE, env0, eqCs, eqAux, eqC, bA, bO, bN, bE, negB, kEq, isShr, lendL, lend, frz, frzL, zRow, closed, closedL, rowsOf, binI, retK, retG, atRet, retD, lendO, resL, resD, oneD, renD, renL, renE, renEs, rho, putAll, entsN, List.append, List.nil_append, List.cons_append, List.append_nil, cond, Nat.reduceBEq, Nat.reduceAdd, Nat.beq]
  unfold restackT
  by_cases h1 : id = 1
  · rw [if_pos h1]
    exact ⟨fun _ => by first | rfl | trivial, fun h => by simp [h1] at h⟩
  rw [if_neg h1]
  refine ⟨fun h => by simp [h1] at h, fun _ => ?_⟩
  cases hp : lk t.up id with
  | none => exact ⟨fun _ => by first | rfl | trivial, nofun⟩
  | some p =>
  have hop : othersT t id = offL (kidsT t p) id := by unfold othersT upT; rw [hp]; rfl
  have hut : upT t id = p := by unfold upT; rw [hp]; rfl
  rw [hp] at hki
  simp only [Option.isSome_some, Option.getD_some, Bool.not_true, Bool.false_eq_true, if_false] at hki ⊢
  refine ⟨nofun, fun _ => ?_⟩
  refine ⟨fun h3 => ?_, fun h3 => ?_⟩
  · rw [if_pos h3]; rfl
  rw [if_neg (by simp only [h3]; exact Bool.false_ne_true)]
  simp only [Bool.or_eq_false_iff, decide_eq_false_iff_not] at h3
  refine call_pure hki ?_
  dsimp only [run_skip, run_reg, plainB, ifB_true, run_seq, run_blk, run_exit, run_ret, run_ite, iteR, regK, thenK_nrm, thenK_exit, thenK_ret, thenR_nrm, thenR_exit, thenR_ret, blkK, keepS, keepE, runOps_nil, runOps_cons, goG_some, fpOk, foot, entOf, allN, memN, goOn_ok, goOn_call, goOn_row, goOn_arr, goOn_ask, goOn_put, goOn_prm, goOn_callK, goOn_callC, goOn_all, guardP, guardO, notInO, stepF, stepLd, stepSt, stepIxs, stepIxa, stepLen, stepApp, stepCpy, stepPick, stepSls, stepSst, stepSla, bareZ, evX, evL, evB, rd, get, subG, memG, freshG, notInG, hyps, gob, impP, allP, partD, partOf, isOne, isPtr, nth, takeN, dropN, cellsD, lenB, fillD, thirds, entN, setE, sizeE, addE, setL, setN, putE, env0, eqCs, eqAux, eqC, bA, bO, bN, bE, negB, kEq, isShr, lendL, lend, frz, frzL, zRow, closed, closedL, rowsOf, binI, retK, retG, atRet, retD, lendO, resL, resD, oneD, renD, renL, renE, renEs, rho, putAll, entsN, List.append, List.nil_append, List.cons_append, List.append_nil, cond, Nat.reduceBEq, Nat.reduceAdd, Nat.beq]
  have hkl : (kidsT t p).length < 1000000 := by have := h.ok.kl p; omega
  have hmem := h.mem hp
  have hne : kidsT t p ≠ [] := List.ne_nil_of_mem hmem
  have hoff := nd_off (h.nd p) hmem
  refine call_own [] (sm_slices_Clone hkl) rfl rfl ?_
  dsimp only [run_skip, run_reg, plainB, ifB_true, run_seq, run_blk, run_exit, run_ret, run_ite, iteR, regK, thenK_nrm, thenK_exit, thenK_ret, thenR_nrm, thenR_exit, thenR_ret, blkK, keepS, keepE, runOps_nil, runOps_cons, goG_some, fpOk, foot, entOf, allN, memN, goOn_ok, goOn_call, goOn_row, goOn_arr, goOn_ask, goOn_put, goOn_prm, goOn_callK, goOn_callC, goOn_all, guardP, guardO, notInO, stepF, stepLd, stepSt, stepIxs, stepIxa, stepLen, stepApp, stepCpy, stepPick, stepSls, stepSst, stepSla, bareZ, evX, evL, evB, rd, get, subG, memG, freshG, notInG, hyps, gob, impP, allP, partD, partOf, isOne, isPtr, nth, takeN, dropN, cellsD, lenB, fillD, thirds, entN, setE, sizeE, addE, setL, setN, putE, env0, eqCs, eqAux, eqC, bA, bO, bN, bE, negB, kEq, isShr, lendL, lend, frz, frzL, zRow, closed, closedL, rowsOf, binI, retK, retG, atRet, retD, lendO, resL, resD, oneD, renD, renL, renE, renEs, rho, putAll, entsN, List.append, List.nil_append, List.cons_append, List.append_nil, cond, Nat.reduceBEq, Nat.reduceAdd, Nat.beq]
  refine call_own [5, 1] (sm_Delete29 hne hkl (ver := 1) (id := id)) rfl rfl ?_
  dsimp only [run_skip, run_reg, plainB, ifB_true, run_seq, run_blk, run_exit, run_ret, run_ite, iteR, regK, thenK_nrm, thenK_exit, thenK_ret, thenR_nrm, thenR_exit, thenR_ret, blkK, keepS, keepE, runOps_nil, runOps_cons, goG_some, fpOk, foot, entOf, allN, memN, goOn_ok, goOn_call, goOn_row, goOn_arr, goOn_ask, goOn_put, goOn_prm, goOn_callK, goOn_callC, goOn_all, guardP, guardO, notInO, stepF, stepLd, stepSt, stepIxs, stepIxa, stepLen, stepApp, stepCpy, stepPick, stepSls, stepSst, stepSla, bareZ, evX, evL, evB, rd, get, subG, memG, freshG, notInG, hyps, gob, impP, allP, partD, partOf, isOne, isPtr, nth, takeN, dropN, cellsD, lenB, fillD, thirds, entN, setE, sizeE, addE, setL, setN, putE, env0, eqCs, eqAux, eqC, bA, bO, bN, bE, negB, kEq, isShr, lendL, lend, frz, frzL, zRow, closed, closedL, rowsOf, binI, retK, retG, atRet, retD, lendO, resL, resD, oneD, renD, renL, renE, renEs, rho, putAll, entsN, List.append, List.nil_append, List.cons_append, List.append_nil, cond, Nat.reduceBEq, Nat.reduceAdd, Nat.beq]
  rw [show ((kidsT t p).filter fun x => !decide (x = id)) = othersT t id from hop.symm]
  rw [iL_len]
  have hol : (othersT t id).length < 1000000 := by rw [hop]; omega
  refine call_c (sp_slices_Index hol) ?_
  dsimp only [run_skip, run_reg, plainB, ifB_true, run_seq, run_blk, run_exit, run_ret, run_ite, iteR, regK, thenK_nrm, thenK_exit, thenK_ret, thenR_nrm, thenR_exit, thenR_ret, blkK, keepS, keepE, runOps_nil, runOps_cons, goG_some, fpOk, foot, entOf, allN, memN, goOn_ok, goOn_call, goOn_row, goOn_arr, goOn_ask, goOn_put, goOn_prm, goOn_callK, goOn_callC, goOn_all, guardP, guardO, notInO, stepF, stepLd, stepSt, stepIxs, stepIxa, stepLen, stepApp, stepCpy, stepPick, stepSls, stepSst, stepSla, bareZ, evX, evL, evB, rd, get, subG, memG, freshG, notInG, hyps, gob, impP, allP, partD, partOf, isOne, isPtr, nth, takeN, dropN, cellsD, lenB, fillD, thirds, entN, setE, sizeE, addE, setL, setN, putE, env0, eqCs, eqAux, eqC, bA, bO, bN, bE, negB, kEq, isShr, lendL, lend, frz, frzL, zRow, closed, closedL, rowsOf, binI, retK, retG, atRet, retD, lendO, resL, resD, oneD, renD, renL, renE, renEs, rho, putAll, entsN, List.append, List.nil_append, List.cons_append, List.append_nil, cond, Nat.reduceBEq, Nat.reduceAdd, Nat.beq]
  refine ⟨fun h4 => ?_, fun h4 => ?_⟩
  · rw [if_pos h4]; rfl
  rw [if_neg (by simp only [h4]; exact Bool.false_ne_true)]
  have hs : sib = 0 ∨ 0 ≤ idxF (othersT t id) sib 0 := by
    by_cases h0 : sib = 0
    · exact .inl h0
    · right
      simp [h0] at h4; omega
  have hlt := idxF_lt (x := sib) (l := othersT t id) (i := 0)
  have hge := idxF_ge (x := sib) (l := othersT t id) (i := 0) (Int.le_refl _)
  refine callK_own [] sm_ways rfl rfl (fun k hk => ?_) ?_
  · match k with
    | 0 | 1 | 2 | 3 | 4 | 5 | 6 | 7 | 8 => rfl
    | 9 | 10 => simp at hk
    | k + 11 => rfl
  dsimp only [run_skip, run_reg, plainB, ifB_true, run_seq, run_blk, run_exit, run_ret, run_ite, iteR, regK, thenK_nrm, thenK_exit, thenK_ret, thenR_nrm, thenR_exit, thenR_ret, blkK, keepS, keepE, runOps_nil, runOps_cons, goG_some, fpOk, foot, entOf, allN, memN, goOn_ok, goOn_call, goOn_row, goOn_arr, goOn_ask, goOn_put, goOn_prm, goOn_callK, goOn_callC, goOn_all, guardP, guardO, notInO, stepF, stepLd, stepSt, stepIxs, stepIxa, stepLen, stepApp, stepCpy, stepPick, stepSls, stepSst, stepSla, bareZ, evX, evL, evB, rd, get, subG, memG, freshG, notInG, hyps, gob, impP, allP, partD, partOf, isOne, isPtr, nth, takeN, dropN, cellsD, lenB, fillD, thirds, entN, setE, sizeE, addE, setL, setN, putE, env0, eqCs, eqAux, eqC, bA, bO, bN, bE, negB, kEq, isShr, lendL, lend, frz, frzL, zRow, closed, closedL, rowsOf, binI, retK, retG, atRet, retD, lendO, resL, resD, oneD, renD, renL, renE, renEs, rho, putAll, entsN, List.append, List.nil_append, List.cons_append, List.append_nil, cond, Nat.reduceBEq, Nat.reduceAdd, Nat.beq]
  refine ⟨by omega, ?_⟩
  refine arr_intro _ (way_at (by omega) (by omega)) ?_
  dsimp only [run_skip, run_reg, plainB, ifB_true, run_seq, run_blk, run_exit, run_ret, run_ite, iteR, regK, thenK_nrm, thenK_exit, thenK_ret, thenR_nrm, thenR_exit, thenR_ret, blkK, keepS, keepE, runOps_nil, runOps_cons, goG_some, fpOk, foot, entOf, allN, memN, goOn_ok, goOn_call, goOn_row, goOn_arr, goOn_ask, goOn_put, goOn_prm, goOn_callK, goOn_callC, goOn_all, guardP, guardO, notInO, stepF, stepLd, stepSt, stepIxs, stepIxa, stepLen, stepApp, stepCpy, stepPick, stepSls, stepSst, stepSla, bareZ, evX, evL, evB, rd, get, subG, memG, freshG, notInG, hyps, gob, impP, allP, partD, partOf, isOne, isPtr, nth, takeN, dropN, cellsD, lenB, fillD, thirds, entN, setE, sizeE, addE, setL, setN, putE, env0, eqCs, eqAux, eqC, bA, bO, bN, bE, negB, kEq, isShr, lendL, lend, frz, frzL, zRow, closed, closedL, rowsOf, binI, retK, retG, atRet, retD, lendO, resL, resD, oneD, renD, renL, renE, renEs, rho, putAll, entsN, List.append, List.nil_append, List.cons_append, List.append_nil, cond, Nat.reduceBEq, Nat.reduceAdd, Nat.beq]
  have hw := sm_way (id := id) (sib := sib) (l := othersT t id) (al := decide (sib = 0)) (a := idxF (othersT t id) sib 0) h.ok hm hol (by simp only [fits]; omega) (mode := mode) (by omega) (by omega)
  rw [show wayR t id sib m (othersT t id) (decide (sib = 0)) (idxF (othersT t id) sib 0) mode = way29 t id sib mode m from rfl] at hw
  obtain ⟨r1, r2⟩ := way_range (t := t) (id := id) (sib := sib) (mode := mode) (m := m) rfl hs
  rw [hop] at r2
  obtain ⟨n, hn⟩ : ∃ n : Nat, (way29 t id sib mode m).1 = n := ⟨(way29 t id sib mode m).1.toNat, by omega⟩
  have hnt : (way29 t id sib mode m).1.toNat = n := by omega
  have hnl : n < (kidsT t p).length := by omega
  rw [hut, hnt]
  dsimp only [M29, qD, run_skip, run_reg, plainB, ifB_true, run_seq, run_blk, run_exit, run_ret, run_ite, iteR, regK, thenK_nrm, thenK_exit, thenK_ret, thenR_nrm, thenR_exit, thenR_ret, blkK, keepS, keepE, runOps_nil, runOps_cons, goG_some, fpOk, foot, entOf, allN, memN, goOn_ok, goOn_call, goOn_row, goOn_arr, goOn_ask, goOn_put, goOn_prm, goOn_callK, goOn_callC, goOn_all, guardP, guardO, notInO, stepF, stepLd, stepSt, stepIxs, stepIxa, stepLen, stepApp, stepCpy, stepPick, stepSls, stepSst, stepSla, bareZ, evX, evL, evB, rd, get, subG, memG, freshG, notInG, hyps, gob, impP, allP, partD, partOf, isOne, isPtr, nth, takeN, dropN, cellsD, lenB, fillD, thirds, entN, setE, sizeE, addE, setL, setN, putE, env0, eqCs, eqAux, eqC, bA, bO, bN, bE, negB, kEq, isShr, lendL, lend, frz, frzL, zRow, closed, closedL, rowsOf, binI, retK, retG, atRet, retD, lendO, resL, resD, oneD, renD, renL, renE, renEs, rho, putAll, entsN, List.append, List.nil_append, List.cons_append, List.append_nil, cond, Nat.reduceBEq, Nat.reduceAdd, Nat.beq] at hw
  refine call_mem _ _ hw (fun _ => rfl) ?_
  rw [hn]
  dsimp only [run_skip, run_reg, plainB, ifB_true, run_seq, run_blk, run_exit, run_ret, run_ite, iteR, regK, thenK_nrm, thenK_exit, thenK_ret, thenR_nrm, thenR_exit, thenR_ret, blkK, keepS, keepE, runOps_nil, runOps_cons, goG_some, fpOk, foot, entOf, allN, memN, goOn_ok, goOn_call, goOn_row, goOn_arr, goOn_ask, goOn_put, goOn_prm, goOn_callK, goOn_callC, goOn_all, guardP, guardO, notInO, stepF, stepLd, stepSt, stepIxs, stepIxa, stepLen, stepApp, stepCpy, stepPick, stepSls, stepSst, stepSla, bareZ, evX, evL, evB, rd, get, subG, memG, freshG, notInG, hyps, gob, impP, allP, partD, partOf, isOne, isPtr, nth, takeN, dropN, cellsD, lenB, fillD, thirds, entN, setE, sizeE, addE, setL, setN, putE, env0, eqCs, eqAux, eqC, bA, bO, bN, bE, negB, kEq, isShr, lendL, lend, frz, frzL, zRow, closed, closedL, rowsOf, binI, retK, retG, atRet, retD, lendO, resL, resD, oneD, renD, renL, renE, renEs, rho, putAll, entsN, List.append, List.nil_append, List.cons_append, List.append_nil, cond, Nat.reduceBEq, Nat.reduceAdd, Nat.beq]
  refine ⟨fun _ => ⟨rfl, by omega, by rw [iL_len]; omega⟩, ?_⟩
  refine row_intro (.int .u32 ((kidsT t p).getD n 0)) _ (fun _ => by
    rw [show ((n : Int)).toNat = n by omega, iL_at hnl]
    rw [List.getD_eq_getElem?_getD, List.getElem?_eq_getElem hnl]; rfl) rfl ?_
  dsimp only [run_skip, run_reg, plainB, ifB_true, run_seq, run_blk, run_exit, run_ret, run_ite, iteR, regK, thenK_nrm, thenK_exit, thenK_ret, thenR_nrm, thenR_exit, thenR_ret, blkK, keepS, keepE, runOps_nil, runOps_cons, goG_some, fpOk, foot, entOf, allN, memN, goOn_ok, goOn_call, goOn_row, goOn_arr, goOn_ask, goOn_put, goOn_prm, goOn_callK, goOn_callC, goOn_all, guardP, guardO, notInO, stepF, stepLd, stepSt, stepIxs, stepIxa, stepLen, stepApp, stepCpy, stepPick, stepSls, stepSst, stepSla, bareZ, evX, evL, evB, rd, get, subG, memG, freshG, notInG, hyps, gob, impP, allP, partD, partOf, isOne, isPtr, nth, takeN, dropN, cellsD, lenB, fillD, thirds, entN, setE, sizeE, addE, setL, setN, putE, env0, eqCs, eqAux, eqC, bA, bO, bN, bE, negB, kEq, isShr, lendL, lend, frz, frzL, zRow, closed, closedL, rowsOf, binI, retK, retG, atRet, retD, lendO, resL, resD, oneD, renD, renL, renE, renEs, rho, putAll, entsN, List.append, List.nil_append, List.cons_append, List.append_nil, cond, Nat.reduceBEq, Nat.reduceAdd, Nat.beq]
  refine ⟨fun h5 => ?_, fun h5 => ?_⟩
  · rw [if_pos h5]; rfl
  rw [if_neg (by simp only [h5]; exact Bool.false_ne_true)]
  have hoc : otherC t id = 0 := by
    unfold otherC
    rw [if_neg h1, if_neg]
    unfold hasT
    rw [hp]; simp
  have hpl := sp_tree_Place h.ok hoc hp hnl hoff
  rw [htD t, htD] at hpl
  refine call_pure hpl ?_
  dsimp only [run_skip, run_reg, plainB, ifB_true, run_seq, run_blk, run_exit, run_ret, run_ite, iteR, regK, thenK_nrm, thenK_exit, thenK_ret, thenR_nrm, thenR_exit, thenR_ret, blkK, keepS, keepE, runOps_nil, runOps_cons, goG_some, fpOk, foot, entOf, allN, memN, goOn_ok, goOn_call, goOn_row, goOn_arr, goOn_ask, goOn_put, goOn_prm, goOn_callK, goOn_callC, goOn_all, guardP, guardO, notInO, stepF, stepLd, stepSt, stepIxs, stepIxa, stepLen, stepApp, stepCpy, stepPick, stepSls, stepSst, stepSla, bareZ, evX, evL, evB, rd, get, subG, memG, freshG, notInG, hyps, gob, impP, allP, partD, partOf, isOne, isPtr, nth, takeN, dropN, cellsD, lenB, fillD, thirds, entN, setE, sizeE, addE, setL, setN, putE, env0, eqCs, eqAux, eqC, bA, bO, bN, bE, negB, kEq, isShr, lendL, lend, frz, frzL, zRow, closed, closedL, rowsOf, binI, retK, retG, atRet, retD, lendO, resL, resD, oneD, renD, renL, renE, renEs, rho, putAll, entsN, List.append, List.nil_append, List.cons_append, List.append_nil, cond, Nat.reduceBEq, Nat.reduceAdd, Nat.beq]
  refine ⟨nofun, fun _ => ?_⟩
  first | rfl | trivial
end Go.AM
