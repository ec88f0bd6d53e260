
/- The tree: copies of its own. -/
import Derived.Test.YthcfahdogpjkeaaV1
set_option linter.all false
namespace Go.AM
open Go Go.Proofs

theorem mpK_at {ik : IntKind} {kv : KV} {i : Nat} {d : D} (h : (mpK ik kv)[i]? = some d) : ∃ p, kv[i]? = some p ∧ d = .int ik p.1 := by
  simp only [mpK, List.getElem?_map, Option.map_eq_some_iff] at h
  obtain ⟨p, h1, h2⟩ := h
  exact ⟨p, h1, h2.symm⟩
theorem mpV_at {kv : KV} {i : Nat} {p : Int × D} (h : kv[i]? = some p) : (mpV kv)[i]? = some p.2 := by simp [mpV, h]
theorem mpK_erase {ik : IntKind} {kv : KV} {i : Nat} : (mpK ik kv).eraseIdx i = mpK ik (kv.eraseIdx i) := by
  unfold mpK
  induction kv generalizing i with
  | nil => simp
  | cons p r ih => cases i <;> simp [ih]
theorem mpV_erase {kv : KV} {i : Nat} : (mpV kv).eraseIdx i = mpV (kv.eraseIdx i) := by
  unfold mpV
  induction kv generalizing i with
  | nil => simp
  | cons p r ih => cases i <;> simp [ih]
theorem mapv_erase {α β : Type} {f : α → β} {l : List (Int × α)} {i : Nat} : (l.map fun p => (p.1, f p.2)).eraseIdx i = (l.eraseIdx i).map fun p => (p.1, f p.2) := by
  induction l generalizing i with
  | nil => simp
  | cons p r ih => cases i <;> simp [ih]

/-- Gone through, and still to come. -/
structure Part {α : Type} (all done left : List (Int × α)) : Prop where
  perm : (done ++ left).Perm all
theorem Part.start {α : Type} (l : List (Int × α)) : Part l [] l := ⟨by simp⟩
theorem Part.step {α : Type} {all done left : List (Int × α)} (h : Part all done left) {i : Nat} {p : Int × α} (hi : left[i]? = some p) : Part all (done ++ [p]) (left.eraseIdx i) :=
  ⟨by
    refine List.Perm.trans ?_ h.perm
    rw [List.append_assoc]
    exact List.Perm.append_left done (perm_erase hi).symm⟩
theorem Part.nd {α : Type} {all done left : List (Int × α)} (h : Part all done left) (hn : NdK all) : NdK (done ++ left) := (h.perm.map (·.1)).nodup_iff.2 hn
theorem Part.ndD {α : Type} {all done left : List (Int × α)} (h : Part all done left) (hn : NdK all) : NdK done := by
  have := h.nd hn
  simp only [NdK, List.map_append] at this
  exact (List.nodup_append.1 this).1
theorem Part.fresh {α : Type} {all done left : List (Int × α)} (h : Part all done left) (hn : NdK all) {i : Nat} {p : Int × α} (hi : left[i]? = some p) : lk done p.1 = none := by
  have := h.nd hn
  simp only [NdK, List.map_append] at this
  rw [lk_none]
  intro hm
  exact (List.nodup_append.1 this).2.2 _ hm _ (List.mem_map_of_mem (List.mem_of_getElem? hi)) rfl
theorem Part.fin {α : Type} {all done : List (Int × α)} (h : Part all done []) : done.Perm all := by simpa using h.perm

theorem uKV_at {u : Ups} {i : Nat} {q : Int × D} (h : (uKV u)[i]? = some q) : ∃ p, u[i]? = some p ∧ q = (p.1, .int .u32 p.2) := by
  simp only [uKV, List.getElem?_map, Option.map_eq_some_iff] at h
  obtain ⟨p, h1, h2⟩ := h
  exact ⟨p, h1, h2.symm⟩
theorem uKV_erase {u : Ups} {i : Nat} : (uKV u).eraseIdx i = uKV (u.eraseIdx i) := mapv_erase (f := fun n : Int => D.int .u32 n)
theorem uKV_put {u : Ups} {n m : Int} : put (uKV u) n (.int .u32 m) = uKV (put u n m) := put_mapv (f := fun n : Int => D.int .u32 n)
theorem kKV_at {u : Kids} {i : Nat} {q : Int × D} (h : (kKV u)[i]? = some q) : ∃ p, u[i]? = some p ∧ q = (p.1, .ls 1 (iL p.2)) := by
  simp only [kKV, List.getElem?_map, Option.map_eq_some_iff] at h
  obtain ⟨p, h1, h2⟩ := h
  exact ⟨p, h1, h2.symm⟩
theorem kKV_erase {u : Kids} {i : Nat} : (kKV u).eraseIdx i = kKV (u.eraseIdx i) := mapv_erase (f := fun l : List Int => D.ls 1 (iL l))
theorem kKV_put {u : Kids} {n : Int} {l : List Int} : put (kKV u) n (.ls 1 (iL l)) = kKV (put u n l) := put_mapv (f := fun l : List Int => D.ls 1 (iL l))
theorem erase_len {α : Type} {l : List α} {i : Nat} {x : α} (h : l[i]? = some x) : (l.eraseIdx i).length + 1 = l.length := by
  have := (List.getElem?_eq_some_iff.1 h).1
  rw [List.length_eraseIdx_of_lt this]; omega

theorem lowL_mpK {n : Nat} {ik : IntKind} : ∀ {kv : KV}, lowL n (mpK ik kv) = true
  | [] => rfl
  | p :: r => by simp only [mpK, List.map_cons, lowL, low, Bool.true_and]; exact lowL_mpK (kv := r)
theorem lowL_uKV {n : Nat} : ∀ {u : Ups}, lowL n (mpV (uKV u)) = true
  | [] => rfl
  | p :: r => by simp only [uKV, mpV, List.map_cons, lowL, low, Bool.true_and]; exact lowL_uKV (u := r)
theorem lowL_kKV {n : Nat} : ∀ {u : Kids}, lowL n (mpV (kKV u)) = true
  | [] => rfl
  | p :: r => by simp only [kKV, mpV, List.map_cons, lowL, low, Bool.true_and]; exact lowL_kKV (u := r)
theorem closedL_uKV : ∀ {u : Ups}, closedL (mpV (uKV u)) = true
  | [] => rfl
  | p :: r => by simp only [uKV, mpV, List.map_cons, closedL, closed, bA]; exact closedL_uKV (u := r)
theorem closedL_kKV : ∀ {u : Kids}, closedL (mpV (kKV u)) = true
  | [] => rfl
  | p :: r => by simp only [kKV, mpV, List.map_cons, closedL, closed, bA]; exact closedL_kKV (u := r)
theorem renL_uKV {ks : List Nat} {n : Nat} : ∀ {u : Ups}, renL ks n (mpV (uKV u)) = mpV (uKV u)
  | [] => rfl
  | p :: r => by simp only [uKV, mpV, List.map_cons, renL, renD]; exact congrArg _ (renL_uKV (u := r))
theorem renL_kKV {ks : List Nat} {n : Nat} : ∀ {u : Kids}, renL ks n (mpV (kKV u)) = mpV (kKV u)
  | [] => rfl
  | p :: r => by simp only [kKV, mpV, List.map_cons, renL, renD]; exact congrArg _ (renL_kKV (u := r))

structure CpX where
  done : Ups
  left : Ups
  cur : Option (D × D)
def stCp (x : CpX) : St := ⟨[(0, [], .ownm 0 0), (7, [], .box 1 0)], [.map (mpK .u32 (uKV x.done)) (mpV (uKV x.done)), .iter x.cur (mpK .u32 (uKV x.left)) (mpV (uKV x.left))]⟩

theorem sm_maps_Copy {u : Ups} (hn : NdK u) : TSpM 68 [.ownm 0 0, .mp (mpK .u32 (uKV u)) (mpV (uKV u))] [.map (mpK .u32 []) (mpV [])] (.tup []) [.map (mpK .u32 (uKV u)) (mpV (uKV u))] := by
  refine spm_maps_Copy_map_api_ID_api_ID_map_api_ID_api_ID_api_ID_api_ID (by rfl) ?_
  dsimp only [c_maps_Copy_map_api_ID_api_ID_map_api_ID_api_ID_api_ID_api_ID, r_maps_Copy_map_api_ID_api_ID_map_api_ID_api_ID_api_ID_api_ID, run_skip, run_reg, plainB, ifB_true, run_seq, run_blk, run_exit, run_ret, run_ite, iteR, regK, thenK_nrm, thenK_exit, thenK_ret, thenR_nrm, thenR_exit, thenR_ret, blkK, keepS, keepE, runOps_nil, runOps_cons, goG_some, fpOk, foot, entOf, allN, memN, goOn_ok, goOn_call, goOn_row, goOn_arr, goOn_ask, goOn_put, goOn_prm, goOn_callK, goOn_callC, goOn_all, guardP, guardO, notInO, stepF, stepLd, stepSt, stepIxs, stepIxa, stepLen, stepApp, stepCpy, stepPick, stepSls, stepSst, stepSla, bareZ, evX, evL, evB, rd, get, subG, memG, freshG, notInG, hyps, gob, impP, allP, partD, partOf, isOne, isPtr, nth, takeN, dropN, cellsD, lenB, fillD, thirds, entN, setE, sizeE, addE, setL, setN, putE, env0, eqCs, eqAux, eqC, bA, bO, bN, bE, negB, kEq, isShr, lendL, lend, frz, frzL, zRow, closed, closedL, rowsOf, binI, retK, retG, atRet, retD, lendO, resL, resD, oneD, renD, renL, renE, renEs, rho, putAll, entsN, List.append, List.nil_append, List.cons_append, List.append_nil, cond, Nat.reduceBEq, Nat.reduceAdd, Nat.beq]
  refine prm_eff _ _ (pr_rng tU) ?_
  dsimp only [run_skip, run_reg, plainB, ifB_true, run_seq, run_blk, run_exit, run_ret, run_ite, iteR, regK, thenK_nrm, thenK_exit, thenK_ret, thenR_nrm, thenR_exit, thenR_ret, blkK, keepS, keepE, runOps_nil, runOps_cons, goG_some, fpOk, foot, entOf, allN, memN, goOn_ok, goOn_call, goOn_row, goOn_arr, goOn_ask, goOn_put, goOn_prm, goOn_callK, goOn_callC, goOn_all, guardP, guardO, notInO, stepF, stepLd, stepSt, stepIxs, stepIxa, stepLen, stepApp, stepCpy, stepPick, stepSls, stepSst, stepSla, bareZ, evX, evL, evB, rd, get, subG, memG, freshG, notInG, hyps, gob, impP, allP, partD, partOf, isOne, isPtr, nth, takeN, dropN, cellsD, lenB, fillD, thirds, entN, setE, sizeE, addE, setL, setN, putE, env0, eqCs, eqAux, eqC, bA, bO, bN, bE, negB, kEq, isShr, lendL, lend, frz, frzL, zRow, closed, closedL, rowsOf, binI, retK, retG, atRet, retD, lendO, resL, resD, oneD, renD, renL, renE, renEs, rho, putAll, entsN, List.append, List.nil_append, List.cons_append, List.append_nil, cond, Nat.reduceBEq, Nat.reduceAdd, Nat.beq]
  refine loop_ind (α := {x : CpX // Part u x.done x.left}) (fun x => stCp x.1) (fun x => x.1.left.length) ?_ ⟨⟨[], u, none⟩, Part.start u⟩ rfl
  rintro ⟨⟨done, left, cur⟩, hp⟩ I ih
  dsimp only at hp
  dsimp only [stCp, run_skip, run_reg, plainB, ifB_true, run_seq, run_blk, run_exit, run_ret, run_ite, iteR, regK, thenK_nrm, thenK_exit, thenK_ret, thenR_nrm, thenR_exit, thenR_ret, blkK, keepS, keepE, runOps_nil, runOps_cons, goG_some, fpOk, foot, entOf, allN, memN, goOn_ok, goOn_call, goOn_row, goOn_arr, goOn_ask, goOn_put, goOn_prm, goOn_callK, goOn_callC, goOn_all, guardP, guardO, notInO, stepF, stepLd, stepSt, stepIxs, stepIxa, stepLen, stepApp, stepCpy, stepPick, stepSls, stepSst, stepSla, bareZ, evX, evL, evB, rd, get, subG, memG, freshG, notInG, hyps, gob, impP, allP, partD, partOf, isOne, isPtr, nth, takeN, dropN, cellsD, lenB, fillD, thirds, entN, setE, sizeE, addE, setL, setN, putE, env0, eqCs, eqAux, eqC, bA, bO, bN, bE, negB, kEq, isShr, lendL, lend, frz, frzL, zRow, closed, closedL, rowsOf, binI, retK, retG, atRet, retD, lendO, resL, resD, oneD, renD, renL, renE, renEs, rho, putAll, entsN, List.append, List.nil_append, List.cons_append, List.append_nil, cond, Nat.reduceBEq, Nat.reduceAdd, Nat.beq]
  refine prm_all _ (pr_nxt rfl) ?_
  rintro d bx' (⟨hks, rfl, rfl⟩ | ⟨i, dk, dv, h1, h2, rfl, rfl⟩)
  · dsimp only [run_skip, run_reg, plainB, ifB_true, run_seq, run_blk, run_exit, run_ret, run_ite, iteR, regK, thenK_nrm, thenK_exit, thenK_ret, thenR_nrm, thenR_exit, thenR_ret, blkK, keepS, keepE, runOps_nil, runOps_cons, goG_some, fpOk, foot, entOf, allN, memN, goOn_ok, goOn_call, goOn_row, goOn_arr, goOn_ask, goOn_put, goOn_prm, goOn_callK, goOn_callC, goOn_all, guardP, guardO, notInO, stepF, stepLd, stepSt, stepIxs, stepIxa, stepLen, stepApp, stepCpy, stepPick, stepSls, stepSst, stepSla, bareZ, evX, evL, evB, rd, get, subG, memG, freshG, notInG, hyps, gob, impP, allP, partD, partOf, isOne, isPtr, nth, takeN, dropN, cellsD, lenB, fillD, thirds, entN, setE, sizeE, addE, setL, setN, putE, env0, eqCs, eqAux, eqC, bA, bO, bN, bE, negB, kEq, isShr, lendL, lend, frz, frzL, zRow, closed, closedL, rowsOf, binI, retK, retG, atRet, retD, lendO, resL, resD, oneD, renD, renL, renE, renEs, rho, putAll, entsN, List.append, List.nil_append, List.cons_append, List.append_nil, cond, Nat.reduceBEq, Nat.reduceAdd, Nat.beq]
    refine ⟨nofun, fun _ => ?_⟩
    have hl : left = [] := by simpa [mpK, uKV] using hks
    subst hl
    refine Rt.trans (Rt.cut (bx' := [.map (mpK .u32 (uKV done)) (mpV (uKV done))]) (Nat.le_refl _) ⟨rfl, trivial⟩ (by simp [lowB, lowL_mpK, lowL_uKV]) rfl) (Rt.perm (k := 0) (ik := .u32) (kv := uKV done) rfl (hp.fin.map _))
  · obtain ⟨q, hq, rfl⟩ := mpK_at h1
    obtain ⟨p, hpp, rfl⟩ := uKV_at hq
    rw [mpV_at hq] at h2
    cases h2
    dsimp only [run_skip, run_reg, plainB, ifB_true, run_seq, run_blk, run_exit, run_ret, run_ite, iteR, regK, thenK_nrm, thenK_exit, thenK_ret, thenR_nrm, thenR_exit, thenR_ret, blkK, keepS, keepE, runOps_nil, runOps_cons, goG_some, fpOk, foot, entOf, allN, memN, goOn_ok, goOn_call, goOn_row, goOn_arr, goOn_ask, goOn_put, goOn_prm, goOn_callK, goOn_callC, goOn_all, guardP, guardO, notInO, stepF, stepLd, stepSt, stepIxs, stepIxa, stepLen, stepApp, stepCpy, stepPick, stepSls, stepSst, stepSla, bareZ, evX, evL, evB, rd, get, subG, memG, freshG, notInG, hyps, gob, impP, allP, partD, partOf, isOne, isPtr, nth, takeN, dropN, cellsD, lenB, fillD, thirds, entN, setE, sizeE, addE, setL, setN, putE, env0, eqCs, eqAux, eqC, bA, bO, bN, bE, negB, kEq, isShr, lendL, lend, frz, frzL, zRow, closed, closedL, rowsOf, binI, retK, retG, atRet, retD, lendO, resL, resD, oneD, renD, renL, renE, renEs, rho, putAll, entsN, List.append, List.nil_append, List.cons_append, List.append_nil, cond, Nat.reduceBEq, Nat.reduceAdd, Nat.beq]
    refine ⟨fun _ => ?_, nofun⟩
    refine prm_look _ (pr_ent rfl) ?_
    dsimp only [run_skip, run_reg, plainB, ifB_true, run_seq, run_blk, run_exit, run_ret, run_ite, iteR, regK, thenK_nrm, thenK_exit, thenK_ret, thenR_nrm, thenR_exit, thenR_ret, blkK, keepS, keepE, runOps_nil, runOps_cons, goG_some, fpOk, foot, entOf, allN, memN, goOn_ok, goOn_call, goOn_row, goOn_arr, goOn_ask, goOn_put, goOn_prm, goOn_callK, goOn_callC, goOn_all, guardP, guardO, notInO, stepF, stepLd, stepSt, stepIxs, stepIxa, stepLen, stepApp, stepCpy, stepPick, stepSls, stepSst, stepSla, bareZ, evX, evL, evB, rd, get, subG, memG, freshG, notInG, hyps, gob, impP, allP, partD, partOf, isOne, isPtr, nth, takeN, dropN, cellsD, lenB, fillD, thirds, entN, setE, sizeE, addE, setL, setN, putE, env0, eqCs, eqAux, eqC, bA, bO, bN, bE, negB, kEq, isShr, lendL, lend, frz, frzL, zRow, closed, closedL, rowsOf, binI, retK, retG, atRet, retD, lendO, resL, resD, oneD, renD, renL, renE, renEs, rho, putAll, entsN, List.append, List.nil_append, List.cons_append, List.append_nil, cond, Nat.reduceBEq, Nat.reduceAdd, Nat.beq]
    refine prm_eff _ _ (pr_upd tU tI (kv := uKV done) rfl (uKV_nd (hp.ndD hn)) p.1 (.int .u32 p.2)) ?_
    dsimp only [run_skip, run_reg, plainB, ifB_true, run_seq, run_blk, run_exit, run_ret, run_ite, iteR, regK, thenK_nrm, thenK_exit, thenK_ret, thenR_nrm, thenR_exit, thenR_ret, blkK, keepS, keepE, runOps_nil, runOps_cons, goG_some, fpOk, foot, entOf, allN, memN, goOn_ok, goOn_call, goOn_row, goOn_arr, goOn_ask, goOn_put, goOn_prm, goOn_callK, goOn_callC, goOn_all, guardP, guardO, notInO, stepF, stepLd, stepSt, stepIxs, stepIxa, stepLen, stepApp, stepCpy, stepPick, stepSls, stepSst, stepSla, bareZ, evX, evL, evB, rd, get, subG, memG, freshG, notInG, hyps, gob, impP, allP, partD, partOf, isOne, isPtr, nth, takeN, dropN, cellsD, lenB, fillD, thirds, entN, setE, sizeE, addE, setL, setN, putE, env0, eqCs, eqAux, eqC, bA, bO, bN, bE, negB, kEq, isShr, lendL, lend, frz, frzL, zRow, closed, closedL, rowsOf, binI, retK, retG, atRet, retD, lendO, resL, resD, oneD, renD, renL, renE, renEs, rho, putAll, entsN, List.append, List.nil_append, List.cons_append, List.append_nil, cond, Nat.reduceBEq, Nat.reduceAdd, Nat.beq]
    rw [uKV_put, put_absent (hp.fresh hn hpp), mpK_erase, mpV_erase, uKV_erase]
    exact again (ih ⟨⟨done ++ [p], left.eraseIdx i, _⟩, hp.step hpp⟩ (by have := erase_len hpp; dsimp only; omega)) ⟨rfl, rfl, trivial⟩ ⟨rfl, rfl, trivial⟩ rfl (by simp [stCp, lowB, lowL_mpK, lowL_uKV])
end Go.AM
