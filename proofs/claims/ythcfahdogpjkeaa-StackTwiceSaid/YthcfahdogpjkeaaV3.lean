
/- The tree: its twin. -/
import Derived.Test.YthcfahdogpjkeaaV2
set_option linter.all false
namespace Go.AM
open Go Go.Proofs

/-- The kids' rows, one of them one's own. -/
def fKV (p : Int) (d : D) (k : Kids) : KV := k.map fun q => (q.1, if q.1 = p then d else .ls 1 (iL q.2))
def rowE (p : Int) (k : Kids) : Ent := match lk k p with
  | some l => .arr 37 1 1 (iL l)
  | none => .arr 37 1 0 []
theorem fKV_nd {p : Int} {d : D} {k : Kids} (h : NdK k) : NdK (fKV p d k) := by
  unfold NdK fKV at *
  rw [List.map_map]; exact h
theorem fKV_app {p : Int} {d : D} {k m : Kids} : fKV p d (k ++ m) = fKV p d k ++ fKV p d m := by simp [fKV]
theorem lk_fKV {p : Int} {d : D} : ∀ {k : Kids} {n : Int}, lk (fKV p d k) n = (lk k n).map fun l => if n = p then d else .ls 1 (iL l)
  | [], n => rfl
  | q :: r, n => by
    simp only [fKV, List.map_cons, lk]
    by_cases h : q.1 = n
    · subst h; simp
    · simp only [if_neg h]; exact lk_fKV (k := r)
theorem fKV_putO {p n : Int} {d : D} {k : Kids} {l : List Int} (h : lk k n = none) (hn : n ≠ p) : put (fKV p d k) n (.ls 1 (iL l)) = fKV p d (k ++ [(n, l)]) := by
  rw [put_absent (by rw [lk_fKV, h]; rfl), fKV_app]
  simp [fKV, hn]
theorem fKV_putP {p : Int} {d : D} {k : Kids} {l : List Int} (h : lk k p = none) : put (fKV p d k) p d = fKV p d (k ++ [(p, l)]) := by
  rw [put_absent (by rw [lk_fKV, h]; rfl), fKV_app]
  simp [fKV]
theorem mpK_fKV {p : Int} {d d' : D} : ∀ {k : Kids}, mpK .u32 (fKV p d k) = mpK .u32 (fKV p d' k) := fun {k} => by simp [mpK, fKV]
theorem renL_fKV {ks : List Nat} {n : Nat} {p : Int} {d : D} : ∀ {k : Kids}, renL ks n (mpV (fKV p d k)) = mpV (fKV p (renD ks n d) k)
  | [] => rfl
  | q :: r => by
    simp only [fKV, mpV, List.map_cons, renL]
    congr 1
    · by_cases h : q.1 = p <;> simp [h, renD]
    · exact renL_fKV (k := r)
theorem lowL_fKV {n : Nat} {p : Int} {d : D} (h : low n d = true) : ∀ {k : Kids}, lowL n (mpV (fKV p d k)) = true
  | [] => rfl
  | q :: r => by
    have ih := lowL_fKV (n := n) (p := p) h (k := r)
    simp only [fKV, mpV] at ih
    simp only [fKV, mpV, List.map_cons, lowL, Bool.and_eq_true]
    refine ⟨?_, ih⟩
    by_cases h2 : q.1 = p
    · simp [h2, h]
    · simp [h2, low]
theorem renE_row {ks : List Nat} {n : Nat} {p : Int} {k : Kids} : renE ks n (rowE p k) = rowE p k := by
  unfold rowE; split <;> rfl
theorem lowB_row {n : Nat} {p : Int} {k : Kids} {r : List Ent} : lowB n (rowE p k :: r) = lowB n r := by
  unfold rowE; split <;> rfl
theorem Kept.snoc {bx : List Ent} {e : Ent} : Kept [bx.length] bx (bx ++ [e]) := fun k hk => by
  rw [entN_eq, entN_eq]
  simp at hk
  by_cases h : k < bx.length
  · rw [List.getElem?_append_left h]
  · rw [List.getElem?_eq_none (by simp; omega), List.getElem?_eq_none (by omega)]

theorem Kept.call {bx : List Ent} {e : Ent} {n m : Nat} (h : sizeE bx = n) : Kept [n] bx (putAll bx [] (renEs [] m [e])) := by
  subst h
  rw [sizeE_eq]
  exact Kept.snoc

theorem callK_own {P : Program} {gt : Nat → Option (List D)} {l : List Nat} {f : Nat} {ds ds' : List D} {dst : Option Nat} {g : G} {os : List O} {st : St} {K : St → Prop} {es es' : List Ent} {d : D} (ks : List Nat) (h : SpM P gt f ds' es d es') (h1 : ds = renL ks (sizeE st.bx) ds') (h2 : entsN st.bx ks = some (renEs ks (sizeE st.bx) es))
    (hl : Kept l st.bx (putAll st.bx ks (renEs ks (sizeE st.bx) es'))) (hk : runOps (SpC P gt) gt os K ⟨putE dst g (renD ks (sizeE st.bx) d) st.env, putAll st.bx ks (renEs ks (sizeE st.bx) es')⟩) (hks : okKs ks = true := by rfl) : atCallK (SpC P gt) gt l f ds dst g os st K :=
  ⟨_, _, SpM.own h ks h1 h2 hks, hl, hk⟩

structure TwX where
  done : Kids
  left : Kids
  cur : Option (D × D)
def stTw (t : TT) (p : Int) (x : TwX) : St := ⟨[(2, [], .box 1 0), (3, [], .box 5 0), (16, [], .box 6 0)],
  [.cells [.mp (mpK .u32 (kKV t.kids)) (mpV (kKV t.kids)), .mp (mpK .u32 (uKV t.up)) (mpV (uKV t.up))], .cells [.mp [] [], .mp [] []], .map (mpK .u32 (fKV p (.own 3 1) x.done)) (mpV (fKV p (.own 3 1) x.done)), rowE p x.done, .map (mpK .u32 (uKV t.up)) (mpV (uKV t.up)),
    .cells [.ownm 2 0, .ownm 4 0], .iter x.cur (mpK .u32 (kKV x.left)) (mpV (kKV x.left))]⟩

theorem sm_tree_twin {t : TT} (h : t.Ok) (p : Int) : TSpM 53 [tD t] [] (.agg [.ownm 0 0, .ownm 2 0]) [.map (mpK .u32 (fKV p (.own 1 1) t.kids)) (mpV (fKV p (.own 1 1) t.kids)), rowE p t.kids, .map (mpK .u32 (uKV t.up)) (mpV (uKV t.up))] := by
  refine spm_tree_Tree_twin (by rfl) ?_
  dsimp only [c_tree_Tree_twin, r_tree_Tree_twin, tD, run_skip, run_reg, plainB, ifB_true, run_seq, run_blk, run_exit, run_ret, run_ite, iteR, regK, thenK_nrm, thenK_exit, thenK_ret, thenR_nrm, thenR_exit, thenR_ret, blkK, keepS, keepE, runOps_nil, runOps_cons, goG_some, fpOk, foot, entOf, allN, memN, goOn_ok, goOn_call, goOn_row, goOn_arr, goOn_ask, goOn_put, goOn_prm, goOn_callK, goOn_callC, goOn_all, guardP, guardO, notInO, stepF, stepLd, stepSt, stepIxs, stepIxa, stepLen, stepApp, stepCpy, stepPick, stepSls, stepSst, stepSla, bareZ, evX, evL, evB, rd, get, subG, memG, freshG, notInG, hyps, gob, impP, allP, partD, partOf, isOne, isPtr, nth, takeN, dropN, cellsD, lenB, fillD, thirds, entN, setE, sizeE, addE, setL, setN, putE, env0, eqCs, eqAux, eqC, bA, bO, bN, bE, negB, kEq, isShr, lendL, lend, frz, frzL, zRow, closed, closedL, rowsOf, binI, retK, retG, atRet, retD, lendO, resL, resD, oneD, renD, renL, renE, renEs, rho, putAll, entsN, List.append, List.nil_append, List.cons_append, List.append_nil, cond, Nat.reduceBEq, Nat.reduceAdd, Nat.beq]
  refine prm_eff _ _ (pr_mkmN (ik := .u32) 37 1) ?_
  dsimp only [run_skip, run_reg, plainB, ifB_true, run_seq, run_blk, run_exit, run_ret, run_ite, iteR, regK, thenK_nrm, thenK_exit, thenK_ret, thenR_nrm, thenR_exit, thenR_ret, blkK, keepS, keepE, runOps_nil, runOps_cons, goG_some, fpOk, foot, entOf, allN, memN, goOn_ok, goOn_call, goOn_row, goOn_arr, goOn_ask, goOn_put, goOn_prm, goOn_callK, goOn_callC, goOn_all, guardP, guardO, notInO, stepF, stepLd, stepSt, stepIxs, stepIxa, stepLen, stepApp, stepCpy, stepPick, stepSls, stepSst, stepSla, bareZ, evX, evL, evB, rd, get, subG, memG, freshG, notInG, hyps, gob, impP, allP, partD, partOf, isOne, isPtr, nth, takeN, dropN, cellsD, lenB, fillD, thirds, entN, setE, sizeE, addE, setL, setN, putE, env0, eqCs, eqAux, eqC, bA, bO, bN, bE, negB, kEq, isShr, lendL, lend, frz, frzL, zRow, closed, closedL, rowsOf, binI, retK, retG, atRet, retD, lendO, resL, resD, oneD, renD, renL, renE, renEs, rho, putAll, entsN, List.append, List.nil_append, List.cons_append, List.append_nil, cond, Nat.reduceBEq, Nat.reduceAdd, Nat.beq]
  refine prm_eff _ _ (pr_mkm (ik := .u32)) ?_
  dsimp only [run_skip, run_reg, plainB, ifB_true, run_seq, run_blk, run_exit, run_ret, run_ite, iteR, regK, thenK_nrm, thenK_exit, thenK_ret, thenR_nrm, thenR_exit, thenR_ret, blkK, keepS, keepE, runOps_nil, runOps_cons, goG_some, fpOk, foot, entOf, allN, memN, goOn_ok, goOn_call, goOn_row, goOn_arr, goOn_ask, goOn_put, goOn_prm, goOn_callK, goOn_callC, goOn_all, guardP, guardO, notInO, stepF, stepLd, stepSt, stepIxs, stepIxa, stepLen, stepApp, stepCpy, stepPick, stepSls, stepSst, stepSla, bareZ, evX, evL, evB, rd, get, subG, memG, freshG, notInG, hyps, gob, impP, allP, partD, partOf, isOne, isPtr, nth, takeN, dropN, cellsD, lenB, fillD, thirds, entN, setE, sizeE, addE, setL, setN, putE, env0, eqCs, eqAux, eqC, bA, bO, bN, bE, negB, kEq, isShr, lendL, lend, frz, frzL, zRow, closed, closedL, rowsOf, binI, retK, retG, atRet, retD, lendO, resL, resD, oneD, renD, renL, renE, renEs, rho, putAll, entsN, List.append, List.nil_append, List.cons_append, List.append_nil, cond, Nat.reduceBEq, Nat.reduceAdd, Nat.beq]
  refine call_own [4] (sm_maps_Copy h.un) rfl rfl ?_
  dsimp only [run_skip, run_reg, plainB, ifB_true, run_seq, run_blk, run_exit, run_ret, run_ite, iteR, regK, thenK_nrm, thenK_exit, thenK_ret, thenR_nrm, thenR_exit, thenR_ret, blkK, keepS, keepE, runOps_nil, runOps_cons, goG_some, fpOk, foot, entOf, allN, memN, goOn_ok, goOn_call, goOn_row, goOn_arr, goOn_ask, goOn_put, goOn_prm, goOn_callK, goOn_callC, goOn_all, guardP, guardO, notInO, stepF, stepLd, stepSt, stepIxs, stepIxa, stepLen, stepApp, stepCpy, stepPick, stepSls, stepSst, stepSla, bareZ, evX, evL, evB, rd, get, subG, memG, freshG, notInG, hyps, gob, impP, allP, partD, partOf, isOne, isPtr, nth, takeN, dropN, cellsD, lenB, fillD, thirds, entN, setE, sizeE, addE, setL, setN, putE, env0, eqCs, eqAux, eqC, bA, bO, bN, bE, negB, kEq, isShr, lendL, lend, frz, frzL, zRow, closed, closedL, rowsOf, binI, retK, retG, atRet, retD, lendO, resL, resD, oneD, renD, renL, renE, renEs, rho, putAll, entsN, List.append, List.nil_append, List.cons_append, List.append_nil, cond, Nat.reduceBEq, Nat.reduceAdd, Nat.beq]
  rw [renL_uKV]
  refine prm_eff _ _ (pr_rng tK) ?_
  dsimp only [run_skip, run_reg, plainB, ifB_true, run_seq, run_blk, run_exit, run_ret, run_ite, iteR, regK, thenK_nrm, thenK_exit, thenK_ret, thenR_nrm, thenR_exit, thenR_ret, blkK, keepS, keepE, runOps_nil, runOps_cons, goG_some, fpOk, foot, entOf, allN, memN, goOn_ok, goOn_call, goOn_row, goOn_arr, goOn_ask, goOn_put, goOn_prm, goOn_callK, goOn_callC, goOn_all, guardP, guardO, notInO, stepF, stepLd, stepSt, stepIxs, stepIxa, stepLen, stepApp, stepCpy, stepPick, stepSls, stepSst, stepSla, bareZ, evX, evL, evB, rd, get, subG, memG, freshG, notInG, hyps, gob, impP, allP, partD, partOf, isOne, isPtr, nth, takeN, dropN, cellsD, lenB, fillD, thirds, entN, setE, sizeE, addE, setL, setN, putE, env0, eqCs, eqAux, eqC, bA, bO, bN, bE, negB, kEq, isShr, lendL, lend, frz, frzL, zRow, closed, closedL, rowsOf, binI, retK, retG, atRet, retD, lendO, resL, resD, oneD, renD, renL, renE, renEs, rho, putAll, entsN, List.append, List.nil_append, List.cons_append, List.append_nil, cond, Nat.reduceBEq, Nat.reduceAdd, Nat.beq]
  refine loop_ind (α := {x : TwX // Part t.kids x.done x.left}) (fun x => stTw t p x.1) (fun x => x.1.left.length) ?_ ⟨⟨[], t.kids, none⟩, Part.start _⟩ rfl
  rintro ⟨⟨done, left, cur⟩, hp⟩ I ih
  dsimp only at hp
  dsimp only [stTw, run_skip, run_reg, plainB, ifB_true, run_seq, run_blk, run_exit, run_ret, run_ite, iteR, regK, thenK_nrm, thenK_exit, thenK_ret, thenR_nrm, thenR_exit, thenR_ret, blkK, keepS, keepE, runOps_nil, runOps_cons, goG_some, fpOk, foot, entOf, allN, memN, goOn_ok, goOn_call, goOn_row, goOn_arr, goOn_ask, goOn_put, goOn_prm, goOn_callK, goOn_callC, goOn_all, guardP, guardO, notInO, stepF, stepLd, stepSt, stepIxs, stepIxa, stepLen, stepApp, stepCpy, stepPick, stepSls, stepSst, stepSla, bareZ, evX, evL, evB, rd, get, subG, memG, freshG, notInG, hyps, gob, impP, allP, partD, partOf, isOne, isPtr, nth, takeN, dropN, cellsD, lenB, fillD, thirds, entN, setE, sizeE, addE, setL, setN, putE, env0, eqCs, eqAux, eqC, bA, bO, bN, bE, negB, kEq, isShr, lendL, lend, frz, frzL, zRow, closed, closedL, rowsOf, binI, retK, retG, atRet, retD, lendO, resL, resD, oneD, renD, renL, renE, renEs, rho, putAll, entsN, List.append, List.nil_append, List.cons_append, List.append_nil, cond, Nat.reduceBEq, Nat.reduceAdd, Nat.beq]
  refine prm_all _ (pr_nxt rfl) ?_
  rintro d bx' (⟨hks, rfl, rfl⟩ | ⟨i, dk, dv, h1, h2, rfl, rfl⟩)
  · dsimp only [run_skip, run_reg, plainB, ifB_true, run_seq, run_blk, run_exit, run_ret, run_ite, iteR, regK, thenK_nrm, thenK_exit, thenK_ret, thenR_nrm, thenR_exit, thenR_ret, blkK, keepS, keepE, runOps_nil, runOps_cons, goG_some, fpOk, foot, entOf, allN, memN, goOn_ok, goOn_call, goOn_row, goOn_arr, goOn_ask, goOn_put, goOn_prm, goOn_callK, goOn_callC, goOn_all, guardP, guardO, notInO, stepF, stepLd, stepSt, stepIxs, stepIxa, stepLen, stepApp, stepCpy, stepPick, stepSls, stepSst, stepSla, bareZ, evX, evL, evB, rd, get, subG, memG, freshG, notInG, hyps, gob, impP, allP, partD, partOf, isOne, isPtr, nth, takeN, dropN, cellsD, lenB, fillD, thirds, entN, setE, sizeE, addE, setL, setN, putE, env0, eqCs, eqAux, eqC, bA, bO, bN, bE, negB, kEq, isShr, lendL, lend, frz, frzL, zRow, closed, closedL, rowsOf, binI, retK, retG, atRet, retD, lendO, resL, resD, oneD, renD, renL, renE, renEs, rho, putAll, entsN, List.append, List.nil_append, List.cons_append, List.append_nil, cond, Nat.reduceBEq, Nat.reduceAdd, Nat.beq]
    refine ⟨nofun, fun _ => ?_⟩
    have hl : left = [] := by simpa [mpK, kKV] using hks
    subst hl
    have hpm := hp.fin
    refine Rt.trans (Rt.perm (k := 2) (ik := .u32) (kv := fKV p (.own 3 1) done) (kv' := fKV p (.own 3 1) t.kids) rfl (hpm.map _)) ?_
    refine Rt.pick [2, 3, 4] rfl ?_ rfl
    have hrow : rowE p done = rowE p t.kids := by unfold rowE; rw [lk_perm hpm (hp.ndD h.kn)]
    rw [hrow]
    simp only [entsN, entN, setE, renEs]
    rw [renE_row]
    simp only [renE, renL_fKV, renL_uKV]
    rw [mpK_fKV (d := .own 1 1) (d' := .own 3 1)]
    rfl
  · obtain ⟨q, hq, rfl⟩ := mpK_at h1
    obtain ⟨⟨n, l⟩, hpp, rfl⟩ := kKV_at hq
    rw [mpV_at hq] at h2
    cases h2
    dsimp only [run_skip, run_reg, plainB, ifB_true, run_seq, run_blk, run_exit, run_ret, run_ite, iteR, regK, thenK_nrm, thenK_exit, thenK_ret, thenR_nrm, thenR_exit, thenR_ret, blkK, keepS, keepE, runOps_nil, runOps_cons, goG_some, fpOk, foot, entOf, allN, memN, goOn_ok, goOn_call, goOn_row, goOn_arr, goOn_ask, goOn_put, goOn_prm, goOn_callK, goOn_callC, goOn_all, guardP, guardO, notInO, stepF, stepLd, stepSt, stepIxs, stepIxa, stepLen, stepApp, stepCpy, stepPick, stepSls, stepSst, stepSla, bareZ, evX, evL, evB, rd, get, subG, memG, freshG, notInG, hyps, gob, impP, allP, partD, partOf, isOne, isPtr, nth, takeN, dropN, cellsD, lenB, fillD, thirds, entN, setE, sizeE, addE, setL, setN, putE, env0, eqCs, eqAux, eqC, bA, bO, bN, bE, negB, kEq, isShr, lendL, lend, frz, frzL, zRow, closed, closedL, rowsOf, binI, retK, retG, atRet, retD, lendO, resL, resD, oneD, renD, renL, renE, renEs, rho, putAll, entsN, List.append, List.nil_append, List.cons_append, List.append_nil, cond, Nat.reduceBEq, Nat.reduceAdd, Nat.beq]
    refine ⟨fun _ => ?_, nofun⟩
    refine prm_look _ (pr_ent rfl) ?_
    dsimp only [run_skip, run_reg, plainB, ifB_true, run_seq, run_blk, run_exit, run_ret, run_ite, iteR, regK, thenK_nrm, thenK_exit, thenK_ret, thenR_nrm, thenR_exit, thenR_ret, blkK, keepS, keepE, runOps_nil, runOps_cons, goG_some, fpOk, foot, entOf, allN, memN, goOn_ok, goOn_call, goOn_row, goOn_arr, goOn_ask, goOn_put, goOn_prm, goOn_callK, goOn_callC, goOn_all, guardP, guardO, notInO, stepF, stepLd, stepSt, stepIxs, stepIxa, stepLen, stepApp, stepCpy, stepPick, stepSls, stepSst, stepSla, bareZ, evX, evL, evB, rd, get, subG, memG, freshG, notInG, hyps, gob, impP, allP, partD, partOf, isOne, isPtr, nth, takeN, dropN, cellsD, lenB, fillD, thirds, entN, setE, sizeE, addE, setL, setN, putE, env0, eqCs, eqAux, eqC, bA, bO, bN, bE, negB, kEq, isShr, lendL, lend, frz, frzL, zRow, closed, closedL, rowsOf, binI, retK, retG, atRet, retD, lendO, resL, resD, oneD, renD, renL, renE, renEs, rho, putAll, entsN, List.append, List.nil_append, List.cons_append, List.append_nil, cond, Nat.reduceBEq, Nat.reduceAdd, Nat.beq]
    have hll : l.length < 1000000 := by
      have := h.kl n
      have e : lk t.kids n = some l := lk_mem h.kn (hp.perm.mem_iff.1 (List.mem_append_right _ (List.mem_of_getElem? hpp)))
      unfold kidsT at this
      rw [e] at this
      simp at this; omega
    have hfr := hp.fresh h.kn hpp
    have hnd := fKV_nd (p := p) (d := .own 3 1) (hp.ndD h.kn)
    have hlen := erase_len hpp
    refine callK_own [] (sm_slices_Clone hll) rfl rfl (fun k hk => Kept.call (n := 7) rfl k (fun h => hk (by rw [List.mem_singleton] at h; rw [h]; decide))) ?_
    dsimp only [run_skip, run_reg, plainB, ifB_true, run_seq, run_blk, run_exit, run_ret, run_ite, iteR, regK, thenK_nrm, thenK_exit, thenK_ret, thenR_nrm, thenR_exit, thenR_ret, blkK, keepS, keepE, runOps_nil, runOps_cons, goG_some, fpOk, foot, entOf, allN, memN, goOn_ok, goOn_call, goOn_row, goOn_arr, goOn_ask, goOn_put, goOn_prm, goOn_callK, goOn_callC, goOn_all, guardP, guardO, notInO, stepF, stepLd, stepSt, stepIxs, stepIxa, stepLen, stepApp, stepCpy, stepPick, stepSls, stepSst, stepSla, bareZ, evX, evL, evB, rd, get, subG, memG, freshG, notInG, hyps, gob, impP, allP, partD, partOf, isOne, isPtr, nth, takeN, dropN, cellsD, lenB, fillD, thirds, entN, setE, sizeE, addE, setL, setN, putE, env0, eqCs, eqAux, eqC, bA, bO, bN, bE, negB, kEq, isShr, lendL, lend, frz, frzL, zRow, closed, closedL, rowsOf, binI, retK, retG, atRet, retD, lendO, resL, resD, oneD, renD, renL, renE, renEs, rho, putAll, entsN, List.append, List.nil_append, List.cons_append, List.append_nil, cond, Nat.reduceBEq, Nat.reduceAdd, Nat.beq]
    by_cases hn : n = p
    · subst hn
      have hrow : rowE n done = .arr 37 1 0 [] := by unfold rowE; rw [hfr]
      have hrow2 : rowE n (done ++ [(n, l)]) = .arr 37 1 1 (iL l) := by
        unfold rowE
        have : lk (done ++ [(n, l)]) n = some l := by rw [← put_absent hfr, lk_put]; simp
        rw [this]
      rw [hrow]
      refine prm_eff _ _ (pr_updM (j := 2) (i := 7) (s := 3) tK tI (kv := fKV n (.own 3 1) done) rfl rfl rfl (by decide) hnd n) ?_
      dsimp only [run_skip, run_reg, plainB, ifB_true, run_seq, run_blk, run_exit, run_ret, run_ite, iteR, regK, thenK_nrm, thenK_exit, thenK_ret, thenR_nrm, thenR_exit, thenR_ret, blkK, keepS, keepE, runOps_nil, runOps_cons, goG_some, fpOk, foot, entOf, allN, memN, goOn_ok, goOn_call, goOn_row, goOn_arr, goOn_ask, goOn_put, goOn_prm, goOn_callK, goOn_callC, goOn_all, guardP, guardO, notInO, stepF, stepLd, stepSt, stepIxs, stepIxa, stepLen, stepApp, stepCpy, stepPick, stepSls, stepSst, stepSla, bareZ, evX, evL, evB, rd, get, subG, memG, freshG, notInG, hyps, gob, impP, allP, partD, partOf, isOne, isPtr, nth, takeN, dropN, cellsD, lenB, fillD, thirds, entN, setE, sizeE, addE, setL, setN, putE, env0, eqCs, eqAux, eqC, bA, bO, bN, bE, negB, kEq, isShr, lendL, lend, frz, frzL, zRow, closed, closedL, rowsOf, binI, retK, retG, atRet, retD, lendO, resL, resD, oneD, renD, renL, renE, renEs, rho, putAll, entsN, List.append, List.nil_append, List.cons_append, List.append_nil, cond, Nat.reduceBEq, Nat.reduceAdd, Nat.beq]
      rw [fKV_putP (l := l) hfr, mpK_erase, mpV_erase, kKV_erase]
      exact again (ih ⟨⟨done ++ [(n, l)], left.eraseIdx i, _⟩, hp.step hpp⟩ (by dsimp only; omega)) ⟨rfl, rfl, rfl, trivial⟩ ⟨rfl, rfl, rfl, hrow2.symm, rfl, rfl, rfl, trivial⟩ rfl (by simp [stTw, lowB, lowL_mpK, lowL_uKV, lowL_kKV, lowB_row, low, lowL, sizeE]; exact lowL_fKV rfl)
    · have hrow2 : rowE p (done ++ [(n, l)]) = rowE p done := by
        unfold rowE
        have : lk (done ++ [(n, l)]) p = lk done p := by rw [← put_absent hfr, lk_put, if_neg hn]
        rw [this]
      refine prm_eff _ _ (pr_updF (j := 2) (i := 7) tK tI (kv := fKV p (.own 3 1) done) rfl rfl hnd n) ?_
      dsimp only [run_skip, run_reg, plainB, ifB_true, run_seq, run_blk, run_exit, run_ret, run_ite, iteR, regK, thenK_nrm, thenK_exit, thenK_ret, thenR_nrm, thenR_exit, thenR_ret, blkK, keepS, keepE, runOps_nil, runOps_cons, goG_some, fpOk, foot, entOf, allN, memN, goOn_ok, goOn_call, goOn_row, goOn_arr, goOn_ask, goOn_put, goOn_prm, goOn_callK, goOn_callC, goOn_all, guardP, guardO, notInO, stepF, stepLd, stepSt, stepIxs, stepIxa, stepLen, stepApp, stepCpy, stepPick, stepSls, stepSst, stepSla, bareZ, evX, evL, evB, rd, get, subG, memG, freshG, notInG, hyps, gob, impP, allP, partD, partOf, isOne, isPtr, nth, takeN, dropN, cellsD, lenB, fillD, thirds, entN, setE, sizeE, addE, setL, setN, putE, env0, eqCs, eqAux, eqC, bA, bO, bN, bE, negB, kEq, isShr, lendL, lend, frz, frzL, zRow, closed, closedL, rowsOf, binI, retK, retG, atRet, retD, lendO, resL, resD, oneD, renD, renL, renE, renEs, rho, putAll, entsN, List.append, List.nil_append, List.cons_append, List.append_nil, cond, Nat.reduceBEq, Nat.reduceAdd, Nat.beq]
      rw [fKV_putO (l := l) hfr hn, mpK_erase, mpV_erase, kKV_erase]
      exact again (ih ⟨⟨done ++ [(n, l)], left.eraseIdx i, _⟩, hp.step hpp⟩ (by dsimp only; omega)) ⟨rfl, rfl, rfl, trivial⟩ ⟨rfl, rfl, rfl, hrow2.symm, rfl, rfl, rfl, trivial⟩ rfl (by simp [stTw, lowB, lowL_mpK, lowL_uKV, lowL_kKV, lowB_row, low, lowL, sizeE]; exact lowL_fKV rfl)
end Go.AM
