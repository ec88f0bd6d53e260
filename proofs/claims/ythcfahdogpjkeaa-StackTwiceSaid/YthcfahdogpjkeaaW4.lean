
/- The tree: its twin, two rows of it one's own. -/
import Derived.Test.YthcfahdogpjkeaaV5
set_option linter.all false
namespace Go.AM
open Go Go.Proofs

/-- The kids' rows, two of them one's own. -/
def gKV (p q : Int) (d e : D) (k : Kids) : KV := k.map fun x => (x.1, if x.1 = p then d else if x.1 = q then e else .ls 1 (iL x.2))
theorem gKV_nd {p q : Int} {d e : D} {k : Kids} (h : NdK k) : NdK (gKV p q d e k) := by
  unfold NdK gKV at *
  rw [List.map_map]; exact h
theorem gKV_app {p q : Int} {d e : D} {k m : Kids} : gKV p q d e (k ++ m) = gKV p q d e k ++ gKV p q d e m := by simp [gKV]
theorem lk_gKV {p q : Int} {d e : D} : ∀ {k : Kids} {n : Int}, lk (gKV p q d e k) n = (lk k n).map fun l => if n = p then d else if n = q then e else .ls 1 (iL l)
  | [], n => rfl
  | x :: r, n => by
    simp only [gKV, List.map_cons, lk]
    by_cases h : x.1 = n
    · subst h; simp
    · simp only [if_neg h]; exact lk_gKV (k := r)
theorem gKV_putO {p q n : Int} {d e : D} {k : Kids} {l : List Int} (h : lk k n = none) (hn : n ≠ p) (hq : n ≠ q) : put (gKV p q d e k) n (.ls 1 (iL l)) = gKV p q d e (k ++ [(n, l)]) := by
  rw [put_absent (by rw [lk_gKV, h]; rfl), gKV_app]
  simp [gKV, hn, hq]
theorem gKV_putP {p q : Int} {d e : D} {k : Kids} {l : List Int} (h : lk k p = none) : put (gKV p q d e k) p d = gKV p q d e (k ++ [(p, l)]) := by
  rw [put_absent (by rw [lk_gKV, h]; rfl), gKV_app]
  simp [gKV]
theorem gKV_putQ {p q : Int} {d e : D} {k : Kids} {l : List Int} (h : lk k q = none) (hpq : p ≠ q) : put (gKV p q d e k) q e = gKV p q d e (k ++ [(q, l)]) := by
  rw [put_absent (by rw [lk_gKV, h]; rfl), gKV_app]
  simp [gKV, Ne.symm hpq]
theorem mpK_gKV {p q : Int} {d e d' e' : D} : ∀ {k : Kids}, mpK .u32 (gKV p q d e k) = mpK .u32 (gKV p q d' e' k) := fun {k} => by simp [mpK, gKV]
theorem renL_gKV {ks : List Nat} {n : Nat} {p q : Int} {d e : D} : ∀ {k : Kids}, renL ks n (mpV (gKV p q d e k)) = mpV (gKV p q (renD ks n d) (renD ks n e) k)
  | [] => rfl
  | x :: r => by
    simp only [gKV, mpV, List.map_cons, renL]
    congr 1
    · by_cases h : x.1 = p
      · simp [h]
      · by_cases h' : x.1 = q
        · rw [if_neg h, if_neg h, if_pos h', if_pos h']
        · simp [h, h', renD]
    · exact renL_gKV (k := r)
theorem lowL_gKV {n : Nat} {p q : Int} {d e : D} (h : low n d = true) (h' : low n e = true) : ∀ {k : Kids}, lowL n (mpV (gKV p q d e k)) = true
  | [] => rfl
  | x :: r => by
    have ih := lowL_gKV (n := n) (p := p) (q := q) h h' (k := r)
    simp only [gKV, mpV] at ih
    simp only [gKV, mpV, List.map_cons, lowL, Bool.and_eq_true]
    refine ⟨?_, ih⟩
    by_cases h2 : x.1 = p
    · simp [h2, h]
    · by_cases h3 : x.1 = q
      · rw [if_neg h2, if_pos h3]; exact h'
      · simp [h2, h3, low]
/-- The other one is nobody. -/
theorem gKV_one {p q : Int} {d e : D} {k : Kids} (h : lk k q = none) : gKV p q d e k = fKV p d k := by
  unfold gKV fKV
  refine List.map_congr_left fun x hx => ?_
  have : x.1 ≠ q := fun e' => by
    rw [lk_none] at h
    exact h (e' ▸ List.mem_map_of_mem hx)
  simp [this]
theorem fKV_none {p : Int} {d : D} {k : Kids} (h : lk k p = none) : fKV p d k = kKV k := by
  unfold fKV kKV
  refine List.map_congr_left fun x hx => ?_
  have : x.1 ≠ p := fun e' => by
    rw [lk_none] at h
    exact h (e' ▸ List.mem_map_of_mem hx)
  simp [this]
theorem put_map_ls {p q : Int} {d e : D} : ∀ {k : Kids} {l : List Int}, NdK k → p ≠ q → put (gKV p q d e k) p (.ls 1 (iL l)) = fKV q e (put k p l)
  | [], l, _, h => by simp [gKV, put, fKV, h]
  | x :: r, l, h, hpq => by
    simp only [NdK, List.map_cons, List.nodup_cons] at h
    simp only [gKV, List.map_cons, put]
    by_cases e1 : x.1 = p
    · simp only [e1, if_true, fKV, List.map_cons, if_neg hpq]
      congr 1
      refine List.map_congr_left fun y hy => ?_
      have : y.1 ≠ p := fun e' => h.1 (by rw [e1, ← e']; exact List.mem_map_of_mem (f := (·.1)) hy)
      simp [this]
    · have ih := put_map_ls (p := p) (q := q) (d := d) (e := e) (k := r) (l := l) h.2 hpq
      simp only [gKV, fKV] at ih
      simp only [e1, if_false, fKV, List.map_cons]
      rw [ih]
theorem put_map_own {p q : Int} {d d' e : D} : ∀ {k : Kids} {l : List Int}, NdK k → p ≠ q → put (gKV p q d e k) p d' = gKV p q d' e (put k p l)
  | [], l, _, h => by simp [gKV, put]
  | x :: r, l, h, hpq => by
    simp only [NdK, List.map_cons, List.nodup_cons] at h
    simp only [gKV, List.map_cons, put]
    by_cases e1 : x.1 = p
    · simp only [e1, if_true, List.map_cons]
      congr 1
      refine List.map_congr_left fun y hy => ?_
      have : y.1 ≠ p := fun e' => h.1 (by rw [e1, ← e']; exact List.mem_map_of_mem (f := (·.1)) hy)
      simp [this]
    · have ih := put_map_own (p := p) (q := q) (d := d) (d' := d') (e := e) (k := r) (l := l) h.2 hpq
      simp only [gKV] at ih
      simp only [e1, if_false, List.map_cons]
      rw [ih]

section
open Go.RowKit
variable {P : Program} {gt : Nat → Option (List D)} {t : TypeId} {ik : IntKind}
theorem pr_mkm2 {bx : List Ent} (et : TypeId) (sz : Nat) : PrM P gt (.mkm t) [] bx (.ownm (sizeE bx) 0) (addE (addE (addE bx (mapE ik [])) (.arr et sz 0 [])) (.arr et sz 0 [])) := by
  intro F K pl w o ρ xs hF hρ hI hq hr
  obtain ⟨v, w', K', pl', h1, h2, h3, h4, h5⟩ := pr_mkmN (P := P) (gt := gt) (t := t) (ik := ik) (bx := bx) et sz F K pl w o ρ xs hF hρ hI hq hr
  obtain ⟨q1, q2⟩ := h4.addNil et sz
  rw [addE_eq, addE_eq, addE_eq]
  rw [addE_eq, addE_eq] at q1 q2
  exact ⟨v, w', K', _, h1, h2, h3.trans q1, q2, Rep.mono (KLe.refl _) q1 _ _ h5⟩
end

structure TwY where
  done : Kids
  left : Kids
  cur : Option (D × D)
def stTw2 (t : TT) (p q : Int) (x : TwY) : St := ⟨[(2, [], .box 1 0), (3, [], .box 6 0), (16, [], .box 7 0)],
  [.cells [.mp (mpK .u32 (kKV t.kids)) (mpV (kKV t.kids)), .mp (mpK .u32 (uKV t.up)) (mpV (uKV t.up))], .cells [.mp [] [], .mp [] []], .map (mpK .u32 (gKV p q (.own 3 1) (.own 4 1) x.done)) (mpV (gKV p q (.own 3 1) (.own 4 1) x.done)), rowE p x.done, rowE q x.done, .map (mpK .u32 (uKV t.up)) (mpV (uKV t.up)),
    .cells [.ownm 2 0, .ownm 5 0], .iter x.cur (mpK .u32 (kKV x.left)) (mpV (kKV x.left))]⟩
theorem rowE_app {p n : Int} {k : Kids} {l : List Int} (h : lk k n = none) (hn : n ≠ p) : rowE p (k ++ [(n, l)]) = rowE p k := by
  unfold rowE
  have : lk (k ++ [(n, l)]) p = lk k p := by rw [← put_absent h, lk_put, if_neg hn]
  rw [this]
theorem rowE_new {n : Int} {k : Kids} {l : List Int} (h : lk k n = none) : rowE n (k ++ [(n, l)]) = .arr 37 1 1 (iL l) := by
  unfold rowE
  have : lk (k ++ [(n, l)]) n = some l := by rw [← put_absent h, lk_put]; simp
  rw [this]
theorem rowE_none {n : Int} {k : Kids} (h : lk k n = none) : rowE n k = .arr 37 1 0 [] := by unfold rowE; rw [h]

theorem sm_tree_twin2 {t : TT} (h : t.Ok) {p q : Int} (hpq : p ≠ q) : TSpM 53 [tD t] [] (.agg [.ownm 0 0, .ownm 3 0]) [.map (mpK .u32 (gKV p q (.own 1 1) (.own 2 1) t.kids)) (mpV (gKV p q (.own 1 1) (.own 2 1) t.kids)), rowE p t.kids, rowE q t.kids, .map (mpK .u32 (uKV t.up)) (mpV (uKV t.up))] := by
  refine spm_tree_Tree_twin (by rfl) ?_
  dsimp only [c_tree_Tree_twin, r_tree_Tree_twin, tD, run_skip, run_reg, plainB, ifB_true, run_seq, run_blk, run_exit, run_ret, run_ite, iteR, regK, thenK_nrm, thenK_exit, thenK_ret, thenR_nrm, thenR_exit, thenR_ret, blkK, keepS, keepE, runOps_nil, runOps_cons, goG_some, fpOk, foot, entOf, allN, memN, goOn_ok, goOn_call, goOn_row, goOn_arr, goOn_ask, goOn_put, goOn_prm, goOn_callK, goOn_callC, goOn_all, guardP, guardO, notInO, stepF, stepLd, stepSt, stepIxs, stepIxa, stepLen, stepApp, stepCpy, stepPick, stepSls, stepSst, stepSla, bareZ, evX, evL, evB, rd, get, subG, memG, freshG, notInG, hyps, gob, impP, allP, partD, partOf, isOne, isPtr, nth, takeN, dropN, cellsD, lenB, fillD, thirds, entN, setE, sizeE, addE, setL, setN, putE, env0, eqCs, eqAux, eqC, bA, bO, bN, bE, negB, kEq, isShr, lendL, lend, frz, frzL, zRow, closed, closedL, rowsOf, binI, retK, retG, atRet, retD, lendO, resL, resD, oneD, renD, renL, renE, renEs, rho, putAll, entsN, List.append, List.nil_append, List.cons_append, List.append_nil, cond, Nat.reduceBEq, Nat.reduceAdd, Nat.beq]
  refine prm_eff _ _ (pr_mkm2 (ik := .u32) 37 1) ?_
  dsimp only [run_skip, run_reg, plainB, ifB_true, run_seq, run_blk, run_exit, run_ret, run_ite, iteR, regK, thenK_nrm, thenK_exit, thenK_ret, thenR_nrm, thenR_exit, thenR_ret, blkK, keepS, keepE, runOps_nil, runOps_cons, goG_some, fpOk, foot, entOf, allN, memN, goOn_ok, goOn_call, goOn_row, goOn_arr, goOn_ask, goOn_put, goOn_prm, goOn_callK, goOn_callC, goOn_all, guardP, guardO, notInO, stepF, stepLd, stepSt, stepIxs, stepIxa, stepLen, stepApp, stepCpy, stepPick, stepSls, stepSst, stepSla, bareZ, evX, evL, evB, rd, get, subG, memG, freshG, notInG, hyps, gob, impP, allP, partD, partOf, isOne, isPtr, nth, takeN, dropN, cellsD, lenB, fillD, thirds, entN, setE, sizeE, addE, setL, setN, putE, env0, eqCs, eqAux, eqC, bA, bO, bN, bE, negB, kEq, isShr, lendL, lend, frz, frzL, zRow, closed, closedL, rowsOf, binI, retK, retG, atRet, retD, lendO, resL, resD, oneD, renD, renL, renE, renEs, rho, putAll, entsN, List.append, List.nil_append, List.cons_append, List.append_nil, cond, Nat.reduceBEq, Nat.reduceAdd, Nat.beq]
  refine prm_eff _ _ (pr_mkm (ik := .u32)) ?_
  dsimp only [run_skip, run_reg, plainB, ifB_true, run_seq, run_blk, run_exit, run_ret, run_ite, iteR, regK, thenK_nrm, thenK_exit, thenK_ret, thenR_nrm, thenR_exit, thenR_ret, blkK, keepS, keepE, runOps_nil, runOps_cons, goG_some, fpOk, foot, entOf, allN, memN, goOn_ok, goOn_call, goOn_row, goOn_arr, goOn_ask, goOn_put, goOn_prm, goOn_callK, goOn_callC, goOn_all, guardP, guardO, notInO, stepF, stepLd, stepSt, stepIxs, stepIxa, stepLen, stepApp, stepCpy, stepPick, stepSls, stepSst, stepSla, bareZ, evX, evL, evB, rd, get, subG, memG, freshG, notInG, hyps, gob, impP, allP, partD, partOf, isOne, isPtr, nth, takeN, dropN, cellsD, lenB, fillD, thirds, entN, setE, sizeE, addE, setL, setN, putE, env0, eqCs, eqAux, eqC, bA, bO, bN, bE, negB, kEq, isShr, lendL, lend, frz, frzL, zRow, closed, closedL, rowsOf, binI, retK, retG, atRet, retD, lendO, resL, resD, oneD, renD, renL, renE, renEs, rho, putAll, entsN, List.append, List.nil_append, List.cons_append, List.append_nil, cond, Nat.reduceBEq, Nat.reduceAdd, Nat.beq]
  refine call_own [5] (sm_maps_Copy h.un) rfl rfl ?_
  dsimp only [run_skip, run_reg, plainB, ifB_true, run_seq, run_blk, run_exit, run_ret, run_ite, iteR, regK, thenK_nrm, thenK_exit, thenK_ret, thenR_nrm, thenR_exit, thenR_ret, blkK, keepS, keepE, runOps_nil, runOps_cons, goG_some, fpOk, foot, entOf, allN, memN, goOn_ok, goOn_call, goOn_row, goOn_arr, goOn_ask, goOn_put, goOn_prm, goOn_callK, goOn_callC, goOn_all, guardP, guardO, notInO, stepF, stepLd, stepSt, stepIxs, stepIxa, stepLen, stepApp, stepCpy, stepPick, stepSls, stepSst, stepSla, bareZ, evX, evL, evB, rd, get, subG, memG, freshG, notInG, hyps, gob, impP, allP, partD, partOf, isOne, isPtr, nth, takeN, dropN, cellsD, lenB, fillD, thirds, entN, setE, sizeE, addE, setL, setN, putE, env0, eqCs, eqAux, eqC, bA, bO, bN, bE, negB, kEq, isShr, lendL, lend, frz, frzL, zRow, closed, closedL, rowsOf, binI, retK, retG, atRet, retD, lendO, resL, resD, oneD, renD, renL, renE, renEs, rho, putAll, entsN, List.append, List.nil_append, List.cons_append, List.append_nil, cond, Nat.reduceBEq, Nat.reduceAdd, Nat.beq]
  rw [renL_uKV]
  refine prm_eff _ _ (pr_rng tK) ?_
  dsimp only [run_skip, run_reg, plainB, ifB_true, run_seq, run_blk, run_exit, run_ret, run_ite, iteR, regK, thenK_nrm, thenK_exit, thenK_ret, thenR_nrm, thenR_exit, thenR_ret, blkK, keepS, keepE, runOps_nil, runOps_cons, goG_some, fpOk, foot, entOf, allN, memN, goOn_ok, goOn_call, goOn_row, goOn_arr, goOn_ask, goOn_put, goOn_prm, goOn_callK, goOn_callC, goOn_all, guardP, guardO, notInO, stepF, stepLd, stepSt, stepIxs, stepIxa, stepLen, stepApp, stepCpy, stepPick, stepSls, stepSst, stepSla, bareZ, evX, evL, evB, rd, get, subG, memG, freshG, notInG, hyps, gob, impP, allP, partD, partOf, isOne, isPtr, nth, takeN, dropN, cellsD, lenB, fillD, thirds, entN, setE, sizeE, addE, setL, setN, putE, env0, eqCs, eqAux, eqC, bA, bO, bN, bE, negB, kEq, isShr, lendL, lend, frz, frzL, zRow, closed, closedL, rowsOf, binI, retK, retG, atRet, retD, lendO, resL, resD, oneD, renD, renL, renE, renEs, rho, putAll, entsN, List.append, List.nil_append, List.cons_append, List.append_nil, cond, Nat.reduceBEq, Nat.reduceAdd, Nat.beq]
  refine loop_ind (α := {x : TwY // Part t.kids x.done x.left}) (fun x => stTw2 t p q x.1) (fun x => x.1.left.length) ?_ ⟨⟨[], t.kids, none⟩, Part.start _⟩ rfl
  rintro ⟨⟨done, left, cur⟩, hp⟩ I ih
  dsimp only at hp
  dsimp only [stTw2, run_skip, run_reg, plainB, ifB_true, run_seq, run_blk, run_exit, run_ret, run_ite, iteR, regK, thenK_nrm, thenK_exit, thenK_ret, thenR_nrm, thenR_exit, thenR_ret, blkK, keepS, keepE, runOps_nil, runOps_cons, goG_some, fpOk, foot, entOf, allN, memN, goOn_ok, goOn_call, goOn_row, goOn_arr, goOn_ask, goOn_put, goOn_prm, goOn_callK, goOn_callC, goOn_all, guardP, guardO, notInO, stepF, stepLd, stepSt, stepIxs, stepIxa, stepLen, stepApp, stepCpy, stepPick, stepSls, stepSst, stepSla, bareZ, evX, evL, evB, rd, get, subG, memG, freshG, notInG, hyps, gob, impP, allP, partD, partOf, isOne, isPtr, nth, takeN, dropN, cellsD, lenB, fillD, thirds, entN, setE, sizeE, addE, setL, setN, putE, env0, eqCs, eqAux, eqC, bA, bO, bN, bE, negB, kEq, isShr, lendL, lend, frz, frzL, zRow, closed, closedL, rowsOf, binI, retK, retG, atRet, retD, lendO, resL, resD, oneD, renD, renL, renE, renEs, rho, putAll, entsN, List.append, List.nil_append, List.cons_append, List.append_nil, cond, Nat.reduceBEq, Nat.reduceAdd, Nat.beq]
  refine prm_all _ (pr_nxt rfl) ?_
  rintro d bx' (⟨hks, rfl, rfl⟩ | ⟨i, dk, dv, h1, h2, rfl, rfl⟩)
  · dsimp only [run_skip, run_reg, plainB, ifB_true, run_seq, run_blk, run_exit, run_ret, run_ite, iteR, regK, thenK_nrm, thenK_exit, thenK_ret, thenR_nrm, thenR_exit, thenR_ret, blkK, keepS, keepE, runOps_nil, runOps_cons, goG_some, fpOk, foot, entOf, allN, memN, goOn_ok, goOn_call, goOn_row, goOn_arr, goOn_ask, goOn_put, goOn_prm, goOn_callK, goOn_callC, goOn_all, guardP, guardO, notInO, stepF, stepLd, stepSt, stepIxs, stepIxa, stepLen, stepApp, stepCpy, stepPick, stepSls, stepSst, stepSla, bareZ, evX, evL, evB, rd, get, subG, memG, freshG, notInG, hyps, gob, impP, allP, partD, partOf, isOne, isPtr, nth, takeN, dropN, cellsD, lenB, fillD, thirds, entN, setE, sizeE, addE, setL, setN, putE, env0, eqCs, eqAux, eqC, bA, bO, bN, bE, negB, kEq, isShr, lendL, lend, frz, frzL, zRow, closed, closedL, rowsOf, binI, retK, retG, atRet, retD, lendO, resL, resD, oneD, renD, renL, renE, renEs, rho, putAll, entsN, List.append, List.nil_append, List.cons_append, List.append_nil, cond, Nat.reduceBEq, Nat.reduceAdd, Nat.beq]
    refine ⟨nofun, fun _ => ?_⟩
    have hl : left = [] := by simpa [mpK, kKV] using hks
    subst hl
    have hpm := hp.fin
    refine Rt.trans (Rt.perm (k := 2) (ik := .u32) (kv := gKV p q (.own 3 1) (.own 4 1) done) (kv' := gKV p q (.own 3 1) (.own 4 1) t.kids) rfl (hpm.map _)) ?_
    refine Rt.pick [2, 3, 4, 5] rfl ?_ rfl
    have hrow : rowE p done = rowE p t.kids := by unfold rowE; rw [lk_perm hpm (hp.ndD h.kn)]
    have hrowq : rowE q done = rowE q t.kids := by unfold rowE; rw [lk_perm hpm (hp.ndD h.kn)]
    rw [hrow, hrowq]
    simp only [entsN, entN, setE, renEs]
    rw [renE_row, renE_row]
    simp only [renE, renL_gKV, renL_uKV]
    rw [mpK_gKV (d := .own 1 1) (d' := .own 3 1) (e := .own 2 1) (e' := .own 4 1)]
    rfl
  · obtain ⟨z, hz, rfl⟩ := mpK_at h1
    obtain ⟨⟨n, l⟩, hpp, rfl⟩ := kKV_at hz
    rw [mpV_at hz] at h2
    cases h2
    dsimp only [run_skip, run_reg, plainB, ifB_true, run_seq, run_blk, run_exit, run_ret, run_ite, iteR, regK, thenK_nrm, thenK_exit, thenK_ret, thenR_nrm, thenR_exit, thenR_ret, blkK, keepS, keepE, runOps_nil, runOps_cons, goG_some, fpOk, foot, entOf, allN, memN, goOn_ok, goOn_call, goOn_row, goOn_arr, goOn_ask, goOn_put, goOn_prm, goOn_callK, goOn_callC, goOn_all, guardP, guardO, notInO, stepF, stepLd, stepSt, stepIxs, stepIxa, stepLen, stepApp, stepCpy, stepPick, stepSls, stepSst, stepSla, bareZ, evX, evL, evB, rd, get, subG, memG, freshG, notInG, hyps, gob, impP, allP, partD, partOf, isOne, isPtr, nth, takeN, dropN, cellsD, lenB, fillD, thirds, entN, setE, sizeE, addE, setL, setN, putE, env0, eqCs, eqAux, eqC, bA, bO, bN, bE, negB, kEq, isShr, lendL, lend, frz, frzL, zRow, closed, closedL, rowsOf, binI, retK, retG, atRet, retD, lendO, resL, resD, oneD, renD, renL, renE, renEs, rho, putAll, entsN, List.append, List.nil_append, List.cons_append, List.append_nil, cond, Nat.reduceBEq, Nat.reduceAdd, Nat.beq]
    refine ⟨fun _ => ?_, nofun⟩
    refine prm_look _ (pr_ent rfl) ?_
    dsimp only [run_skip, run_reg, plainB, ifB_true, run_seq, run_blk, run_exit, run_ret, run_ite, iteR, regK, thenK_nrm, thenK_exit, thenK_ret, thenR_nrm, thenR_exit, thenR_ret, blkK, keepS, keepE, runOps_nil, runOps_cons, goG_some, fpOk, foot, entOf, allN, memN, goOn_ok, goOn_call, goOn_row, goOn_arr, goOn_ask, goOn_put, goOn_prm, goOn_callK, goOn_callC, goOn_all, guardP, guardO, notInO, stepF, stepLd, stepSt, stepIxs, stepIxa, stepLen, stepApp, stepCpy, stepPick, stepSls, stepSst, stepSla, bareZ, evX, evL, evB, rd, get, subG, memG, freshG, notInG, hyps, gob, impP, allP, partD, partOf, isOne, isPtr, nth, takeN, dropN, cellsD, lenB, fillD, thirds, entN, setE, sizeE, addE, setL, setN, putE, env0, eqCs, eqAux, eqC, bA, bO, bN, bE, negB, kEq, isShr, lendL, lend, frz, frzL, zRow, closed, closedL, rowsOf, binI, retK, retG, atRet, retD, lendO, resL, resD, oneD, renD, renL, renE, renEs, rho, putAll, entsN, List.append, List.nil_append, List.cons_append, List.append_nil, cond, Nat.reduceBEq, Nat.reduceAdd, Nat.beq]
    have hll : l.length < 1000000 := by
      have := h.kl n
      have e : lk t.kids n = some l := lk_mem h.kn (hp.perm.mem_iff.1 (List.mem_append_right _ (List.mem_of_getElem? hpp)))
      unfold kidsT at this
      rw [e] at this
      simp at this; omega
    have hfr := hp.fresh h.kn hpp
    have hnd := gKV_nd (p := p) (q := q) (d := .own 3 1) (e := .own 4 1) (hp.ndD h.kn)
    have hlen := erase_len hpp
    have hlow : ∀ k, lowL 8 (mpV (gKV p q (.own 3 1) (.own 4 1) k)) = true := fun k => lowL_gKV rfl rfl
    refine callK_own [] (sm_slices_Clone hll) rfl rfl (fun k hk => ?_) ?_
    · exact Kept.call (n := 8) rfl k (fun h => hk (by rw [List.mem_singleton] at h; rw [h]; decide))
    dsimp only [run_skip, run_reg, plainB, ifB_true, run_seq, run_blk, run_exit, run_ret, run_ite, iteR, regK, thenK_nrm, thenK_exit, thenK_ret, thenR_nrm, thenR_exit, thenR_ret, blkK, keepS, keepE, runOps_nil, runOps_cons, goG_some, fpOk, foot, entOf, allN, memN, goOn_ok, goOn_call, goOn_row, goOn_arr, goOn_ask, goOn_put, goOn_prm, goOn_callK, goOn_callC, goOn_all, guardP, guardO, notInO, stepF, stepLd, stepSt, stepIxs, stepIxa, stepLen, stepApp, stepCpy, stepPick, stepSls, stepSst, stepSla, bareZ, evX, evL, evB, rd, get, subG, memG, freshG, notInG, hyps, gob, impP, allP, partD, partOf, isOne, isPtr, nth, takeN, dropN, cellsD, lenB, fillD, thirds, entN, setE, sizeE, addE, setL, setN, putE, env0, eqCs, eqAux, eqC, bA, bO, bN, bE, negB, kEq, isShr, lendL, lend, frz, frzL, zRow, closed, closedL, rowsOf, binI, retK, retG, atRet, retD, lendO, resL, resD, oneD, renD, renL, renE, renEs, rho, putAll, entsN, List.append, List.nil_append, List.cons_append, List.append_nil, cond, Nat.reduceBEq, Nat.reduceAdd, Nat.beq]
    by_cases hn : n = p
    · subst hn
      rw [rowE_none hfr]
      refine prm_eff _ _ (pr_updM (j := 2) (i := 8) (s := 3) tK tI (kv := gKV n q (.own 3 1) (.own 4 1) done) rfl rfl rfl (by decide) hnd n) ?_
      dsimp only [run_skip, run_reg, plainB, ifB_true, run_seq, run_blk, run_exit, run_ret, run_ite, iteR, regK, thenK_nrm, thenK_exit, thenK_ret, thenR_nrm, thenR_exit, thenR_ret, blkK, keepS, keepE, runOps_nil, runOps_cons, goG_some, fpOk, foot, entOf, allN, memN, goOn_ok, goOn_call, goOn_row, goOn_arr, goOn_ask, goOn_put, goOn_prm, goOn_callK, goOn_callC, goOn_all, guardP, guardO, notInO, stepF, stepLd, stepSt, stepIxs, stepIxa, stepLen, stepApp, stepCpy, stepPick, stepSls, stepSst, stepSla, bareZ, evX, evL, evB, rd, get, subG, memG, freshG, notInG, hyps, gob, impP, allP, partD, partOf, isOne, isPtr, nth, takeN, dropN, cellsD, lenB, fillD, thirds, entN, setE, sizeE, addE, setL, setN, putE, env0, eqCs, eqAux, eqC, bA, bO, bN, bE, negB, kEq, isShr, lendL, lend, frz, frzL, zRow, closed, closedL, rowsOf, binI, retK, retG, atRet, retD, lendO, resL, resD, oneD, renD, renL, renE, renEs, rho, putAll, entsN, List.append, List.nil_append, List.cons_append, List.append_nil, cond, Nat.reduceBEq, Nat.reduceAdd, Nat.beq]
      rw [gKV_putP (l := l) hfr, mpK_erase, mpV_erase, kKV_erase]
      exact again (ih ⟨⟨done ++ [(n, l)], left.eraseIdx i, _⟩, hp.step hpp⟩ (by dsimp only; omega)) ⟨rfl, rfl, rfl, trivial⟩ ⟨rfl, rfl, rfl, (rowE_new hfr).symm, (rowE_app hfr hpq).symm, rfl, rfl, rfl, trivial⟩ rfl (by simp [stTw2, lowB, lowL_mpK, lowL_uKV, lowL_kKV, lowB_row, low, lowL, sizeE]; exact hlow _)
    · by_cases hnq : n = q
      · subst hnq
        rw [rowE_none (n := n) hfr]
        refine prm_eff _ _ (pr_updM (j := 2) (i := 8) (s := 4) tK tI (kv := gKV p n (.own 3 1) (.own 4 1) done) rfl rfl rfl (by decide) hnd n) ?_
        dsimp only [run_skip, run_reg, plainB, ifB_true, run_seq, run_blk, run_exit, run_ret, run_ite, iteR, regK, thenK_nrm, thenK_exit, thenK_ret, thenR_nrm, thenR_exit, thenR_ret, blkK, keepS, keepE, runOps_nil, runOps_cons, goG_some, fpOk, foot, entOf, allN, memN, goOn_ok, goOn_call, goOn_row, goOn_arr, goOn_ask, goOn_put, goOn_prm, goOn_callK, goOn_callC, goOn_all, guardP, guardO, notInO, stepF, stepLd, stepSt, stepIxs, stepIxa, stepLen, stepApp, stepCpy, stepPick, stepSls, stepSst, stepSla, bareZ, evX, evL, evB, rd, get, subG, memG, freshG, notInG, hyps, gob, impP, allP, partD, partOf, isOne, isPtr, nth, takeN, dropN, cellsD, lenB, fillD, thirds, entN, setE, sizeE, addE, setL, setN, putE, env0, eqCs, eqAux, eqC, bA, bO, bN, bE, negB, kEq, isShr, lendL, lend, frz, frzL, zRow, closed, closedL, rowsOf, binI, retK, retG, atRet, retD, lendO, resL, resD, oneD, renD, renL, renE, renEs, rho, putAll, entsN, List.append, List.nil_append, List.cons_append, List.append_nil, cond, Nat.reduceBEq, Nat.reduceAdd, Nat.beq]
        rw [gKV_putQ (l := l) hfr hpq, mpK_erase, mpV_erase, kKV_erase]
        exact again (ih ⟨⟨done ++ [(n, l)], left.eraseIdx i, _⟩, hp.step hpp⟩ (by dsimp only; omega)) ⟨rfl, rfl, rfl, trivial⟩ ⟨rfl, rfl, rfl, (rowE_app hfr hn).symm, (rowE_new hfr).symm, rfl, rfl, rfl, trivial⟩ rfl (by simp [stTw2, lowB, lowL_mpK, lowL_uKV, lowL_kKV, lowB_row, low, lowL, sizeE]; exact hlow _)
      · refine prm_eff _ _ (pr_updF (j := 2) (i := 8) tK tI (kv := gKV p q (.own 3 1) (.own 4 1) done) rfl rfl hnd n) ?_
        dsimp only [run_skip, run_reg, plainB, ifB_true, run_seq, run_blk, run_exit, run_ret, run_ite, iteR, regK, thenK_nrm, thenK_exit, thenK_ret, thenR_nrm, thenR_exit, thenR_ret, blkK, keepS, keepE, runOps_nil, runOps_cons, goG_some, fpOk, foot, entOf, allN, memN, goOn_ok, goOn_call, goOn_row, goOn_arr, goOn_ask, goOn_put, goOn_prm, goOn_callK, goOn_callC, goOn_all, guardP, guardO, notInO, stepF, stepLd, stepSt, stepIxs, stepIxa, stepLen, stepApp, stepCpy, stepPick, stepSls, stepSst, stepSla, bareZ, evX, evL, evB, rd, get, subG, memG, freshG, notInG, hyps, gob, impP, allP, partD, partOf, isOne, isPtr, nth, takeN, dropN, cellsD, lenB, fillD, thirds, entN, setE, sizeE, addE, setL, setN, putE, env0, eqCs, eqAux, eqC, bA, bO, bN, bE, negB, kEq, isShr, lendL, lend, frz, frzL, zRow, closed, closedL, rowsOf, binI, retK, retG, atRet, retD, lendO, resL, resD, oneD, renD, renL, renE, renEs, rho, putAll, entsN, List.append, List.nil_append, List.cons_append, List.append_nil, cond, Nat.reduceBEq, Nat.reduceAdd, Nat.beq]
        rw [gKV_putO (l := l) hfr hn hnq, mpK_erase, mpV_erase, kKV_erase]
        exact again (ih ⟨⟨done ++ [(n, l)], left.eraseIdx i, _⟩, hp.step hpp⟩ (by dsimp only; omega)) ⟨rfl, rfl, rfl, trivial⟩ ⟨rfl, rfl, rfl, (rowE_app hfr hn).symm, (rowE_app hfr hnq).symm, rfl, rfl, rfl, trivial⟩ rfl (by simp [stTw2, lowB, lowL_mpK, lowL_uKV, lowL_kKV, lowB_row, low, lowL, sizeE]; exact hlow _)
end Go.AM
