
/- Chapter 29: StackFrees. -/
import Derived.Test.YthcfahdogpjkeaaX16
set_option linter.all false
set_option maxRecDepth 100000
namespace Go.AM
open Go Go.Proofs

theorem hid_none {ats : List Rc} {σ : List Int} {a : Int} (h : hnS ats σ a 0 = false) : ∀ o ∈ σ, hidS ats σ o a = false := by
  intro o ho
  by_cases e : o = a
  · subst e
    unfold hidS; simp
  · unfold hnS at h
    rw [if_pos rfl, List.any_eq_false] at h
    simpa using h o (offL_mem.2 ⟨ho, e⟩)
theorem hides_none {ats : List Rc} {σ : List Int} {a : Int} (h : hgS ats σ a 0 = false) : ∀ o ∈ σ, hidS ats σ a o = false := by
  intro o ho
  by_cases e : o = a
  · subst e
    unfold hidS; simp
  · unfold hgS at h
    rw [if_pos rfl, List.any_eq_false] at h
    simpa using h o (offL_mem.2 ⟨ho, e⟩)
theorem top_free {ats : List Rc} {O : List Int} {a : Int} (hn : O.Nodup) (ha : a ∉ O) (o : Int) (ho : o ∈ ins O O.length a) : hidS ats (ins O O.length a) o a = false := by
  have h1 : idxF (ins O O.length a) a 0 = O.length := idxF_eq (ins_nd hn ha) (ins_get (Nat.le_refl _))
  have h2 := idxF_mem ho
  rw [ins_len (Nat.le_refl _)] at h2
  unfold hidS
  rw [h1, decide_eq_false (by omega)]; rfl
theorem bot_free {ats : List Rc} {O : List Int} {a : Int} (hn : O.Nodup) (ha : a ∉ O) (o : Int) (ho : o ∈ ins O 0 a) : hidS ats (ins O 0 a) a o = false := by
  have h1 : idxF (ins O 0 a) a 0 = (0 : Nat) := idxF_eq (ins_nd hn ha) (ins_get (Nat.zero_le _))
  have h2 := idxF_mem ho
  unfold hidS
  rw [h1, decide_eq_false (by omega)]; rfl
section
variable {ats : List Rc} {σ : List Int} {a : Int}
theorem frees2 (hn : σ.Nodup) : ∀ o ∈ newS ats σ a 0 2, hidS ats (newS ats σ a 0 2) o a = false := by
  have hw : wayS ats σ a 0 2 = (((offL σ a).length : Int), hnS ats σ a 0) := rfl
  unfold newS
  rw [hw]
  cases h : hnS ats σ a 0
  · exact hid_none h
  · simp only [if_true, show ((offL σ a).length : Int).toNat = (offL σ a).length by omega]
    exact top_free (offL_nd hn) (offL_not _ _)
theorem frees3 (hn : σ.Nodup) : ∀ o ∈ newS ats σ a 0 3, hidS ats (newS ats σ a 0 3) a o = false := by
  have hw : wayS ats σ a 0 3 = (0, hgS ats σ a 0) := rfl
  unfold newS
  rw [hw]
  cases h : hgS ats σ a 0
  · exact hides_none h
  · simp only [if_true, show (0 : Int).toNat = 0 from rfl]
    exact bot_free (offL_nd hn) (offL_not _ _)
theorem frees4 (hn : σ.Nodup) : (∀ o ∈ newS ats σ a 0 4, hidS ats (newS ats σ a 0 4) o a = false) ∨ ∀ o ∈ newS ats σ a 0 4, hidS ats (newS ats σ a 0 4) a o = false := by
  have hw : wayS ats σ a 0 4 = (if hnS ats σ a 0 then ((offL σ a).length : Int) else 0, hnS ats σ a 0 || hgS ats σ a 0) := rfl
  unfold newS
  rw [hw]
  cases h : hnS ats σ a 0
  · cases h' : hgS ats σ a 0
    · exact .inl (hid_none h)
    · right
      simp only [Bool.or_true, if_true, Bool.false_eq_true, if_false, show (0 : Int).toNat = 0 from rfl]
      exact bot_free (offL_nd hn) (offL_not _ _)
  · left
    simp only [Bool.true_or, if_true, show ((offL σ a).length : Int).toNat = (offL σ a).length by omega]
    exact top_free (offL_nd hn) (offL_not _ _)
end

theorem anyU_snoc {p : Nat → Bool} {i : Nat} : anyU p (i + 1) 0 = (anyU p i 0 || p i) := by
  rw [Bool.eq_iff_iff, Bool.or_eq_true, anyU_iff, anyU_iff]
  constructor
  · rintro ⟨k, h1, h2, h3⟩
    by_cases e : k = i
    · exact .inr (e ▸ h3)
    · exact .inl ⟨k, h1, by omega, h3⟩
  · rintro (⟨k, h1, h2, h3⟩ | h)
    · exact ⟨k, h1, by omega, h3⟩
    · exact ⟨i, by omega, by omega, h⟩
theorem anyU_none {p : Nat → Bool} {i : Nat} (h : ∀ k, k < i → p k = false) : anyU p i 0 = false := by
  rw [Bool.eq_false_iff, Ne, anyU_iff]
  rintro ⟨k, _, h2, h3⟩
  rw [h k (by omega)] at h3
  cases h3

def cT (t : TT) : List D := [mpD .u32 (kKV t.kids), mpD .u32 (uKV t.up)]
def stFr (ats : List Rc) (deep a : Int) (m : Ats) (t t1 t2 t3 : TT) (p q : Nat → Bool) (i : Nat) : St := ⟨[(2, [], .box 0 0), (6, [], mpD .u32 (aKV m)), (9, [], .int .u32 (1048576 + a)), (10, [], .box 2 0), (13, [], .box 3 0), (16, [], .box 4 0), (19, [], .bool (anyU p i 0)), (20, [], .bool (anyU q i 0)), (21, [], .int .i64 i)],
  [.cells [.ls 4 (rL ats), .int .u8 deep], .cells [mpD .u32 (kKV t.kids), mpD .u32 (uKV t.up)], .cells [mpD .u32 (kKV t1.kids), mpD .u32 (uKV t1.up)], .cells [mpD .u32 (kKV t2.kids), mpD .u32 (uKV t2.up)], .cells [mpD .u32 (kKV t3.kids), mpD .u32 (uKV t3.up)]]⟩

set_option maxHeartbeats 2000000 in
theorem sp_law29_StackFrees {ats : List Rc} {deep q : Int} (hin : ∀ r ∈ ats, r.In) (hd : fits .u8 deep) (h0 : fits .u8 q) : TSp 5 [sceneD ats deep, .int .u8 q] (.bool true) := by
  refine spo_law29_StackFrees (by rfl) ?_
  have htD : ∀ t : TT, tD t = .agg [mpD .u32 (kKV t.kids), mpD .u32 (uKV t.up)] := fun _ => rfl
  have hgr := sp_law29_great ats deep
  simp only [fits] at h0
  dsimp only [c_law29_StackFrees, r_law29_StackFrees, sceneD, run_skip, run_reg, plainB, ifB_true, run_seq, run_blk, run_exit, run_ret, run_ite, iteR, regK, thenK_nrm, thenK_exit, thenK_ret, thenR_nrm, thenR_exit, thenR_ret, blkK, keepS, keepE, runOps_nil, runOps_cons, goG_some, fpOk, foot, entOf, allN, memN, goOn_ok, goOn_call, goOn_row, goOn_arr, goOn_ask, goOn_put, goOn_prm, goOn_callK, goOn_callC, goOn_all, guardP, guardO, notInO, stepF, stepLd, stepSt, stepIxs, stepIxa, stepLen, stepApp, stepCpy, stepPick, stepSls, stepSst, stepSla, bareZ, evX, evL, evB, rd, get, subG, memG, freshG, notInG, hyps, gob, impP, allP, partD, partOf, isOne, isPtr, nth, takeN, dropN, cellsD, lenB, fillD, thirds, entN, setE, sizeE, addE, setL, setN, putE, env0, eqCs, eqAux, eqC, bA, bO, bN, bE, negB, kEq, isShr, lendL, lend, frz, frzL, zRow, closed, closedL, rowsOf, binI, retK, retG, atRet, retD, lendO, resL, resD, oneD, renD, renL, renE, renEs, rho, putAll, entsN, List.append, List.nil_append, List.cons_append, List.append_nil, cond, Nat.reduceBEq, Nat.reduceAdd, Nat.beq] at *
  refine call_pure hgr ?_
  dsimp only [run_skip, run_reg, plainB, ifB_true, run_seq, run_blk, run_exit, run_ret, run_ite, iteR, regK, thenK_nrm, thenK_exit, thenK_ret, thenR_nrm, thenR_exit, thenR_ret, blkK, keepS, keepE, runOps_nil, runOps_cons, goG_some, fpOk, foot, entOf, allN, memN, goOn_ok, goOn_call, goOn_row, goOn_arr, goOn_ask, goOn_put, goOn_prm, goOn_callK, goOn_callC, goOn_all, guardP, guardO, notInO, stepF, stepLd, stepSt, stepIxs, stepIxa, stepLen, stepApp, stepCpy, stepPick, stepSls, stepSst, stepSla, bareZ, evX, evL, evB, rd, get, subG, memG, freshG, notInG, hyps, gob, impP, allP, partD, partOf, isOne, isPtr, nth, takeN, dropN, cellsD, lenB, fillD, thirds, entN, setE, sizeE, addE, setL, setN, putE, env0, eqCs, eqAux, eqC, bA, bO, bN, bE, negB, kEq, isShr, lendL, lend, frz, frzL, zRow, closed, closedL, rowsOf, binI, retK, retG, atRet, retD, lendO, resL, resD, oneD, renD, renL, renE, renEs, rho, putAll, entsN, List.append, List.nil_append, List.cons_append, List.append_nil, cond, Nat.reduceBEq, Nat.reduceAdd, Nat.beq]
  rw [rL_len]
  refine ⟨fun _ => call_pure sp_law29_awake rfl, fun hg => ?_⟩
  simp only [Bool.or_eq_false_iff, decide_eq_false_iff_not] at hg
  have hl : ats.length ≤ 8 := by omega
  have hpos : 0 < ats.length := by omega
  have hmk := sp_law29_made (ats := ats) (deep := deep) hl hd
  have hT := TR.first hl deep
  have hm := mB_ok hin (deep := deep) hl (j := ats.length)
  have hs0 : ((List.range ats.length).map fun (j : Nat) => (j : Int) + 1) = sig0 ats.length := rfl
  rw [hs0] at hT
  generalize hn : tB ats.length deep ats.length = t at *
  rw [htD] at hmk
  dsimp only [sceneD] at hmk
  refine call_pure hmk ?_
  dsimp only [run_skip, run_reg, plainB, ifB_true, run_seq, run_blk, run_exit, run_ret, run_ite, iteR, regK, thenK_nrm, thenK_exit, thenK_ret, thenR_nrm, thenR_exit, thenR_ret, blkK, keepS, keepE, runOps_nil, runOps_cons, goG_some, fpOk, foot, entOf, allN, memN, goOn_ok, goOn_call, goOn_row, goOn_arr, goOn_ask, goOn_put, goOn_prm, goOn_callK, goOn_callC, goOn_all, guardP, guardO, notInO, stepF, stepLd, stepSt, stepIxs, stepIxa, stepLen, stepApp, stepCpy, stepPick, stepSls, stepSst, stepSla, bareZ, evX, evL, evB, rd, get, subG, memG, freshG, notInG, hyps, gob, impP, allP, partD, partOf, isOne, isPtr, nth, takeN, dropN, cellsD, lenB, fillD, thirds, entN, setE, sizeE, addE, setL, setN, putE, env0, eqCs, eqAux, eqC, bA, bO, bN, bE, negB, kEq, isShr, lendL, lend, frz, frzL, zRow, closed, closedL, rowsOf, binI, retK, retG, atRet, retD, lendO, resL, resD, oneD, renD, renL, renE, renEs, rho, putAll, entsN, List.append, List.nil_append, List.cons_append, List.append_nil, cond, Nat.reduceBEq, Nat.reduceAdd, Nat.beq]
  refine ⟨nofun, fun _ => ?_⟩
  have hq0 : 0 ≤ q % (ats.length : Int) := Int.emod_nonneg _ (by omega)
  have hq1 : q % (ats.length : Int) < ats.length := Int.emod_lt_of_pos _ (by omega)
  rw [rL_len]
  refine ⟨by simp only [fits]; omega, ⟨by omega, by omega⟩, by simp only [fits]; omega, by simp only [fits]; omega, ?_⟩
  generalize q % (ats.length : Int) = z at *
  obtain ⟨a, rfl⟩ : ∃ a, z = a - 1 := ⟨z + 1, by omega⟩
  rw [show (1048577 : Int) + (a - 1) = 1048576 + a by omega]
  have ha : a ∈ sig0 ats.length := sig0_mem.2 (by omega)
  obtain ⟨t1, e1, T1⟩ := restack_ok (mode := 2) (b := 0) hT ha (.inl rfl) (by omega) (by omega)
  obtain ⟨t2, e2, T2⟩ := restack_ok (mode := 3) (b := 0) hT ha (.inl rfl) (by omega) (by omega)
  obtain ⟨t3, e3, T3⟩ := restack_ok (mode := 4) (b := 0) hT ha (.inl rfl) (by omega) (by omega)
  have f2 := frees2 (ats := ats) (a := a) hT.nd
  have f3 := frees3 (ats := ats) (a := a) hT.nd
  have f4 := frees4 (ats := ats) (a := a) hT.nd
  have r1 := sp_stack_Restack hT.reg hm (1048576 + a) 0 2
  have r2 := sp_stack_Restack hT.reg hm (1048576 + a) 0 3
  have r3 := sp_stack_Restack hT.reg hm (1048576 + a) 0 4
  rw [show sibI 0 = 0 from rfl] at e1 e2 e3
  rw [e1, htD] at r1
  rw [e2, htD] at r2
  rw [e3, htD] at r3
  have m1 : a ∈ newS ats (sig0 ats.length) a 0 2 := (T1.mem a).2 (by omega)
  have m2 : a ∈ newS ats (sig0 ats.length) a 0 3 := (T2.mem a).2 (by omega)
  have m3 : a ∈ newS ats (sig0 ats.length) a 0 4 := (T3.mem a).2 (by omega)
  generalize newS ats (sig0 ats.length) a 0 2 = σ1 at *
  generalize newS ats (sig0 ats.length) a 0 3 = σ2 at *
  generalize newS ats (sig0 ats.length) a 0 4 = σ3 at *
  refine call_pure r1 ?_
  dsimp only [run_skip, run_reg, plainB, ifB_true, run_seq, run_blk, run_exit, run_ret, run_ite, iteR, regK, thenK_nrm, thenK_exit, thenK_ret, thenR_nrm, thenR_exit, thenR_ret, blkK, keepS, keepE, runOps_nil, runOps_cons, goG_some, fpOk, foot, entOf, allN, memN, goOn_ok, goOn_call, goOn_row, goOn_arr, goOn_ask, goOn_put, goOn_prm, goOn_callK, goOn_callC, goOn_all, guardP, guardO, notInO, stepF, stepLd, stepSt, stepIxs, stepIxa, stepLen, stepApp, stepCpy, stepPick, stepSls, stepSst, stepSla, bareZ, evX, evL, evB, rd, get, subG, memG, freshG, notInG, hyps, gob, impP, allP, partD, partOf, isOne, isPtr, nth, takeN, dropN, cellsD, lenB, fillD, thirds, entN, setE, sizeE, addE, setL, setN, putE, env0, eqCs, eqAux, eqC, bA, bO, bN, bE, negB, kEq, isShr, lendL, lend, frz, frzL, zRow, closed, closedL, rowsOf, binI, retK, retG, atRet, retD, lendO, resL, resD, oneD, renD, renL, renE, renEs, rho, putAll, entsN, List.append, List.nil_append, List.cons_append, List.append_nil, cond, Nat.reduceBEq, Nat.reduceAdd, Nat.beq]
  refine call_pure r2 ?_
  dsimp only [run_skip, run_reg, plainB, ifB_true, run_seq, run_blk, run_exit, run_ret, run_ite, iteR, regK, thenK_nrm, thenK_exit, thenK_ret, thenR_nrm, thenR_exit, thenR_ret, blkK, keepS, keepE, runOps_nil, runOps_cons, goG_some, fpOk, foot, entOf, allN, memN, goOn_ok, goOn_call, goOn_row, goOn_arr, goOn_ask, goOn_put, goOn_prm, goOn_callK, goOn_callC, goOn_all, guardP, guardO, notInO, stepF, stepLd, stepSt, stepIxs, stepIxa, stepLen, stepApp, stepCpy, stepPick, stepSls, stepSst, stepSla, bareZ, evX, evL, evB, rd, get, subG, memG, freshG, notInG, hyps, gob, impP, allP, partD, partOf, isOne, isPtr, nth, takeN, dropN, cellsD, lenB, fillD, thirds, entN, setE, sizeE, addE, setL, setN, putE, env0, eqCs, eqAux, eqC, bA, bO, bN, bE, negB, kEq, isShr, lendL, lend, frz, frzL, zRow, closed, closedL, rowsOf, binI, retK, retG, atRet, retD, lendO, resL, resD, oneD, renD, renL, renE, renEs, rho, putAll, entsN, List.append, List.nil_append, List.cons_append, List.append_nil, cond, Nat.reduceBEq, Nat.reduceAdd, Nat.beq]
  refine call_pure r3 ?_
  dsimp only [run_skip, run_reg, plainB, ifB_true, run_seq, run_blk, run_exit, run_ret, run_ite, iteR, regK, thenK_nrm, thenK_exit, thenK_ret, thenR_nrm, thenR_exit, thenR_ret, blkK, keepS, keepE, runOps_nil, runOps_cons, goG_some, fpOk, foot, entOf, allN, memN, goOn_ok, goOn_call, goOn_row, goOn_arr, goOn_ask, goOn_put, goOn_prm, goOn_callK, goOn_callC, goOn_all, guardP, guardO, notInO, stepF, stepLd, stepSt, stepIxs, stepIxa, stepLen, stepApp, stepCpy, stepPick, stepSls, stepSst, stepSla, bareZ, evX, evL, evB, rd, get, subG, memG, freshG, notInG, hyps, gob, impP, allP, partD, partOf, isOne, isPtr, nth, takeN, dropN, cellsD, lenB, fillD, thirds, entN, setE, sizeE, addE, setL, setN, putE, env0, eqCs, eqAux, eqC, bA, bO, bN, bE, negB, kEq, isShr, lendL, lend, frz, frzL, zRow, closed, closedL, rowsOf, binI, retK, retG, atRet, retD, lendO, resL, resD, oneD, renD, renL, renE, renEs, rho, putAll, entsN, List.append, List.nil_append, List.cons_append, List.append_nil, cond, Nat.reduceBEq, Nat.reduceAdd, Nat.beq]
  refine ⟨nofun, fun _ => ?_⟩
  refine loop_ind (α := {i : Nat // i ≤ ats.length}) (fun i => stFr ats deep a (mB ats deep ats.length) t t1 t2 t3 (fun j => hidS ats σ3 ((j : Int) + 1) a) (fun j => hidS ats σ3 a ((j : Int) + 1)) i.1) (fun i => ats.length - i.1) ?_ ⟨0, by simp⟩ rfl
  rintro ⟨i, hi⟩ I ih
  dsimp only [stFr, run_skip, run_reg, plainB, ifB_true, run_seq, run_blk, run_exit, run_ret, run_ite, iteR, regK, thenK_nrm, thenK_exit, thenK_ret, thenR_nrm, thenR_exit, thenR_ret, blkK, keepS, keepE, runOps_nil, runOps_cons, goG_some, fpOk, foot, entOf, allN, memN, goOn_ok, goOn_call, goOn_row, goOn_arr, goOn_ask, goOn_put, goOn_prm, goOn_callK, goOn_callC, goOn_all, guardP, guardO, notInO, stepF, stepLd, stepSt, stepIxs, stepIxa, stepLen, stepApp, stepCpy, stepPick, stepSls, stepSst, stepSla, bareZ, evX, evL, evB, rd, get, subG, memG, freshG, notInG, hyps, gob, impP, allP, partD, partOf, isOne, isPtr, nth, takeN, dropN, cellsD, lenB, fillD, thirds, entN, setE, sizeE, addE, setL, setN, putE, env0, eqCs, eqAux, eqC, bA, bO, bN, bE, negB, kEq, isShr, lendL, lend, frz, frzL, zRow, closed, closedL, rowsOf, binI, retK, retG, atRet, retD, lendO, resL, resD, oneD, renD, renL, renE, renEs, rho, putAll, entsN, List.append, List.nil_append, List.cons_append, List.append_nil, cond, Nat.reduceBEq, Nat.reduceAdd, Nat.beq]
  rw [rL_len]
  refine ⟨fun hj => ?_, fun hj => ?_⟩
  · have hj : i < ats.length := by simp at hj; omega
    have o1 : (i : Int) + 1 ∈ σ1 := (T1.mem _).2 (by omega)
    have o2 : (i : Int) + 1 ∈ σ2 := (T2.mem _).2 (by omega)
    have o3 : (i : Int) + 1 ∈ σ3 := (T3.mem _).2 (by omega)
    have H1 := sp_stack_Hides T1.ok hm (1048576 + ((i : Int) + 1)) (1048576 + a)
    have H2 := sp_stack_Hides T2.ok hm (1048576 + a) (1048576 + ((i : Int) + 1))
    have H3 := sp_stack_Hides T3.ok hm (1048576 + ((i : Int) + 1)) (1048576 + a)
    have H4 := sp_stack_Hides T3.ok hm (1048576 + a) (1048576 + ((i : Int) + 1))
    rw [hides_eq T1 o1 m1, f2 _ o1, htD] at H1
    rw [hides_eq T2 m2 o2, f3 _ o2, htD] at H2
    rw [hides_eq T3 o3 m3, htD] at H3
    rw [hides_eq T3 m3 o3, htD] at H4
    refine ⟨by simp only [fits]; omega, by simp only [fits]; omega, ?_⟩
    rw [show (1048577 : Int) + (i : Int) = 1048576 + ((i : Int) + 1) by omega]
    refine call_pure H1 ?_
    dsimp only [run_skip, run_reg, plainB, ifB_true, run_seq, run_blk, run_exit, run_ret, run_ite, iteR, regK, thenK_nrm, thenK_exit, thenK_ret, thenR_nrm, thenR_exit, thenR_ret, blkK, keepS, keepE, runOps_nil, runOps_cons, goG_some, fpOk, foot, entOf, allN, memN, goOn_ok, goOn_call, goOn_row, goOn_arr, goOn_ask, goOn_put, goOn_prm, goOn_callK, goOn_callC, goOn_all, guardP, guardO, notInO, stepF, stepLd, stepSt, stepIxs, stepIxa, stepLen, stepApp, stepCpy, stepPick, stepSls, stepSst, stepSla, bareZ, evX, evL, evB, rd, get, subG, memG, freshG, notInG, hyps, gob, impP, allP, partD, partOf, isOne, isPtr, nth, takeN, dropN, cellsD, lenB, fillD, thirds, entN, setE, sizeE, addE, setL, setN, putE, env0, eqCs, eqAux, eqC, bA, bO, bN, bE, negB, kEq, isShr, lendL, lend, frz, frzL, zRow, closed, closedL, rowsOf, binI, retK, retG, atRet, retD, lendO, resL, resD, oneD, renD, renL, renE, renEs, rho, putAll, entsN, List.append, List.nil_append, List.cons_append, List.append_nil, cond, Nat.reduceBEq, Nat.reduceAdd, Nat.beq]
    refine call_pure (fun _ => H2) ?_
    dsimp only [run_skip, run_reg, plainB, ifB_true, run_seq, run_blk, run_exit, run_ret, run_ite, iteR, regK, thenK_nrm, thenK_exit, thenK_ret, thenR_nrm, thenR_exit, thenR_ret, blkK, keepS, keepE, runOps_nil, runOps_cons, goG_some, fpOk, foot, entOf, allN, memN, goOn_ok, goOn_call, goOn_row, goOn_arr, goOn_ask, goOn_put, goOn_prm, goOn_callK, goOn_callC, goOn_all, guardP, guardO, notInO, stepF, stepLd, stepSt, stepIxs, stepIxa, stepLen, stepApp, stepCpy, stepPick, stepSls, stepSst, stepSla, bareZ, evX, evL, evB, rd, get, subG, memG, freshG, notInG, hyps, gob, impP, allP, partD, partOf, isOne, isPtr, nth, takeN, dropN, cellsD, lenB, fillD, thirds, entN, setE, sizeE, addE, setL, setN, putE, env0, eqCs, eqAux, eqC, bA, bO, bN, bE, negB, kEq, isShr, lendL, lend, frz, frzL, zRow, closed, closedL, rowsOf, binI, retK, retG, atRet, retD, lendO, resL, resD, oneD, renD, renL, renE, renEs, rho, putAll, entsN, List.append, List.nil_append, List.cons_append, List.append_nil, cond, Nat.reduceBEq, Nat.reduceAdd, Nat.beq]
    refine ⟨nofun, fun _ => ?_⟩
    refine call_pure (fun _ => H3) ?_
    dsimp only [run_skip, run_reg, plainB, ifB_true, run_seq, run_blk, run_exit, run_ret, run_ite, iteR, regK, thenK_nrm, thenK_exit, thenK_ret, thenR_nrm, thenR_exit, thenR_ret, blkK, keepS, keepE, runOps_nil, runOps_cons, goG_some, fpOk, foot, entOf, allN, memN, goOn_ok, goOn_call, goOn_row, goOn_arr, goOn_ask, goOn_put, goOn_prm, goOn_callK, goOn_callC, goOn_all, guardP, guardO, notInO, stepF, stepLd, stepSt, stepIxs, stepIxa, stepLen, stepApp, stepCpy, stepPick, stepSls, stepSst, stepSla, bareZ, evX, evL, evB, rd, get, subG, memG, freshG, notInG, hyps, gob, impP, allP, partD, partOf, isOne, isPtr, nth, takeN, dropN, cellsD, lenB, fillD, thirds, entN, setE, sizeE, addE, setL, setN, putE, env0, eqCs, eqAux, eqC, bA, bO, bN, bE, negB, kEq, isShr, lendL, lend, frz, frzL, zRow, closed, closedL, rowsOf, binI, retK, retG, atRet, retD, lendO, resL, resD, oneD, renD, renL, renE, renEs, rho, putAll, entsN, List.append, List.nil_append, List.cons_append, List.append_nil, cond, Nat.reduceBEq, Nat.reduceAdd, Nat.beq]
    refine call_pure (fun _ => H4) ?_
    dsimp only [run_skip, run_reg, plainB, ifB_true, run_seq, run_blk, run_exit, run_ret, run_ite, iteR, regK, thenK_nrm, thenK_exit, thenK_ret, thenR_nrm, thenR_exit, thenR_ret, blkK, keepS, keepE, runOps_nil, runOps_cons, goG_some, fpOk, foot, entOf, allN, memN, goOn_ok, goOn_call, goOn_row, goOn_arr, goOn_ask, goOn_put, goOn_prm, goOn_callK, goOn_callC, goOn_all, guardP, guardO, notInO, stepF, stepLd, stepSt, stepIxs, stepIxa, stepLen, stepApp, stepCpy, stepPick, stepSls, stepSst, stepSla, bareZ, evX, evL, evB, rd, get, subG, memG, freshG, notInG, hyps, gob, impP, allP, partD, partOf, isOne, isPtr, nth, takeN, dropN, cellsD, lenB, fillD, thirds, entN, setE, sizeE, addE, setL, setN, putE, env0, eqCs, eqAux, eqC, bA, bO, bN, bE, negB, kEq, isShr, lendL, lend, frz, frzL, zRow, closed, closedL, rowsOf, binI, retK, retG, atRet, retD, lendO, resL, resD, oneD, renD, renL, renE, renEs, rho, putAll, entsN, List.append, List.nil_append, List.cons_append, List.append_nil, cond, Nat.reduceBEq, Nat.reduceAdd, Nat.beq]
    refine ⟨by simp only [fits]; omega, ?_⟩
    refine again (ih ⟨i + 1, by omega⟩ (by dsimp only; omega)) ?_ ⟨rfl, rfl, rfl, rfl, rfl, trivial⟩ rfl rfl
    dsimp only [stFr]
    rw [anyU_snoc, anyU_snoc]
    exact ⟨rfl, rfl, rfl, rfl, rfl, rfl, rfl, rfl, rfl, trivial⟩
  · have hj : i = ats.length := by simp at hj; omega
    subst hj
    have hfin : (anyU (fun j => hidS ats σ3 ((j : Int) + 1) a) ats.length 0 && anyU (fun j => hidS ats σ3 a ((j : Int) + 1)) ats.length 0) = false := by
      rcases f4 with f4 | f4
      · rw [anyU_none (fun k hk => f4 _ ((T3.mem _).2 (by omega)))]; rfl
      · rw [anyU_none (p := fun j => hidS ats σ3 a ((j : Int) + 1)) (fun k hk => f4 _ ((T3.mem _).2 (by omega))), Bool.and_false]
    refine call_pure (fun _ => sp_law29_awake) ?_
    dsimp only [run_skip, run_reg, plainB, ifB_true, run_seq, run_blk, run_exit, run_ret, run_ite, iteR, regK, thenK_nrm, thenK_exit, thenK_ret, thenR_nrm, thenR_exit, thenR_ret, blkK, keepS, keepE, runOps_nil, runOps_cons, goG_some, fpOk, foot, entOf, allN, memN, goOn_ok, goOn_call, goOn_row, goOn_arr, goOn_ask, goOn_put, goOn_prm, goOn_callK, goOn_callC, goOn_all, guardP, guardO, notInO, stepF, stepLd, stepSt, stepIxs, stepIxa, stepLen, stepApp, stepCpy, stepPick, stepSls, stepSst, stepSla, bareZ, evX, evL, evB, rd, get, subG, memG, freshG, notInG, hyps, gob, impP, allP, partD, partOf, isOne, isPtr, nth, takeN, dropN, cellsD, lenB, fillD, thirds, entN, setE, sizeE, addE, setL, setN, putE, env0, eqCs, eqAux, eqC, bA, bO, bN, bE, negB, kEq, isShr, lendL, lend, frz, frzL, zRow, closed, closedL, rowsOf, binI, retK, retG, atRet, retD, lendO, resL, resD, oneD, renD, renL, renE, renEs, rho, putAll, entsN, List.append, List.nil_append, List.cons_append, List.append_nil, cond, Nat.reduceBEq, Nat.reduceAdd, Nat.beq]
    rw [hfin]
    rfl
end Go.AM
