
/- Chapter 52: what is moved. -/
import Derived.Test.YtnjmjiajbgdnlaaN22
set_option linter.all false
namespace Go.AM
open Go Go.Proofs

def fewB (L : List Nd) : Bool := (L.take 70).all (fun nd => decide (nd.kids.length ≤ 70)) && decide (L.length ≤ 70)
theorem few_of {L : List Nd} (h : fewB L = true) : L.length ≤ 70 ∧ ∀ nd ∈ L, nd.kids.length ≤ 70 := by
  unfold fewB at h
  simp only [Bool.and_eq_true, decide_eq_true_eq] at h
  rw [List.take_of_length_le h.2] at h
  exact ⟨h.2, fun nd hnd => by have := List.all_eq_true.1 h.1 nd hnd; simpa using this⟩
theorem few_kids {L : List Nd} (h : fewB L = true) : ∀ nd ∈ L, nd.kids.length < 9223372036854775807 := fun nd hnd => by have := (few_of h).2 nd hnd; omega
theorem sp_law52_few {L : List Nd} : TSp 13 [.ls 6 (lD L)] (.bool (fewB L)) := by
  refine spo_law52_few (by rfl) ?_
  dsimp only [c_law52_few, r_law52_few, run_skip, run_reg, plainB, ifB_true, run_seq, run_blk, run_exit, run_ret, run_ite, iteR, regK, thenK_nrm, thenK_exit, thenK_ret, thenR_nrm, thenR_exit, thenR_ret, blkK, keepS, keepE, runOps_nil, runOps_cons, goG_some, fpOk, foot, entOf, allN, memN, goOn_ok, goOn_call, goOn_row, goOn_arr, goOn_ask, goOn_put, guardP, guardO, notInO, stepF, stepLd, stepSt, stepIxs, stepIxa, stepLen, stepApp, stepCpy, stepPick, stepSls, stepSst, stepSla, evX, evL, evB, rd, get, subG, memG, freshG, notInG, hyps, gob, impP, allP, partD, partOf, isOne, isPtr, nth, takeN, dropN, cellsD, lenB, fillD, thirds, entN, setE, sizeE, addE, setL, setN, putE, env0, eqCs, eqAux, eqC, bA, bO, bN, bE, negB, kEq, isShr, lendL, lend, frz, frzL, zRow, closed, closedL, rowsOf, binI, retK, retG, atRet, retD, lendO, resL, resD, oneD, renD, renL, renE, renEs, rho, putAll, entsN, List.append, List.nil_append, List.cons_append, List.append_nil, cond, Nat.reduceBEq, Nat.reduceAdd, Nat.beq]
  refine loop_ind (α := {i : Nat // i ≤ L.length ∧ i ≤ 70 ∧ (L.take i).all (fun nd => decide (nd.kids.length ≤ 70)) = true}) (fun i => ⟨[(0, [], .ls 6 (lD L)), (3, [], .int .i64 i.1)], []⟩) (fun i => L.length - i.1) ?_ ⟨0, by simp⟩ rfl
  rintro ⟨i, h1, h2, h3⟩ I ih
  dsimp only [run_skip, run_reg, plainB, ifB_true, run_seq, run_blk, run_exit, run_ret, run_ite, iteR, regK, thenK_nrm, thenK_exit, thenK_ret, thenR_nrm, thenR_exit, thenR_ret, blkK, keepS, keepE, runOps_nil, runOps_cons, goG_some, fpOk, foot, entOf, allN, memN, goOn_ok, goOn_call, goOn_row, goOn_arr, goOn_ask, goOn_put, guardP, guardO, notInO, stepF, stepLd, stepSt, stepIxs, stepIxa, stepLen, stepApp, stepCpy, stepPick, stepSls, stepSst, stepSla, evX, evL, evB, rd, get, subG, memG, freshG, notInG, hyps, gob, impP, allP, partD, partOf, isOne, isPtr, nth, takeN, dropN, cellsD, lenB, fillD, thirds, entN, setE, sizeE, addE, setL, setN, putE, env0, eqCs, eqAux, eqC, bA, bO, bN, bE, negB, kEq, isShr, lendL, lend, frz, frzL, zRow, closed, closedL, rowsOf, binI, retK, retG, atRet, retD, lendO, resL, resD, oneD, renD, renL, renE, renEs, rho, putAll, entsN, List.append, List.nil_append, List.cons_append, List.append_nil, cond, Nat.reduceBEq, Nat.reduceAdd, Nat.beq]
  rw [lD_len]
  refine ⟨fun hi => ?_, fun hi => ?_⟩
  · have hi : i < L.length ∧ i < 70 := by simp at hi; omega
    refine ⟨⟨rfl, by omega, by omega⟩, row_intro _ _ (lD_at hi.1) rfl ?_⟩
    have e : (L.take (i + 1)) = L.take i ++ [L[i]] := List.take_succ_eq_append_getElem hi.1
    have hm : L[i] ∈ L.take 70 := by rw [List.mem_take_iff_getElem]; exact ⟨i, by omega, rfl⟩
    generalize L[i] = nd at *
    dsimp only [run_skip, run_reg, plainB, ifB_true, run_seq, run_blk, run_exit, run_ret, run_ite, iteR, regK, thenK_nrm, thenK_exit, thenK_ret, thenR_nrm, thenR_exit, thenR_ret, blkK, keepS, keepE, runOps_nil, runOps_cons, goG_some, fpOk, foot, entOf, allN, memN, goOn_ok, goOn_call, goOn_row, goOn_arr, goOn_ask, goOn_put, guardP, guardO, notInO, stepF, stepLd, stepSt, stepIxs, stepIxa, stepLen, stepApp, stepCpy, stepPick, stepSls, stepSst, stepSla, evX, evL, evB, rd, get, subG, memG, freshG, notInG, hyps, gob, impP, allP, partD, partOf, isOne, isPtr, nth, takeN, dropN, cellsD, lenB, fillD, thirds, entN, setE, sizeE, addE, setL, setN, putE, env0, eqCs, eqAux, eqC, bA, bO, bN, bE, negB, kEq, isShr, lendL, lend, frz, frzL, zRow, closed, closedL, rowsOf, binI, retK, retG, atRet, retD, lendO, resL, resD, oneD, renD, renL, renE, renEs, rho, putAll, entsN, List.append, List.nil_append, List.cons_append, List.append_nil, cond, Nat.reduceBEq, Nat.reduceAdd, Nat.beq]
    rw [iD_len]
    refine ⟨fun hb => ?_, fun hb => ?_⟩
    · have : fewB L = false := by
        unfold fewB
        rw [Bool.and_eq_false_iff]
        left
        rw [List.all_eq_false]
        exact ⟨nd, hm, by simp at hb ⊢; omega⟩
      rw [this]
    · refine ⟨by simp only [fits]; omega, ?_⟩
      refine again (ih ⟨i + 1, by omega, by omega, ?_⟩ (by dsimp only; omega)) ?_ ?_ rfl rfl
      · rw [e, List.all_append, h3]; simp at hb ⊢; omega
      · exact ⟨rfl, rfl, trivial⟩
      · exact trivial
  · have hi : i = L.length ∨ i = 70 := by simp at hi; omega
    have : fewB L = decide ((L.length : Int) ≤ 70) := by
      unfold fewB
      rcases hi with rfl | rfl
      · have hl : L.length ≤ 70 := h2
        rw [List.take_of_length_le hl]
        rw [List.take_length] at h3
        rw [h3]; simp; omega
      · rw [h3, Bool.true_and, Bool.eq_iff_iff, decide_eq_true_eq, decide_eq_true_eq]; omega
    rw [this]

theorem place_cond {r : Rc} (hx : -2000 ≤ r.x ∧ r.x ≤ 2000) (hy : -2000 ≤ r.y ∧ r.y ≤ 2000) : (!okB r || emptyB r || decide (1000000 < r.w) || decide (1000000 < r.h)) = !(decide (1 ≤ r.w) && decide (r.w ≤ 1000000) && decide (1 ≤ r.h) && decide (r.h ≤ 1000000)) := by
  rw [Bool.eq_iff_iff]
  simp only [Bool.or_eq_true, Bool.not_eq_true', Bool.and_eq_false_iff, decide_eq_true_eq, decide_eq_false_iff_not]
  cases he : emptyB r with
  | false =>
    have h1 := empty_iff.1 he
    have h2 : okB r = true := okB_iff.2 (.inr h1)
    rw [h2]
    simp only [Vr] at h1
    simp; omega
  | true =>
    have h1 := empty_true.1 he
    simp only [Vr] at h1
    simp; omega

def shR (dx dy : Int) (q : Rc) : Rc := ⟨q.x + dx, q.y + dy, q.w, q.h⟩
theorem parts_sh {L : List Nd} {nd : Nd} {q : Rc} {dx dy : Int} : partsOf L nd (shR dx dy q) = partsOf L nd q := rfl
theorem kidR_sh {nd : Nd} {q : Rc} {P : List Int} {j : Nat} {dx dy : Int} : kidR nd (shR dx dy q) P j = shR dx dy (kidR nd q P j) := by
  unfold kidR kidAt posJ shR
  cases nd.down <;> simp <;> omega
theorem frm_sh {L : List Nd} (t : Tree L) {r : Rc} {F F' : Nat → Rc} {dx dy : Int} (h : Frm L r F) (h' : Frm L (shR dx dy r) F') : ∀ (n i : Nat), i ≤ n → i < L.length → F' i = shR dx dy (F i)
  | 0, i, hi, _ => by
    have : i = 0 := by omega
    subst this; rw [h.zero, h'.zero]
  | n + 1, i, hi, hl => by
    by_cases h0 : i = 0
    · subst h0; rw [h.zero, h'.zero]
    · obtain ⟨m, nd, h1, h2⟩ := allK_mem (t.all i (by omega) hl)
      have h3 := t.behind m nd h1 i h2
      obtain ⟨j, hj⟩ := List.getElem?_of_mem h2
      have e1 := h.kid m nd h1 j _ hj
      have e2 := h'.kid m nd h1 j _ hj
      have e3 := frm_sh t h h' n m (by omega) (by omega)
      rw [Int.toNat_natCast] at e1 e2
      rw [e1, e2, e3, parts_sh, kidR_sh]

structure InsR (r q : Rc) : Prop where
  x : r.x ≤ q.x ∧ q.x + q.w ≤ r.x + r.w
  y : r.y ≤ q.y ∧ q.y + q.h ≤ r.y + r.h
  w : 0 ≤ q.w
  h : 0 ≤ q.h
theorem parts_all {total : Int} {least grow P : List Int} (s : SplitOk total least grow P) : (∀ p ∈ P, 0 ≤ p) ∧ P.sum ≤ total ∧ (0 < least.length → P.sum = total) := by
  have h0 : 0 ≤ total - least.sum := by have := s.le; omega
  have hs := parts_sum (left := total - least.sum) s.len least.length (Nat.le_refl _)
  rw [← s.P, ← s.lenP, List.take_length, s.lenP, List.take_length] at hs
  refine ⟨fun p hp => ?_, ?_, fun hpos => ?_⟩
  · obtain ⟨j, hj, rfl⟩ := List.getElem_of_mem hp
    have hj' : j < least.length := by rw [← s.lenP]; exact hj
    obtain ⟨p, h1, h2, _⟩ := s.get hj'
    rw [List.getElem?_eq_getElem hj] at h1
    cases h1
    have := (s.l0 _ (List.getElem_mem hj')).1
    omega
  · have := (up_bd s.g0 h0 least.length).2; omega
  · have hg := s.len
    rw [hg, up_last (by omega)] at hs
    omega
/-- A kid lies in its node. -/
theorem kid_in {L : List Nd} (t : Tree L) {i : Nat} {nd : Nd} {q : Rc} (h : L[i]? = some nd) (hb : Bg L i q) {j : Nat} {k : Int} (hj : nd.kids[j]? = some k) : InsR q (kidR nd q (partsOf L nd q).1 j) := by
  have ho := nd_ok t h hb
  obtain ⟨p1, p2, p3⟩ := parts_all ho.ok
  obtain ⟨hjl, _⟩ := List.getElem?_eq_some_iff.1 hj
  have hg := gaps_nn t (List.mem_of_getElem? h)
  have hpl : (partsOf L nd q).1.length = nd.kids.length := by rw [ho.ok.lenP]; simp [leastL]
  have hsn := siz_nn t i
  have e1 : ((partsOf L nd q).1.take (j + 1)).sum = ((partsOf L nd q).1.take j).sum + (partsOf L nd q).1.getD j 0 := by rw [take_sum (by omega)]; simp [show j < (partsOf L nd q).1.length by omega]
  have e2 : 0 ≤ ((partsOf L nd q).1.take j).sum := sum_nonneg fun x hx => p1 x (List.mem_of_mem_take hx)
  have e3 : ((partsOf L nd q).1.take (j + 1)).sum ≤ (partsOf L nd q).1.sum := by
    have h2 : 0 ≤ ((partsOf L nd q).1.drop (j + 1)).sum := sum_nonneg fun x hx => p1 x (List.mem_of_mem_drop hx)
    have e : (partsOf L nd q).1.sum = ((partsOf L nd q).1.take (j + 1)).sum + ((partsOf L nd q).1.drop (j + 1)).sum := by rw [← List.sum_append, List.take_append_drop]
    omega
  have e4 : 0 ≤ (partsOf L nd q).1.getD j 0 := by
    rw [List.getD_eq_getElem?_getD, List.getElem?_eq_getElem (by omega)]
    exact p1 _ (List.getElem_mem _)
  have e5 : 0 ≤ (j : Int) * nd.gap ∧ (j : Int) * nd.gap ≤ gapsI nd := by
    refine ⟨Int.mul_nonneg (by omega) hg.1, ?_⟩
    unfold gapsI
    split
    · have : j = 0 := by omega
      subst this; simp
    · rw [Int.mul_comm]; exact Int.mul_le_mul_of_nonneg_left (by omega) hg.1
  have hq := hb.1; have hq2 := hb.2
  unfold kidR kidAt posJ
  generalize (partsOf L nd q).1.getD j 0 = p at *
  generalize ((partsOf L nd q).1.take j).sum = s at *
  generalize (j : Int) * nd.gap = g at *
  unfold turnP at p2
  cases hd : nd.down with
  | true =>
    rw [hd] at p2; simp only [if_true] at *
    exact ⟨⟨by dsimp only; omega, by dsimp only; omega⟩, ⟨by dsimp only; omega, by dsimp only; omega⟩, by dsimp only; omega, by dsimp only; omega⟩
  | false =>
    rw [hd] at p2; simp only [Bool.false_eq_true, if_false] at *
    exact ⟨⟨by dsimp only; omega, by dsimp only; omega⟩, ⟨by dsimp only; omega, by dsimp only; omega⟩, by dsimp only; omega, by dsimp only; omega⟩
theorem frm_in {L : List Nd} (t : Tree L) {r : Rc} {F : Nat → Rc} (h : Frm L r F) : ∀ (n i : Nat), i ≤ n → i < L.length → InsR r (F i) := by
  have h00 : 0 ≤ r.w ∧ 0 ≤ r.h := by
    have h1 := h.big 0 t.len.1
    rw [h.zero] at h1
    have h2 := siz_nn t 0
    have e1 := h1.1; have e2 := h1.2
    omega
  intro n
  induction n with
  | zero =>
    intro i hi hl
    have : i = 0 := by omega
    subst this; rw [h.zero]
    exact ⟨⟨by omega, by omega⟩, ⟨by omega, by omega⟩, h00.1, h00.2⟩
  | succ n ih =>
    intro i hi hl
    by_cases h0 : i = 0
    · subst h0; rw [h.zero]
      exact ⟨⟨by omega, by omega⟩, ⟨by omega, by omega⟩, h00.1, h00.2⟩
    · obtain ⟨m, nd, h1, h2⟩ := allK_mem (t.all i (by omega) hl)
      have h3 := t.behind m nd h1 i h2
      obtain ⟨j, hj⟩ := List.getElem?_of_mem h2
      have e1 := h.kid m nd h1 j _ hj
      rw [Int.toNat_natCast] at e1
      have a := ih m (by omega) (by omega)
      have b := kid_in t h1 (h.big m (by omega)) hj
      rw [← e1] at b
      have a1 := a.x; have a2 := a.y; have b1 := b.x; have b2 := b.y
      exact ⟨⟨by omega, by omega⟩, ⟨by omega, by omega⟩, b.w, b.h⟩

/-- Where all are, if they are. -/
theorem place_ok {L : List Nd} {r : Rc} (h : (placeS L r).2 = 0) : Tree L ∧ (Vr r ∧ r.w ≤ 1000000 ∧ r.h ≤ 1000000) ∧ ∃ F, Frm L r F ∧ (placeS L r).1 = (List.range L.length).map fun i => zf (F i) := by
  unfold placeS at h ⊢
  split at h
  case isFalse hc => exact absurd h hc
  rename_i hc
  rw [if_pos hc]
  have t := tree_of hc
  split at h
  · simp at h
  rename_i h1
  rw [if_neg h1]
  split at h
  · simp at h
  rename_i h2
  rw [if_neg h2]
  simp only [Bool.or_eq_true, Bool.not_eq_true', decide_eq_true_eq, not_or, Bool.not_eq_false, Bool.not_eq_true] at h1 h2
  have hv := empty_iff.1 h1.1.1.2
  have hf := fr_all t (r := r) ⟨⟨by omega, by omega⟩, ⟨by omega, by omega⟩⟩
  generalize (fun i => (atAll L r).getD i Rc.o) = F at hf
  refine ⟨t, ⟨hv, by omega, by omega⟩, F, hf, ?_⟩
  dsimp only
  rw [hf.at_, List.map_map]; rfl
theorem place_err {L : List Nd} {r : Rc} (h : (placeS L r).2 ≠ 0) : (placeS L r).1 = [] := by
  unfold placeS at h ⊢
  split
  · rename_i hc
    rw [if_pos hc] at h
    split
    · rfl
    · rename_i h1
      rw [if_neg h1] at h
      split
      · rfl
      · rename_i h2
        rw [if_neg h2] at h
        exact absurd rfl h
  · rfl
theorem place_sh {L : List Nd} {r : Rc} {dx dy : Int} (hx : -1000 ≤ r.x ∧ r.x ≤ 1000) (hy : -1000 ≤ r.y ∧ r.y ≤ 1000) (h1 : -128 ≤ dx ∧ dx ≤ 127) (h2 : -128 ≤ dy ∧ dy ≤ 127) : (placeS L (shR dx dy r)).2 = (placeS L r).2 := by
  unfold placeS
  rw [place_cond (r := r) ⟨by omega, by omega⟩ ⟨by omega, by omega⟩, place_cond (r := shR dx dy r) (by simp only [shR]; omega) (by simp only [shR]; omega)]
  have key : ∀ (c1 c2 : Bool) (a b : List Rc), (if c1 = true then (([] : List Rc), (1 : Int)) else if c2 = true then ([], 17) else (a, 0)).2 = (if c1 = true then (([] : List Rc), (1 : Int)) else if c2 = true then ([], 17) else (b, 0)).2 := by
    intro c1 c2 a b; cases c1 <;> cases c2 <;> rfl
  split
  · exact key _ _ _ _
  · rfl
theorem zf_sh {r q : Rc} {dx dy : Int} (hv : Vr r) (hi : InsR r q) (h1 : -128 ≤ dx ∧ dx ≤ 127) (h2 : -128 ≤ dy ∧ dy ≤ 127) (hv' : Vr (shR dx dy r)) : shiftR (zf q) dx dy = zf (shR dx dy q) := by
  have a1 := hi.x; have a2 := hi.y; have a3 := hi.w; have a4 := hi.h
  simp only [Vr, shR] at hv hv'
  unfold zf
  by_cases hz : (decide (q.w < 1) || decide (q.h < 1)) = true
  · rw [if_pos hz]
    have : (decide ((shR dx dy q).w < 1) || decide ((shR dx dy q).h < 1)) = true := hz
    rw [if_pos this]
    unfold shiftR; rw [empty_o]; rfl
  · rw [if_neg hz]
    have : ¬ (decide ((shR dx dy q).w < 1) || decide ((shR dx dy q).h < 1)) = true := hz
    rw [if_neg this]
    simp only [Bool.or_eq_true, decide_eq_true_eq, not_or] at hz
    have hq : Vr q := by simp only [Vr]; omega
    unfold shiftR
    rw [empty_iff.2 hq, if_neg (by simp only [Bool.or_eq_true, decide_eq_true_eq, not_or]; simp; omega)]
    exact right_of (.inr (by simp only [Vr]; omega))
end Go.AM
