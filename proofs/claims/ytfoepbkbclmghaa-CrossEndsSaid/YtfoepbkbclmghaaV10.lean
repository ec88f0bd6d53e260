
/- Chapter 36: the trees that are made. -/
import Derived.Test.YtfoepbkbclmghaaV9
set_option linter.all false
namespace Go.AM
open Go Go.Proofs

def idN (n : Int) : Int := if n = 0 then 1 else 1048576 + n
theorem sp_law36_ID {n : Int} (h : 0 ≤ n) (h2 : n ≤ 1000) : TSp 14 [.int .i64 n] (.int .u32 (idN n)) := by
  refine spo_law36_ID (by rfl) ?_
  dsimp only [c_law36_ID, r_law36_ID, run_skip, run_reg, plainB, ifB_true, run_seq, run_blk, run_exit, run_ret, run_ite, iteR, regK, thenK_nrm, thenK_exit, thenK_ret, thenR_nrm, thenR_exit, thenR_ret, blkK, keepS, keepE, runOps_nil, runOps_cons, goG_some, fpOk, foot, entOf, allN, memN, goOn_ok, goOn_call, goOn_row, goOn_arr, goOn_ask, goOn_put, goOn_prm, goOn_callK, goOn_all, guardP, guardO, notInO, stepF, stepLd, stepSt, stepIxs, stepIxa, stepLen, stepApp, stepCpy, stepPick, stepSls, stepSst, stepSla, bareZ, evX, evL, evB, rd, get, subG, memG, freshG, notInG, hyps, gob, impP, allP, partD, partOf, isOne, isPtr, nth, takeN, dropN, cellsD, lenB, fillD, thirds, entN, setE, sizeE, addE, setL, setN, putE, env0, eqCs, eqAux, eqC, bA, bO, bN, bE, negB, kEq, isShr, lendL, lend, frz, frzL, zRow, closed, closedL, rowsOf, binI, retK, retG, atRet, retD, lendO, resL, resD, oneD, renD, renL, renE, renEs, rho, putAll, entsN, List.append, List.nil_append, List.cons_append, List.append_nil, cond, Nat.reduceBEq, Nat.reduceAdd, Nat.beq]
  unfold idN
  by_cases h0 : n = 0
  · subst h0
    exact ⟨fun _ => by first | rfl | trivial, fun h => by simp at h⟩
  · rw [if_neg h0]
    refine ⟨fun h => by simp [h0] at h, fun _ => ?_⟩
    exact ⟨by simp only [fits]; omega, by simp only [fits]; omega, rfl⟩

/-- The tree that is made, window by window. -/
def madeF : TT × Nodes → Int → List Int → TT × Nodes
  | x, _, [] => x
  | (t, L), i, p :: r => madeF (putT t (idN (i + 1)) (idN (p % (i + 1))), L ++ [(idN (i + 1), idN (p % (i + 1)))]) (i + 1) r
def made0 : TT × Nodes := (⟨[], []⟩, [])
def madeT (ps : List Int) : TT × Nodes := madeF made0 0 ps
theorem madeF_snoc {x : TT × Nodes} {i p : Int} : ∀ {ps : List Int}, madeF x i (ps ++ [p]) = (putT (madeF x i ps).1 (idN (i + ps.length + 1)) (idN (p % (i + ps.length + 1))), (madeF x i ps).2 ++ [(idN (i + ps.length + 1), idN (p % (i + ps.length + 1)))]) := by
  intro ps
  induction ps generalizing x i with
  | nil => simp [madeF]
  | cons q r ih =>
    simp only [List.cons_append, madeF, ih, List.length_cons]
    have e : i + 1 + (r.length : Int) + 1 = i + ((r.length + 1 : Nat) : Int) + 1 := by omega
    rw [e]
theorem madeT_snoc {p : Int} {ps : List Int} : madeT (ps ++ [p]) = (putT (madeT ps).1 (idN (ps.length + 1)) (idN (p % (ps.length + 1))), (madeT ps).2 ++ [(idN (ps.length + 1), idN (p % (ps.length + 1)))]) := by
  unfold madeT
  rw [madeF_snoc]; simp
/-- What holds of them. -/
structure Mok (x : TT × Nodes) (n : Nat) : Prop where
  ok : x.1.Ok
  up : x.1.up = x.2
  len : x.2.length = n
  ids : x.2.map (·.1) = (List.range n).map fun (i : Nat) => idN ((i : Int) + 1)
  kl : ∀ id, (kidsT x.1 id).length ≤ n
theorem idN_inj {a b : Int} (ha : 0 ≤ a) (hb : 0 ≤ b) (h : idN a = idN b) : a = b := by
  unfold idN at h; split at h <;> split at h <;> omega
theorem mok_snoc {x : TT × Nodes} {n : Nat} (h : Mok x n) (hn : n < 60) (p : Int) : Mok (putT x.1 (idN (n + 1)) p, x.2 ++ [(idN (n + 1), p)]) (n + 1) := by
  obtain ⟨ok, up, len, ids, kl⟩ := h
  have hfr : lk x.1.up (idN (n + 1)) = none := by
    rw [lk_none, up, ids]
    intro hm
    obtain ⟨i, hi, e⟩ := List.mem_map.1 hm
    have := idN_inj (by omega) (by omega) e
    have := List.mem_range.1 hi
    omega
  have hup : (putT x.1 (idN (n + 1)) p).up = x.2 ++ [(idN (n + 1), p)] := by
    unfold putT
    simp only
    rw [put_absent hfr, up]
  have hk : ∀ id, kidsT (putT x.1 (idN (n + 1)) p) id = if p = id then kidsT x.1 p ++ [idN (n + 1)] else kidsT x.1 id := fun id => by
    unfold kidsT putT
    simp only
    rw [lk_put]
    split <;> rfl
  have hkl : ∀ id, (kidsT (putT x.1 (idN (n + 1)) p) id).length ≤ n + 1 := fun id => by
    rw [hk]
    split
    · simp; exact kl p
    · have := kl id; omega
  refine ⟨⟨put_nd ok.kn, put_nd ok.un, fun id => by have := hkl id; dsimp only; omega, by rw [hup]; simp [len]; omega⟩, hup, by simp [len], ?_, hkl⟩
  rw [List.map_append, ids, List.range_succ, List.map_append]; rfl
theorem mok_made : ∀ {ps : List Int}, ps.length ≤ 60 → Mok (madeT ps) ps.length := by
  intro ps
  generalize hn : ps.length = n
  induction n generalizing ps with
  | zero =>
    have := List.eq_nil_of_length_eq_zero hn
    subst this
    exact fun _ => ⟨⟨by simp [madeT, madeF, made0, NdK], by simp [madeT, madeF, made0, NdK], fun id => by simp [madeT, madeF, made0, kidsT, lk], by simp [madeT, madeF, made0]⟩, rfl, rfl, rfl, fun id => by simp [madeT, madeF, made0, kidsT, lk]⟩
  | succ n ih =>
    intro h
    have hne : ps ≠ [] := fun e => by subst e; simp at hn
    obtain ⟨qs, p, rfl⟩ : ∃ qs p, ps = qs ++ [p] := ⟨ps.dropLast, ps.getLast hne, (List.dropLast_concat_getLast hne).symm⟩
    have hq : qs.length = n := by simpa using hn
    rw [madeT_snoc, hq]
    exact mok_snoc (ih hq (by omega)) (by omega) _
end Go.AM
