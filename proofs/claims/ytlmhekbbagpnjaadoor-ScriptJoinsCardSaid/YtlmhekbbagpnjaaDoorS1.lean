
/- Chapter 63: the shapes, small functions. -/
import Derived.Test.YtlmhekbbagpnjaaDoorCode
set_option linter.all false
namespace Go.AM
open Go Go.Proofs

abbrev Bs := List UInt8
def sL (l : List Bs) : List D := l.map .str
theorem sL_len (l : List Bs) : (sL l).length = l.length := by simp [sL]
theorem sL_at {l : List Bs} {i : Nat} (h : i < l.length) : (sL l)[i]? = some (.str l[i]) := by simp [sL, h]
def nL (l : List Int) : List D := l.map fun n => .int .i64 n
theorem nL_len (l : List Int) : (nL l).length = l.length := by simp [nL]
theorem nL_at {l : List Int} {i : Nat} (h : i < l.length) : (nL l)[i]? = some (.int .i64 l[i]) := by simp [nL, h]
/-- A command. -/
structure Cm where
  line : Int
  op : Int
  nums : List Int
  words : List Bs
  deriving DecidableEq
def cmD (c : Cm) : D := .agg [.int .i64 c.line, .int .i64 c.op, .ls 1 (nL c.nums), .ls 1 (sL c.words)]
def cL (l : List Cm) : List D := l.map cmD
theorem cL_len (l : List Cm) : (cL l).length = l.length := by simp [cL]
theorem cL_at {l : List Cm} {i : Nat} (h : i < l.length) : (cL l)[i]? = some (cmD l[i]) := by simp [cL, h]

/-- A shape. -/
structure Shp where
  name : Bs
  least : Int
  most : Int
  word : Int
  ahead : Int
  deriving Inhabited
def shL : List Shp := [
  ⟨[115, 99, 114, 101, 101, 110], 2, 2, 0, 0⟩, ⟨[106, 111, 105, 110], 2, 2, 1, 0⟩, ⟨[97, 115, 107], 2, 100, 0, 0⟩, ⟨[115, 97, 121], 2, 100, 2, 2⟩,
  ⟨[114, 111, 119], 3, 100, 0, 0⟩, ⟨[98, 121, 116, 101, 115], 1, 1, 2, 1⟩, ⟨[116, 117, 114, 110], 2, 2, 0, 0⟩, ⟨[105, 110, 112, 117, 116], 5, 5, 0, 0⟩,
  ⟨[104, 97, 110, 103], 1, 1, 0, 0⟩, ⟨[115, 104, 111, 119], 0, 0, 0, 0⟩, ⟨[114, 101, 97, 100], 1, 1, 0, 0⟩, ⟨[116, 101, 120, 116], 1, 1, 0, 0⟩,
  ⟨[119, 114, 105, 116, 101], 1, 1, 3, 1⟩, ⟨[108, 111, 115, 101], 2, 2, 0, 0⟩, ⟨[99, 97, 108, 109], 0, 0, 0, 0⟩, ⟨[97, 117, 100, 105, 116], 0, 0, 0, 0⟩]
def shC (s : Shp) : List D := [.str s.name, .int .i64 s.least, .int .i64 s.most, .int .i64 s.word, .int .i64 s.ahead]
def shD : List D := shL.flatMap shC
theorem glob0 : gtab 0 = some shD := rfl
def sh (k : Nat) : Shp := (shL[k]?).getD ⟨[], 0, 0, 0, 0⟩
def nmL : List Bs := shL.map (·.name)
theorem sixteen {k : Nat} (h : k < 16) : k = 0 ∨ k = 1 ∨ k = 2 ∨ k = 3 ∨ k = 4 ∨ k = 5 ∨ k = 6 ∨ k = 7 ∨ k = 8 ∨ k = 9 ∨ k = 10 ∨ k = 11 ∨ k = 12 ∨ k = 13 ∨ k = 14 ∨ k = 15 := by omega
theorem sh_at {k : Nat} (h : k < 16) : partD shD (0 + k * 5) (some 5) = some (.agg (shC (sh k))) := by
  rcases sixteen h with rfl | rfl | rfl | rfl | rfl | rfl | rfl | rfl | rfl | rfl | rfl | rfl | rfl | rfl | rfl | rfl <;> rfl
theorem sh_name {k : Nat} (h : k < 16) : nth shD (0 + k * 5 + 0) = some (.str (sh k).name) := by
  rcases sixteen h with rfl | rfl | rfl | rfl | rfl | rfl | rfl | rfl | rfl | rfl | rfl | rfl | rfl | rfl | rfl | rfl <;> rfl
theorem sh_word {k : Nat} (h : k < 16) : nth shD (0 + k * 5 + 3) = some (.int .i64 (sh k).word) := by
  rcases sixteen h with rfl | rfl | rfl | rfl | rfl | rfl | rfl | rfl | rfl | rfl | rfl | rfl | rfl | rfl | rfl | rfl <;> rfl
theorem sh_ahead {k : Nat} (h : k < 16) : nth shD (0 + k * 5 + 4) = some (.int .i64 (sh k).ahead) := by
  rcases sixteen h with rfl | rfl | rfl | rfl | rfl | rfl | rfl | rfl | rfl | rfl | rfl | rfl | rfl | rfl | rfl | rfl <;> rfl
theorem sh_row {k : Nat} (h : k < 16) : partD shD (k * 5) (some 5) = some (.agg (shC (sh k))) := by
  have := sh_at h; rwa [Nat.zero_add] at this

def nameS (op : Int) : Bs := if decide (op < 0) || decide (16 ≤ op) then [] else (sh op.toNat).name
theorem sp_script_Name {op : Int} : TSp 17 [.int .i64 op] (.str (nameS op)) := by
  refine spo_script_Name (by rfl) ?_
  dsimp only [c_script_Name, r_script_Name, run_skip, run_reg, plainB, ifB_true, run_seq, run_blk, run_exit, run_ret, run_ite, iteR, regK, thenK_nrm, thenK_exit, thenK_ret, thenR_nrm, thenR_exit, thenR_ret, blkK, keepS, keepE, runOps_nil, runOps_cons, goG_some, fpOk, foot, entOf, allN, memN, goOn_ok, goOn_call, goOn_row, goOn_arr, goOn_ask, goOn_put, goOn_prm, goOn_callK, goOn_callC, goOn_all, guardP, guardO, notInO, stepF, stepLd, stepSt, stepIxs, stepIxa, stepLen, stepApp, stepCpy, stepPick, stepSls, stepSst, stepSla, bareZ, evX, evL, evB, rd, get, subG, memG, freshG, notInG, hyps, gob, impP, allP, partD, partOf, isOne, isPtr, nth, takeN, dropN, cellsD, lenB, fillD, thirds, entN, setE, sizeE, addE, setL, setN, putE, env0, eqCs, eqAux, eqC, bA, bO, bN, bE, negB, kEq, isShr, lendL, lend, frz, frzL, zRow, closed, closedL, rowsOf, binI, retK, retG, atRet, retD, lendO, resL, resD, oneD, renD, renL, renE, renEs, rho, putAll, entsN, List.append, List.nil_append, List.cons_append, List.append_nil, cond, Nat.reduceBEq, Nat.reduceAdd, Nat.beq]
  unfold nameS
  refine ⟨fun h => ?_, fun h => ?_⟩
  · rw [if_pos h]
  · rw [if_neg (by rw [h]; simp)]
    simp only [Bool.or_eq_false_iff, decide_eq_false_iff_not] at h
    refine ⟨⟨by omega, by omega⟩, ?_⟩
    rw [glob0]
    dsimp only [run_skip, run_reg, plainB, ifB_true, run_seq, run_blk, run_exit, run_ret, run_ite, iteR, regK, thenK_nrm, thenK_exit, thenK_ret, thenR_nrm, thenR_exit, thenR_ret, blkK, keepS, keepE, runOps_nil, runOps_cons, goG_some, fpOk, foot, entOf, allN, memN, goOn_ok, goOn_call, goOn_row, goOn_arr, goOn_ask, goOn_put, goOn_prm, goOn_callK, goOn_callC, goOn_all, guardP, guardO, notInO, stepF, stepLd, stepSt, stepIxs, stepIxa, stepLen, stepApp, stepCpy, stepPick, stepSls, stepSst, stepSla, bareZ, evX, evL, evB, rd, get, subG, memG, freshG, notInG, hyps, gob, impP, allP, partD, partOf, isOne, isPtr, nth, takeN, dropN, cellsD, lenB, fillD, thirds, entN, setE, sizeE, addE, setL, setN, putE, env0, eqCs, eqAux, eqC, bA, bO, bN, bE, negB, kEq, isShr, lendL, lend, frz, frzL, zRow, closed, closedL, rowsOf, binI, retK, retG, atRet, retD, lendO, resL, resD, oneD, renD, renL, renE, renEs, rho, putAll, entsN, List.append, List.nil_append, List.cons_append, List.append_nil, cond, Nat.reduceBEq, Nat.reduceAdd, Nat.beq]
    refine arr_intro (.str (sh op.toNat).name) (sh_name (by omega)) ?_
    dsimp only [run_skip, run_reg, plainB, ifB_true, run_seq, run_blk, run_exit, run_ret, run_ite, iteR, regK, thenK_nrm, thenK_exit, thenK_ret, thenR_nrm, thenR_exit, thenR_ret, blkK, keepS, keepE, runOps_nil, runOps_cons, goG_some, fpOk, foot, entOf, allN, memN, goOn_ok, goOn_call, goOn_row, goOn_arr, goOn_ask, goOn_put, goOn_prm, goOn_callK, goOn_callC, goOn_all, guardP, guardO, notInO, stepF, stepLd, stepSt, stepIxs, stepIxa, stepLen, stepApp, stepCpy, stepPick, stepSls, stepSst, stepSla, bareZ, evX, evL, evB, rd, get, subG, memG, freshG, notInG, hyps, gob, impP, allP, partD, partOf, isOne, isPtr, nth, takeN, dropN, cellsD, lenB, fillD, thirds, entN, setE, sizeE, addE, setL, setN, putE, env0, eqCs, eqAux, eqC, bA, bO, bN, bE, negB, kEq, isShr, lendL, lend, frz, frzL, zRow, closed, closedL, rowsOf, binI, retK, retG, atRet, retD, lendO, resL, resD, oneD, renD, renL, renE, renEs, rho, putAll, entsN, List.append, List.nil_append, List.cons_append, List.append_nil, cond, Nat.reduceBEq, Nat.reduceAdd, Nat.beq]
theorem sp_ref63_Names : TSp 18 [] (.ls 1 (sL nmL)) := by
  refine spo_ref63_Names (by rfl) ?_
  dsimp only [c_ref63_Names, r_ref63_Names, run_skip, run_reg, plainB, ifB_true, run_seq, run_blk, run_exit, run_ret, run_ite, iteR, regK, thenK_nrm, thenK_exit, thenK_ret, thenR_nrm, thenR_exit, thenR_ret, blkK, keepS, keepE, runOps_nil, runOps_cons, goG_some, fpOk, foot, entOf, allN, memN, goOn_ok, goOn_call, goOn_row, goOn_arr, goOn_ask, goOn_put, goOn_prm, goOn_callK, goOn_callC, goOn_all, guardP, guardO, notInO, stepF, stepLd, stepSt, stepIxs, stepIxa, stepLen, stepApp, stepCpy, stepPick, stepSls, stepSst, stepSla, bareZ, evX, evL, evB, rd, get, subG, memG, freshG, notInG, hyps, gob, impP, allP, partD, partOf, isOne, isPtr, nth, takeN, dropN, cellsD, lenB, fillD, thirds, entN, setE, sizeE, addE, setL, setN, putE, env0, eqCs, eqAux, eqC, bA, bO, bN, bE, negB, kEq, isShr, lendL, lend, frz, frzL, zRow, closed, closedL, rowsOf, binI, retK, retG, atRet, retD, lendO, resL, resD, oneD, renD, renL, renE, renEs, rho, putAll, entsN, List.append, List.nil_append, List.cons_append, List.append_nil, cond, Nat.reduceBEq, Nat.reduceAdd, Nat.beq]
  rfl
theorem nm_at {k : Nat} (h : k < 16) : (sL nmL)[k]? = some (.str (sh k).name) := by
  rcases sixteen h with rfl | rfl | rfl | rfl | rfl | rfl | rfl | rfl | rfl | rfl | rfl | rfl | rfl | rfl | rfl | rfl <;> rfl

theorem sp_ref63_within {n a b : Int} : TSp 46 [.int .i64 n, .int .i64 a, .int .i64 b] (.bool (decide (a ≤ n) && decide (n ≤ b))) := by
  refine spo_ref63_within (by rfl) ?_
  dsimp only [c_ref63_within, r_ref63_within, run_skip, run_reg, plainB, ifB_true, run_seq, run_blk, run_exit, run_ret, run_ite, iteR, regK, thenK_nrm, thenK_exit, thenK_ret, thenR_nrm, thenR_exit, thenR_ret, blkK, keepS, keepE, runOps_nil, runOps_cons, goG_some, fpOk, foot, entOf, allN, memN, goOn_ok, goOn_call, goOn_row, goOn_arr, goOn_ask, goOn_put, goOn_prm, goOn_callK, goOn_callC, goOn_all, guardP, guardO, notInO, stepF, stepLd, stepSt, stepIxs, stepIxa, stepLen, stepApp, stepCpy, stepPick, stepSls, stepSst, stepSla, bareZ, evX, evL, evB, rd, get, subG, memG, freshG, notInG, hyps, gob, impP, allP, partD, partOf, isOne, isPtr, nth, takeN, dropN, cellsD, lenB, fillD, thirds, entN, setE, sizeE, addE, setL, setN, putE, env0, eqCs, eqAux, eqC, bA, bO, bN, bE, negB, kEq, isShr, lendL, lend, frz, frzL, zRow, closed, closedL, rowsOf, binI, retK, retG, atRet, retD, lendO, resL, resD, oneD, renD, renL, renE, renEs, rho, putAll, entsN, List.append, List.nil_append, List.cons_append, List.append_nil, cond, Nat.reduceBEq, Nat.reduceAdd, Nat.beq]

def fewN (op : Int) : Int := if op = 0 ∨ op = 1 ∨ op = 2 ∨ op = 3 ∨ op = 6 ∨ op = 13 then 2 else if op = 4 then 3 else if op = 5 ∨ op = 12 ∨ op = 8 ∨ op = 10 ∨ op = 11 then 1 else if op = 7 then 5 else 0
def fewM (op : Int) : Bool := decide (op = 2 ∨ op = 3 ∨ op = 4)
def fewW (op : Int) : Int := if op = 1 ∨ op = 3 ∨ op = 5 ∨ op = 12 then 1 else 0
theorem sp_ref63_Few {k : Nat} (h : k < 16) : TSp 38 [.int .i64 k] (.tup [.int .i64 (fewN k), .bool (fewM k), .int .i64 (fewW k)]) := by
  rcases sixteen h with rfl | rfl | rfl | rfl | rfl | rfl | rfl | rfl | rfl | rfl | rfl | rfl | rfl | rfl | rfl | rfl <;>
  · refine spo_ref63_Few (by rfl) ?_
    dsimp only [c_ref63_Few, r_ref63_Few, run_skip, run_reg, plainB, ifB_true, run_seq, run_blk, run_exit, run_ret, run_ite, iteR, regK, thenK_nrm, thenK_exit, thenK_ret, thenR_nrm, thenR_exit, thenR_ret, blkK, keepS, keepE, runOps_nil, runOps_cons, goG_some, fpOk, foot, entOf, allN, memN, goOn_ok, goOn_call, goOn_row, goOn_arr, goOn_ask, goOn_put, goOn_prm, goOn_callK, goOn_callC, goOn_all, guardP, guardO, notInO, stepF, stepLd, stepSt, stepIxs, stepIxa, stepLen, stepApp, stepCpy, stepPick, stepSls, stepSst, stepSla, bareZ, evX, evL, evB, rd, get, subG, memG, freshG, notInG, hyps, gob, impP, allP, partD, partOf, isOne, isPtr, nth, takeN, dropN, cellsD, lenB, fillD, thirds, entN, setE, sizeE, addE, setL, setN, putE, env0, eqCs, eqAux, eqC, bA, bO, bN, bE, negB, kEq, isShr, lendL, lend, frz, frzL, zRow, closed, closedL, rowsOf, binI, retK, retG, atRet, retD, lendO, resL, resD, oneD, renD, renL, renE, renEs, rho, putAll, entsN, List.append, List.nil_append, List.cons_append, List.append_nil, cond, Nat.reduceBEq, Nat.reduceAdd, Nat.beq]
    simp [fewN, fewM, fewW]

/-- Digits of base 16. -/
def hexc (b : UInt8) : Bool := (decide (48 ≤ (b.toNat : Int)) && decide ((b.toNat : Int) ≤ 57)) || (decide (97 ≤ (b.toNat : Int)) && decide ((b.toNat : Int) ≤ 102))
def allHex (s : Bs) : Bool := s.all hexc
theorem hex_take {s : Bs} {i : Nat} (h : i < s.length) : allHex (s.take (i + 1)) = (allHex (s.take i) && hexc s[i]) := by
  unfold allHex; rw [List.take_succ_eq_append_getElem h, List.all_append]; simp
theorem hex_bad {s : Bs} {i : Nat} (h : i < s.length) (hb : hexc s[i] = false) : allHex s = false := by
  unfold allHex
  rw [List.all_eq_false]
  exact ⟨_, List.getElem_mem h, by simp [hb]⟩
def hexB (s : Bs) : Bool := if decide (s = []) || !decide ((s.length : Int) % 2 = 0) then false else allHex s
theorem sp_script_hex {s : Bs} (hs : s.length < 9223372036854775808) : TSp 55 [.str s] (.bool (hexB s)) := by
  refine spo_script_hex (by rfl) ?_
  dsimp only [c_script_hex, r_script_hex, run_skip, run_reg, plainB, ifB_true, run_seq, run_blk, run_exit, run_ret, run_ite, iteR, regK, thenK_nrm, thenK_exit, thenK_ret, thenR_nrm, thenR_exit, thenR_ret, blkK, keepS, keepE, runOps_nil, runOps_cons, goG_some, fpOk, foot, entOf, allN, memN, goOn_ok, goOn_call, goOn_row, goOn_arr, goOn_ask, goOn_put, goOn_prm, goOn_callK, goOn_callC, goOn_all, guardP, guardO, notInO, stepF, stepLd, stepSt, stepIxs, stepIxa, stepLen, stepApp, stepCpy, stepPick, stepSls, stepSst, stepSla, bareZ, evX, evL, evB, rd, get, subG, memG, freshG, notInG, hyps, gob, impP, allP, partD, partOf, isOne, isPtr, nth, takeN, dropN, cellsD, lenB, fillD, thirds, entN, setE, sizeE, addE, setL, setN, putE, env0, eqCs, eqAux, eqC, bA, bO, bN, bE, negB, kEq, isShr, lendL, lend, frz, frzL, zRow, closed, closedL, rowsOf, binI, retK, retG, atRet, retD, lendO, resL, resD, oneD, renD, renL, renE, renEs, rho, putAll, entsN, List.append, List.nil_append, List.cons_append, List.append_nil, cond, Nat.reduceBEq, Nat.reduceAdd, Nat.beq]
  unfold hexB
  refine ⟨fun _ => ⟨by omega, by omega⟩, fun h => ?_, fun h => ?_⟩
  · rw [if_pos h]
  rw [if_neg (by rw [h]; simp)]
  refine loop_ind (α := {i : Nat // i ≤ s.length ∧ allHex (s.take i) = true}) (fun i => ⟨[(0, [], .str s), (13, [], .int .i64 s.length), (14, [], .int .i64 i.1)], []⟩) (fun i => s.length - i.1) ?_ ⟨0, by simp [allHex]⟩ rfl
  rintro ⟨i, h1, h2⟩ I ih
  dsimp only [run_skip, run_reg, plainB, ifB_true, run_seq, run_blk, run_exit, run_ret, run_ite, iteR, regK, thenK_nrm, thenK_exit, thenK_ret, thenR_nrm, thenR_exit, thenR_ret, blkK, keepS, keepE, runOps_nil, runOps_cons, goG_some, fpOk, foot, entOf, allN, memN, goOn_ok, goOn_call, goOn_row, goOn_arr, goOn_ask, goOn_put, goOn_prm, goOn_callK, goOn_callC, goOn_all, guardP, guardO, notInO, stepF, stepLd, stepSt, stepIxs, stepIxa, stepLen, stepApp, stepCpy, stepPick, stepSls, stepSst, stepSla, bareZ, evX, evL, evB, rd, get, subG, memG, freshG, notInG, hyps, gob, impP, allP, partD, partOf, isOne, isPtr, nth, takeN, dropN, cellsD, lenB, fillD, thirds, entN, setE, sizeE, addE, setL, setN, putE, env0, eqCs, eqAux, eqC, bA, bO, bN, bE, negB, kEq, isShr, lendL, lend, frz, frzL, zRow, closed, closedL, rowsOf, binI, retK, retG, atRet, retD, lendO, resL, resD, oneD, renD, renL, renE, renEs, rho, putAll, entsN, List.append, List.nil_append, List.cons_append, List.append_nil, cond, Nat.reduceBEq, Nat.reduceAdd, Nat.beq]
  refine ⟨fun hi => ?_, fun hi => ?_⟩
  · have hi : i < s.length := by simpa using hi
    have g : (0 : Int) ≤ i ∧ (i : Int) < s.length := ⟨by omega, by omega⟩
    have e : s.getD (i : Int).toNat 0 = s[i] := by simp [hi]
    refine ⟨g, fun _ => g, fun _ => g, fun _ _ => g, ?_⟩
    rw [e]
    show ((!hexc s[i]) = true → _) ∧ ((!hexc s[i]) = false → _)
    refine ⟨fun hb => ?_, fun hb => ?_⟩
    · rw [hex_bad hi (by simpa using hb)]
    · refine ⟨by simp only [fits]; omega, ?_⟩
      refine again (ih ⟨i + 1, by omega, by rw [hex_take hi, h2]; simpa using hb⟩ (by dsimp only; omega)) ?_ ?_ rfl rfl
      · exact ⟨rfl, rfl, rfl, trivial⟩
      · exact trivial
  · have hi : i = s.length := by simp at hi; omega
    subst hi
    rw [List.take_length] at h2
    rw [h2]
def hexR (s : Bs) : Bool := if decide (s = [45]) then true else if allHex s then decide (0 < (s.length : Int)) && decide ((s.length : Int) % 2 = 0) else false
theorem sp_ref63_hex {s : Bs} (hs : s.length < 9223372036854775808) : TSp 61 [.str s] (.bool (hexR s)) := by
  refine spo_ref63_hex (by rfl) ?_
  dsimp only [c_ref63_hex, r_ref63_hex, run_skip, run_reg, plainB, ifB_true, run_seq, run_blk, run_exit, run_ret, run_ite, iteR, regK, thenK_nrm, thenK_exit, thenK_ret, thenR_nrm, thenR_exit, thenR_ret, blkK, keepS, keepE, runOps_nil, runOps_cons, goG_some, fpOk, foot, entOf, allN, memN, goOn_ok, goOn_call, goOn_row, goOn_arr, goOn_ask, goOn_put, goOn_prm, goOn_callK, goOn_callC, goOn_all, guardP, guardO, notInO, stepF, stepLd, stepSt, stepIxs, stepIxa, stepLen, stepApp, stepCpy, stepPick, stepSls, stepSst, stepSla, bareZ, evX, evL, evB, rd, get, subG, memG, freshG, notInG, hyps, gob, impP, allP, partD, partOf, isOne, isPtr, nth, takeN, dropN, cellsD, lenB, fillD, thirds, entN, setE, sizeE, addE, setL, setN, putE, env0, eqCs, eqAux, eqC, bA, bO, bN, bE, negB, kEq, isShr, lendL, lend, frz, frzL, zRow, closed, closedL, rowsOf, binI, retK, retG, atRet, retD, lendO, resL, resD, oneD, renD, renL, renE, renEs, rho, putAll, entsN, List.append, List.nil_append, List.cons_append, List.append_nil, cond, Nat.reduceBEq, Nat.reduceAdd, Nat.beq]
  unfold hexR
  refine ⟨fun h => ?_, fun h => ?_⟩
  · rw [if_pos h]
  rw [if_neg (by rw [h]; simp)]
  refine loop_ind (α := {i : Nat // i ≤ s.length ∧ allHex (s.take i) = true}) (fun i => ⟨[(0, [], .str s), (3, [], .int .i64 i.1)], []⟩) (fun i => s.length - i.1) ?_ ⟨0, by simp [allHex]⟩ rfl
  rintro ⟨i, h1, h2⟩ I ih
  dsimp only [run_skip, run_reg, plainB, ifB_true, run_seq, run_blk, run_exit, run_ret, run_ite, iteR, regK, thenK_nrm, thenK_exit, thenK_ret, thenR_nrm, thenR_exit, thenR_ret, blkK, keepS, keepE, runOps_nil, runOps_cons, goG_some, fpOk, foot, entOf, allN, memN, goOn_ok, goOn_call, goOn_row, goOn_arr, goOn_ask, goOn_put, goOn_prm, goOn_callK, goOn_callC, goOn_all, guardP, guardO, notInO, stepF, stepLd, stepSt, stepIxs, stepIxa, stepLen, stepApp, stepCpy, stepPick, stepSls, stepSst, stepSla, bareZ, evX, evL, evB, rd, get, subG, memG, freshG, notInG, hyps, gob, impP, allP, partD, partOf, isOne, isPtr, nth, takeN, dropN, cellsD, lenB, fillD, thirds, entN, setE, sizeE, addE, setL, setN, putE, env0, eqCs, eqAux, eqC, bA, bO, bN, bE, negB, kEq, isShr, lendL, lend, frz, frzL, zRow, closed, closedL, rowsOf, binI, retK, retG, atRet, retD, lendO, resL, resD, oneD, renD, renL, renE, renEs, rho, putAll, entsN, List.append, List.nil_append, List.cons_append, List.append_nil, cond, Nat.reduceBEq, Nat.reduceAdd, Nat.beq]
  refine ⟨fun hi => ?_, fun hi => ?_⟩
  · have hi : i < s.length := by simpa using hi
    have g : (0 : Int) ≤ i ∧ (i : Int) < s.length := ⟨by omega, by omega⟩
    have e : s.getD (i : Int).toNat 0 = s[i] := by simp [hi]
    refine ⟨g, fun _ => g, fun _ => g, fun _ _ => g, ?_⟩
    rw [e]
    show ((!hexc s[i]) = true → _) ∧ ((!hexc s[i]) = false → _)
    refine ⟨fun hb => ?_, fun hb => ?_⟩
    · rw [hex_bad hi (by simpa using hb)]; rfl
    · refine ⟨by simp only [fits]; omega, ?_⟩
      refine again (ih ⟨i + 1, by omega, by rw [hex_take hi, h2]; simpa using hb⟩ (by dsimp only; omega)) ?_ ?_ rfl rfl
      · exact ⟨rfl, rfl, trivial⟩
      · exact trivial
  · have hi : i = s.length := by simp at hi; omega
    subst hi
    rw [List.take_length] at h2
    rw [h2]
    exact ⟨fun _ => ⟨by omega, by omega⟩, rfl⟩
/-- They are the same. -/
theorem hexR_eq (s : Bs) : hexR s = (decide (s = [45]) || hexB s) := by
  unfold hexR hexB
  by_cases h : s = [45]
  · simp [h]
  · by_cases h0 : s = []
    · subst h0; simp [allHex]
    · have : 0 < s.length := List.length_pos_iff.2 h0
      by_cases h1 : (s.length : Int) % 2 = 0 <;> cases allHex s <;> simp [h, h0, h1] <;> omega

/-- The kinds that join. -/
def kinds : List Bs := [[112, 108, 97, 105, 110], [109, 97, 110, 97, 103, 101, 114], [101, 100, 105, 116, 111, 114], [116, 101, 114, 109], [114, 97, 119]]
def isKind (s : Bs) : Bool := decide (s ∈ kinds)
def wordR (op : Int) (s : Bs) : Bool := if op = 1 then isKind s else if op = 12 then hexB s else decide (s = [45]) || hexB s
theorem sp_ref63_word {op : Int} {s : Bs} (hs : s.length < 9223372036854775808) : TSp 45 [.int .i64 op, .str s] (.bool (wordR op s)) := by
  refine spo_ref63_word (by rfl) ?_
  dsimp only [c_ref63_word, r_ref63_word, run_skip, run_reg, plainB, ifB_true, run_seq, run_blk, run_exit, run_ret, run_ite, iteR, regK, thenK_nrm, thenK_exit, thenK_ret, thenR_nrm, thenR_exit, thenR_ret, blkK, keepS, keepE, runOps_nil, runOps_cons, goG_some, fpOk, foot, entOf, allN, memN, goOn_ok, goOn_call, goOn_row, goOn_arr, goOn_ask, goOn_put, goOn_prm, goOn_callK, goOn_callC, goOn_all, guardP, guardO, notInO, stepF, stepLd, stepSt, stepIxs, stepIxa, stepLen, stepApp, stepCpy, stepPick, stepSls, stepSst, stepSla, bareZ, evX, evL, evB, rd, get, subG, memG, freshG, notInG, hyps, gob, impP, allP, partD, partOf, isOne, isPtr, nth, takeN, dropN, cellsD, lenB, fillD, thirds, entN, setE, sizeE, addE, setL, setN, putE, env0, eqCs, eqAux, eqC, bA, bO, bN, bE, negB, kEq, isShr, lendL, lend, frz, frzL, zRow, closed, closedL, rowsOf, binI, retK, retG, atRet, retD, lendO, resL, resD, oneD, renD, renL, renE, renEs, rho, putAll, entsN, List.append, List.nil_append, List.cons_append, List.append_nil, cond, Nat.reduceBEq, Nat.reduceAdd, Nat.beq]
  unfold wordR
  refine ⟨fun h => ?_, fun h => ?_⟩
  · simp only [decide_eq_true_eq] at h
    rw [if_pos h]
    simp [isKind, kinds, Bool.or_assoc]
  simp only [decide_eq_false_iff_not] at h
  rw [if_neg h]
  refine ⟨fun h => ?_, fun h => ?_⟩
  · simp only [decide_eq_true_eq] at h
    rw [if_pos h]
    refine call_pure (sp_ref63_hex hs) ?_
    dsimp only [run_skip, run_reg, plainB, ifB_true, run_seq, run_blk, run_exit, run_ret, run_ite, iteR, regK, thenK_nrm, thenK_exit, thenK_ret, thenR_nrm, thenR_exit, thenR_ret, blkK, keepS, keepE, runOps_nil, runOps_cons, goG_some, fpOk, foot, entOf, allN, memN, goOn_ok, goOn_call, goOn_row, goOn_arr, goOn_ask, goOn_put, goOn_prm, goOn_callK, goOn_callC, goOn_all, guardP, guardO, notInO, stepF, stepLd, stepSt, stepIxs, stepIxa, stepLen, stepApp, stepCpy, stepPick, stepSls, stepSst, stepSla, bareZ, evX, evL, evB, rd, get, subG, memG, freshG, notInG, hyps, gob, impP, allP, partD, partOf, isOne, isPtr, nth, takeN, dropN, cellsD, lenB, fillD, thirds, entN, setE, sizeE, addE, setL, setN, putE, env0, eqCs, eqAux, eqC, bA, bO, bN, bE, negB, kEq, isShr, lendL, lend, frz, frzL, zRow, closed, closedL, rowsOf, binI, retK, retG, atRet, retD, lendO, resL, resD, oneD, renD, renL, renE, renEs, rho, putAll, entsN, List.append, List.nil_append, List.cons_append, List.append_nil, cond, Nat.reduceBEq, Nat.reduceAdd, Nat.beq]
    rw [hexR_eq]
    by_cases h : s = [45]
    · subst h; rfl
    · simp [h]
  simp only [decide_eq_false_iff_not] at h
  rw [if_neg h]
  refine call_pure (sp_ref63_hex hs) ?_
  dsimp only [run_skip, run_reg, plainB, ifB_true, run_seq, run_blk, run_exit, run_ret, run_ite, iteR, regK, thenK_nrm, thenK_exit, thenK_ret, thenR_nrm, thenR_exit, thenR_ret, blkK, keepS, keepE, runOps_nil, runOps_cons, goG_some, fpOk, foot, entOf, allN, memN, goOn_ok, goOn_call, goOn_row, goOn_arr, goOn_ask, goOn_put, goOn_prm, goOn_callK, goOn_callC, goOn_all, guardP, guardO, notInO, stepF, stepLd, stepSt, stepIxs, stepIxa, stepLen, stepApp, stepCpy, stepPick, stepSls, stepSst, stepSla, bareZ, evX, evL, evB, rd, get, subG, memG, freshG, notInG, hyps, gob, impP, allP, partD, partOf, isOne, isPtr, nth, takeN, dropN, cellsD, lenB, fillD, thirds, entN, setE, sizeE, addE, setL, setN, putE, env0, eqCs, eqAux, eqC, bA, bO, bN, bE, negB, kEq, isShr, lendL, lend, frz, frzL, zRow, closed, closedL, rowsOf, binI, retK, retG, atRet, retD, lendO, resL, resD, oneD, renD, renL, renE, renEs, rho, putAll, entsN, List.append, List.nil_append, List.cons_append, List.append_nil, cond, Nat.reduceBEq, Nat.reduceAdd, Nat.beq]
  rw [hexR_eq]

end Go.AM
