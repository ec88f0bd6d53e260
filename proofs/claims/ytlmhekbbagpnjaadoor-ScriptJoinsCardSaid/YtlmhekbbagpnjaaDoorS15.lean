
/- Chapter 63: the Builder, as the little machine has it. -/
import Derived.Test.YtlmhekbbagpnjaaDoorS14
import Derived.Shelf.Strings.Builder1
set_option linter.all false
namespace Go.Proofs
open Go.Shelf Go.RowKit
set_option maxHeartbeats 2000000 in
set_option maxRecDepth 100000 in
theorem builder_String {P : Program} {ρ : Ren} (L : Lays.n169 P ρ) (X : Builder.Extra P ρ) (b g cap : Nat) (p : Value) (cur : Array Value) (l : List UInt8) (w : World) (h0 : l ≠ []) {T : TypeId} (hbk : w.heap[b]? = some (.cells #[p, .slice (some ⟨g, 0, none⟩) l.length cap] T (0, 0)))
    (hg : w.heap[g]? = some (.cells cur (ρ.t 5) (0, 0))) (hnc : l.length ≤ cap) (hcm : cap ≤ maxLen) (hsz : cur.size = cap) (hat : ∀ (j : Nat) x, l[j]? = some x → w.drew.cell? ((⟨g, 0, none⟩ : Addr).add j) = some (.int .u8 x.toNat)) :
    Calls P (ρ.f 169) #[.pointer (some ⟨b, 0, none⟩)] w fun e w' => e = .returned (.string ⟨l.toArray⟩) ∧ w' = w.drew.freeze ⟨g, 0, none⟩ l.length := by
  have hl0 : l.length ≠ 0 := by simpa using h0
  have c1 : w.drew.cell? ⟨b, 1, none⟩ = some (.slice (some ⟨g, 0, none⟩) l.length cap) := by
    have : w.drew.heap[b]? = some (.cells #[p, .slice (some ⟨g, 0, none⟩) l.length cap] T (0, 0)) := hbk
    rw [Lib.cell_of_heap this]; rfl
  have hSD : (Builtin.unsafeSliceData_ #[(ρ.t 37)] (ρ.t 127) #[.slice (some ⟨g, 0, none⟩) l.length cap]).run P w.drew = .ok (.pointer (some ⟨g, 0, none⟩)) w.drew :=
    Lib.run_unsafeSliceData_row _ _ _ _ _ _ (by omega)
  have hUS : (Builtin.unsafeString_ #[(ρ.t 127), (ρ.t 3)] (ρ.t 9) #[.pointer (some ⟨g, 0, none⟩), .int .i64 l.length]).run P w.drew = .ok (.string ⟨l.toArray⟩) (w.drew.freeze ⟨g, 0, none⟩ l.length) :=
    Lib.run_unsafeString_row w.drew (ρ.t 127) (ρ.t 3) (ρ.t 9) (ρ.t 5) L.t127 X.cellsByte g cur.size (by have hg' : w.drew.heap[g]? = some (.cells cur (ρ.t 5) (0, 0)) := hg; simp [World.shape?, hg']) l h0 (by omega) (by unfold maxLen at hcm; omega) hat
  have mixed := L.mixed
  have t72 := L.t72; have a72 := L.a72; have z72 := L.z72; have v72 := L.v72; have u72 := run_underlying L.t72
  have t70 := L.t70; have a70 := L.a70; have z70 := L.z70; have v70 := L.v70; have u70 := run_underlying L.t70
  have t37 := L.t37; have a37 := L.a37; have z37 := L.z37; have v37 := L.v37; have u37 := run_underlying L.t37
  have t127 := L.t127; have a127 := L.a127; have z127 := L.z127; have v127 := L.v127; have u127 := run_underlying L.t127
  have t3 := L.t3; have a3 := L.a3; have z3 := L.z3; have v3 := L.v3; have u3 := run_underlying L.t3
  have t9 := L.t9; have a9 := L.a9; have z9 := L.z9; have v9 := L.v9; have u9 := run_underlying L.t9
  have t5 := X.t5; have a5 := X.a5; have z5 := X.z5; have v5 := X.v5; have u5 := run_underlying X.t5
  go_enter L.f169, Body.n169_ntmps ρ
  go_wp2
  go_region_o
  all_goals (go_wp2; go_ret; exact ⟨rfl, rfl⟩)
end Go.Proofs
namespace Go.AM
open Go Go.Proofs Go.RowKit

/-- A builder that has been used, or not. -/
def bdE : Bool → Nat → Ent
  | true, ver => .cells [.box 0 0, .own 1 ver]
  | false, ver => .tcells 60 [.nil, .own 1 ver]
theorem rep2 {K : Kn} {pl : Pl} {a b : D} {cs : List Value} (h : RepL K pl [a, b] cs) : ∃ x y, cs = [x, y] ∧ Rep K pl a x ∧ Rep K pl b y := repl2 h
theorem sm_copyCheck {u : Bool} {ver : Nat} {rows : List D} : TSpM 41 [.box 0 0] [bdE u ver, .arr 5 1 ver rows] (.tup []) [bdE true ver, .arr 5 1 ver rows] := by
  refine ⟨⟨_, Tryd.func41, by kernel_rfl, by kernel_rfl⟩, fun K pl w vs hmod hglob htab hrep => ?_⟩
  obtain ⟨vs⟩ := vs
  obtain ⟨x, rfl, hx⟩ := repl1 hrep
  simp only [Rep] at hx
  obtain ⟨b, hb, rfl⟩ := hx
  have hI := Inv.start (gt := gtab) hmod hglob htab
  cases u with
  | true =>
    obtain ⟨b', T, cs, h1, h2, h3, h4, h5⟩ := htab.ok 0 (.cells [.box 0 0, .own 1 ver]) rfl
    rw [hb] at h1
    simp only [Option.some.injEq, Value.pointer.injEq, Addr.mk.injEq, and_true] at h1
    subst h1
    obtain ⟨p, q, rfl, h6, h7⟩ := rep2 h4
    simp only [Rep] at h6
    obtain ⟨b2, h8, rfl⟩ := h6
    rw [hb] at h8
    simp only [Option.some.injEq, Value.pointer.injEq, Addr.mk.injEq, and_true] at h8
    subst h8
    have h0 : w.cell? ⟨b, 0, none⟩ = some (.pointer (some ⟨b, 0, none⟩)) := by rw [cell_of h3]; rfl
    refine (Any.Builder_copyCheck_used Tryd.lays240 Tryd.Builder_X72_240 b w h0).mono ?_
    rintro e w' ⟨rfl, rfl⟩
    exact ⟨_, K, pl, rfl, hI, by simp only [Rep]; exact ⟨[], rfl, rfl⟩⟩
  | false =>
    obtain ⟨b', cs, h1, h2, h3, h4, h5⟩ := htab.ok 0 (.tcells 60 [.nil, .own 1 ver]) rfl
    rw [hb] at h1
    simp only [Option.some.injEq, Value.pointer.injEq, Addr.mk.injEq, and_true] at h1
    subst h1
    obtain ⟨p, q, rfl, h6, h7⟩ := rep2 h4
    have h8 : p = .pointer none := by
      simp only [Rep] at h6
      rcases h6 with h6 | h6
      · exact h6
      · exact absurd h6 (h5 p (by simp)).2
    subst h8
    have h0 : w.cell? ⟨b, 0, none⟩ = some (.pointer none) := by rw [cell_of h3]; rfl
    have hsh : w.shape? b = some (60, 2) := by simp [World.shape?, h3]
    refine (Any.Builder_copyCheck_fresh Tryd.lays240 Tryd.Builder_X72_240 b w h0 hsh (frozen_of h3 0)).mono ?_
    rintro e w' ⟨rfl, rfl⟩
    have hs := setCell_blk (o := 0) (v := .pointer (some ⟨b, 0, none⟩)) h3
    have hu := hI.upd (k := 0) (e := .tcells 60 [.nil, .own 1 ver]) (e' := .cells [.box 0 0, .own 1 ver]) (w' := w.setCell ⟨b, 0, none⟩ (.pointer (some ⟨b, 0, none⟩))) rfl (PLe.refl pl) (fun _ _ _ => rfl) (fun c hc => .inl (by simpa [entBlk] using hc))
      (by
        have hc := setCell_chg w b 0 (.pointer (some ⟨b, 0, none⟩))
        exact ⟨hc.os, hc.tape, hc.output, hc.size, fun c hcl hn => hc.block c hcl fun e => hn (by rw [e]; exact entBlk_tcells hb)⟩)
      ⟨b, 60, [.pointer (some ⟨b, 0, none⟩), q], hb, h2, by simpa using hs, by simp only [RepL, Rep]; exact ⟨_, _, rfl, ⟨b, hb, rfl⟩, _, _, rfl, by simpa only [Rep] using h7, rfl⟩, fun c hc => by
        simp only [List.mem_cons, List.not_mem_nil, or_false] at hc
        rcases hc with rfl | rfl
        · rfl
        · exact (h5 c (by simp)).1⟩
    exact ⟨_, K, pl, rfl, hu, by simp only [Rep]; exact ⟨[], rfl, rfl⟩⟩

theorem freeze_chg (w : World) (g n : Nat) : Chg (fun c => c = g) w (w.freeze ⟨g, 0, none⟩ n) := by
  unfold World.freeze
  split
  · exact Chg.refl _ w
  · exact ⟨rfl, rfl, rfl, by simp, fun k hk hn => by
      simp only [Array.getElem?_modify]
      rw [if_neg (Ne.symm hn)]⟩
theorem repl_bytes {K : Kn} {pl : Pl} : ∀ {l : Bs} {vs : List Value}, RepL K pl (bytesD l) vs → vs = l.map fun b : UInt8 => Value.int .u8 b.toNat
  | [], vs, h => by simpa [bytesD, RepL] using h
  | s :: l, vs, h => by
    simp only [bytesD, List.map_cons, RepL, Rep] at h
    obtain ⟨v, r, rfl, rfl, h2⟩ := h
    rw [repl_bytes (l := l) h2]; rfl
theorem sm_String {ver : Nat} {l : Bs} (hl : l ≠ []) : TSpM 29 [.box 0 0] [.cells [.box 0 0, .own 1 ver], .arr 5 1 ver (bytesD l)] (.str l) [.cells [.box 0 0, .own 1 ver], .gone] := by
  refine ⟨⟨_, Tryd.func29, by kernel_rfl, by kernel_rfl⟩, fun K pl w vs hmod hglob htab hrep => ?_⟩
  obtain ⟨vs⟩ := vs
  obtain ⟨x, rfl, hx⟩ := repl1 hrep
  simp only [Rep] at hx
  obtain ⟨b, hb, rfl⟩ := hx
  have hI := Inv.start (gt := gtab) hmod hglob htab
  obtain ⟨b', T, cs, h1, h2, h3, h4, h5⟩ := htab.ok 0 (.cells [.box 0 0, .own 1 ver]) rfl
  rw [hb] at h1
  simp only [Option.some.injEq, Value.pointer.injEq, Addr.mk.injEq, and_true] at h1
  subst h1
  obtain ⟨p, q, rfl, _, h7⟩ := rep2 h4
  simp only [Rep] at h7
  obtain ⟨h7, _⟩ := h7
  obtain ⟨v, us, g1, g2, g3, g4, g5, g6, g7⟩ := htab.ok 1 (.arr 5 1 ver (bytesD l)) rfl
  rw [h7] at g1
  simp only [Option.some.injEq] at g1
  subst g1
  have hus := repl_bytes g3
  subst hus
  have hbl : (bytesD l).length = l.length := by simp [bytesD]
  rw [flat_bytes, hbl] at g2
  have hl0 : l.length ≠ 0 := by simpa using hl
  obtain ⟨q1, q2⟩ := g2
  rcases q2 with ⟨rfl, q2⟩ | ⟨g, cap, cur, rfl, _, q4, q5, q6, q7, q8⟩
  · exact absurd q2 hl0
  rw [Nat.mul_one] at q7 q8
  refine (builder_String Tryd.lays169 Tryd.Builder_Extra_169 b g cap p cur l w hl h3 q4 q5 q6 q7 fun j x hj => ?_).mono ?_
  · have hjl := (List.getElem?_eq_some_iff.1 hj).1
    have := congrArg (fun y => y[j]?) q8
    rw [List.getElem?_take_of_lt hjl, List.getElem?_map, hj] at this
    show w.cell? _ = _
    rw [Addr.add_lit, Nat.zero_add, cell_of q4, ← Array.getElem?_toList, this]; rfl
  · rintro e w' ⟨rfl, rfl⟩
    have hblk : entBlk pl 1 (.arr 5 1 ver (bytesD l)) = some g := by simp [entBlk, h7, blkV]
    have hc := freeze_chg w.drew g l.length
    have hu := hI.upd (k := 1) (e := .arr 5 1 ver (bytesD l)) (e' := .gone) (w' := w.drew.freeze ⟨g, 0, none⟩ l.length) rfl (PLe.refl pl) (fun _ _ _ => rfl) (fun c hc => by simp [entBlk] at hc)
      ⟨hc.os, hc.tape, hc.output, hc.size, fun c hcl hn => hc.block c hcl fun e => hn (by rw [e]; exact hblk)⟩ trivial
    exact ⟨_, K, pl, rfl, hu, by simp only [Rep]⟩

theorem sm_WriteString {u : Bool} {ver : Nat} {l s : Bs} (h : l.length + s.length < 2147483648) : TSpM 25 [.box 0 0, .str s] [bdE u ver, .arr 5 1 ver (bytesD l)] (.tup [.int .i64 s.length, .ifc true]) [bdE true (ver + 1), .arr 5 1 (ver + 1) (bytesD (l ++ s))] := by
  have hbl : (bytesD l).length = l.length := by simp [bytesD]
  obtain ⟨i5, hi5, hz5, hs5, hb5⟩ : ∃ i, Tryd.prog.info? 5 = some i ∧ i.zero = some (.int .u8 0) ∧ i.size = 1 ∧ i.bytes = 1 := info_parts Tryd.Builder_Extra_169.infoByte
  refine spm_strings_Builder_WriteString (by rfl) ?_
  dsimp only [c_strings_Builder_WriteString, r_strings_Builder_WriteString, run_skip, run_reg, plainB, ifB_true, run_seq, run_blk, run_exit, run_ret, run_ite, iteR, regK, thenK_nrm, thenK_exit, thenK_ret, thenR_nrm, thenR_exit, thenR_ret, blkK, keepS, keepE, runOps_nil, runOps_cons, goG_some, fpOk, foot, entOf, allN, memN, goOn_ok, goOn_call, goOn_row, goOn_arr, goOn_ask, goOn_put, goOn_prm, goOn_callK, goOn_callC, goOn_all, guardP, guardO, notInO, stepF, stepLd, stepSt, stepIxs, stepIxa, stepLen, stepApp, stepCpy, stepPick, stepSls, stepSst, stepSla, bareZ, evX, evL, evB, rd, get, subG, memG, freshG, notInG, hyps, gob, impP, allP, partD, partOf, isOne, isPtr, nth, takeN, dropN, cellsD, lenB, fillD, thirds, entN, setE, sizeE, addE, setL, setN, putE, env0, eqCs, eqAux, eqC, bA, bO, bN, bE, negB, kEq, isShr, lendL, lend, frz, frzL, zRow, closed, closedL, rowsOf, binI, retK, retG, atRet, retD, lendO, resL, resD, oneD, renD, renL, renE, renEs, rho, putAll, entsN, List.append, List.nil_append, List.cons_append, List.append_nil, cond, Nat.reduceBEq, Nat.reduceAdd, Nat.beq]
  refine call_mem _ _ sm_copyCheck nofun ?_
  dsimp only [bdE, run_skip, run_reg, plainB, ifB_true, run_seq, run_blk, run_exit, run_ret, run_ite, iteR, regK, thenK_nrm, thenK_exit, thenK_ret, thenR_nrm, thenR_exit, thenR_ret, blkK, keepS, keepE, runOps_nil, runOps_cons, goG_some, fpOk, foot, entOf, allN, memN, goOn_ok, goOn_call, goOn_row, goOn_arr, goOn_ask, goOn_put, goOn_prm, goOn_callK, goOn_callC, goOn_all, guardP, guardO, notInO, stepF, stepLd, stepSt, stepIxs, stepIxa, stepLen, stepApp, stepCpy, stepPick, stepSls, stepSst, stepSla, bareZ, evX, evL, evB, rd, get, subG, memG, freshG, notInG, hyps, gob, impP, allP, partD, partOf, isOne, isPtr, nth, takeN, dropN, cellsD, lenB, fillD, thirds, entN, setE, sizeE, addE, setL, setN, putE, env0, eqCs, eqAux, eqC, bA, bO, bN, bE, negB, kEq, isShr, lendL, lend, frz, frzL, zRow, closed, closedL, rowsOf, binI, retK, retG, atRet, retD, lendO, resL, resD, oneD, renD, renL, renE, renEs, rho, putAll, entsN, List.append, List.nil_append, List.cons_append, List.append_nil, cond, Nat.reduceBEq, Nat.reduceAdd, Nat.beq]
  refine prm_eff _ _ (pr_aps (e := 5) (j := 1) (ver := ver) (rows := bytesD l) (s := s) Tryd.underlying58 Tryd.underlying9 hi5 hz5 hs5 hb5 rfl (by rw [hbl]; exact h)) ?_
  dsimp only [run_skip, run_reg, plainB, ifB_true, run_seq, run_blk, run_exit, run_ret, run_ite, iteR, regK, thenK_nrm, thenK_exit, thenK_ret, thenR_nrm, thenR_exit, thenR_ret, blkK, keepS, keepE, runOps_nil, runOps_cons, goG_some, fpOk, foot, entOf, allN, memN, goOn_ok, goOn_call, goOn_row, goOn_arr, goOn_ask, goOn_put, goOn_prm, goOn_callK, goOn_callC, goOn_all, guardP, guardO, notInO, stepF, stepLd, stepSt, stepIxs, stepIxa, stepLen, stepApp, stepCpy, stepPick, stepSls, stepSst, stepSla, bareZ, evX, evL, evB, rd, get, subG, memG, freshG, notInG, hyps, gob, impP, allP, partD, partOf, isOne, isPtr, nth, takeN, dropN, cellsD, lenB, fillD, thirds, entN, setE, sizeE, addE, setL, setN, putE, env0, eqCs, eqAux, eqC, bA, bO, bN, bE, negB, kEq, isShr, lendL, lend, frz, frzL, zRow, closed, closedL, rowsOf, binI, retK, retG, atRet, retD, lendO, resL, resD, oneD, renD, renL, renE, renEs, rho, putAll, entsN, List.append, List.nil_append, List.cons_append, List.append_nil, cond, Nat.reduceBEq, Nat.reduceAdd, Nat.beq]
  rw [show bytesD (l ++ s) = bytesD l ++ bytesD s by simp [bytesD]]
  exact Rt.id
theorem sm_WriteByte {ver : Nat} {l : Bs} (h : l.length + 1 < 2147483648) : TSpM 27 [.box 0 0, .int .u8 10] [bdE true ver, .arr 5 1 ver (bytesD l)] (.ifc true) [bdE true (ver + 1), .arr 5 1 (ver + 1) (bytesD (l ++ [10]))] := by
  have hbl : (bytesD l).length = l.length := by simp [bytesD]
  refine spm_strings_Builder_WriteByte (by rfl) ?_
  dsimp only [c_strings_Builder_WriteByte, r_strings_Builder_WriteByte, run_skip, run_reg, plainB, ifB_true, run_seq, run_blk, run_exit, run_ret, run_ite, iteR, regK, thenK_nrm, thenK_exit, thenK_ret, thenR_nrm, thenR_exit, thenR_ret, blkK, keepS, keepE, runOps_nil, runOps_cons, goG_some, fpOk, foot, entOf, allN, memN, goOn_ok, goOn_call, goOn_row, goOn_arr, goOn_ask, goOn_put, goOn_prm, goOn_callK, goOn_callC, goOn_all, guardP, guardO, notInO, stepF, stepLd, stepSt, stepIxs, stepIxa, stepLen, stepApp, stepCpy, stepPick, stepSls, stepSst, stepSla, bareZ, evX, evL, evB, rd, get, subG, memG, freshG, notInG, hyps, gob, impP, allP, partD, partOf, isOne, isPtr, nth, takeN, dropN, cellsD, lenB, fillD, thirds, entN, setE, sizeE, addE, setL, setN, putE, env0, eqCs, eqAux, eqC, bA, bO, bN, bE, negB, kEq, isShr, lendL, lend, frz, frzL, zRow, closed, closedL, rowsOf, binI, retK, retG, atRet, retD, lendO, resL, resD, oneD, renD, renL, renE, renEs, rho, putAll, entsN, List.append, List.nil_append, List.cons_append, List.append_nil, cond, Nat.reduceBEq, Nat.reduceAdd, Nat.beq]
  refine call_mem _ _ sm_copyCheck nofun ?_
  dsimp only [bdE, run_skip, run_reg, plainB, ifB_true, run_seq, run_blk, run_exit, run_ret, run_ite, iteR, regK, thenK_nrm, thenK_exit, thenK_ret, thenR_nrm, thenR_exit, thenR_ret, blkK, keepS, keepE, runOps_nil, runOps_cons, goG_some, fpOk, foot, entOf, allN, memN, goOn_ok, goOn_call, goOn_row, goOn_arr, goOn_ask, goOn_put, goOn_prm, goOn_callK, goOn_callC, goOn_all, guardP, guardO, notInO, stepF, stepLd, stepSt, stepIxs, stepIxa, stepLen, stepApp, stepCpy, stepPick, stepSls, stepSst, stepSla, bareZ, evX, evL, evB, rd, get, subG, memG, freshG, notInG, hyps, gob, impP, allP, partD, partOf, isOne, isPtr, nth, takeN, dropN, cellsD, lenB, fillD, thirds, entN, setE, sizeE, addE, setL, setN, putE, env0, eqCs, eqAux, eqC, bA, bO, bN, bE, negB, kEq, isShr, lendL, lend, frz, frzL, zRow, closed, closedL, rowsOf, binI, retK, retG, atRet, retD, lendO, resL, resD, oneD, renD, renL, renE, renEs, rho, putAll, entsN, List.append, List.nil_append, List.cons_append, List.append_nil, cond, Nat.reduceBEq, Nat.reduceAdd, Nat.beq]
  refine ⟨⟨rfl, rfl, rfl, rfl, by rw [hbl]; simp; omega⟩, ?_⟩
  rw [show bytesD (l ++ [10]) = bytesD l ++ [.int .u8 10] by simp [bytesD]]
  exact Rt.id
theorem sm_Len {ver : Nat} {l : Bs} : TSpM 28 [.box 0 0] [bdE true ver, .arr 5 1 ver (bytesD l)] (.int .i64 l.length) [bdE true ver, .arr 5 1 ver (bytesD l)] := by
  have hbl : (bytesD l).length = l.length := by simp [bytesD]
  refine spm_strings_Builder_Len (by rfl) ?_
  dsimp only [c_strings_Builder_Len, r_strings_Builder_Len, bdE, run_skip, run_reg, plainB, ifB_true, run_seq, run_blk, run_exit, run_ret, run_ite, iteR, regK, thenK_nrm, thenK_exit, thenK_ret, thenR_nrm, thenR_exit, thenR_ret, blkK, keepS, keepE, runOps_nil, runOps_cons, goG_some, fpOk, foot, entOf, allN, memN, goOn_ok, goOn_call, goOn_row, goOn_arr, goOn_ask, goOn_put, goOn_prm, goOn_callK, goOn_callC, goOn_all, guardP, guardO, notInO, stepF, stepLd, stepSt, stepIxs, stepIxa, stepLen, stepApp, stepCpy, stepPick, stepSls, stepSst, stepSla, bareZ, evX, evL, evB, rd, get, subG, memG, freshG, notInG, hyps, gob, impP, allP, partD, partOf, isOne, isPtr, nth, takeN, dropN, cellsD, lenB, fillD, thirds, entN, setE, sizeE, addE, setL, setN, putE, env0, eqCs, eqAux, eqC, bA, bO, bN, bE, negB, kEq, isShr, lendL, lend, frz, frzL, zRow, closed, closedL, rowsOf, binI, retK, retG, atRet, retD, lendO, resL, resD, oneD, renD, renL, renE, renEs, rho, putAll, entsN, List.append, List.nil_append, List.cons_append, List.append_nil, cond, Nat.reduceBEq, Nat.reduceAdd, Nat.beq]
  rw [hbl]
  exact ⟨rfl, Rt.id⟩
end Go.AM
