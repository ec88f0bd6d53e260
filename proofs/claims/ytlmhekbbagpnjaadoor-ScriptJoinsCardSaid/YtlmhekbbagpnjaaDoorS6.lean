
/- Chapter 63: what the library's functions come to. -/
import Derived.Test.YtlmhekbbagpnjaaDoorS5
import Derived.Test.YtlmhekbbagpnjaaDoorShelf
import Derived.Shelf.Strings.Search3
import Derived.Lib.AppendIntMem
set_option linter.all false
namespace Go.AM
open Go Go.Proofs Go.RowKit

theorem Sp_of_frame {P : Program} {gt : Nat → Option (List D)} {f : Nat} {ds : List D} {d : D} (hok : okFn P f)
    (h : ∀ (K : Kn) (pl : Pl) (w : World) (vs : Array Value), (∀ b o, K b = some o → w.heap[b]? = some o) → GlobOk gt K → RepL K pl ds vs.toList → Calls P f vs w fun e w' => ∃ v, e = .returned v ∧ Below w.heap.size w w' ∧ Rep K pl d v) : Sp P gt f ds d := by
  refine ⟨hok, fun K pl w vs hmod hglob htab hrep => (h K pl w vs hmod hglob hrep).mono ?_⟩
  rintro e w' ⟨v, rfl, hw, hr⟩
  refine ⟨v, K, pl, rfl, ⟨⟨hw.os, hw.tape, hw.output, hw.size, fun k hk _ => hw.block k hk⟩, fun b o hb => ?_, KLe.refl _, fun b o hb => .inl hb, htab.move (KLe.refl _) fun b h1 h2 _ => ⟨hw.block b h1, h2⟩, fun k e b hk hb => .inl ⟨k, e, hk, hb⟩, Nat.le_refl _, fun k ver x _ h => h, hglob⟩, hr⟩
  have hb' := hmod b o hb
  rw [hw.block b (Array.getElem?_eq_some_iff.1 hb').1]; exact hb'

theorem repl1 {K : Kn} {pl : Pl} {a : D} {vs : List Value} (h : RepL K pl [a] vs) : ∃ x, vs = [x] ∧ Rep K pl a x := by
  simp only [RepL] at h
  obtain ⟨x, r, rfl, h1, rfl⟩ := h
  exact ⟨x, rfl, h1⟩
theorem repl2 {K : Kn} {pl : Pl} {a b : D} {vs : List Value} (h : RepL K pl [a, b] vs) : ∃ x y, vs = [x, y] ∧ Rep K pl a x ∧ Rep K pl b y := by
  simp only [RepL] at h
  obtain ⟨x, r, rfl, h1, y, r', rfl, h2, rfl⟩ := h
  exact ⟨x, y, rfl, h1, h2⟩
theorem repl3 {K : Kn} {pl : Pl} {a b c : D} {vs : List Value} (h : RepL K pl [a, b, c] vs) : ∃ x y z, vs = [x, y, z] ∧ Rep K pl a x ∧ Rep K pl b y ∧ Rep K pl c z := by
  simp only [RepL] at h
  obtain ⟨x, r, rfl, h1, y, r', rfl, h2, z, r2, rfl, h3, rfl⟩ := h
  exact ⟨x, y, z, rfl, h1, h2, h3⟩
theorem repl_strs {K : Kn} {pl : Pl} : ∀ {l : List Bs} {vs : List Value}, RepL K pl (sL l) vs → vs = l.map fun s => Value.string ⟨s.toArray⟩
  | [], vs, h => by simp [sL, RepL] at h; exact h
  | s :: l, vs, h => by
    simp only [sL, List.map_cons, RepL, Rep] at h
    obtain ⟨v, r, rfl, rfl, h2⟩ := h
    rw [repl_strs (l := l) h2]; rfl
theorem repl_nums {K : Kn} {pl : Pl} {k : IntKind} : ∀ {l : List Int} {vs : List Value}, RepL K pl (l.map (D.int k)) vs → vs = l.map fun n => Value.int k n
  | [], vs, h => by simp [RepL] at h; exact h
  | s :: l, vs, h => by
    simp only [List.map_cons, RepL, Rep] at h
    obtain ⟨v, r, rfl, rfl, h2⟩ := h
    rw [repl_nums (l := l) h2]; rfl
theorem flat_strs (l : List Bs) : flat (l.map fun s => Value.string ⟨s.toArray⟩) = l.map fun s => Value.string ⟨s.toArray⟩ := by
  unfold flat
  induction l with
  | nil => rfl
  | cons s l ih => simp only [List.map_cons, List.flatMap_cons, ih]; rfl

/-! ### Split's -/
theorem sp_strings_Count {s : Bs} {c : UInt8} : TSp 49 [.str s, .str [c]] (.int .i64 (s.count c : Nat)) := by
  refine Sp_of_frame ⟨Tryd.f49, by kernel_rfl, by kernel_rfl, by kernel_rfl⟩ fun K pl w vs hmod hglob h => ?_
  obtain ⟨x, y, hv, h1, h2⟩ := repl2 h
  simp only [Rep] at h1 h2
  subst h1 h2
  have : vs = #[.string ⟨s.toArray⟩, .string ⟨#[c]⟩] := by rw [← Array.toArray_toList (xs := vs), hv]
  subst this
  refine (Any.strings_Count_one Tryd.lays138 ⟨s.toArray⟩ c w).mono ?_
  rintro e w' ⟨rfl, rfl⟩
  exact ⟨_, rfl, Below.refl _ _, by simp only [Rep]; simp [Lib.countByte]⟩
theorem sp_strings_Index {s : Bs} {c : UInt8} : TSp 50 [.str s, .str [c]] (.int .i64 (Lib.indexByte s c)) := by
  refine Sp_of_frame ⟨Tryd.f50, by kernel_rfl, by kernel_rfl, by kernel_rfl⟩ fun K pl w vs hmod hglob h => ?_
  obtain ⟨x, y, hv, h1, h2⟩ := repl2 h
  simp only [Rep] at h1 h2
  subst h1 h2
  have : vs = #[.string ⟨s.toArray⟩, .string ⟨#[c]⟩] := by rw [← Array.toArray_toList (xs := vs), hv]
  subst this
  refine (Any.strings_Index_one Tryd.lays143 ⟨s.toArray⟩ c w).mono ?_
  rintro e w' ⟨rfl, rfl⟩
  exact ⟨_, rfl, Below.refl _ _, by simp only [Rep]⟩
theorem sp_stringslite_Clone {s : Bs} (hs : s.length ≤ 281474976710656) : TSp 51 [.str s] (.str s) := by
  refine Sp_of_frame ⟨Tryd.f51, by kernel_rfl, by kernel_rfl, by kernel_rfl⟩ fun K pl w vs hmod hglob h => ?_
  obtain ⟨x, hv, h1⟩ := repl1 h
  simp only [Rep] at h1
  subst h1
  have : vs = #[.string ⟨s.toArray⟩] := by rw [← Array.toArray_toList (xs := vs), hv]
  subst this
  refine (Any.stringslite_Clone Tryd.laysM316 ⟨s.toArray⟩ w (by simpa [ByteArray.size] using hs)).mono ?_
  rintro e w' ⟨rfl, hw⟩
  exact ⟨_, rfl, hw, by simp only [Rep]⟩
theorem sp_strings_Clone {s : Bs} (hs : s.length ≤ 281474976710656) : TSp 35 [.str s] (.str s) := by
  refine spo_strings_Clone (by rfl) ?_
  dsimp only [c_strings_Clone, r_strings_Clone, run_skip, run_reg, plainB, ifB_true, run_seq, run_blk, run_exit, run_ret, run_ite, iteR, regK, thenK_nrm, thenK_exit, thenK_ret, thenR_nrm, thenR_exit, thenR_ret, blkK, keepS, keepE, runOps_nil, runOps_cons, goG_some, fpOk, foot, entOf, allN, memN, goOn_ok, goOn_call, goOn_row, goOn_arr, goOn_ask, goOn_put, goOn_prm, goOn_callK, goOn_callC, goOn_all, guardP, guardO, notInO, stepF, stepLd, stepSt, stepIxs, stepIxa, stepLen, stepApp, stepCpy, stepPick, stepSls, stepSst, stepSla, bareZ, evX, evL, evB, rd, get, subG, memG, freshG, notInG, hyps, gob, impP, allP, partD, partOf, isOne, isPtr, nth, takeN, dropN, cellsD, lenB, fillD, thirds, entN, setE, sizeE, addE, setL, setN, putE, env0, eqCs, eqAux, eqC, bA, bO, bN, bE, negB, kEq, isShr, lendL, lend, frz, frzL, zRow, closed, closedL, rowsOf, binI, retK, retG, atRet, retD, lendO, resL, resD, oneD, renD, renL, renE, renEs, rho, putAll, entsN, List.append, List.nil_append, List.cons_append, List.append_nil, cond, Nat.reduceBEq, Nat.reduceAdd, Nat.beq]
  refine call_pure (sp_stringslite_Clone hs) ?_
  dsimp only [run_skip, run_reg, plainB, ifB_true, run_seq, run_blk, run_exit, run_ret, run_ite, iteR, regK, thenK_nrm, thenK_exit, thenK_ret, thenR_nrm, thenR_exit, thenR_ret, blkK, keepS, keepE, runOps_nil, runOps_cons, goG_some, fpOk, foot, entOf, allN, memN, goOn_ok, goOn_call, goOn_row, goOn_arr, goOn_ask, goOn_put, goOn_prm, goOn_callK, goOn_callC, goOn_all, guardP, guardO, notInO, stepF, stepLd, stepSt, stepIxs, stepIxa, stepLen, stepApp, stepCpy, stepPick, stepSls, stepSst, stepSla, bareZ, evX, evL, evB, rd, get, subG, memG, freshG, notInG, hyps, gob, impP, allP, partD, partOf, isOne, isPtr, nth, takeN, dropN, cellsD, lenB, fillD, thirds, entN, setE, sizeE, addE, setL, setN, putE, env0, eqCs, eqAux, eqC, bA, bO, bN, bE, negB, kEq, isShr, lendL, lend, frz, frzL, zRow, closed, closedL, rowsOf, binI, retK, retG, atRet, retD, lendO, resL, resD, oneD, renD, renL, renE, renEs, rho, putAll, entsN, List.append, List.nil_append, List.cons_append, List.append_nil, cond, Nat.reduceBEq, Nat.reduceAdd, Nat.beq]

/-! ### Numbers -/
theorem pow_tab {w : World} {K : Kn} (hmod : ∀ b o, K b = some o → w.heap[b]? = some o) (hglob : GlobOk gtab K) : Lib.TabIs Tryd.prog w "internal/strconv.uint64pow10" .u64 Lib.pow10Tab := by
  obtain ⟨cs, T, fz, h1, h2, h3⟩ := hglob 2 (Lib.pow10Tab.map (D.int .u64)) (by rfl)
  have h4 := hmod _ _ h1
  have h5 : Tryd.prog.globalNamed "internal/strconv.uint64pow10" = some 2 := by kernel_rfl
  unfold Lib.TabIs World.var?
  rw [h5]
  simp only [Option.bind_some, h4]
  rw [← repl_nums h2]
theorem sp_FormatInt {n : Int} (h0 : -9223372036854775808 ≤ n) (h1 : n ≤ 9223372036854775807) : TSp 42 [.int .i64 n, .int .i64 10] (.str (Lib.itoa n)) := by
  refine Sp_of_frame ⟨Tryd.f42, by kernel_rfl, by kernel_rfl, by kernel_rfl⟩ fun K pl w vs hmod hglob h => ?_
  obtain ⟨x, y, hv, h3, h4⟩ := repl2 h
  simp only [Rep] at h3 h4
  subst h3 h4
  have : vs = #[.int .i64 n, .int .i64 10] := by rw [← Array.toArray_toList (xs := vs), hv]
  subst this
  refine (Any.strconv_FormatInt_10 Tryd.laysM173 n h0 h1 w (pow_tab hmod hglob)).mono ?_
  rintro e w' ⟨rfl, k, os, rfl⟩
  exact ⟨_, rfl, Lib.below_grow _ _ (Nat.le_refl _) _ _, by simp only [Rep]⟩
theorem sp_ParseInt_ok {s : Bs} {v : Int} (hs : s.length ≤ 9223372036854775806) (h : Lib.parseIntB 64 s = .ok v) : TSp 53 [.str s, .int .i64 10, .int .i64 64] (.tup [.int .i64 v, .ifc true]) := by
  refine Sp_of_frame ⟨Tryd.f53, by kernel_rfl, by kernel_rfl, by kernel_rfl⟩ fun K pl w vs hmod hglob hr => ?_
  obtain ⟨x, y, z, hv, h3, h4, h5⟩ := repl3 hr
  simp only [Rep] at h3 h4 h5
  subst h3 h4 h5
  have : vs = #[.string ⟨s.toArray⟩, .int .i64 10, .int .i64 64] := by rw [← Array.toArray_toList (xs := vs), hv]
  subst this
  refine (Any.strconv_ParseInt_10_at64_ok Tryd.laysC174 ⟨s.toArray⟩ (by simpa [ByteArray.size] using hs) v h w).mono ?_
  rintro e w' ⟨rfl, hw⟩
  refine ⟨_, rfl, ?_, by simp only [Rep]; exact ⟨[.int .i64 v, .nilIface], rfl, by simp [RepL, Rep]⟩⟩
  rcases hw with rfl | ⟨t, rfl⟩
  · exact Below.refl _ _
  · exact Lib.bytesWorld_below _ _ _
theorem sp_ParseInt_range {s : Bs} (hs : s.length ≤ 281474976710656) (h : Lib.parseIntB 64 s = .range) : TSp 53 [.str s, .int .i64 10, .int .i64 64] (.tup [.int .i64 (Lib.intSat 64 s), .ifc false]) := by
  refine Sp_of_frame ⟨Tryd.f53, by kernel_rfl, by kernel_rfl, by kernel_rfl⟩ fun K pl w vs hmod hglob hr => ?_
  obtain ⟨x, y, z, hv, h3, h4, h5⟩ := repl3 hr
  simp only [Rep] at h3 h4 h5
  subst h3 h4 h5
  have : vs = #[.string ⟨s.toArray⟩, .int .i64 10, .int .i64 64] := by rw [← Array.toArray_toList (xs := vs), hv]
  subst this
  have g5 : ∃ g, (Tryd.laysC174_ren.g 16 = g) ∧ gtab g = some [.ifc false] := ⟨_, rfl, rfl⟩
  obtain ⟨g, hg, hgt⟩ := g5
  obtain ⟨cs, T, fz, h1, h2, _⟩ := hglob _ _ hgt
  obtain ⟨x, hx, h6⟩ := repl1 h2
  simp only [Rep] at h6
  obtain ⟨tp, p, rfl⟩ := h6
  have hcell : w.cell? ⟨Tryd.laysC174_ren.g 16, 0, none⟩ = some (.iface tp p) := by
    rw [hg]
    have := hmod _ _ h1
    unfold World.cell?
    rw [this]
    simp [← Array.getElem?_toList, hx]
  refine (Any.strconv_ParseInt_10_at64_range Tryd.laysC174 ⟨s.toArray⟩ (by simpa [ByteArray.size] using hs) h _ w hcell (.inr ⟨tp, p, rfl⟩)).mono ?_
  rintro e w' ⟨N, rfl, _, _, hw⟩
  exact ⟨_, rfl, hw, by simp only [Rep]; exact ⟨[.int .i64 (Lib.intSat 64 s), _], rfl, by simp only [RepL, Rep]; exact ⟨_, _, rfl, rfl, _, _, rfl, ⟨_, _, rfl⟩, rfl⟩⟩⟩

/-! ### Join -/
theorem sp_strings_Join {l : List Bs} {sep : Bs} (hne : l ≠ []) (hN : l.length ≤ 140737488355328) (hlen : (Lib.join l sep).length ≤ 140737488355328) : TSp 44 [.ls 1 (sL l), .str sep] (.str (Lib.join l sep)) := by
  refine Sp_of_frame ⟨Tryd.f44, by kernel_rfl, by kernel_rfl, by kernel_rfl⟩ fun K pl w vs hmod _ h => ?_
  obtain ⟨x, y, hv, h1, h2⟩ := repl2 h
  simp only [Rep] at h1 h2
  subst h2
  obtain ⟨a, n, cap, rfl, rfl, h3, h4, h5⟩ := h1
  rcases h5 with h5 | ⟨b, off, us, rfl, h6, cs, T, fz, hK, hsz, hpre⟩
  · exact absurd (List.map_eq_nil_iff.1 h5) hne
  have hus := repl_strs h6
  subst hus
  rw [flat_strs] at hpre
  have hb := hmod b _ hK
  have : vs = #[.slice (some ⟨b, off, none⟩) (l.map fun s => (⟨s.toArray⟩ : ByteArray)).length cap, .string ⟨sep.toArray⟩] := by rw [← Array.toArray_toList (xs := vs), hv]; simp [sL]
  subst this
  have hcell : ∀ (j : Nat) x, (l.map fun s => (⟨s.toArray⟩ : ByteArray))[j]? = some x → w.cell? ⟨b, off + j, none⟩ = some (.string x) := fun j x hx => by
    rw [List.getElem?_map] at hx
    obtain ⟨s, hs, rfl⟩ := Option.map_eq_some_iff.1 hx
    have hj := (List.getElem?_eq_some_iff.1 hs).1
    have e := List.prefix_iff_getElem?.1 hpre j (by simpa using hj)
    rw [List.getElem?_drop] at e
    unfold World.cell?
    rw [hb]
    simp only [Option.isSome_none, Bool.false_eq_true, if_false]
    rw [← Array.getElem?_toList, e]
    simp [List.getElem?_eq_some_iff.1 hs |>.2]
  have hmap : (l.map fun s => (⟨s.toArray⟩ : ByteArray)).map (·.data.toList) = l := by rw [List.map_map]; simp [Function.comp_def]
  have hN' : (l.map fun s => (⟨s.toArray⟩ : ByteArray)).length ≤ 140737488355328 := by rw [List.length_map]; exact hN
  have h3' : (l.map fun s => (⟨s.toArray⟩ : ByteArray)).length ≤ cap := by rw [List.length_map]; rw [sL_len] at h3; exact h3
  have hlen' : (Lib.join ((l.map fun s => (⟨s.toArray⟩ : ByteArray)).map (·.data.toList)) (⟨sep.toArray⟩ : ByteArray).data.toList).length ≤ 140737488355328 := by rw [hmap]; exact hlen
  have key := Any.strings_Join Tryd.lays156 Tryd.Builder_Extra_156 b off cap (l.map fun s => (⟨s.toArray⟩ : ByteArray)) ⟨sep.toArray⟩ w hcell (Array.getElem?_eq_some_iff.1 hb).1 hN' h3' hlen'
  rw [hmap] at key
  refine key.mono ?_
  rintro e w' ⟨rfl, hw⟩
  exact ⟨_, rfl, hw, by simp only [Rep]⟩
end Go.AM
