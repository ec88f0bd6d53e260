
/- Chapter 29: what is asked of functions at hand. -/
import Derived.Test.YthcfahdogpjkeaaX1
import Derived.Test.YthcfahdogpjkeaaW2
set_option linter.all false
namespace Go.AM
open Go Go.Proofs

theorem SpM.to {P : Program} {gt : Nat → Option (List D)} {f : Nat} {ds : List D} {bx bx' bx2 : List Ent} {d d2 : D} (h : SpM P gt f ds bx d bx') (hr : Rt bx.length bx' d d2 bx2) : SpM P gt f ds bx d2 bx2 := by
  refine ⟨h.1, fun K pl w vs hmod hglob htab hrep => (h.2 K pl w vs hmod hglob htab hrep).mono ?_⟩
  rintro e w' ⟨v, K', pl', rfl, hI, hr'⟩
  obtain ⟨K2, pl2, hI2, hr2⟩ := hr _ K' pl' w' v rfl hI hr'
  exact ⟨v, K2, pl2, rfl, hI2, hr2⟩

theorem subB_refl : ∀ bx : List Ent, subB bx bx
  | [] => trivial
  | e :: l => ⟨rfl, subB_refl l⟩

section
variable {P : Program} {gt : Nat → Option (List D)} {hs : List Prop} {f : Nat} {ds : List D} {dst : Option Nat} {g : G} {os : List O} {st : St} {K : St → Prop}
/-- A call that leaves the own memory as it was. -/
theorem call_look (ks : List Nat) {eff : Bool} {ds' : List D} {es : List Ent} {d : D} (h : impP hs (SpM P gt f ds' es d es)) (h1 : ds = renL ks (sizeE st.bx) ds') (h2 : entsN st.bx ks = some (renEs ks (sizeE st.bx) es)) (h3 : putAll st.bx ks (renEs ks (sizeE st.bx) es) = st.bx)
    (hk : runOps (SpC P gt) gt os K ⟨putE dst g (renD ks (sizeE st.bx) d) st.env, st.bx⟩) (hks : okKs ks = true := by rfl) : atCall (SpC P gt) gt hs eff f ds dst g os st K :=
  ⟨_, _, impP_imp (fun h => by have := SpM.own h ks h1 h2 hks; rw [h3] at this; exact this) h, fun _ => rfl, hk⟩
end

def idxP (p : Int → Bool) : List Int → Int → Int
  | [], _ => -1
  | y :: r, i => if p y then i else idxP p r (i + 1)
theorem idxP_nn {p : Int → Bool} : ∀ {l : List Int} {i : Int}, 0 ≤ i → (0 ≤ idxP p l i ↔ l.any p = true)
  | [], i, h => by simp [idxP]
  | y :: r, i, h => by
    simp only [idxP, List.any_cons]
    cases hp : p y
    · simp only [Bool.false_eq_true, if_false, Bool.false_or]
      exact idxP_nn (by omega)
    · simp [h]

def stIp (l : List Int) (f : Nat) (caps : List D) (bx : List Ent) (i : Nat) : St := ⟨[(0, [], .ls 1 (iL l)), (1, [], .fn f caps), (7, [], .int .i64 l.length), (8, [], .int .i64 i)], bx⟩
theorem sm_IndexFunc {bx : List Ent} (hb : lowB (sizeE bx) bx = true) {f : Nat} {caps : List D} (hc : lowL (sizeE bx) caps = true) {p : Int → Bool} {l : List Int} (hl : l.length < 1000000) (hp : ∀ x ∈ l, TSpM f (.int .u32 x :: caps) bx (.bool (p x)) bx) :
    TSpM 55 [.ls 1 (iL l), .fn f caps] bx (.int .i64 (idxP p l 0)) bx := by
  refine spm_slices_IndexFunc_api_ID_api_ID (by rfl) ?_
  dsimp only [c_slices_IndexFunc_api_ID_api_ID, r_slices_IndexFunc_api_ID_api_ID, run_skip, run_reg, plainB, ifB_true, run_seq, run_blk, run_exit, run_ret, run_ite, iteR, regK, thenK_nrm, thenK_exit, thenK_ret, thenR_nrm, thenR_exit, thenR_ret, blkK, keepS, keepE, runOps_nil, runOps_cons, goG_some, fpOk, foot, entOf, allN, memN, goOn_ok, goOn_call, goOn_row, goOn_arr, goOn_ask, goOn_put, goOn_prm, goOn_callK, goOn_callC, goOn_all, guardP, guardO, notInO, stepF, stepLd, stepSt, stepIxs, stepIxa, stepLen, stepApp, stepCpy, stepPick, stepSls, stepSst, stepSla, bareZ, evX, evL, evB, rd, get, subG, memG, freshG, notInG, hyps, gob, impP, allP, partD, partOf, isOne, isPtr, nth, takeN, dropN, cellsD, lenB, fillD, thirds, entN, setE, sizeE, addE, setL, setN, putE, env0, eqCs, eqAux, eqC, bA, bO, bN, bE, negB, kEq, isShr, lendL, lend, frz, frzL, zRow, closed, closedL, rowsOf, binI, retK, retG, atRet, retD, lendO, resL, resD, oneD, renD, renL, renE, renEs, rho, putAll, entsN, List.append, List.nil_append, List.cons_append, List.append_nil, cond, Nat.reduceBEq, Nat.reduceAdd, Nat.beq]
  rw [iL_len]
  refine loop_ind (α := {i : Nat // i ≤ l.length ∧ idxP p (l.drop i) i = idxP p l 0}) (fun i => stIp l f caps bx i.1) (fun i => l.length - i.1) ?_ ⟨0, by simp⟩ rfl
  rintro ⟨i, hi, hv⟩ I ih
  dsimp only [stIp, run_skip, run_reg, plainB, ifB_true, run_seq, run_blk, run_exit, run_ret, run_ite, iteR, regK, thenK_nrm, thenK_exit, thenK_ret, thenR_nrm, thenR_exit, thenR_ret, blkK, keepS, keepE, runOps_nil, runOps_cons, goG_some, fpOk, foot, entOf, allN, memN, goOn_ok, goOn_call, goOn_row, goOn_arr, goOn_ask, goOn_put, goOn_prm, goOn_callK, goOn_callC, goOn_all, guardP, guardO, notInO, stepF, stepLd, stepSt, stepIxs, stepIxa, stepLen, stepApp, stepCpy, stepPick, stepSls, stepSst, stepSla, bareZ, evX, evL, evB, rd, get, subG, memG, freshG, notInG, hyps, gob, impP, allP, partD, partOf, isOne, isPtr, nth, takeN, dropN, cellsD, lenB, fillD, thirds, entN, setE, sizeE, addE, setL, setN, putE, env0, eqCs, eqAux, eqC, bA, bO, bN, bE, negB, kEq, isShr, lendL, lend, frz, frzL, zRow, closed, closedL, rowsOf, binI, retK, retG, atRet, retD, lendO, resL, resD, oneD, renD, renL, renE, renEs, rho, putAll, entsN, List.append, List.nil_append, List.cons_append, List.append_nil, cond, Nat.reduceBEq, Nat.reduceAdd, Nat.beq]
  refine ⟨fun hj => ?_, fun hj => ?_⟩
  · have hj : i < l.length := by simp at hj; omega
    refine ⟨⟨rfl, by omega, by rw [iL_len]; omega⟩, row_intro _ _ (iL_at hj) rfl ?_⟩
    dsimp only [run_skip, run_reg, plainB, ifB_true, run_seq, run_blk, run_exit, run_ret, run_ite, iteR, regK, thenK_nrm, thenK_exit, thenK_ret, thenR_nrm, thenR_exit, thenR_ret, blkK, keepS, keepE, runOps_nil, runOps_cons, goG_some, fpOk, foot, entOf, allN, memN, goOn_ok, goOn_call, goOn_row, goOn_arr, goOn_ask, goOn_put, goOn_prm, goOn_callK, goOn_callC, goOn_all, guardP, guardO, notInO, stepF, stepLd, stepSt, stepIxs, stepIxa, stepLen, stepApp, stepCpy, stepPick, stepSls, stepSst, stepSla, bareZ, evX, evL, evB, rd, get, subG, memG, freshG, notInG, hyps, gob, impP, allP, partD, partOf, isOne, isPtr, nth, takeN, dropN, cellsD, lenB, fillD, thirds, entN, setE, sizeE, addE, setL, setN, putE, env0, eqCs, eqAux, eqC, bA, bO, bN, bE, negB, kEq, isShr, lendL, lend, frz, frzL, zRow, closed, closedL, rowsOf, binI, retK, retG, atRet, retD, lendO, resL, resD, oneD, renD, renL, renE, renEs, rho, putAll, entsN, List.append, List.nil_append, List.cons_append, List.append_nil, cond, Nat.reduceBEq, Nat.reduceAdd, Nat.beq]
    refine call_mem _ _ (hp _ (List.getElem_mem hj)) (fun _ => rfl) ?_
    dsimp only [run_skip, run_reg, plainB, ifB_true, run_seq, run_blk, run_exit, run_ret, run_ite, iteR, regK, thenK_nrm, thenK_exit, thenK_ret, thenR_nrm, thenR_exit, thenR_ret, blkK, keepS, keepE, runOps_nil, runOps_cons, goG_some, fpOk, foot, entOf, allN, memN, goOn_ok, goOn_call, goOn_row, goOn_arr, goOn_ask, goOn_put, goOn_prm, goOn_callK, goOn_callC, goOn_all, guardP, guardO, notInO, stepF, stepLd, stepSt, stepIxs, stepIxa, stepLen, stepApp, stepCpy, stepPick, stepSls, stepSst, stepSla, bareZ, evX, evL, evB, rd, get, subG, memG, freshG, notInG, hyps, gob, impP, allP, partD, partOf, isOne, isPtr, nth, takeN, dropN, cellsD, lenB, fillD, thirds, entN, setE, sizeE, addE, setL, setN, putE, env0, eqCs, eqAux, eqC, bA, bO, bN, bE, negB, kEq, isShr, lendL, lend, frz, frzL, zRow, closed, closedL, rowsOf, binI, retK, retG, atRet, retD, lendO, resL, resD, oneD, renD, renL, renE, renEs, rho, putAll, entsN, List.append, List.nil_append, List.cons_append, List.append_nil, cond, Nat.reduceBEq, Nat.reduceAdd, Nat.beq]
    rw [drop_at hj] at hv
    simp only [idxP] at hv
    refine ⟨fun he => ?_, fun he => ?_⟩
    · rw [if_pos he] at hv
      rw [← hv]
      exact Rt.id
    · rw [if_neg (by simp [he])] at hv
      refine ⟨by simp only [fits]; omega, ?_⟩
      exact again (ih ⟨i + 1, by omega, by rw [← hv]; rfl⟩ (by dsimp only; omega)) ⟨rfl, rfl, rfl, rfl, trivial⟩ (subB_refl _) (by simp [stIp, lowE, low, hc]) hb (by simp [stIp])
  · have hj : i = l.length := by simp at hj; omega
    subst hj
    rw [List.drop_length] at hv
    rw [← hv]
    exact Rt.id

theorem sm_ContainsFunc {bx : List Ent} (hb : lowB (sizeE bx) bx = true) {f : Nat} {caps : List D} (hc : lowL (sizeE bx) caps = true) {p : Int → Bool} {l : List Int} (hl : l.length < 1000000) (hp : ∀ x ∈ l, TSpM f (.int .u32 x :: caps) bx (.bool (p x)) bx) :
    TSpM 33 [.ls 1 (iL l), .fn f caps] bx (.bool (l.any p)) bx := by
  refine spm_slices_ContainsFunc_api_ID_api_ID (by rfl) ?_
  dsimp only [c_slices_ContainsFunc_api_ID_api_ID, r_slices_ContainsFunc_api_ID_api_ID, run_skip, run_reg, plainB, ifB_true, run_seq, run_blk, run_exit, run_ret, run_ite, iteR, regK, thenK_nrm, thenK_exit, thenK_ret, thenR_nrm, thenR_exit, thenR_ret, blkK, keepS, keepE, runOps_nil, runOps_cons, goG_some, fpOk, foot, entOf, allN, memN, goOn_ok, goOn_call, goOn_row, goOn_arr, goOn_ask, goOn_put, goOn_prm, goOn_callK, goOn_callC, goOn_all, guardP, guardO, notInO, stepF, stepLd, stepSt, stepIxs, stepIxa, stepLen, stepApp, stepCpy, stepPick, stepSls, stepSst, stepSla, bareZ, evX, evL, evB, rd, get, subG, memG, freshG, notInG, hyps, gob, impP, allP, partD, partOf, isOne, isPtr, nth, takeN, dropN, cellsD, lenB, fillD, thirds, entN, setE, sizeE, addE, setL, setN, putE, env0, eqCs, eqAux, eqC, bA, bO, bN, bE, negB, kEq, isShr, lendL, lend, frz, frzL, zRow, closed, closedL, rowsOf, binI, retK, retG, atRet, retD, lendO, resL, resD, oneD, renD, renL, renE, renEs, rho, putAll, entsN, List.append, List.nil_append, List.cons_append, List.append_nil, cond, Nat.reduceBEq, Nat.reduceAdd, Nat.beq]
  refine call_mem _ _ (sm_IndexFunc hb hc hl hp) (fun _ => rfl) ?_
  dsimp only [run_skip, run_reg, plainB, ifB_true, run_seq, run_blk, run_exit, run_ret, run_ite, iteR, regK, thenK_nrm, thenK_exit, thenK_ret, thenR_nrm, thenR_exit, thenR_ret, blkK, keepS, keepE, runOps_nil, runOps_cons, goG_some, fpOk, foot, entOf, allN, memN, goOn_ok, goOn_call, goOn_row, goOn_arr, goOn_ask, goOn_put, goOn_prm, goOn_callK, goOn_callC, goOn_all, guardP, guardO, notInO, stepF, stepLd, stepSt, stepIxs, stepIxa, stepLen, stepApp, stepCpy, stepPick, stepSls, stepSst, stepSla, bareZ, evX, evL, evB, rd, get, subG, memG, freshG, notInG, hyps, gob, impP, allP, partD, partOf, isOne, isPtr, nth, takeN, dropN, cellsD, lenB, fillD, thirds, entN, setE, sizeE, addE, setL, setN, putE, env0, eqCs, eqAux, eqC, bA, bO, bN, bE, negB, kEq, isShr, lendL, lend, frz, frzL, zRow, closed, closedL, rowsOf, binI, retK, retG, atRet, retD, lendO, resL, resD, oneD, renD, renL, renE, renEs, rho, putAll, entsN, List.append, List.nil_append, List.cons_append, List.append_nil, cond, Nat.reduceBEq, Nat.reduceAdd, Nat.beq]
  have := idxP_nn (p := p) (l := l) (i := 0) (by omega)
  rw [show decide (0 ≤ idxP p l 0) = l.any p by
    cases h : l.any p
    · rw [h] at this; simp at this; simpa using this
    · rw [h] at this; simp at this; simpa using this]
  exact Rt.id

/-- What Restack's own functions look at. -/
def capQ : List D := [.box 8 0, .box 0 0, .box 1 0, .box 3 0]
def cellQ (l : List Int) (al : Bool) (a : Int) : List D := [.bool al, .int .i64 l.length, .int .i64 a, .fn 34 [.box 8 0, .box 0 0, .box 1 0, .box 3 0], .fn 36 [.box 8 0, .box 0 0, .box 1 0, .box 3 0]]
def M29 (t : TT) (id sib : Int) (m : Ats) (l : List Int) (al : Bool) (a : Int) : List Ent := [.cells [mpD .u32 (kKV t.kids), mpD .u32 (uKV t.up)], .cells [.int .u32 id], .cells [.int .u32 sib], .cells [mpD .u32 (aKV m)], .cells [.mp [] [], .mp [] []], .gone, .cells [.ls 1 (iL l)],
  .cells [.bool al, .int .i64 l.length, .int .i64 a, .fn 34 [.box 8 0, .box 0 0, .box 1 0, .box 3 0], .fn 36 [.box 8 0, .box 0 0, .box 1 0, .box 3 0]],
  .cells [.fn 32 [.box 7 0, .box 2 0, .box 6 0]], .cells [.fn 56 []], .cells [.fn 57 []]]

section
variable {t : TT} {id sib : Int} {m : Ats} {l : List Int} {al : Bool} {a : Int}
theorem sm_Restack_3_1 (h : t.Ok) (hm : m.Ok) (w : Int) : TSpM 35 [.int .u32 w, .box 0 0, .box 1 0, .box 3 0] (M29 t id sib m l al a) (.bool (hidesT t m w id)) (M29 t id sib m l al a) := by
  refine spm_stack_Restack_3_1 (by rfl) ?_
  have hh := sp_stack_Hides h hm w id
  rw [show tD t = .agg [mpD .u32 (kKV t.kids), mpD .u32 (uKV t.up)] from rfl] at hh
  dsimp only [c_stack_Restack_3_1, r_stack_Restack_3_1, M29, run_skip, run_reg, plainB, ifB_true, run_seq, run_blk, run_exit, run_ret, run_ite, iteR, regK, thenK_nrm, thenK_exit, thenK_ret, thenR_nrm, thenR_exit, thenR_ret, blkK, keepS, keepE, runOps_nil, runOps_cons, goG_some, fpOk, foot, entOf, allN, memN, goOn_ok, goOn_call, goOn_row, goOn_arr, goOn_ask, goOn_put, goOn_prm, goOn_callK, goOn_callC, goOn_all, guardP, guardO, notInO, stepF, stepLd, stepSt, stepIxs, stepIxa, stepLen, stepApp, stepCpy, stepPick, stepSls, stepSst, stepSla, bareZ, evX, evL, evB, rd, get, subG, memG, freshG, notInG, hyps, gob, impP, allP, partD, partOf, isOne, isPtr, nth, takeN, dropN, cellsD, lenB, fillD, thirds, entN, setE, sizeE, addE, setL, setN, putE, env0, eqCs, eqAux, eqC, bA, bO, bN, bE, negB, kEq, isShr, lendL, lend, frz, frzL, zRow, closed, closedL, rowsOf, binI, retK, retG, atRet, retD, lendO, resL, resD, oneD, renD, renL, renE, renEs, rho, putAll, entsN, List.append, List.nil_append, List.cons_append, List.append_nil, cond, Nat.reduceBEq, Nat.reduceAdd, Nat.beq]
  refine call_pure hh ?_
  dsimp only [run_skip, run_reg, plainB, ifB_true, run_seq, run_blk, run_exit, run_ret, run_ite, iteR, regK, thenK_nrm, thenK_exit, thenK_ret, thenR_nrm, thenR_exit, thenR_ret, blkK, keepS, keepE, runOps_nil, runOps_cons, goG_some, fpOk, foot, entOf, allN, memN, goOn_ok, goOn_call, goOn_row, goOn_arr, goOn_ask, goOn_put, goOn_prm, goOn_callK, goOn_callC, goOn_all, guardP, guardO, notInO, stepF, stepLd, stepSt, stepIxs, stepIxa, stepLen, stepApp, stepCpy, stepPick, stepSls, stepSst, stepSla, bareZ, evX, evL, evB, rd, get, subG, memG, freshG, notInG, hyps, gob, impP, allP, partD, partOf, isOne, isPtr, nth, takeN, dropN, cellsD, lenB, fillD, thirds, entN, setE, sizeE, addE, setL, setN, putE, env0, eqCs, eqAux, eqC, bA, bO, bN, bE, negB, kEq, isShr, lendL, lend, frz, frzL, zRow, closed, closedL, rowsOf, binI, retK, retG, atRet, retD, lendO, resL, resD, oneD, renD, renL, renE, renEs, rho, putAll, entsN, List.append, List.nil_append, List.cons_append, List.append_nil, cond, Nat.reduceBEq, Nat.reduceAdd, Nat.beq]
  exact Rt.id
theorem sm_Restack_4_1 (h : t.Ok) (hm : m.Ok) (w : Int) : TSpM 37 [.int .u32 w, .box 0 0, .box 1 0, .box 3 0] (M29 t id sib m l al a) (.bool (hidesT t m id w)) (M29 t id sib m l al a) := by
  refine spm_stack_Restack_4_1 (by rfl) ?_
  have hh := sp_stack_Hides h hm id w
  rw [show tD t = .agg [mpD .u32 (kKV t.kids), mpD .u32 (uKV t.up)] from rfl] at hh
  dsimp only [c_stack_Restack_4_1, r_stack_Restack_4_1, M29, run_skip, run_reg, plainB, ifB_true, run_seq, run_blk, run_exit, run_ret, run_ite, iteR, regK, thenK_nrm, thenK_exit, thenK_ret, thenR_nrm, thenR_exit, thenR_ret, blkK, keepS, keepE, runOps_nil, runOps_cons, goG_some, fpOk, foot, entOf, allN, memN, goOn_ok, goOn_call, goOn_row, goOn_arr, goOn_ask, goOn_put, goOn_prm, goOn_callK, goOn_callC, goOn_all, guardP, guardO, notInO, stepF, stepLd, stepSt, stepIxs, stepIxa, stepLen, stepApp, stepCpy, stepPick, stepSls, stepSst, stepSla, bareZ, evX, evL, evB, rd, get, subG, memG, freshG, notInG, hyps, gob, impP, allP, partD, partOf, isOne, isPtr, nth, takeN, dropN, cellsD, lenB, fillD, thirds, entN, setE, sizeE, addE, setL, setN, putE, env0, eqCs, eqAux, eqC, bA, bO, bN, bE, negB, kEq, isShr, lendL, lend, frz, frzL, zRow, closed, closedL, rowsOf, binI, retK, retG, atRet, retD, lendO, resL, resD, oneD, renD, renL, renE, renEs, rho, putAll, entsN, List.append, List.nil_append, List.cons_append, List.append_nil, cond, Nat.reduceBEq, Nat.reduceAdd, Nat.beq]
  refine call_pure hh ?_
  dsimp only [run_skip, run_reg, plainB, ifB_true, run_seq, run_blk, run_exit, run_ret, run_ite, iteR, regK, thenK_nrm, thenK_exit, thenK_ret, thenR_nrm, thenR_exit, thenR_ret, blkK, keepS, keepE, runOps_nil, runOps_cons, goG_some, fpOk, foot, entOf, allN, memN, goOn_ok, goOn_call, goOn_row, goOn_arr, goOn_ask, goOn_put, goOn_prm, goOn_callK, goOn_callC, goOn_all, guardP, guardO, notInO, stepF, stepLd, stepSt, stepIxs, stepIxa, stepLen, stepApp, stepCpy, stepPick, stepSls, stepSst, stepSla, bareZ, evX, evL, evB, rd, get, subG, memG, freshG, notInG, hyps, gob, impP, allP, partD, partOf, isOne, isPtr, nth, takeN, dropN, cellsD, lenB, fillD, thirds, entN, setE, sizeE, addE, setL, setN, putE, env0, eqCs, eqAux, eqC, bA, bO, bN, bE, negB, kEq, isShr, lendL, lend, frz, frzL, zRow, closed, closedL, rowsOf, binI, retK, retG, atRet, retD, lendO, resL, resD, oneD, renD, renL, renE, renEs, rho, putAll, entsN, List.append, List.nil_append, List.cons_append, List.append_nil, cond, Nat.reduceBEq, Nat.reduceAdd, Nat.beq]
  exact Rt.id

def someB (al : Bool) (sib : Int) (l : List Int) (p : Int → Bool) : Bool := if al then l.any p else p sib
theorem sm_Restack_2 {f : Nat} {p : Int → Bool} (hl : l.length < 1000000) (hp : ∀ x, TSpM f [.int .u32 x, .box 0 0, .box 1 0, .box 3 0] (M29 t id sib m l al a) (.bool (p x)) (M29 t id sib m l al a)) :
    TSpM 32 [.fn f [.box 0 0, .box 1 0, .box 3 0], .box 7 0, .box 2 0, .box 6 0] (M29 t id sib m l al a) (.bool (someB al sib l p)) (M29 t id sib m l al a) := by
  refine spm_stack_Restack_2 (by rfl) ?_
  have hsi := hp sib
  have hco := sm_ContainsFunc (bx := M29 t id sib m l al a) (f := f) (caps := [.box 0 0, .box 1 0, .box 3 0]) (p := p) (l := l) rfl rfl hl (fun x _ => hp x)
  dsimp only [c_stack_Restack_2, r_stack_Restack_2, M29, run_skip, run_reg, plainB, ifB_true, run_seq, run_blk, run_exit, run_ret, run_ite, iteR, regK, thenK_nrm, thenK_exit, thenK_ret, thenR_nrm, thenR_exit, thenR_ret, blkK, keepS, keepE, runOps_nil, runOps_cons, goG_some, fpOk, foot, entOf, allN, memN, goOn_ok, goOn_call, goOn_row, goOn_arr, goOn_ask, goOn_put, goOn_prm, goOn_callK, goOn_callC, goOn_all, guardP, guardO, notInO, stepF, stepLd, stepSt, stepIxs, stepIxa, stepLen, stepApp, stepCpy, stepPick, stepSls, stepSst, stepSla, bareZ, evX, evL, evB, rd, get, subG, memG, freshG, notInG, hyps, gob, impP, allP, partD, partOf, isOne, isPtr, nth, takeN, dropN, cellsD, lenB, fillD, thirds, entN, setE, sizeE, addE, setL, setN, putE, env0, eqCs, eqAux, eqC, bA, bO, bN, bE, negB, kEq, isShr, lendL, lend, frz, frzL, zRow, closed, closedL, rowsOf, binI, retK, retG, atRet, retD, lendO, resL, resD, oneD, renD, renL, renE, renEs, rho, putAll, entsN, List.append, List.nil_append, List.cons_append, List.append_nil, cond, Nat.reduceBEq, Nat.reduceAdd, Nat.beq] at *
  unfold someB
  cases al
  · refine ⟨fun _ => ?_, nofun⟩
    refine call_mem _ _ hsi (fun _ => rfl) ?_
    dsimp only [run_skip, run_reg, plainB, ifB_true, run_seq, run_blk, run_exit, run_ret, run_ite, iteR, regK, thenK_nrm, thenK_exit, thenK_ret, thenR_nrm, thenR_exit, thenR_ret, blkK, keepS, keepE, runOps_nil, runOps_cons, goG_some, fpOk, foot, entOf, allN, memN, goOn_ok, goOn_call, goOn_row, goOn_arr, goOn_ask, goOn_put, goOn_prm, goOn_callK, goOn_callC, goOn_all, guardP, guardO, notInO, stepF, stepLd, stepSt, stepIxs, stepIxa, stepLen, stepApp, stepCpy, stepPick, stepSls, stepSst, stepSla, bareZ, evX, evL, evB, rd, get, subG, memG, freshG, notInG, hyps, gob, impP, allP, partD, partOf, isOne, isPtr, nth, takeN, dropN, cellsD, lenB, fillD, thirds, entN, setE, sizeE, addE, setL, setN, putE, env0, eqCs, eqAux, eqC, bA, bO, bN, bE, negB, kEq, isShr, lendL, lend, frz, frzL, zRow, closed, closedL, rowsOf, binI, retK, retG, atRet, retD, lendO, resL, resD, oneD, renD, renL, renE, renEs, rho, putAll, entsN, List.append, List.nil_append, List.cons_append, List.append_nil, cond, Nat.reduceBEq, Nat.reduceAdd, Nat.beq]
    exact Rt.id
  · refine ⟨nofun, fun _ => ?_⟩
    refine call_mem _ _ hco (fun _ => rfl) ?_
    dsimp only [run_skip, run_reg, plainB, ifB_true, run_seq, run_blk, run_exit, run_ret, run_ite, iteR, regK, thenK_nrm, thenK_exit, thenK_ret, thenR_nrm, thenR_exit, thenR_ret, blkK, keepS, keepE, runOps_nil, runOps_cons, goG_some, fpOk, foot, entOf, allN, memN, goOn_ok, goOn_call, goOn_row, goOn_arr, goOn_ask, goOn_put, goOn_prm, goOn_callK, goOn_callC, goOn_all, guardP, guardO, notInO, stepF, stepLd, stepSt, stepIxs, stepIxa, stepLen, stepApp, stepCpy, stepPick, stepSls, stepSst, stepSla, bareZ, evX, evL, evB, rd, get, subG, memG, freshG, notInG, hyps, gob, impP, allP, partD, partOf, isOne, isPtr, nth, takeN, dropN, cellsD, lenB, fillD, thirds, entN, setE, sizeE, addE, setL, setN, putE, env0, eqCs, eqAux, eqC, bA, bO, bN, bE, negB, kEq, isShr, lendL, lend, frz, frzL, zRow, closed, closedL, rowsOf, binI, retK, retG, atRet, retD, lendO, resL, resD, oneD, renD, renL, renE, renEs, rho, putAll, entsN, List.append, List.nil_append, List.cons_append, List.append_nil, cond, Nat.reduceBEq, Nat.reduceAdd, Nat.beq]
    exact Rt.id

theorem sm_Restack_3 (h : t.Ok) (hm : m.Ok) (hl : l.length < 1000000) : TSpM 34 [.box 8 0, .box 0 0, .box 1 0, .box 3 0] (M29 t id sib m l al a) (.bool (someB al sib l fun w => hidesT t m w id)) (M29 t id sib m l al a) := by
  refine spm_stack_Restack_3 (by rfl) ?_
  have hh := sm_Restack_2 (t := t) (id := id) (sib := sib) (m := m) (al := al) (a := a) (p := fun w => hidesT t m w id) hl (fun w => sm_Restack_3_1 h hm w)
  dsimp only [c_stack_Restack_3, r_stack_Restack_3, M29, run_skip, run_reg, plainB, ifB_true, run_seq, run_blk, run_exit, run_ret, run_ite, iteR, regK, thenK_nrm, thenK_exit, thenK_ret, thenR_nrm, thenR_exit, thenR_ret, blkK, keepS, keepE, runOps_nil, runOps_cons, goG_some, fpOk, foot, entOf, allN, memN, goOn_ok, goOn_call, goOn_row, goOn_arr, goOn_ask, goOn_put, goOn_prm, goOn_callK, goOn_callC, goOn_all, guardP, guardO, notInO, stepF, stepLd, stepSt, stepIxs, stepIxa, stepLen, stepApp, stepCpy, stepPick, stepSls, stepSst, stepSla, bareZ, evX, evL, evB, rd, get, subG, memG, freshG, notInG, hyps, gob, impP, allP, partD, partOf, isOne, isPtr, nth, takeN, dropN, cellsD, lenB, fillD, thirds, entN, setE, sizeE, addE, setL, setN, putE, env0, eqCs, eqAux, eqC, bA, bO, bN, bE, negB, kEq, isShr, lendL, lend, frz, frzL, zRow, closed, closedL, rowsOf, binI, retK, retG, atRet, retD, lendO, resL, resD, oneD, renD, renL, renE, renEs, rho, putAll, entsN, List.append, List.nil_append, List.cons_append, List.append_nil, cond, Nat.reduceBEq, Nat.reduceAdd, Nat.beq] at *
  refine call_mem _ _ hh (fun _ => rfl) ?_
  dsimp only [run_skip, run_reg, plainB, ifB_true, run_seq, run_blk, run_exit, run_ret, run_ite, iteR, regK, thenK_nrm, thenK_exit, thenK_ret, thenR_nrm, thenR_exit, thenR_ret, blkK, keepS, keepE, runOps_nil, runOps_cons, goG_some, fpOk, foot, entOf, allN, memN, goOn_ok, goOn_call, goOn_row, goOn_arr, goOn_ask, goOn_put, goOn_prm, goOn_callK, goOn_callC, goOn_all, guardP, guardO, notInO, stepF, stepLd, stepSt, stepIxs, stepIxa, stepLen, stepApp, stepCpy, stepPick, stepSls, stepSst, stepSla, bareZ, evX, evL, evB, rd, get, subG, memG, freshG, notInG, hyps, gob, impP, allP, partD, partOf, isOne, isPtr, nth, takeN, dropN, cellsD, lenB, fillD, thirds, entN, setE, sizeE, addE, setL, setN, putE, env0, eqCs, eqAux, eqC, bA, bO, bN, bE, negB, kEq, isShr, lendL, lend, frz, frzL, zRow, closed, closedL, rowsOf, binI, retK, retG, atRet, retD, lendO, resL, resD, oneD, renD, renL, renE, renEs, rho, putAll, entsN, List.append, List.nil_append, List.cons_append, List.append_nil, cond, Nat.reduceBEq, Nat.reduceAdd, Nat.beq]
  exact Rt.id
theorem sm_Restack_4 (h : t.Ok) (hm : m.Ok) (hl : l.length < 1000000) : TSpM 36 [.box 8 0, .box 0 0, .box 1 0, .box 3 0] (M29 t id sib m l al a) (.bool (someB al sib l fun w => hidesT t m id w)) (M29 t id sib m l al a) := by
  refine spm_stack_Restack_4 (by rfl) ?_
  have hh := sm_Restack_2 (t := t) (id := id) (sib := sib) (m := m) (al := al) (a := a) (p := fun w => hidesT t m id w) hl (fun w => sm_Restack_4_1 h hm w)
  dsimp only [c_stack_Restack_4, r_stack_Restack_4, M29, run_skip, run_reg, plainB, ifB_true, run_seq, run_blk, run_exit, run_ret, run_ite, iteR, regK, thenK_nrm, thenK_exit, thenK_ret, thenR_nrm, thenR_exit, thenR_ret, blkK, keepS, keepE, runOps_nil, runOps_cons, goG_some, fpOk, foot, entOf, allN, memN, goOn_ok, goOn_call, goOn_row, goOn_arr, goOn_ask, goOn_put, goOn_prm, goOn_callK, goOn_callC, goOn_all, guardP, guardO, notInO, stepF, stepLd, stepSt, stepIxs, stepIxa, stepLen, stepApp, stepCpy, stepPick, stepSls, stepSst, stepSla, bareZ, evX, evL, evB, rd, get, subG, memG, freshG, notInG, hyps, gob, impP, allP, partD, partOf, isOne, isPtr, nth, takeN, dropN, cellsD, lenB, fillD, thirds, entN, setE, sizeE, addE, setL, setN, putE, env0, eqCs, eqAux, eqC, bA, bO, bN, bE, negB, kEq, isShr, lendL, lend, frz, frzL, zRow, closed, closedL, rowsOf, binI, retK, retG, atRet, retD, lendO, resL, resD, oneD, renD, renL, renE, renEs, rho, putAll, entsN, List.append, List.nil_append, List.cons_append, List.append_nil, cond, Nat.reduceBEq, Nat.reduceAdd, Nat.beq] at *
  refine call_mem _ _ hh (fun _ => rfl) ?_
  dsimp only [run_skip, run_reg, plainB, ifB_true, run_seq, run_blk, run_exit, run_ret, run_ite, iteR, regK, thenK_nrm, thenK_exit, thenK_ret, thenR_nrm, thenR_exit, thenR_ret, blkK, keepS, keepE, runOps_nil, runOps_cons, goG_some, fpOk, foot, entOf, allN, memN, goOn_ok, goOn_call, goOn_row, goOn_arr, goOn_ask, goOn_put, goOn_prm, goOn_callK, goOn_callC, goOn_all, guardP, guardO, notInO, stepF, stepLd, stepSt, stepIxs, stepIxa, stepLen, stepApp, stepCpy, stepPick, stepSls, stepSst, stepSla, bareZ, evX, evL, evB, rd, get, subG, memG, freshG, notInG, hyps, gob, impP, allP, partD, partOf, isOne, isPtr, nth, takeN, dropN, cellsD, lenB, fillD, thirds, entN, setE, sizeE, addE, setL, setN, putE, env0, eqCs, eqAux, eqC, bA, bO, bN, bE, negB, kEq, isShr, lendL, lend, frz, frzL, zRow, closed, closedL, rowsOf, binI, retK, retG, atRet, retD, lendO, resL, resD, oneD, renD, renL, renE, renEs, rho, putAll, entsN, List.append, List.nil_append, List.cons_append, List.append_nil, cond, Nat.reduceBEq, Nat.reduceAdd, Nat.beq]
  exact Rt.id
end
end Go.AM
