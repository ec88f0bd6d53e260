
/- Shapes: a bitmap's region. -/
import Derived.Test.YtoaialdcgmkbgaaDoorQ7
set_option linter.all false
namespace Go.AM
open Go Go.Proofs

/-- The last rectangle. -/
def lastR (l : List Rc) : Rc := (l[l.length - 1]?).getD .o
/-- One place more: the last run is longer by one, or another one begins. -/
def addRun (lv : List Rc × Nat) (q : Int × Int) : List Rc × Nat :=
  if (decide ((0 : Int) < lv.1.length) && decide ((lastR lv.1).y = q.2) && decide ((lastR lv.1).x + (lastR lv.1).w = q.1)) = true then
    (lv.1.set (lv.1.length - 1) ⟨(lastR lv.1).x, (lastR lv.1).y, (lastR lv.1).w + 1, (lastR lv.1).h⟩, lv.2)
  else (lv.1 ++ [⟨q.1, q.2, 1, 1⟩], lv.2 + 1)
def runS (qs : List (Int × Int)) : List Rc × Nat := qs.foldl addRun ([], 0)
theorem runS_snoc (qs : List (Int × Int)) (q : Int × Int) : runS (qs ++ [q]) = addRun (runS qs) q := by simp [runS]
theorem lastR_get {l : List Rc} (h : 0 < l.length) : l[l.length - 1]? = some (lastR l) := by
  unfold lastR
  rw [List.getElem?_eq_getElem (by omega)]; rfl
theorem set_last {l : List Rc} (h : 0 < l.length) (r : Rc) : ∃ m, l = m ++ [lastR l] ∧ l.set (l.length - 1) r = m ++ [r] := by
  rcases List.eq_nil_or_concat l with rfl | ⟨m, a, rfl⟩
  · simp at h
  · rw [List.concat_eq_append] at *
    have : lastR (m ++ [a]) = a := by simp [lastR]
    refine ⟨m, by rw [this], ?_⟩
    simp
structure RunOk (w h : Int) (l : List Rc) (qs : List (Int × Int)) : Prop where
  b : ∀ r ∈ l, (0 ≤ r.x ∧ r.x + r.w ≤ w) ∧ (0 ≤ r.y ∧ r.y < h) ∧ r.h = 1 ∧ 1 ≤ r.w
  p : ∀ x y, pts l x y ↔ (x, y) ∈ qs
  n : l.length ≤ qs.length
theorem run_ok {w h : Int} : ∀ {qs : List (Int × Int)}, (∀ q ∈ qs, (0 ≤ q.1 ∧ q.1 < w) ∧ 0 ≤ q.2 ∧ q.2 < h) → RunOk w h (runS qs).1 qs := by
  intro qs
  induction hn : qs.length generalizing qs with
  | zero =>
    intro _
    rw [List.eq_nil_of_length_eq_zero hn]
    exact ⟨nofun, fun x y => by simp [runS, pts], Nat.le_refl _⟩
  | succ n ih =>
    rcases List.eq_nil_or_concat qs with rfl | ⟨qs, q, rfl⟩
    · simp at hn
    rw [List.concat_eq_append] at *
    intro hq
    have ih := ih (qs := qs) (by simpa using hn) fun p hp => hq p (by simp [hp])
    have hb := hq q (by simp)
    rw [runS_snoc]
    generalize runS qs = lv at *
    obtain ⟨l, ver⟩ := lv
    dsimp only at ih
    unfold addRun
    dsimp only
    split
    · rename_i hc
      simp only [Bool.and_eq_true, decide_eq_true_eq] at hc
      obtain ⟨⟨h1, h2⟩, h3⟩ := hc
      obtain ⟨m, e1, e2⟩ := set_last (l := l) (by omega) ⟨(lastR l).x, (lastR l).y, (lastR l).w + 1, (lastR l).h⟩
      have hl := ih.b (lastR l) (List.mem_of_getElem? (lastR_get (by omega)))
      dsimp only
      rw [e2]
      refine ⟨fun r hr => ?_, fun x y => ?_, by have := ih.n; rw [e1] at this; simp at this ⊢; omega⟩
      · rcases List.mem_append.1 hr with hr | hr
        · exact ih.b r (by rw [e1]; simp [hr])
        · simp at hr; subst hr; dsimp only; omega
      · have hp := ih.p x y
        rw [e1, pts_app, pts_one] at hp
        rw [pts_app, pts_one, List.mem_append, ← hp, List.mem_singleton]
        have : Rc.has ⟨(lastR l).x, (lastR l).y, (lastR l).w + 1, (lastR l).h⟩ x y ↔ (lastR l).has x y ∨ (x, y) = q := by
          unfold Rc.has
          have : (x, y) = q ↔ x = q.1 ∧ y = q.2 := by rw [Prod.ext_iff]
          rw [this]
          dsimp only
          omega
        rw [this]
        exact or_assoc.symm
    · dsimp only
      refine ⟨fun r hr => ?_, fun x y => ?_, by have := ih.n; simp; omega⟩
      · rcases List.mem_append.1 hr with hr | hr
        · exact ih.b r hr
        · simp at hr; subst hr; dsimp only; omega
      · rw [pts_app, pts_one, ih.p, List.mem_append, List.mem_singleton]
        have : Rc.has ⟨q.1, q.2, 1, 1⟩ x y ↔ (x, y) = q := by
          unfold Rc.has
          have : (x, y) = q ↔ x = q.1 ∧ y = q.2 := by rw [Prod.ext_iff]
          rw [this]
          dsimp only
          omega
        rw [this]

theorem sp_shape_Of {P : Int → Int → Prop} {w h : Nat} {s : List UInt8} (hw : 1 ≤ w ∧ w ≤ 128) (hh : 1 ≤ h ∧ h ≤ 128) (hP : Win 0 w 0 h P) (hs : IsBits P ((w + 7) / 8) ((w + 7) / 8 * h) s) :
    TSp 9 [.int .i64 w, .int .i64 h, .str s] (.tup [.agg [.ls 4 (rcs (reg P))], .int .i64 0]) := by
  have hst : (w + 7) / 8 ≤ 16 := by omega
  have hst0 : 0 < (w + 7) / 8 := by omega
  have hsl : s.length ≤ 2048 := by
    rw [hs.1]
    exact Nat.le_trans (Nat.mul_le_mul hst hh.2) (by omega)
  have hones := ones_bits hs hst0 (fun x y hp => by have := hP x y hp; omega)
  obtain ⟨qs, hqs⟩ : ∃ qs, onesAt ((w + 7) / 8) s 0 (8 * s.length) = qs := ⟨_, rfl⟩
  rw [hqs] at hones
  have hql : qs.length ≤ 16384 := by rw [← hqs]; exact Nat.le_trans (onesAt_len _ _) (by omega)
  have hqb : ∀ q ∈ qs, (0 ≤ q.1 ∧ q.1 < w) ∧ 0 ≤ q.2 ∧ q.2 < h := fun q hq => hP q.1 q.2 ((hones q.1 q.2).1 hq)
  have hr := run_ok hqb
  have hrv : ∀ r ∈ (runS qs).1, Vr r := fun r hr' => by
    have := hr.b r hr'
    unfold Vr; omega
  have hres : reg (pts (allL (runS qs).1)) = reg P := reg_ext fun x y => by
    unfold allL
    rw [allL_pts (fun r hr _ => hrv r hr), hr.p, hones]
  have hsl2 : (s.length : Int) = ((w : Int) + 7) / 8 * h := by
    rw [hs.1]; simp
  have hst2 : ((w : Int) + 7) / 8 = (((w + 7) / 8 : Nat) : Int) := by omega
  refine spo_shape_Of (by rfl) ?_
  dsimp only [c_shape_Of, r_shape_Of, run_skip,run_reg,plainB,ifB_true,run_seq,run_blk,run_exit,run_ret,run_ite,iteR,regK,thenK_nrm,thenK_exit,thenK_ret,thenR_nrm,thenR_exit,thenR_ret,blkK,keepS,keepE,runOps_nil,runOps_cons,goG_some,fpOk,foot,entOf,allN,memN,goOn_ok,goOn_call,goOn_row,goOn_arr,goOn_ask,goOn_put,goOn_prm,goOn_callK,goOn_callC,goOn_all,guardP,guardO,notInO,stepF,stepLd,stepSt,stepIxs,stepIxa,stepLen,stepApp,stepCpy,stepPick,stepSls,stepSst,stepSla,bareZ,evX,evL,evB,rd,get,subG,memG,freshG,notInG,hyps,gob,impP,allP,partD,partOf,isOne,isPtr,nth,takeN,dropN,cellsD,lenB,fillD,thirds,entN,setE,sizeE,addE,setL,setN,putE,env0,eqCs,eqAux,eqC,bA,bO,bN,bE,negB,kEq,isShr,lendL,lend,frz,frzL,zRow,known,skipP,closed,closedL,rowsOf,binI,retK,retG,atRet,retD,lendO,resL,resD,oneD,renD,renL,renE,renEs,rho,putAll,entsN,List.append,List.nil_append,List.cons_append,List.append_nil,cond,Nat.reduceBEq,Nat.reduceAdd,Nat.beq]
  refine call_pure sp_sided ?_
  dsimp only [c_shape_Of, r_shape_Of, run_skip,run_reg,plainB,ifB_true,run_seq,run_blk,run_exit,run_ret,run_ite,iteR,regK,thenK_nrm,thenK_exit,thenK_ret,thenR_nrm,thenR_exit,thenR_ret,blkK,keepS,keepE,runOps_nil,runOps_cons,goG_some,fpOk,foot,entOf,allN,memN,goOn_ok,goOn_call,goOn_row,goOn_arr,goOn_ask,goOn_put,goOn_prm,goOn_callK,goOn_callC,goOn_all,guardP,guardO,notInO,stepF,stepLd,stepSt,stepIxs,stepIxa,stepLen,stepApp,stepCpy,stepPick,stepSls,stepSst,stepSla,bareZ,evX,evL,evB,rd,get,subG,memG,freshG,notInG,hyps,gob,impP,allP,partD,partOf,isOne,isPtr,nth,takeN,dropN,cellsD,lenB,fillD,thirds,entN,setE,sizeE,addE,setL,setN,putE,env0,eqCs,eqAux,eqC,bA,bO,bN,bE,negB,kEq,isShr,lendL,lend,frz,frzL,zRow,known,skipP,closed,closedL,rowsOf,binI,retK,retG,atRet,retD,lendO,resL,resD,oneD,renD,renL,renE,renEs,rho,putAll,entsN,List.append,List.nil_append,List.cons_append,List.append_nil,cond,Nat.reduceBEq,Nat.reduceAdd,Nat.beq]
  refine call_pure (fun _ => sp_sided) ?_
  dsimp only [c_shape_Of, r_shape_Of, run_skip,run_reg,plainB,ifB_true,run_seq,run_blk,run_exit,run_ret,run_ite,iteR,regK,thenK_nrm,thenK_exit,thenK_ret,thenR_nrm,thenR_exit,thenR_ret,blkK,keepS,keepE,runOps_nil,runOps_cons,goG_some,fpOk,foot,entOf,allN,memN,goOn_ok,goOn_call,goOn_row,goOn_arr,goOn_ask,goOn_put,goOn_prm,goOn_callK,goOn_callC,goOn_all,guardP,guardO,notInO,stepF,stepLd,stepSt,stepIxs,stepIxa,stepLen,stepApp,stepCpy,stepPick,stepSls,stepSst,stepSla,bareZ,evX,evL,evB,rd,get,subG,memG,freshG,notInG,hyps,gob,impP,allP,partD,partOf,isOne,isPtr,nth,takeN,dropN,cellsD,lenB,fillD,thirds,entN,setE,sizeE,addE,setL,setN,putE,env0,eqCs,eqAux,eqC,bA,bO,bN,bE,negB,kEq,isShr,lendL,lend,frz,frzL,zRow,known,skipP,closed,closedL,rowsOf,binI,retK,retG,atRet,retD,lendO,resL,resD,oneD,renD,renL,renE,renEs,rho,putAll,entsN,List.append,List.nil_append,List.cons_append,List.append_nil,cond,Nat.reduceBEq,Nat.reduceAdd,Nat.beq]
  refine ⟨fun h => ?_, fun _ => ?_⟩
  · simp only [Bool.or_eq_true, Bool.not_eq_true', Bool.and_eq_false_iff, decide_eq_false_iff_not] at h; omega
  have hmul : ((((w + 7) / 8 : Nat) : Int) * (h : Int)) = (((w + 7) / 8 * h : Nat) : Int) := by simp
  have hsl3 := hs.1
  rw [hst2, hmul]
  generalize hstd : (w + 7) / 8 = st at *
  clear hsl2 hst2 hmul hs
  have hmle : st * h ≤ 2048 := by rw [← hsl3]; exact hsl
  rw [hsl3] at hqs ⊢
  generalize st * h = sh at *
  refine ⟨by simp only [fits]; omega, ⟨by omega, by omega, by simp only [fits]; omega⟩, by simp only [fits]; omega, fun h => ?_, fun _ => ⟨by simp only [fits]; omega, fun h => ?_, fun _ => ?_⟩⟩
  · simp only [decide_eq_true_eq] at h; omega
  · simp only [decide_eq_true_eq] at h; omega
  refine call_own [] (sm_ones (stride := (st : Int)) (s := s)) rfl rfl ?_
  dsimp only [c_shape_Of, r_shape_Of, run_skip,run_reg,plainB,ifB_true,run_seq,run_blk,run_exit,run_ret,run_ite,iteR,regK,thenK_nrm,thenK_exit,thenK_ret,thenR_nrm,thenR_exit,thenR_ret,blkK,keepS,keepE,runOps_nil,runOps_cons,goG_some,fpOk,foot,entOf,allN,memN,goOn_ok,goOn_call,goOn_row,goOn_arr,goOn_ask,goOn_put,goOn_prm,goOn_callK,goOn_callC,goOn_all,guardP,guardO,notInO,stepF,stepLd,stepSt,stepIxs,stepIxa,stepLen,stepApp,stepCpy,stepPick,stepSls,stepSst,stepSla,bareZ,evX,evL,evB,rd,get,subG,memG,freshG,notInG,hyps,gob,impP,allP,partD,partOf,isOne,isPtr,nth,takeN,dropN,cellsD,lenB,fillD,thirds,entN,setE,sizeE,addE,setL,setN,putE,env0,eqCs,eqAux,eqC,bA,bO,bN,bE,negB,kEq,isShr,lendL,lend,frz,frzL,zRow,known,skipP,closed,closedL,rowsOf,binI,retK,retG,atRet,retD,lendO,resL,resD,oneD,renD,renL,renE,renEs,rho,putAll,entsN,List.append,List.nil_append,List.cons_append,List.append_nil,cond,Nat.reduceBEq,Nat.reduceAdd,Nat.beq]
  have hit := it_ones (stride := st) (s := s) (by omega) (by omega) (by omega)
  rw [hsl3, hqs] at hit
  refine rangef_intro rfl rfl (qs.map onD) (OnK st s) (fun i => [.cells [.int .i64 w], .cells [.ls 4 []], .cells [.int .i64 0], .cells [.own 4 (runS (qs.take i)).2], .arr 25 4 (runS (qs.take i)).2 (rcs (runS (qs.take i)).1), .cells [.int .i64 st], .cells [.str s]]) (qs.map onD).length ?_
  refine ⟨hit, rfl, fun x hx => ?_, Nat.le_refl _, fun i _ => ⟨rfl, rfl, _, _, _, _, _, rfl⟩, rfl, fun i x o hi hx => ?_, fun h => absurd h (Nat.lt_irrefl _), fun _ => ?_⟩
  · obtain ⟨q, _, rfl⟩ := List.mem_map.1 hx
    rfl
  · rw [List.length_map] at hi
    obtain ⟨q, hq⟩ : ∃ q, qs[i]? = some q := ⟨_, List.getElem?_eq_getElem hi⟩
    have hx' : x = onD q := by simpa [hq] using hx.symm
    subst hx'
    have hqb1 := hqb q (List.mem_of_getElem? hq)
    have hro := run_ok (w := w) (h := h) (qs := qs.take i) fun p hp => hqb p (List.mem_of_mem_take hp)
    have htk : qs.take (i + 1) = qs.take i ++ [q] := by rw [List.take_add_one, hq]; rfl
    rw [htk, runS_snoc]
    have htl : (qs.take i).length ≤ 16384 := by rw [List.length_take]; omega
    generalize runS (qs.take i) = lv at *
    obtain ⟨l, ver⟩ := lv
    dsimp only at hro ⊢
    dsimp only [c_shape_Of, r_shape_Of, midK, goK, putPs, onD, takeAs, run_skip,run_reg,plainB,ifB_true,run_seq,run_blk,run_exit,run_ret,run_ite,iteR,regK,thenK_nrm,thenK_exit,thenK_ret,thenR_nrm,thenR_exit,thenR_ret,blkK,keepS,keepE,runOps_nil,runOps_cons,goG_some,fpOk,foot,entOf,allN,memN,goOn_ok,goOn_call,goOn_row,goOn_arr,goOn_ask,goOn_put,goOn_prm,goOn_callK,goOn_callC,goOn_all,guardP,guardO,notInO,stepF,stepLd,stepSt,stepIxs,stepIxa,stepLen,stepApp,stepCpy,stepPick,stepSls,stepSst,stepSla,bareZ,evX,evL,evB,rd,get,subG,memG,freshG,notInG,hyps,gob,impP,allP,partD,partOf,isOne,isPtr,nth,takeN,dropN,cellsD,lenB,fillD,thirds,entN,setE,sizeE,addE,setL,setN,putE,env0,eqCs,eqAux,eqC,bA,bO,bN,bE,negB,kEq,isShr,lendL,lend,frz,frzL,zRow,known,skipP,closed,closedL,rowsOf,binI,retK,retG,atRet,retD,lendO,resL,resD,oneD,renD,renL,renE,renEs,rho,putAll,entsN,List.append,List.nil_append,List.cons_append,List.append_nil,cond,Nat.reduceBEq,Nat.reduceAdd,Nat.beq]
    rw [rcs_len]
    have hrq : 0 < l.length → (rcs l)[((l.length : Int) - 1).toNat]? = some (rD (lastR l)) := fun h => rcs_get (by rw [show ((l.length : Int) - 1).toNat = l.length - 1 by omega]; exact lastR_get h)
    have hgl : ∀ {c : Bool}, (decide ((0 : Int) < l.length) && c) = true → 0 < l.length := fun h => by simp only [Bool.and_eq_true, decide_eq_true_eq] at h; omega
    have hgl1 : (decide ((0 : Int) < l.length)) = true → 0 < l.length := fun h => by simp only [decide_eq_true_eq] at h; omega
    have hln : l.length ≤ 16384 := Nat.le_trans hro.n htl
    have hlb : 0 < l.length → (0 ≤ (lastR l).x ∧ (lastR l).x + (lastR l).w ≤ w) ∧ 1 ≤ (lastR l).w := fun h => by
      have := hro.b (lastR l) (List.mem_of_getElem? (lastR_get h)); omega
    refine ⟨rfl, fun o' => ⟨fun h => by simp only [decide_eq_true_eq] at h; omega, fun _ => ⟨rfl, fun h => by simp only [fits]; omega, fun h => ⟨rfl, rfl, by have := hgl1 h; omega, by omega⟩, fun _ => ⟨rfl, rfl⟩, row_intro (rD (lastR l)) (.int .i64 (lastR l).y) (fun h => hrq (hgl1 h)) rfl ?_⟩⟩⟩
    dsimp only [c_shape_Of, r_shape_Of, midK, goK, putPs, onD, takeAs, run_skip,run_reg,plainB,ifB_true,run_seq,run_blk,run_exit,run_ret,run_ite,iteR,regK,thenK_nrm,thenK_exit,thenK_ret,thenR_nrm,thenR_exit,thenR_ret,blkK,keepS,keepE,runOps_nil,runOps_cons,goG_some,fpOk,foot,entOf,allN,memN,goOn_ok,goOn_call,goOn_row,goOn_arr,goOn_ask,goOn_put,goOn_prm,goOn_callK,goOn_callC,goOn_all,guardP,guardO,notInO,stepF,stepLd,stepSt,stepIxs,stepIxa,stepLen,stepApp,stepCpy,stepPick,stepSls,stepSst,stepSla,bareZ,evX,evL,evB,rd,get,subG,memG,freshG,notInG,hyps,gob,impP,allP,partD,partOf,isOne,isPtr,nth,takeN,dropN,cellsD,lenB,fillD,thirds,entN,setE,sizeE,addE,setL,setN,putE,env0,eqCs,eqAux,eqC,bA,bO,bN,bE,negB,kEq,isShr,lendL,lend,frz,frzL,zRow,known,skipP,closed,closedL,rowsOf,binI,retK,retG,atRet,retD,lendO,resL,resD,oneD,renD,renL,renE,renEs,rho,putAll,entsN,List.append,List.nil_append,List.cons_append,List.append_nil,cond,Nat.reduceBEq,Nat.reduceAdd,Nat.beq]
    rw [rcs_len]
    refine ⟨fun h => by simp only [fits]; omega, fun h => ⟨rfl, rfl, by have := hgl h; omega, by omega⟩, fun _ => ⟨rfl, rfl⟩, row_intro (rD (lastR l)) (.int .i64 (lastR l).x) (fun h => hrq (hgl h)) rfl ?_⟩
    dsimp only [c_shape_Of, r_shape_Of, midK, goK, putPs, onD, takeAs, run_skip,run_reg,plainB,ifB_true,run_seq,run_blk,run_exit,run_ret,run_ite,iteR,regK,thenK_nrm,thenK_exit,thenK_ret,thenR_nrm,thenR_exit,thenR_ret,blkK,keepS,keepE,runOps_nil,runOps_cons,goG_some,fpOk,foot,entOf,allN,memN,goOn_ok,goOn_call,goOn_row,goOn_arr,goOn_ask,goOn_put,goOn_prm,goOn_callK,goOn_callC,goOn_all,guardP,guardO,notInO,stepF,stepLd,stepSt,stepIxs,stepIxa,stepLen,stepApp,stepCpy,stepPick,stepSls,stepSst,stepSla,bareZ,evX,evL,evB,rd,get,subG,memG,freshG,notInG,hyps,gob,impP,allP,partD,partOf,isOne,isPtr,nth,takeN,dropN,cellsD,lenB,fillD,thirds,entN,setE,sizeE,addE,setL,setN,putE,env0,eqCs,eqAux,eqC,bA,bO,bN,bE,negB,kEq,isShr,lendL,lend,frz,frzL,zRow,known,skipP,closed,closedL,rowsOf,binI,retK,retG,atRet,retD,lendO,resL,resD,oneD,renD,renL,renE,renEs,rho,putAll,entsN,List.append,List.nil_append,List.cons_append,List.append_nil,cond,Nat.reduceBEq,Nat.reduceAdd,Nat.beq]
    rw [rcs_len]
    refine ⟨fun h => by simp only [fits]; omega, fun h => ⟨rfl, rfl, by have := hgl h; omega, by omega⟩, fun _ => ⟨rfl, rfl⟩, row_intro (rD (lastR l)) (.int .i64 (lastR l).w) (fun h => hrq (hgl h)) rfl ?_⟩
    dsimp only [c_shape_Of, r_shape_Of, midK, goK, putPs, onD, takeAs, run_skip,run_reg,plainB,ifB_true,run_seq,run_blk,run_exit,run_ret,run_ite,iteR,regK,thenK_nrm,thenK_exit,thenK_ret,thenR_nrm,thenR_exit,thenR_ret,blkK,keepS,keepE,runOps_nil,runOps_cons,goG_some,fpOk,foot,entOf,allN,memN,goOn_ok,goOn_call,goOn_row,goOn_arr,goOn_ask,goOn_put,goOn_prm,goOn_callK,goOn_callC,goOn_all,guardP,guardO,notInO,stepF,stepLd,stepSt,stepIxs,stepIxa,stepLen,stepApp,stepCpy,stepPick,stepSls,stepSst,stepSla,bareZ,evX,evL,evB,rd,get,subG,memG,freshG,notInG,hyps,gob,impP,allP,partD,partOf,isOne,isPtr,nth,takeN,dropN,cellsD,lenB,fillD,thirds,entN,setE,sizeE,addE,setL,setN,putE,env0,eqCs,eqAux,eqC,bA,bO,bN,bE,negB,kEq,isShr,lendL,lend,frz,frzL,zRow,known,skipP,closed,closedL,rowsOf,binI,retK,retG,atRet,retD,lendO,resL,resD,oneD,renD,renL,renE,renEs,rho,putAll,entsN,List.append,List.nil_append,List.cons_append,List.append_nil,cond,Nat.reduceBEq,Nat.reduceAdd,Nat.beq]
    unfold addRun
    dsimp only
    refine ⟨fun h => by have := hlb (hgl h); simp only [fits]; omega, fun hc => ?_, fun hc => ?_⟩
    · rw [if_pos hc]
      have hl0 : 0 < l.length := by simp only [Bool.and_eq_true, decide_eq_true_eq] at hc; omega
      have hlb0 := hlb hl0
      have hrq0 := hrq hl0
      have hix : (0 : Int) ≤ (l.length : Int) - 1 ∧ (l.length : Int) - 1 < ((rcs l).length : Int) := by rw [rcs_len]; omega
      refine ⟨by simp only [fits]; omega, ⟨rfl, rfl, hix⟩, ⟨rfl, rfl⟩, row_intro (rD (lastR l)) (.int .i64 (lastR l).w) hrq0 rfl ?_⟩
      dsimp only [c_shape_Of, r_shape_Of, midK, goK, putPs, onD, takeAs, run_skip,run_reg,plainB,ifB_true,run_seq,run_blk,run_exit,run_ret,run_ite,iteR,regK,thenK_nrm,thenK_exit,thenK_ret,thenR_nrm,thenR_exit,thenR_ret,blkK,keepS,keepE,runOps_nil,runOps_cons,goG_some,fpOk,foot,entOf,allN,memN,goOn_ok,goOn_call,goOn_row,goOn_arr,goOn_ask,goOn_put,goOn_prm,goOn_callK,goOn_callC,goOn_all,guardP,guardO,notInO,stepF,stepLd,stepSt,stepIxs,stepIxa,stepLen,stepApp,stepCpy,stepPick,stepSls,stepSst,stepSla,bareZ,evX,evL,evB,rd,get,subG,memG,freshG,notInG,hyps,gob,impP,allP,partD,partOf,isOne,isPtr,nth,takeN,dropN,cellsD,lenB,fillD,thirds,entN,setE,sizeE,addE,setL,setN,putE,env0,eqCs,eqAux,eqC,bA,bO,bN,bE,negB,kEq,isShr,lendL,lend,frz,frzL,zRow,known,skipP,closed,closedL,rowsOf,binI,retK,retG,atRet,retD,lendO,resL,resD,oneD,renD,renL,renE,renEs,rho,putAll,entsN,List.append,List.nil_append,List.cons_append,List.append_nil,cond,Nat.reduceBEq,Nat.reduceAdd,Nat.beq]
      refine ⟨by simp only [fits]; omega, ⟨rfl, rfl, hix⟩, ⟨rfl, rfl⟩, putrow_intro (hs := []) (rD (lastR l)) (rD ⟨(lastR l).x, (lastR l).y, (lastR l).w + 1, (lastR l).h⟩) hrq0 rfl ?_⟩
      dsimp only [c_shape_Of, r_shape_Of, midK, goK, putPs, onD, takeAs, run_skip,run_reg,plainB,ifB_true,run_seq,run_blk,run_exit,run_ret,run_ite,iteR,regK,thenK_nrm,thenK_exit,thenK_ret,thenR_nrm,thenR_exit,thenR_ret,blkK,keepS,keepE,runOps_nil,runOps_cons,goG_some,fpOk,foot,entOf,allN,memN,goOn_ok,goOn_call,goOn_row,goOn_arr,goOn_ask,goOn_put,goOn_prm,goOn_callK,goOn_callC,goOn_all,guardP,guardO,notInO,stepF,stepLd,stepSt,stepIxs,stepIxa,stepLen,stepApp,stepCpy,stepPick,stepSls,stepSst,stepSla,bareZ,evX,evL,evB,rd,get,subG,memG,freshG,notInG,hyps,gob,impP,allP,partD,partOf,isOne,isPtr,nth,takeN,dropN,cellsD,lenB,fillD,thirds,entN,setE,sizeE,addE,setL,setN,putE,env0,eqCs,eqAux,eqC,bA,bO,bN,bE,negB,kEq,isShr,lendL,lend,frz,frzL,zRow,known,skipP,closed,closedL,rowsOf,binI,retK,retG,atRet,retD,lendO,resL,resD,oneD,renD,renL,renE,renEs,rho,putAll,entsN,List.append,List.nil_append,List.cons_append,List.append_nil,cond,Nat.reduceBEq,Nat.reduceAdd,Nat.beq]
      refine ⟨rfl, ?_⟩
      rw [rcs_set', show ((l.length : Int) - 1).toNat = l.length - 1 by omega]
    · rw [if_neg (by rw [hc]; simp)]
      have hll : (rcs l).length ≤ 16384 := by rw [rcs_len]; exact hln
      refine ⟨⟨rfl, rfl, rfl, rfl, by simp only [List.length_cons, List.length_nil]; omega, by simp only [List.length_cons, List.length_nil]; omega⟩, rfl, ?_⟩
      simp [rcs, rD]
  · rw [List.length_map, List.take_length]
    dsimp only [c_shape_Of, r_shape_Of, run_skip,run_reg,plainB,ifB_true,run_seq,run_blk,run_exit,run_ret,run_ite,iteR,regK,thenK_nrm,thenK_exit,thenK_ret,thenR_nrm,thenR_exit,thenR_ret,blkK,keepS,keepE,runOps_nil,runOps_cons,goG_some,fpOk,foot,entOf,allN,memN,goOn_ok,goOn_call,goOn_row,goOn_arr,goOn_ask,goOn_put,goOn_prm,goOn_callK,goOn_callC,goOn_all,guardP,guardO,notInO,stepF,stepLd,stepSt,stepIxs,stepIxa,stepLen,stepApp,stepCpy,stepPick,stepSls,stepSst,stepSla,bareZ,evX,evL,evB,rd,get,subG,memG,freshG,notInG,hyps,gob,impP,allP,partD,partOf,isOne,isPtr,nth,takeN,dropN,cellsD,lenB,fillD,thirds,entN,setE,sizeE,addE,setL,setN,putE,env0,eqCs,eqAux,eqC,bA,bO,bN,bE,negB,kEq,isShr,lendL,lend,frz,frzL,zRow,known,skipP,closed,closedL,rowsOf,binI,retK,retG,atRet,retD,lendO,resL,resD,oneD,renD,renL,renE,renEs,rho,putAll,entsN,List.append,List.nil_append,List.cons_append,List.append_nil,cond,Nat.reduceBEq,Nat.reduceAdd,Nat.beq]
    refine call_frz rfl ⟨rfl, trivial⟩ (Sp.lift (sp_band_Of (fun r hr' => (hrv r hr').in) (by have := hr.n; omega)) rfl) ?_
    dsimp only [c_shape_Of, r_shape_Of, run_skip,run_reg,plainB,ifB_true,run_seq,run_blk,run_exit,run_ret,run_ite,iteR,regK,thenK_nrm,thenK_exit,thenK_ret,thenR_nrm,thenR_exit,thenR_ret,blkK,keepS,keepE,runOps_nil,runOps_cons,goG_some,fpOk,foot,entOf,allN,memN,goOn_ok,goOn_call,goOn_row,goOn_arr,goOn_ask,goOn_put,goOn_prm,goOn_callK,goOn_callC,goOn_all,guardP,guardO,notInO,stepF,stepLd,stepSt,stepIxs,stepIxa,stepLen,stepApp,stepCpy,stepPick,stepSls,stepSst,stepSla,bareZ,evX,evL,evB,rd,get,subG,memG,freshG,notInG,hyps,gob,impP,allP,partD,partOf,isOne,isPtr,nth,takeN,dropN,cellsD,lenB,fillD,thirds,entN,setE,sizeE,addE,setL,setN,putE,env0,eqCs,eqAux,eqC,bA,bO,bN,bE,negB,kEq,isShr,lendL,lend,frz,frzL,zRow,known,skipP,closed,closedL,rowsOf,binI,retK,retG,atRet,retD,lendO,resL,resD,oneD,renD,renL,renE,renEs,rho,putAll,entsN,List.append,List.nil_append,List.cons_append,List.append_nil,cond,Nat.reduceBEq,Nat.reduceAdd,Nat.beq]
    rw [hres]
end Go.AM
