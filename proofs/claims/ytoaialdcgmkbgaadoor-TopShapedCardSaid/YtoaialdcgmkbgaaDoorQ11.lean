
/- Regions moved; what is asked first of all. -/
import Derived.Test.YtoaialdcgmkbgaaDoorQ10
set_option linter.all false
namespace Go.AM
open Go Go.Proofs

def mvX (a d : Int) : Int := max (a + d) (-1048576)
def mvN (a n d : Int) : Int := min (a + d + n) 1048576 - max (a + d) (-1048576)
theorem sp_moved {a n d : Int} (ha : -1048576 ≤ a ∧ a ≤ 1048576) (hn : 0 ≤ n ∧ n ≤ 2097152) (hd : -2097152 ≤ d ∧ d ≤ 2097152) : TSp 46 [.int .i64 a, .int .i64 n, .int .i64 d] (.tup [.int .i64 (mvX a d), .int .i64 (mvN a n d)]) := by
  refine spo_region_moved (by rfl) ?_
  dsimp only [c_region_moved, r_region_moved, run_skip,run_reg,plainB,ifB_true,run_seq,run_blk,run_exit,run_ret,run_ite,iteR,regK,thenK_nrm,thenK_exit,thenK_ret,thenR_nrm,thenR_exit,thenR_ret,blkK,keepS,keepE,runOps_nil,runOps_cons,goG_some,fpOk,foot,entOf,allN,memN,goOn_ok,goOn_call,goOn_row,goOn_arr,goOn_ask,goOn_put,goOn_prm,goOn_callK,goOn_callC,goOn_all,guardP,guardO,notInO,stepF,stepLd,stepSt,stepIxs,stepIxa,stepLen,stepApp,stepCpy,stepPick,stepSls,stepSst,stepSla,bareZ,evX,evL,evB,rd,get,subG,memG,freshG,notInG,hyps,gob,impP,allP,partD,partOf,isOne,isPtr,nth,takeN,dropN,cellsD,lenB,fillD,thirds,entN,setE,sizeE,addE,setL,setN,putE,env0,eqCs,eqAux,eqC,bA,bO,bN,bE,negB,kEq,isShr,lendL,lend,frz,frzL,zRow,known,skipP,closed,closedL,rowsOf,binI,retK,retG,atRet,retD,lendO,resL,resD,oneD,renD,renL,renE,renEs,rho,putAll,entsN,List.append,List.nil_append,List.cons_append,List.append_nil,cond,Nat.reduceBEq,Nat.reduceAdd,Nat.beq]
  exact ⟨by simp only [fits]; omega, by simp only [fits]; omega, by simp only [fits]; omega, by simp only [fits]; omega, rfl⟩
def mvR (dx dy : Int) (r : Rc) : Rc := ⟨mvX r.x dx, mvX r.y dy, mvN r.x r.w dx, mvN r.y r.h dy⟩
def mvR1 (dx : Int) (r : Rc) : Rc := ⟨mvX r.x dx, r.y, mvN r.x r.w dx, r.h⟩
def mvP (dx dy : Int) (P : Int → Int → Prop) : Int → Int → Prop := fun x y => P (x - dx) (y - dy) ∧ (-1048576 ≤ x ∧ x < 1048576) ∧ -1048576 ≤ y ∧ y < 1048576
theorem mv_bdd {dx dy : Int} {P : Int → Int → Prop} : Bdd (mvP dx dy P) := fun x y h => h.2
theorem sp_Shift {P : Int → Int → Prop} (hP : Bdd P) {dx dy : Int} (hx : -2097152 ≤ dx ∧ dx ≤ 2097152) (hy : -2097152 ≤ dy ∧ dy ≤ 2097152) (hl : (reg P).length ≤ 1073741824) :
    TSp 19 [.agg [.ls 4 (rcs (reg P))], .int .i64 dx, .int .i64 dy] (.agg [.ls 4 (rcs (reg (mvP dx dy P)))]) := by
  have hv := reg_Vr hP
  have hres : reg (pts (allL ((reg P).map (mvR dx dy)))) = reg (mvP dx dy P) := reg_ext fun x y => by
    unfold allL
    rw [allL_pts (fun r hr hp => by
      obtain ⟨q, hq, rfl⟩ := List.mem_map.1 hr
      have := hv q hq
      unfold Vr mvR mvX mvN at *
      unfold Pos at hp
      dsimp only at hp ⊢
      omega)]
    unfold mvP
    rw [← reg_Pt hP]
    unfold pts
    constructor
    · rintro ⟨q, hq, hh⟩
      obtain ⟨r, hr, rfl⟩ := List.mem_map.1 hq
      have := hv r hr
      unfold Vr at this
      unfold Rc.has mvR mvX mvN at hh
      dsimp only at hh
      exact ⟨⟨r, hr, by unfold Rc.has; omega⟩, by omega⟩
    · rintro ⟨⟨r, hr, hh⟩, hb⟩
      refine ⟨_, List.mem_map.2 ⟨r, hr, rfl⟩, ?_⟩
      have := hv r hr
      unfold Vr at this
      unfold Rc.has at hh
      unfold Rc.has mvR mvX mvN
      dsimp only
      omega
  generalize reg (mvP dx dy P) = rs at *
  generalize reg P = l at *
  refine spo_region_Shift (by rfl) ?_
  dsimp only [c_region_Shift, r_region_Shift, run_skip,run_reg,plainB,ifB_true,run_seq,run_blk,run_exit,run_ret,run_ite,iteR,regK,thenK_nrm,thenK_exit,thenK_ret,thenR_nrm,thenR_exit,thenR_ret,blkK,keepS,keepE,runOps_nil,runOps_cons,goG_some,fpOk,foot,entOf,allN,memN,goOn_ok,goOn_call,goOn_row,goOn_arr,goOn_ask,goOn_put,goOn_prm,goOn_callK,goOn_callC,goOn_all,guardP,guardO,notInO,stepF,stepLd,stepSt,stepIxs,stepIxa,stepLen,stepApp,stepCpy,stepPick,stepSls,stepSst,stepSla,bareZ,evX,evL,evB,rd,get,subG,memG,freshG,notInG,hyps,gob,impP,allP,partD,partOf,isOne,isPtr,nth,takeN,dropN,cellsD,lenB,fillD,thirds,entN,setE,sizeE,addE,setL,setN,putE,env0,eqCs,eqAux,eqC,bA,bO,bN,bE,negB,kEq,isShr,lendL,lend,frz,frzL,zRow,known,skipP,closed,closedL,rowsOf,binI,retK,retG,atRet,retD,lendO,resL,resD,oneD,renD,renL,renE,renEs,rho,putAll,entsN,List.append,List.nil_append,List.cons_append,List.append_nil,cond,Nat.reduceBEq,Nat.reduceAdd,Nat.beq]
  refine ⟨fun h => ?_, fun _ => ?_⟩
  · simp only [Bool.or_eq_true, decide_eq_true_eq] at h; omega
  refine call_own [] (sm_Rects (l := rcs l) (by rw [rcs_len]; omega)) rfl rfl ?_
  dsimp only [c_region_Shift, r_region_Shift, run_skip,run_reg,plainB,ifB_true,run_seq,run_blk,run_exit,run_ret,run_ite,iteR,regK,thenK_nrm,thenK_exit,thenK_ret,thenR_nrm,thenR_exit,thenR_ret,blkK,keepS,keepE,runOps_nil,runOps_cons,goG_some,fpOk,foot,entOf,allN,memN,goOn_ok,goOn_call,goOn_row,goOn_arr,goOn_ask,goOn_put,goOn_prm,goOn_callK,goOn_callC,goOn_all,guardP,guardO,notInO,stepF,stepLd,stepSt,stepIxs,stepIxa,stepLen,stepApp,stepCpy,stepPick,stepSls,stepSst,stepSla,bareZ,evX,evL,evB,rd,get,subG,memG,freshG,notInG,hyps,gob,impP,allP,partD,partOf,isOne,isPtr,nth,takeN,dropN,cellsD,lenB,fillD,thirds,entN,setE,sizeE,addE,setL,setN,putE,env0,eqCs,eqAux,eqC,bA,bO,bN,bE,negB,kEq,isShr,lendL,lend,frz,frzL,zRow,known,skipP,closed,closedL,rowsOf,binI,retK,retG,atRet,retD,lendO,resL,resD,oneD,renD,renL,renE,renEs,rho,putAll,entsN,List.append,List.nil_append,List.cons_append,List.append_nil,cond,Nat.reduceBEq,Nat.reduceAdd,Nat.beq]
  rw [rcs_len]
  refine ⟨rfl, ?_⟩
  refine loop_ind (α := {i : Nat // i ≤ l.length})
    (fun i => ⟨[(1, [], .int .i64 dx), (2, [], .int .i64 dy), (6, [], .box 1 0), (7, [], .own 5 2), (27, [], .int .i64 l.length), (28, [], .int .i64 i.1)],
      [.cells [.ls 4 (rcs l)], .cells [.ls 4 []], .cells [.ls 4 (rcs l)], .arr 25 4 0 [], .arr 25 4 0 [], .arr 25 4 2 (rcs (mapTo (mvR dx dy) l i.1))]⟩)
    (fun i => l.length - i.1) ?_ ⟨0, Nat.zero_le _⟩ (by simp [mapTo_zero])
  rintro ⟨i, hi⟩ I ih
  dsimp only at hi ⊢
  dsimp only [c_region_Shift, r_region_Shift, run_skip,run_reg,plainB,ifB_true,run_seq,run_blk,run_exit,run_ret,run_ite,iteR,regK,thenK_nrm,thenK_exit,thenK_ret,thenR_nrm,thenR_exit,thenR_ret,blkK,keepS,keepE,runOps_nil,runOps_cons,goG_some,fpOk,foot,entOf,allN,memN,goOn_ok,goOn_call,goOn_row,goOn_arr,goOn_ask,goOn_put,goOn_prm,goOn_callK,goOn_callC,goOn_all,guardP,guardO,notInO,stepF,stepLd,stepSt,stepIxs,stepIxa,stepLen,stepApp,stepCpy,stepPick,stepSls,stepSst,stepSla,bareZ,evX,evL,evB,rd,get,subG,memG,freshG,notInG,hyps,gob,impP,allP,partD,partOf,isOne,isPtr,nth,takeN,dropN,cellsD,lenB,fillD,thirds,entN,setE,sizeE,addE,setL,setN,putE,env0,eqCs,eqAux,eqC,bA,bO,bN,bE,negB,kEq,isShr,lendL,lend,frz,frzL,zRow,known,skipP,closed,closedL,rowsOf,binI,retK,retG,atRet,retD,lendO,resL,resD,oneD,renD,renL,renE,renEs,rho,putAll,entsN,List.append,List.nil_append,List.cons_append,List.append_nil,cond,Nat.reduceBEq,Nat.reduceAdd,Nat.beq]
  refine ⟨fun hlt => ?_, fun hge => ?_⟩
  · have hil : i < l.length := by simpa using hlt
    obtain ⟨r, hr⟩ : ∃ r, l[i]? = some r := ⟨_, List.getElem?_eq_getElem hil⟩
    have hV := hv r (List.mem_of_getElem? hr)
    unfold Vr at hV
    have hix : ∀ L : List Rc, L.length = l.length → (0 : Int) ≤ i ∧ (i : Int) < ((rcs L).length : Int) := fun L hL => by rw [rcs_len, hL]; omega
    have hset : ∀ (L : List Rc) (q : Rc), ((rcs L).set ((i : Nat) : Int).toNat (rD q)) = rcs (L.set i q) := fun L q => by rw [rcs_set', Int.toNat_natCast]
    have hml : (mapTo (mvR dx dy) l i).length = l.length := mapTo_len
    have hrq : (rcs (mapTo (mvR dx dy) l i))[((i : Nat) : Int).toNat]? = some (rD r) := rcs_get (by rw [Int.toNat_natCast]; exact mapTo_get hr)
    have hgs : ∀ (q : Rc), (rcs ((mapTo (mvR dx dy) l i).set i q))[((i : Nat) : Int).toNat]? = some (rD q) := fun q => rcs_get (by
      rw [Int.toNat_natCast, List.getElem?_set_self (by rw [mapTo_len]; exact hil)])
    refine ⟨⟨rfl, rfl, hix _ hml⟩, ⟨rfl, rfl⟩, row_intro (rD r) (.int .i64 r.x) hrq rfl ?_⟩
    dsimp only [c_region_Shift, r_region_Shift, run_skip,run_reg,plainB,ifB_true,run_seq,run_blk,run_exit,run_ret,run_ite,iteR,regK,thenK_nrm,thenK_exit,thenK_ret,thenR_nrm,thenR_exit,thenR_ret,blkK,keepS,keepE,runOps_nil,runOps_cons,goG_some,fpOk,foot,entOf,allN,memN,goOn_ok,goOn_call,goOn_row,goOn_arr,goOn_ask,goOn_put,goOn_prm,goOn_callK,goOn_callC,goOn_all,guardP,guardO,notInO,stepF,stepLd,stepSt,stepIxs,stepIxa,stepLen,stepApp,stepCpy,stepPick,stepSls,stepSst,stepSla,bareZ,evX,evL,evB,rd,get,subG,memG,freshG,notInG,hyps,gob,impP,allP,partD,partOf,isOne,isPtr,nth,takeN,dropN,cellsD,lenB,fillD,thirds,entN,setE,sizeE,addE,setL,setN,putE,env0,eqCs,eqAux,eqC,bA,bO,bN,bE,negB,kEq,isShr,lendL,lend,frz,frzL,zRow,known,skipP,closed,closedL,rowsOf,binI,retK,retG,atRet,retD,lendO,resL,resD,oneD,renD,renL,renE,renEs,rho,putAll,entsN,List.append,List.nil_append,List.cons_append,List.append_nil,cond,Nat.reduceBEq,Nat.reduceAdd,Nat.beq]
    refine ⟨⟨rfl, rfl, hix _ hml⟩, ⟨rfl, rfl⟩, row_intro (rD r) (.int .i64 r.w) hrq rfl ?_⟩
    dsimp only [c_region_Shift, r_region_Shift, run_skip,run_reg,plainB,ifB_true,run_seq,run_blk,run_exit,run_ret,run_ite,iteR,regK,thenK_nrm,thenK_exit,thenK_ret,thenR_nrm,thenR_exit,thenR_ret,blkK,keepS,keepE,runOps_nil,runOps_cons,goG_some,fpOk,foot,entOf,allN,memN,goOn_ok,goOn_call,goOn_row,goOn_arr,goOn_ask,goOn_put,goOn_prm,goOn_callK,goOn_callC,goOn_all,guardP,guardO,notInO,stepF,stepLd,stepSt,stepIxs,stepIxa,stepLen,stepApp,stepCpy,stepPick,stepSls,stepSst,stepSla,bareZ,evX,evL,evB,rd,get,subG,memG,freshG,notInG,hyps,gob,impP,allP,partD,partOf,isOne,isPtr,nth,takeN,dropN,cellsD,lenB,fillD,thirds,entN,setE,sizeE,addE,setL,setN,putE,env0,eqCs,eqAux,eqC,bA,bO,bN,bE,negB,kEq,isShr,lendL,lend,frz,frzL,zRow,known,skipP,closed,closedL,rowsOf,binI,retK,retG,atRet,retD,lendO,resL,resD,oneD,renD,renL,renE,renEs,rho,putAll,entsN,List.append,List.nil_append,List.cons_append,List.append_nil,cond,Nat.reduceBEq,Nat.reduceAdd,Nat.beq]
    refine call_pure (sp_moved (by omega) (by omega) hx) ?_
    dsimp only [c_region_Shift, r_region_Shift, run_skip,run_reg,plainB,ifB_true,run_seq,run_blk,run_exit,run_ret,run_ite,iteR,regK,thenK_nrm,thenK_exit,thenK_ret,thenR_nrm,thenR_exit,thenR_ret,blkK,keepS,keepE,runOps_nil,runOps_cons,goG_some,fpOk,foot,entOf,allN,memN,goOn_ok,goOn_call,goOn_row,goOn_arr,goOn_ask,goOn_put,goOn_prm,goOn_callK,goOn_callC,goOn_all,guardP,guardO,notInO,stepF,stepLd,stepSt,stepIxs,stepIxa,stepLen,stepApp,stepCpy,stepPick,stepSls,stepSst,stepSla,bareZ,evX,evL,evB,rd,get,subG,memG,freshG,notInG,hyps,gob,impP,allP,partD,partOf,isOne,isPtr,nth,takeN,dropN,cellsD,lenB,fillD,thirds,entN,setE,sizeE,addE,setL,setN,putE,env0,eqCs,eqAux,eqC,bA,bO,bN,bE,negB,kEq,isShr,lendL,lend,frz,frzL,zRow,known,skipP,closed,closedL,rowsOf,binI,retK,retG,atRet,retD,lendO,resL,resD,oneD,renD,renL,renE,renEs,rho,putAll,entsN,List.append,List.nil_append,List.cons_append,List.append_nil,cond,Nat.reduceBEq,Nat.reduceAdd,Nat.beq]
    refine ⟨⟨rfl, rfl, hix _ hml⟩, ⟨rfl, rfl⟩, putrow_intro (hs := []) (rD r) (rD ⟨mvX r.x dx, r.y, r.w, r.h⟩) hrq rfl ?_⟩
    dsimp only [c_region_Shift, r_region_Shift, run_skip,run_reg,plainB,ifB_true,run_seq,run_blk,run_exit,run_ret,run_ite,iteR,regK,thenK_nrm,thenK_exit,thenK_ret,thenR_nrm,thenR_exit,thenR_ret,blkK,keepS,keepE,runOps_nil,runOps_cons,goG_some,fpOk,foot,entOf,allN,memN,goOn_ok,goOn_call,goOn_row,goOn_arr,goOn_ask,goOn_put,goOn_prm,goOn_callK,goOn_callC,goOn_all,guardP,guardO,notInO,stepF,stepLd,stepSt,stepIxs,stepIxa,stepLen,stepApp,stepCpy,stepPick,stepSls,stepSst,stepSla,bareZ,evX,evL,evB,rd,get,subG,memG,freshG,notInG,hyps,gob,impP,allP,partD,partOf,isOne,isPtr,nth,takeN,dropN,cellsD,lenB,fillD,thirds,entN,setE,sizeE,addE,setL,setN,putE,env0,eqCs,eqAux,eqC,bA,bO,bN,bE,negB,kEq,isShr,lendL,lend,frz,frzL,zRow,known,skipP,closed,closedL,rowsOf,binI,retK,retG,atRet,retD,lendO,resL,resD,oneD,renD,renL,renE,renEs,rho,putAll,entsN,List.append,List.nil_append,List.cons_append,List.append_nil,cond,Nat.reduceBEq,Nat.reduceAdd,Nat.beq]
    rw [hset]
    have hml2 : ∀ q, ((mapTo (mvR dx dy) l i).set i q).length = l.length := fun q => by rw [List.length_set, mapTo_len]
    refine ⟨⟨rfl, rfl, hix _ (hml2 _)⟩, ⟨rfl, rfl⟩, putrow_intro (hs := []) (rD ⟨mvX r.x dx, r.y, r.w, r.h⟩) (rD (mvR1 dx r)) (hgs _) rfl ?_⟩
    dsimp only [c_region_Shift, r_region_Shift, run_skip,run_reg,plainB,ifB_true,run_seq,run_blk,run_exit,run_ret,run_ite,iteR,regK,thenK_nrm,thenK_exit,thenK_ret,thenR_nrm,thenR_exit,thenR_ret,blkK,keepS,keepE,runOps_nil,runOps_cons,goG_some,fpOk,foot,entOf,allN,memN,goOn_ok,goOn_call,goOn_row,goOn_arr,goOn_ask,goOn_put,goOn_prm,goOn_callK,goOn_callC,goOn_all,guardP,guardO,notInO,stepF,stepLd,stepSt,stepIxs,stepIxa,stepLen,stepApp,stepCpy,stepPick,stepSls,stepSst,stepSla,bareZ,evX,evL,evB,rd,get,subG,memG,freshG,notInG,hyps,gob,impP,allP,partD,partOf,isOne,isPtr,nth,takeN,dropN,cellsD,lenB,fillD,thirds,entN,setE,sizeE,addE,setL,setN,putE,env0,eqCs,eqAux,eqC,bA,bO,bN,bE,negB,kEq,isShr,lendL,lend,frz,frzL,zRow,known,skipP,closed,closedL,rowsOf,binI,retK,retG,atRet,retD,lendO,resL,resD,oneD,renD,renL,renE,renEs,rho,putAll,entsN,List.append,List.nil_append,List.cons_append,List.append_nil,cond,Nat.reduceBEq,Nat.reduceAdd,Nat.beq]
    rw [hset, List.set_set]
    refine ⟨⟨rfl, rfl, hix _ (hml2 _)⟩, ⟨rfl, rfl⟩, row_intro (rD (mvR1 dx r)) (.int .i64 r.y) (hgs _) rfl ?_⟩
    dsimp only [c_region_Shift, r_region_Shift, run_skip,run_reg,plainB,ifB_true,run_seq,run_blk,run_exit,run_ret,run_ite,iteR,regK,thenK_nrm,thenK_exit,thenK_ret,thenR_nrm,thenR_exit,thenR_ret,blkK,keepS,keepE,runOps_nil,runOps_cons,goG_some,fpOk,foot,entOf,allN,memN,goOn_ok,goOn_call,goOn_row,goOn_arr,goOn_ask,goOn_put,goOn_prm,goOn_callK,goOn_callC,goOn_all,guardP,guardO,notInO,stepF,stepLd,stepSt,stepIxs,stepIxa,stepLen,stepApp,stepCpy,stepPick,stepSls,stepSst,stepSla,bareZ,evX,evL,evB,rd,get,subG,memG,freshG,notInG,hyps,gob,impP,allP,partD,partOf,isOne,isPtr,nth,takeN,dropN,cellsD,lenB,fillD,thirds,entN,setE,sizeE,addE,setL,setN,putE,env0,eqCs,eqAux,eqC,bA,bO,bN,bE,negB,kEq,isShr,lendL,lend,frz,frzL,zRow,known,skipP,closed,closedL,rowsOf,binI,retK,retG,atRet,retD,lendO,resL,resD,oneD,renD,renL,renE,renEs,rho,putAll,entsN,List.append,List.nil_append,List.cons_append,List.append_nil,cond,Nat.reduceBEq,Nat.reduceAdd,Nat.beq]
    refine ⟨⟨rfl, rfl, hix _ (hml2 _)⟩, ⟨rfl, rfl⟩, row_intro (rD (mvR1 dx r)) (.int .i64 r.h) (hgs _) rfl ?_⟩
    dsimp only [c_region_Shift, r_region_Shift, run_skip,run_reg,plainB,ifB_true,run_seq,run_blk,run_exit,run_ret,run_ite,iteR,regK,thenK_nrm,thenK_exit,thenK_ret,thenR_nrm,thenR_exit,thenR_ret,blkK,keepS,keepE,runOps_nil,runOps_cons,goG_some,fpOk,foot,entOf,allN,memN,goOn_ok,goOn_call,goOn_row,goOn_arr,goOn_ask,goOn_put,goOn_prm,goOn_callK,goOn_callC,goOn_all,guardP,guardO,notInO,stepF,stepLd,stepSt,stepIxs,stepIxa,stepLen,stepApp,stepCpy,stepPick,stepSls,stepSst,stepSla,bareZ,evX,evL,evB,rd,get,subG,memG,freshG,notInG,hyps,gob,impP,allP,partD,partOf,isOne,isPtr,nth,takeN,dropN,cellsD,lenB,fillD,thirds,entN,setE,sizeE,addE,setL,setN,putE,env0,eqCs,eqAux,eqC,bA,bO,bN,bE,negB,kEq,isShr,lendL,lend,frz,frzL,zRow,known,skipP,closed,closedL,rowsOf,binI,retK,retG,atRet,retD,lendO,resL,resD,oneD,renD,renL,renE,renEs,rho,putAll,entsN,List.append,List.nil_append,List.cons_append,List.append_nil,cond,Nat.reduceBEq,Nat.reduceAdd,Nat.beq]
    refine call_pure (sp_moved (by omega) (by omega) hy) ?_
    dsimp only [c_region_Shift, r_region_Shift, run_skip,run_reg,plainB,ifB_true,run_seq,run_blk,run_exit,run_ret,run_ite,iteR,regK,thenK_nrm,thenK_exit,thenK_ret,thenR_nrm,thenR_exit,thenR_ret,blkK,keepS,keepE,runOps_nil,runOps_cons,goG_some,fpOk,foot,entOf,allN,memN,goOn_ok,goOn_call,goOn_row,goOn_arr,goOn_ask,goOn_put,goOn_prm,goOn_callK,goOn_callC,goOn_all,guardP,guardO,notInO,stepF,stepLd,stepSt,stepIxs,stepIxa,stepLen,stepApp,stepCpy,stepPick,stepSls,stepSst,stepSla,bareZ,evX,evL,evB,rd,get,subG,memG,freshG,notInG,hyps,gob,impP,allP,partD,partOf,isOne,isPtr,nth,takeN,dropN,cellsD,lenB,fillD,thirds,entN,setE,sizeE,addE,setL,setN,putE,env0,eqCs,eqAux,eqC,bA,bO,bN,bE,negB,kEq,isShr,lendL,lend,frz,frzL,zRow,known,skipP,closed,closedL,rowsOf,binI,retK,retG,atRet,retD,lendO,resL,resD,oneD,renD,renL,renE,renEs,rho,putAll,entsN,List.append,List.nil_append,List.cons_append,List.append_nil,cond,Nat.reduceBEq,Nat.reduceAdd,Nat.beq]
    refine ⟨⟨rfl, rfl, hix _ (hml2 _)⟩, ⟨rfl, rfl⟩, putrow_intro (hs := []) (rD (mvR1 dx r)) (rD ⟨mvX r.x dx, mvX r.y dy, mvN r.x r.w dx, r.h⟩) (hgs _) rfl ?_⟩
    dsimp only [c_region_Shift, r_region_Shift, run_skip,run_reg,plainB,ifB_true,run_seq,run_blk,run_exit,run_ret,run_ite,iteR,regK,thenK_nrm,thenK_exit,thenK_ret,thenR_nrm,thenR_exit,thenR_ret,blkK,keepS,keepE,runOps_nil,runOps_cons,goG_some,fpOk,foot,entOf,allN,memN,goOn_ok,goOn_call,goOn_row,goOn_arr,goOn_ask,goOn_put,goOn_prm,goOn_callK,goOn_callC,goOn_all,guardP,guardO,notInO,stepF,stepLd,stepSt,stepIxs,stepIxa,stepLen,stepApp,stepCpy,stepPick,stepSls,stepSst,stepSla,bareZ,evX,evL,evB,rd,get,subG,memG,freshG,notInG,hyps,gob,impP,allP,partD,partOf,isOne,isPtr,nth,takeN,dropN,cellsD,lenB,fillD,thirds,entN,setE,sizeE,addE,setL,setN,putE,env0,eqCs,eqAux,eqC,bA,bO,bN,bE,negB,kEq,isShr,lendL,lend,frz,frzL,zRow,known,skipP,closed,closedL,rowsOf,binI,retK,retG,atRet,retD,lendO,resL,resD,oneD,renD,renL,renE,renEs,rho,putAll,entsN,List.append,List.nil_append,List.cons_append,List.append_nil,cond,Nat.reduceBEq,Nat.reduceAdd,Nat.beq]
    rw [hset, List.set_set]
    refine ⟨⟨rfl, rfl, hix _ (hml2 _)⟩, ⟨rfl, rfl⟩, putrow_intro (hs := []) (rD ⟨mvX r.x dx, mvX r.y dy, mvN r.x r.w dx, r.h⟩) (rD (mvR dx dy r)) (hgs _) rfl ?_⟩
    dsimp only [c_region_Shift, r_region_Shift, run_skip,run_reg,plainB,ifB_true,run_seq,run_blk,run_exit,run_ret,run_ite,iteR,regK,thenK_nrm,thenK_exit,thenK_ret,thenR_nrm,thenR_exit,thenR_ret,blkK,keepS,keepE,runOps_nil,runOps_cons,goG_some,fpOk,foot,entOf,allN,memN,goOn_ok,goOn_call,goOn_row,goOn_arr,goOn_ask,goOn_put,goOn_prm,goOn_callK,goOn_callC,goOn_all,guardP,guardO,notInO,stepF,stepLd,stepSt,stepIxs,stepIxa,stepLen,stepApp,stepCpy,stepPick,stepSls,stepSst,stepSla,bareZ,evX,evL,evB,rd,get,subG,memG,freshG,notInG,hyps,gob,impP,allP,partD,partOf,isOne,isPtr,nth,takeN,dropN,cellsD,lenB,fillD,thirds,entN,setE,sizeE,addE,setL,setN,putE,env0,eqCs,eqAux,eqC,bA,bO,bN,bE,negB,kEq,isShr,lendL,lend,frz,frzL,zRow,known,skipP,closed,closedL,rowsOf,binI,retK,retG,atRet,retD,lendO,resL,resD,oneD,renD,renL,renE,renEs,rho,putAll,entsN,List.append,List.nil_append,List.cons_append,List.append_nil,cond,Nat.reduceBEq,Nat.reduceAdd,Nat.beq]
    rw [hset, List.set_set, mapTo_set hr]
    exact ⟨by simp only [fits]; omega, again (ih ⟨i + 1, by omega⟩ (by dsimp only; omega)) ⟨rfl, rfl, rfl, rfl, rfl, by simp [get], trivial⟩ ⟨rfl, rfl, rfl, rfl, rfl, rfl, trivial⟩ rfl rfl⟩
  · have hil : i = l.length := by simp at hge; omega
    subst hil
    rw [mapTo_all]
    refine call_frz rfl ⟨rfl, trivial⟩ (Sp.lift (sp_band_Of (fun r hr => ?_) (by rw [List.length_map]; exact hl)) rfl) ?_
    · obtain ⟨q, hq, rfl⟩ := List.mem_map.1 hr
      have := hv q hq
      unfold Vr at this
      unfold mvR mvX mvN Rc.In fits; dsimp only; omega
    dsimp only [c_region_Shift, r_region_Shift, run_skip,run_reg,plainB,ifB_true,run_seq,run_blk,run_exit,run_ret,run_ite,iteR,regK,thenK_nrm,thenK_exit,thenK_ret,thenR_nrm,thenR_exit,thenR_ret,blkK,keepS,keepE,runOps_nil,runOps_cons,goG_some,fpOk,foot,entOf,allN,memN,goOn_ok,goOn_call,goOn_row,goOn_arr,goOn_ask,goOn_put,goOn_prm,goOn_callK,goOn_callC,goOn_all,guardP,guardO,notInO,stepF,stepLd,stepSt,stepIxs,stepIxa,stepLen,stepApp,stepCpy,stepPick,stepSls,stepSst,stepSla,bareZ,evX,evL,evB,rd,get,subG,memG,freshG,notInG,hyps,gob,impP,allP,partD,partOf,isOne,isPtr,nth,takeN,dropN,cellsD,lenB,fillD,thirds,entN,setE,sizeE,addE,setL,setN,putE,env0,eqCs,eqAux,eqC,bA,bO,bN,bE,negB,kEq,isShr,lendL,lend,frz,frzL,zRow,known,skipP,closed,closedL,rowsOf,binI,retK,retG,atRet,retD,lendO,resL,resD,oneD,renD,renL,renE,renEs,rho,putAll,entsN,List.append,List.nil_append,List.cons_append,List.append_nil,cond,Nat.reduceBEq,Nat.reduceAdd,Nat.beq]
    rw [hres]

/-- Small enough. -/
theorem w32 {P : Int → Int → Prop} (h : Win (-4) 28 (-4) 28 P) : (reg P).length ≤ 1024 ∧ Bdd P ∧ MidP P := by
  have hb : Bdd P := fun x y hp => by have := h x y hp; omega
  refine ⟨?_, hb, fun x y hp => by have := h x y hp; omega⟩
  have := reg_few (reg_bdd hb) h
  have e : max ((28 : Int) - -4) 0 * max ((28 : Int) - -4) 0 = 1024 := by decide
  rw [e] at this
  omega
theorem sp_small {w h : Int} (hw : 0 ≤ w ∧ w ≤ 255) (hh : 0 ≤ h ∧ h ≤ 255) : TSp 5 [.int .i8 0, .int .i8 0, .int .u8 w, .int .u8 h] (rD ⟨0, 0, w % 24 + 1, h % 24 + 1⟩) := by
  refine spo_top_gravitySmall (by rfl) ?_
  dsimp only [c_top_gravitySmall, r_top_gravitySmall, rD, run_skip,run_reg,plainB,ifB_true,run_seq,run_blk,run_exit,run_ret,run_ite,iteR,regK,thenK_nrm,thenK_exit,thenK_ret,thenR_nrm,thenR_exit,thenR_ret,blkK,keepS,keepE,runOps_nil,runOps_cons,goG_some,fpOk,foot,entOf,allN,memN,goOn_ok,goOn_call,goOn_row,goOn_arr,goOn_ask,goOn_put,goOn_prm,goOn_callK,goOn_callC,goOn_all,guardP,guardO,notInO,stepF,stepLd,stepSt,stepIxs,stepIxa,stepLen,stepApp,stepCpy,stepPick,stepSls,stepSst,stepSla,bareZ,evX,evL,evB,rd,get,subG,memG,freshG,notInG,hyps,gob,impP,allP,partD,partOf,isOne,isPtr,nth,takeN,dropN,cellsD,lenB,fillD,thirds,entN,setE,sizeE,addE,setL,setN,putE,env0,eqCs,eqAux,eqC,bA,bO,bN,bE,negB,kEq,isShr,lendL,lend,frz,frzL,zRow,known,skipP,closed,closedL,rowsOf,binI,retK,retG,atRet,retD,lendO,resL,resD,oneD,renD,renL,renE,renEs,rho,putAll,entsN,List.append,List.nil_append,List.cons_append,List.append_nil,cond,Nat.reduceBEq,Nat.reduceAdd,Nat.beq]
  exact ⟨by simp only [fits]; omega, by simp only [fits]; omega, ⟨by omega, by omega⟩, by simp only [fits]; omega, by simp only [fits]; omega, ⟨by omega, by omega⟩, by simp only [fits]; omega, by simp only [fits]; omega, rfl⟩
end Go.AM
