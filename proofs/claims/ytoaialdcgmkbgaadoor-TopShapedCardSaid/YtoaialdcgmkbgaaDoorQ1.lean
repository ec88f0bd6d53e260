
/- Bands: the methods of a region. -/
import Derived.Test.YtoaialdcgmkbgaaDoorZ6
import Derived.Test.YtoaialdcgmkbgaaDoorP6
import Derived.Test.YtoaialdcgmkbgaaDoorA31
set_option linter.all false
namespace Go.AM
open Go Go.Proofs

theorem sm_Clone {l : List D} (hl : l.length ≤ 4294967296) : TSpM 58 [.ls 4 l] [] (.own 1 2) [.arr 25 4 0 [], .arr 25 4 2 l] := by
  refine spm_slices_Clone_api_Rect_api_Rect (by rfl) ?_
  dsimp only [c_slices_Clone_api_Rect_api_Rect, r_slices_Clone_api_Rect_api_Rect, run_skip,run_reg,plainB,ifB_true,run_seq,run_blk,run_exit,run_ret,run_ite,iteR,regK,thenK_nrm,thenK_exit,thenK_ret,thenR_nrm,thenR_exit,thenR_ret,blkK,keepS,keepE,runOps_nil,runOps_cons,goG_some,fpOk,foot,entOf,allN,memN,goOn_ok,goOn_call,goOn_row,goOn_arr,goOn_ask,goOn_put,goOn_prm,goOn_callK,goOn_callC,goOn_all,guardP,guardO,notInO,stepF,stepLd,stepSt,stepIxs,stepIxa,stepLen,stepApp,stepCpy,stepPick,stepSls,stepSst,stepSla,bareZ,evX,evL,evB,rd,get,subG,memG,freshG,notInG,hyps,gob,impP,allP,partD,partOf,isOne,isPtr,nth,takeN,dropN,cellsD,lenB,fillD,thirds,entN,setE,sizeE,addE,setL,setN,putE,env0,eqCs,eqAux,eqC,bA,bO,bN,bE,negB,kEq,isShr,lendL,lend,frz,frzL,zRow,known,skipP,closed,closedL,rowsOf,binI,retK,retG,atRet,retD,lendO,resL,resD,oneD,renD,renL,renE,renEs,rho,putAll,entsN,List.append,List.nil_append,List.cons_append,List.append_nil,cond,Nat.reduceBEq,Nat.reduceAdd,Nat.beq]
  refine prm_all _ (pr_eqn tRects false) ?_
  rintro d bx' ⟨rfl, b, rfl, hb⟩
  dsimp only [c_slices_Clone_api_Rect_api_Rect, r_slices_Clone_api_Rect_api_Rect, run_skip,run_reg,plainB,ifB_true,run_seq,run_blk,run_exit,run_ret,run_ite,iteR,regK,thenK_nrm,thenK_exit,thenK_ret,thenR_nrm,thenR_exit,thenR_ret,blkK,keepS,keepE,runOps_nil,runOps_cons,goG_some,fpOk,foot,entOf,allN,memN,goOn_ok,goOn_call,goOn_row,goOn_arr,goOn_ask,goOn_put,goOn_prm,goOn_callK,goOn_callC,goOn_all,guardP,guardO,notInO,stepF,stepLd,stepSt,stepIxs,stepIxa,stepLen,stepApp,stepCpy,stepPick,stepSls,stepSst,stepSla,bareZ,evX,evL,evB,rd,get,subG,memG,freshG,notInG,hyps,gob,impP,allP,partD,partOf,isOne,isPtr,nth,takeN,dropN,cellsD,lenB,fillD,thirds,entN,setE,sizeE,addE,setL,setN,putE,env0,eqCs,eqAux,eqC,bA,bO,bN,bE,negB,kEq,isShr,lendL,lend,frz,frzL,zRow,known,skipP,closed,closedL,rowsOf,binI,retK,retG,atRet,retD,lendO,resL,resD,oneD,renD,renL,renE,renEs,rho,putAll,entsN,List.append,List.nil_append,List.cons_append,List.append_nil,cond,Nat.reduceBEq,Nat.reduceAdd,Nat.beq]
  refine ⟨fun h => ?_, fun h => ?_⟩
  · have : l = [] := hb (by simpa using h)
    subst this
    exact Rt.trans (Rt.next (k := 1) rfl) (Rt.next (k := 1) rfl)
  · refine ⟨⟨rfl, rfl, rfl, rfl, ?_, ?_⟩, Rt.id⟩ <;> simp only [List.length_nil] <;> omega
theorem sm_Rects {l : List D} (hl : l.length ≤ 4294967296) : TSpM 34 [.agg [.ls 4 l]] [] (.own 3 2) [.cells [.ls 4 l], .arr 25 4 0 [], .arr 25 4 0 [], .arr 25 4 2 l] := by
  refine spm_band_Region_Rects (by rfl) ?_
  dsimp only [c_band_Region_Rects, r_band_Region_Rects, run_skip,run_reg,plainB,ifB_true,run_seq,run_blk,run_exit,run_ret,run_ite,iteR,regK,thenK_nrm,thenK_exit,thenK_ret,thenR_nrm,thenR_exit,thenR_ret,blkK,keepS,keepE,runOps_nil,runOps_cons,goG_some,fpOk,foot,entOf,allN,memN,goOn_ok,goOn_call,goOn_row,goOn_arr,goOn_ask,goOn_put,goOn_prm,goOn_callK,goOn_callC,goOn_all,guardP,guardO,notInO,stepF,stepLd,stepSt,stepIxs,stepIxa,stepLen,stepApp,stepCpy,stepPick,stepSls,stepSst,stepSla,bareZ,evX,evL,evB,rd,get,subG,memG,freshG,notInG,hyps,gob,impP,allP,partD,partOf,isOne,isPtr,nth,takeN,dropN,cellsD,lenB,fillD,thirds,entN,setE,sizeE,addE,setL,setN,putE,env0,eqCs,eqAux,eqC,bA,bO,bN,bE,negB,kEq,isShr,lendL,lend,frz,frzL,zRow,known,skipP,closed,closedL,rowsOf,binI,retK,retG,atRet,retD,lendO,resL,resD,oneD,renD,renL,renE,renEs,rho,putAll,entsN,List.append,List.nil_append,List.cons_append,List.append_nil,cond,Nat.reduceBEq,Nat.reduceAdd,Nat.beq]
  refine call_own [] (sm_Clone hl) rfl rfl ?_
  dsimp only [c_band_Region_Rects, r_band_Region_Rects, run_skip,run_reg,plainB,ifB_true,run_seq,run_blk,run_exit,run_ret,run_ite,iteR,regK,thenK_nrm,thenK_exit,thenK_ret,thenR_nrm,thenR_exit,thenR_ret,blkK,keepS,keepE,runOps_nil,runOps_cons,goG_some,fpOk,foot,entOf,allN,memN,goOn_ok,goOn_call,goOn_row,goOn_arr,goOn_ask,goOn_put,goOn_prm,goOn_callK,goOn_callC,goOn_all,guardP,guardO,notInO,stepF,stepLd,stepSt,stepIxs,stepIxa,stepLen,stepApp,stepCpy,stepPick,stepSls,stepSst,stepSla,bareZ,evX,evL,evB,rd,get,subG,memG,freshG,notInG,hyps,gob,impP,allP,partD,partOf,isOne,isPtr,nth,takeN,dropN,cellsD,lenB,fillD,thirds,entN,setE,sizeE,addE,setL,setN,putE,env0,eqCs,eqAux,eqC,bA,bO,bN,bE,negB,kEq,isShr,lendL,lend,frz,frzL,zRow,known,skipP,closed,closedL,rowsOf,binI,retK,retG,atRet,retD,lendO,resL,resD,oneD,renD,renL,renE,renEs,rho,putAll,entsN,List.append,List.nil_append,List.cons_append,List.append_nil,cond,Nat.reduceBEq,Nat.reduceAdd,Nat.beq]
  exact Rt.id
theorem sp_Rects {l : List D} (hl : l.length ≤ 4294967296) : TSp 34 [.agg [.ls 4 l]] (.ls 4 l) := by
  refine spo_band_Region_Rects (by rfl) ?_
  dsimp only [c_band_Region_Rects, r_band_Region_Rects, run_skip,run_reg,plainB,ifB_true,run_seq,run_blk,run_exit,run_ret,run_ite,iteR,regK,thenK_nrm,thenK_exit,thenK_ret,thenR_nrm,thenR_exit,thenR_ret,blkK,keepS,keepE,runOps_nil,runOps_cons,goG_some,fpOk,foot,entOf,allN,memN,goOn_ok,goOn_call,goOn_row,goOn_arr,goOn_ask,goOn_put,goOn_prm,goOn_callK,goOn_callC,goOn_all,guardP,guardO,notInO,stepF,stepLd,stepSt,stepIxs,stepIxa,stepLen,stepApp,stepCpy,stepPick,stepSls,stepSst,stepSla,bareZ,evX,evL,evB,rd,get,subG,memG,freshG,notInG,hyps,gob,impP,allP,partD,partOf,isOne,isPtr,nth,takeN,dropN,cellsD,lenB,fillD,thirds,entN,setE,sizeE,addE,setL,setN,putE,env0,eqCs,eqAux,eqC,bA,bO,bN,bE,negB,kEq,isShr,lendL,lend,frz,frzL,zRow,known,skipP,closed,closedL,rowsOf,binI,retK,retG,atRet,retD,lendO,resL,resD,oneD,renD,renL,renE,renEs,rho,putAll,entsN,List.append,List.nil_append,List.cons_append,List.append_nil,cond,Nat.reduceBEq,Nat.reduceAdd,Nat.beq]
  refine call_pure (sp_Clone hl) ?_
  dsimp only [c_band_Region_Rects, r_band_Region_Rects, run_skip,run_reg,plainB,ifB_true,run_seq,run_blk,run_exit,run_ret,run_ite,iteR,regK,thenK_nrm,thenK_exit,thenK_ret,thenR_nrm,thenR_exit,thenR_ret,blkK,keepS,keepE,runOps_nil,runOps_cons,goG_some,fpOk,foot,entOf,allN,memN,goOn_ok,goOn_call,goOn_row,goOn_arr,goOn_ask,goOn_put,goOn_prm,goOn_callK,goOn_callC,goOn_all,guardP,guardO,notInO,stepF,stepLd,stepSt,stepIxs,stepIxa,stepLen,stepApp,stepCpy,stepPick,stepSls,stepSst,stepSla,bareZ,evX,evL,evB,rd,get,subG,memG,freshG,notInG,hyps,gob,impP,allP,partD,partOf,isOne,isPtr,nth,takeN,dropN,cellsD,lenB,fillD,thirds,entN,setE,sizeE,addE,setL,setN,putE,env0,eqCs,eqAux,eqC,bA,bO,bN,bE,negB,kEq,isShr,lendL,lend,frz,frzL,zRow,known,skipP,closed,closedL,rowsOf,binI,retK,retG,atRet,retD,lendO,resL,resD,oneD,renD,renL,renE,renEs,rho,putAll,entsN,List.append,List.nil_append,List.cons_append,List.append_nil,cond,Nat.reduceBEq,Nat.reduceAdd,Nat.beq]
theorem sp_Empty {l : List D} : TSp 40 [.agg [.ls 4 l]] (.bool (decide ((l.length : Int) = 0))) := by
  refine spo_band_Region_Empty (by rfl) ?_
  dsimp only [c_band_Region_Empty, r_band_Region_Empty, run_skip,run_reg,plainB,ifB_true,run_seq,run_blk,run_exit,run_ret,run_ite,iteR,regK,thenK_nrm,thenK_exit,thenK_ret,thenR_nrm,thenR_exit,thenR_ret,blkK,keepS,keepE,runOps_nil,runOps_cons,goG_some,fpOk,foot,entOf,allN,memN,goOn_ok,goOn_call,goOn_row,goOn_arr,goOn_ask,goOn_put,goOn_prm,goOn_callK,goOn_callC,goOn_all,guardP,guardO,notInO,stepF,stepLd,stepSt,stepIxs,stepIxa,stepLen,stepApp,stepCpy,stepPick,stepSls,stepSst,stepSla,bareZ,evX,evL,evB,rd,get,subG,memG,freshG,notInG,hyps,gob,impP,allP,partD,partOf,isOne,isPtr,nth,takeN,dropN,cellsD,lenB,fillD,thirds,entN,setE,sizeE,addE,setL,setN,putE,env0,eqCs,eqAux,eqC,bA,bO,bN,bE,negB,kEq,isShr,lendL,lend,frz,frzL,zRow,known,skipP,closed,closedL,rowsOf,binI,retK,retG,atRet,retD,lendO,resL,resD,oneD,renD,renL,renE,renEs,rho,putAll,entsN,List.append,List.nil_append,List.cons_append,List.append_nil,cond,Nat.reduceBEq,Nat.reduceAdd,Nat.beq]
theorem sp_Same {a b : List Rc} (hl : a.length ≤ 4611686018427387904) : TSp 12 [.agg [.ls 4 (rcs a)], .agg [.ls 4 (rcs b)]] (.bool (decide (a = b))) := by
  refine spo_band_Same (by rfl) ?_
  dsimp only [c_band_Same, r_band_Same, run_skip,run_reg,plainB,ifB_true,run_seq,run_blk,run_exit,run_ret,run_ite,iteR,regK,thenK_nrm,thenK_exit,thenK_ret,thenR_nrm,thenR_exit,thenR_ret,blkK,keepS,keepE,runOps_nil,runOps_cons,goG_some,fpOk,foot,entOf,allN,memN,goOn_ok,goOn_call,goOn_row,goOn_arr,goOn_ask,goOn_put,goOn_prm,goOn_callK,goOn_callC,goOn_all,guardP,guardO,notInO,stepF,stepLd,stepSt,stepIxs,stepIxa,stepLen,stepApp,stepCpy,stepPick,stepSls,stepSst,stepSla,bareZ,evX,evL,evB,rd,get,subG,memG,freshG,notInG,hyps,gob,impP,allP,partD,partOf,isOne,isPtr,nth,takeN,dropN,cellsD,lenB,fillD,thirds,entN,setE,sizeE,addE,setL,setN,putE,env0,eqCs,eqAux,eqC,bA,bO,bN,bE,negB,kEq,isShr,lendL,lend,frz,frzL,zRow,known,skipP,closed,closedL,rowsOf,binI,retK,retG,atRet,retD,lendO,resL,resD,oneD,renD,renL,renE,renEs,rho,putAll,entsN,List.append,List.nil_append,List.cons_append,List.append_nil,cond,Nat.reduceBEq,Nat.reduceAdd,Nat.beq]
  refine call_pure (sp_Equal hl) ?_
  dsimp only [c_band_Same, r_band_Same, run_skip,run_reg,plainB,ifB_true,run_seq,run_blk,run_exit,run_ret,run_ite,iteR,regK,thenK_nrm,thenK_exit,thenK_ret,thenR_nrm,thenR_exit,thenR_ret,blkK,keepS,keepE,runOps_nil,runOps_cons,goG_some,fpOk,foot,entOf,allN,memN,goOn_ok,goOn_call,goOn_row,goOn_arr,goOn_ask,goOn_put,goOn_prm,goOn_callK,goOn_callC,goOn_all,guardP,guardO,notInO,stepF,stepLd,stepSt,stepIxs,stepIxa,stepLen,stepApp,stepCpy,stepPick,stepSls,stepSst,stepSla,bareZ,evX,evL,evB,rd,get,subG,memG,freshG,notInG,hyps,gob,impP,allP,partD,partOf,isOne,isPtr,nth,takeN,dropN,cellsD,lenB,fillD,thirds,entN,setE,sizeE,addE,setL,setN,putE,env0,eqCs,eqAux,eqC,bA,bO,bN,bE,negB,kEq,isShr,lendL,lend,frz,frzL,zRow,known,skipP,closed,closedL,rowsOf,binI,retK,retG,atRet,retD,lendO,resL,resD,oneD,renD,renL,renE,renEs,rho,putAll,entsN,List.append,List.nil_append,List.cons_append,List.append_nil,cond,Nat.reduceBEq,Nat.reduceAdd,Nat.beq]

theorem area_snoc (l : List Rc) (r : Rc) : area (l ++ [r]) = area l + r.w * r.h := by rw [area_app]; simp [area]
theorem area_bound : ∀ {l : List Rc}, (∀ r ∈ l, Vr r) → 0 ≤ area l ∧ area l ≤ l.length * 4398046511104
  | [], _ => by simp [area]
  | r :: l, h => by
    have ih := area_bound (l := l) fun q hq => h q (by simp [hq])
    have hr := h r (by simp)
    unfold Vr at hr
    have e : area (r :: l) = r.w * r.h + area l := by simp [area]
    have h1 : 0 ≤ r.w * r.h := Int.mul_nonneg (by omega) (by omega)
    have h2 : r.w * r.h ≤ 2097152 * 2097152 := Int.mul_le_mul (by omega) (by omega) (by omega) (by omega)
    rw [e, List.length_cons]
    omega
theorem sp_Area {l : List Rc} (hv : ∀ r ∈ l, Vr r) (hl : l.length ≤ 1048576) : TSp 17 [.agg [.ls 4 (rcs l)]] (.int .i64 (area l)) := by
  refine spo_band_Region_Area (by rfl) ?_
  dsimp only [c_band_Region_Area, r_band_Region_Area, run_skip,run_reg,plainB,ifB_true,run_seq,run_blk,run_exit,run_ret,run_ite,iteR,regK,thenK_nrm,thenK_exit,thenK_ret,thenR_nrm,thenR_exit,thenR_ret,blkK,keepS,keepE,runOps_nil,runOps_cons,goG_some,fpOk,foot,entOf,allN,memN,goOn_ok,goOn_call,goOn_row,goOn_arr,goOn_ask,goOn_put,goOn_prm,goOn_callK,goOn_callC,goOn_all,guardP,guardO,notInO,stepF,stepLd,stepSt,stepIxs,stepIxa,stepLen,stepApp,stepCpy,stepPick,stepSls,stepSst,stepSla,bareZ,evX,evL,evB,rd,get,subG,memG,freshG,notInG,hyps,gob,impP,allP,partD,partOf,isOne,isPtr,nth,takeN,dropN,cellsD,lenB,fillD,thirds,entN,setE,sizeE,addE,setL,setN,putE,env0,eqCs,eqAux,eqC,bA,bO,bN,bE,negB,kEq,isShr,lendL,lend,frz,frzL,zRow,known,skipP,closed,closedL,rowsOf,binI,retK,retG,atRet,retD,lendO,resL,resD,oneD,renD,renL,renE,renEs,rho,putAll,entsN,List.append,List.nil_append,List.cons_append,List.append_nil,cond,Nat.reduceBEq,Nat.reduceAdd,Nat.beq]
  rw [rcs_len]
  refine loop_ind (α := {i : Nat // i ≤ l.length})
    (fun i => ⟨[(3, [], .int .i64 (area (l.take i.1))), (7, [], .ls 4 (rcs l)), (8, [], .int .i64 l.length), (9, [], .int .i64 i.1)], [.cells [.ls 4 (rcs l)]]⟩)
    (fun i => l.length - i.1) ?_ ⟨0, Nat.zero_le _⟩ (by simp [area])
  rintro ⟨i, hi⟩ I ih
  dsimp only at hi ⊢
  dsimp only [c_band_Region_Area, r_band_Region_Area, run_skip,run_reg,plainB,ifB_true,run_seq,run_blk,run_exit,run_ret,run_ite,iteR,regK,thenK_nrm,thenK_exit,thenK_ret,thenR_nrm,thenR_exit,thenR_ret,blkK,keepS,keepE,runOps_nil,runOps_cons,goG_some,fpOk,foot,entOf,allN,memN,goOn_ok,goOn_call,goOn_row,goOn_arr,goOn_ask,goOn_put,goOn_prm,goOn_callK,goOn_callC,goOn_all,guardP,guardO,notInO,stepF,stepLd,stepSt,stepIxs,stepIxa,stepLen,stepApp,stepCpy,stepPick,stepSls,stepSst,stepSla,bareZ,evX,evL,evB,rd,get,subG,memG,freshG,notInG,hyps,gob,impP,allP,partD,partOf,isOne,isPtr,nth,takeN,dropN,cellsD,lenB,fillD,thirds,entN,setE,sizeE,addE,setL,setN,putE,env0,eqCs,eqAux,eqC,bA,bO,bN,bE,negB,kEq,isShr,lendL,lend,frz,frzL,zRow,known,skipP,closed,closedL,rowsOf,binI,retK,retG,atRet,retD,lendO,resL,resD,oneD,renD,renL,renE,renEs,rho,putAll,entsN,List.append,List.nil_append,List.cons_append,List.append_nil,cond,Nat.reduceBEq,Nat.reduceAdd,Nat.beq]
  refine ⟨fun hlt => ?_, fun hge => ?_⟩
  · have hil : i < l.length := by simpa using hlt
    obtain ⟨r, hr⟩ : ∃ r, l[i]? = some r := ⟨_, List.getElem?_eq_getElem hil⟩
    refine ⟨⟨rfl, by omega, by rw [rcs_len]; omega⟩, row_intro (rD r) (rD r) (rcs_get (by simpa using hr)) rfl ?_⟩
    dsimp only [c_band_Region_Area, r_band_Region_Area, rD, run_skip,run_reg,plainB,ifB_true,run_seq,run_blk,run_exit,run_ret,run_ite,iteR,regK,thenK_nrm,thenK_exit,thenK_ret,thenR_nrm,thenR_exit,thenR_ret,blkK,keepS,keepE,runOps_nil,runOps_cons,goG_some,fpOk,foot,entOf,allN,memN,goOn_ok,goOn_call,goOn_row,goOn_arr,goOn_ask,goOn_put,goOn_prm,goOn_callK,goOn_callC,goOn_all,guardP,guardO,notInO,stepF,stepLd,stepSt,stepIxs,stepIxa,stepLen,stepApp,stepCpy,stepPick,stepSls,stepSst,stepSla,bareZ,evX,evL,evB,rd,get,subG,memG,freshG,notInG,hyps,gob,impP,allP,partD,partOf,isOne,isPtr,nth,takeN,dropN,cellsD,lenB,fillD,thirds,entN,setE,sizeE,addE,setL,setN,putE,env0,eqCs,eqAux,eqC,bA,bO,bN,bE,negB,kEq,isShr,lendL,lend,frz,frzL,zRow,known,skipP,closed,closedL,rowsOf,binI,retK,retG,atRet,retD,lendO,resL,resD,oneD,renD,renL,renE,renEs,rho,putAll,entsN,List.append,List.nil_append,List.cons_append,List.append_nil,cond,Nat.reduceBEq,Nat.reduceAdd,Nat.beq]
    have hV := hv r (List.mem_of_getElem? hr)
    unfold Vr at hV
    have h1 : 0 ≤ r.w * r.h := Int.mul_nonneg (by omega) (by omega)
    have h2 : r.w * r.h ≤ 2097152 * 2097152 := Int.mul_le_mul (by omega) (by omega) (by omega) (by omega)
    have hb := area_bound (l := l.take i) fun q hq => hv q (List.mem_of_mem_take hq)
    have hlt : (l.take i).length ≤ 1048576 := by rw [List.length_take]; omega
    refine ⟨by simp only [fits]; omega, by simp only [fits]; omega, by simp only [fits]; omega, ?_⟩
    refine again (ih ⟨i + 1, by omega⟩ (by dsimp only; omega)) ⟨?_, rfl, rfl, rfl, trivial⟩ ⟨rfl, trivial⟩ rfl rfl
    rw [List.take_add_one, hr, Option.toList, area_snoc]
    rfl
  · have hil : i = l.length := by simp at hge; omega
    subst hil
    rw [List.take_length]
theorem sp_Has {l : List Rc} (hc : Canon l) (hv : ∀ r ∈ l, Vr r) (hl : l.length ≤ 1048576) {x y : Int} {b : Bool} (hb : b = true ↔ pts l x y) : TSp 16 [.agg [.ls 4 (rcs l)], .int .i64 x, .int .i64 y] (.bool b) := by
  refine spo_band_Region_Has (by rfl) ?_
  dsimp only [c_band_Region_Has, r_band_Region_Has, run_skip,run_reg,plainB,ifB_true,run_seq,run_blk,run_exit,run_ret,run_ite,iteR,regK,thenK_nrm,thenK_exit,thenK_ret,thenR_nrm,thenR_exit,thenR_ret,blkK,keepS,keepE,runOps_nil,runOps_cons,goG_some,fpOk,foot,entOf,allN,memN,goOn_ok,goOn_call,goOn_row,goOn_arr,goOn_ask,goOn_put,goOn_prm,goOn_callK,goOn_callC,goOn_all,guardP,guardO,notInO,stepF,stepLd,stepSt,stepIxs,stepIxa,stepLen,stepApp,stepCpy,stepPick,stepSls,stepSst,stepSla,bareZ,evX,evL,evB,rd,get,subG,memG,freshG,notInG,hyps,gob,impP,allP,partD,partOf,isOne,isPtr,nth,takeN,dropN,cellsD,lenB,fillD,thirds,entN,setE,sizeE,addE,setL,setN,putE,env0,eqCs,eqAux,eqC,bA,bO,bN,bE,negB,kEq,isShr,lendL,lend,frz,frzL,zRow,known,skipP,closed,closedL,rowsOf,binI,retK,retG,atRet,retD,lendO,resL,resD,oneD,renD,renL,renE,renEs,rho,putAll,entsN,List.append,List.nil_append,List.cons_append,List.append_nil,cond,Nat.reduceBEq,Nat.reduceAdd,Nat.beq]
  rw [rcs_len]
  refine loop_ind (α := {i : Nat // i ≤ l.length ∧ ∀ r ∈ l.take i, ¬ r.has x y})
    (fun i => ⟨[(1, [], .int .i64 x), (2, [], .int .i64 y), (7, [], .bool false), (11, [], .ls 4 (rcs l)), (12, [], .int .i64 l.length), (13, [], .int .i64 i.1)], [.cells [.ls 4 (rcs l)]]⟩)
    (fun i => l.length - i.1) ?_ ⟨0, Nat.zero_le _, by simp⟩ (by simp)
  rintro ⟨i, hi, hno⟩ I ih
  dsimp only at hi hno ⊢
  dsimp only [c_band_Region_Has, r_band_Region_Has, run_skip,run_reg,plainB,ifB_true,run_seq,run_blk,run_exit,run_ret,run_ite,iteR,regK,thenK_nrm,thenK_exit,thenK_ret,thenR_nrm,thenR_exit,thenR_ret,blkK,keepS,keepE,runOps_nil,runOps_cons,goG_some,fpOk,foot,entOf,allN,memN,goOn_ok,goOn_call,goOn_row,goOn_arr,goOn_ask,goOn_put,goOn_prm,goOn_callK,goOn_callC,goOn_all,guardP,guardO,notInO,stepF,stepLd,stepSt,stepIxs,stepIxa,stepLen,stepApp,stepCpy,stepPick,stepSls,stepSst,stepSla,bareZ,evX,evL,evB,rd,get,subG,memG,freshG,notInG,hyps,gob,impP,allP,partD,partOf,isOne,isPtr,nth,takeN,dropN,cellsD,lenB,fillD,thirds,entN,setE,sizeE,addE,setL,setN,putE,env0,eqCs,eqAux,eqC,bA,bO,bN,bE,negB,kEq,isShr,lendL,lend,frz,frzL,zRow,known,skipP,closed,closedL,rowsOf,binI,retK,retG,atRet,retD,lendO,resL,resD,oneD,renD,renL,renE,renEs,rho,putAll,entsN,List.append,List.nil_append,List.cons_append,List.append_nil,cond,Nat.reduceBEq,Nat.reduceAdd,Nat.beq]
  refine ⟨fun hlt => ?_, fun hge => ?_⟩
  · have hil : i < l.length := by simpa using hlt
    obtain ⟨r, hr⟩ : ∃ r, l[i]? = some r := ⟨_, List.getElem?_eq_getElem hil⟩
    refine ⟨⟨rfl, by omega, by rw [rcs_len]; omega⟩, row_intro (rD r) (rD r) (rcs_get (by simpa using hr)) rfl ?_⟩
    dsimp only [c_band_Region_Has, r_band_Region_Has, rD, run_skip,run_reg,plainB,ifB_true,run_seq,run_blk,run_exit,run_ret,run_ite,iteR,regK,thenK_nrm,thenK_exit,thenK_ret,thenR_nrm,thenR_exit,thenR_ret,blkK,keepS,keepE,runOps_nil,runOps_cons,goG_some,fpOk,foot,entOf,allN,memN,goOn_ok,goOn_call,goOn_row,goOn_arr,goOn_ask,goOn_put,goOn_prm,goOn_callK,goOn_callC,goOn_all,guardP,guardO,notInO,stepF,stepLd,stepSt,stepIxs,stepIxa,stepLen,stepApp,stepCpy,stepPick,stepSls,stepSst,stepSla,bareZ,evX,evL,evB,rd,get,subG,memG,freshG,notInG,hyps,gob,impP,allP,partD,partOf,isOne,isPtr,nth,takeN,dropN,cellsD,lenB,fillD,thirds,entN,setE,sizeE,addE,setL,setN,putE,env0,eqCs,eqAux,eqC,bA,bO,bN,bE,negB,kEq,isShr,lendL,lend,frz,frzL,zRow,known,skipP,closed,closedL,rowsOf,binI,retK,retG,atRet,retD,lendO,resL,resD,oneD,renD,renL,renE,renEs,rho,putAll,entsN,List.append,List.nil_append,List.cons_append,List.append_nil,cond,Nat.reduceBEq,Nat.reduceAdd,Nat.beq]
    have hV := hv r (List.mem_of_getElem? hr)
    unfold Vr at hV
    have hnext : ¬ r.has x y → ∀ q ∈ l.take (i + 1), ¬ q.has x y := fun h q hq => by
      rw [List.take_add_one, hr] at hq
      rcases List.mem_append.1 hq with hq | hq
      · exact hno q hq
      · simp at hq; subst hq; exact h
    refine ⟨fun h1 => ?_, fun h1 => ?_⟩
    · have hbf : b = false := by
        rw [Bool.eq_false_iff]
        intro h2
        obtain ⟨q, hq, h3, h4⟩ := hb.1 h2
        rw [← List.take_append_drop (i + 1) l] at hq
        simp only [decide_eq_true_eq] at h1
        rcases List.mem_append.1 hq with hq | hq
        · exact hnext (fun h => by unfold Rc.has at h; omega) q hq ⟨h3, h4⟩
        · have hp := (canon_pair hc).1
          obtain ⟨hil', e⟩ := List.getElem?_eq_some_iff.1 hr
          have hpp : (l.drop i).Pairwise Bfr := hp.sublist (List.drop_sublist _ _)
          rw [List.drop_eq_getElem_cons hil', e] at hpp
          have := (List.pairwise_cons.1 hpp).1 q hq
          unfold Bfr at this
          omega
      rw [hbf]
    · simp only [decide_eq_false_iff_not] at h1
      refine ⟨by simp only [fits]; omega, fun h => by simp only [fits]; omega, ?_⟩
      have hag : ¬ r.has x y → some' 0 I ⟨[(1, [], .int .i64 x), (2, [], .int .i64 y), (7, [], .bool false), (11, [], .ls 4 (rcs l)), (12, [], .int .i64 l.length), (13, [], .int .i64 ((i : Int) + 1))], [.cells [.ls 4 (rcs l)], .cells [.int .i64 r.x, .int .i64 r.y, .int .i64 r.w, .int .i64 r.h]]⟩ := fun h =>
        again (ih ⟨i + 1, by omega, hnext h⟩ (by dsimp only; omega)) ⟨rfl, rfl, rfl, rfl, rfl, by simp [get], trivial⟩ ⟨rfl, trivial⟩ rfl rfl
      refine ⟨fun h2 => ⟨by simp only [fits]; omega, hag fun h => ?_⟩, fun h2 => ⟨fun h3 => ?_, fun h3 => ⟨by simp only [fits]; omega, hag fun h => ?_⟩⟩⟩
      · unfold Rc.has at h
        simp only [Bool.or_eq_true, decide_eq_true_eq] at h2
        omega
      · have : b = true := hb.2 ⟨r, List.mem_of_getElem? hr, by
          simp only [Bool.or_eq_false_iff, decide_eq_false_iff_not, decide_eq_true_eq] at h2 h3
          unfold Rc.has; omega⟩
        rw [this]
      · unfold Rc.has at h
        simp only [decide_eq_false_iff_not] at h3
        omega
  · have hil : i = l.length := by simp at hge; omega
    subst hil
    rw [List.take_length] at hno
    have hbf : b = false := by
      rw [Bool.eq_false_iff]
      intro h2
      obtain ⟨q, hq, h3⟩ := hb.1 h2
      exact hno q hq h3
    rw [hbf]
def minX (a : Int) (l : List Rc) : Int := l.foldl (fun m r => min m r.x) a
def maxX (a : Int) (l : List Rc) : Int := l.foldl (fun m r => max m (r.x + r.w)) a
def boxR : List Rc → Rc
  | [] => .o
  | f :: l => ⟨minX f.x (f :: l), f.y, maxX (f.x + f.w) (f :: l) - minX f.x (f :: l), ((f :: l).getLast (by simp)).y + ((f :: l).getLast (by simp)).h - f.y⟩
theorem minX_b : ∀ {l : List Rc} {a : Int}, (∀ r ∈ l, Vr r) → -1048576 ≤ a → -1048576 ≤ minX a l ∧ minX a l ≤ a
  | [], a, _, h => ⟨h, Int.le_refl _⟩
  | r :: l, a, hv, h => by
    have hr := hv r (by simp)
    unfold Vr at hr
    have := minX_b (l := l) (a := min a r.x) (fun q hq => hv q (by simp [hq])) (by omega)
    show _ ≤ minX (min a r.x) l ∧ minX (min a r.x) l ≤ _
    omega
theorem maxX_b : ∀ {l : List Rc} {a : Int}, (∀ r ∈ l, Vr r) → a ≤ 1048576 → maxX a l ≤ 1048576 ∧ a ≤ maxX a l
  | [], a, _, h => ⟨h, Int.le_refl _⟩
  | r :: l, a, hv, h => by
    have hr := hv r (by simp)
    unfold Vr at hr
    have := maxX_b (l := l) (a := max a (r.x + r.w)) (fun q hq => hv q (by simp [hq])) (by omega)
    show maxX (max a (r.x + r.w)) l ≤ _ ∧ _ ≤ maxX (max a (r.x + r.w)) l
    omega
theorem minX_snoc (l : List Rc) (a : Int) (r : Rc) : minX a (l ++ [r]) = min (minX a l) r.x := by simp [minX]
theorem maxX_snoc (l : List Rc) (a : Int) (r : Rc) : maxX a (l ++ [r]) = max (maxX a l) (r.x + r.w) := by simp [maxX]
theorem sp_Box {l : List Rc} (hv : ∀ r ∈ l, Vr r) (hl : l.length ≤ 1048576) : TSp 39 [.agg [.ls 4 (rcs l)]] (rD (boxR l)) := by
  refine spo_band_Region_Box (by rfl) ?_
  dsimp only [c_band_Region_Box, r_band_Region_Box, run_skip,run_reg,plainB,ifB_true,run_seq,run_blk,run_exit,run_ret,run_ite,iteR,regK,thenK_nrm,thenK_exit,thenK_ret,thenR_nrm,thenR_exit,thenR_ret,blkK,keepS,keepE,runOps_nil,runOps_cons,goG_some,fpOk,foot,entOf,allN,memN,goOn_ok,goOn_call,goOn_row,goOn_arr,goOn_ask,goOn_put,goOn_prm,goOn_callK,goOn_callC,goOn_all,guardP,guardO,notInO,stepF,stepLd,stepSt,stepIxs,stepIxa,stepLen,stepApp,stepCpy,stepPick,stepSls,stepSst,stepSla,bareZ,evX,evL,evB,rd,get,subG,memG,freshG,notInG,hyps,gob,impP,allP,partD,partOf,isOne,isPtr,nth,takeN,dropN,cellsD,lenB,fillD,thirds,entN,setE,sizeE,addE,setL,setN,putE,env0,eqCs,eqAux,eqC,bA,bO,bN,bE,negB,kEq,isShr,lendL,lend,frz,frzL,zRow,known,skipP,closed,closedL,rowsOf,binI,retK,retG,atRet,retD,lendO,resL,resD,oneD,renD,renL,renE,renEs,rho,putAll,entsN,List.append,List.nil_append,List.cons_append,List.append_nil,cond,Nat.reduceBEq,Nat.reduceAdd,Nat.beq]
  rw [rcs_len]
  refine ⟨fun h0 => ?_, fun h0 => ?_⟩
  · have : l = [] := List.eq_nil_of_length_eq_zero (by simpa using h0)
    subst this
    rfl
  simp only [decide_eq_false_iff_not] at h0
  obtain ⟨f, m, rfl⟩ : ∃ f m, l = f :: m := by
    cases l with
    | nil => simp at h0
    | cons f m => exact ⟨f, m, rfl⟩
  obtain ⟨t, ht⟩ : ∃ t, t = (f :: m).getLast (by simp) := ⟨_, rfl⟩
  have hbox : rD (boxR (f :: m)) = .agg [.int .i64 (minX f.x (f :: m)), .int .i64 f.y, .int .i64 (maxX (f.x + f.w) (f :: m) - minX f.x (f :: m)), .int .i64 (t.y + t.h - f.y)] := by rw [ht]; rfl
  rw [hbox]
  clear hbox
  have htm : t ∈ f :: m := by rw [ht]; exact List.getLast_mem _
  have hlast : (f :: m)[(((f :: m).length : Int) - 1).toNat]? = some t := by
    rw [show ((((f :: m).length : Nat) : Int) - 1).toNat = (f :: m).length - 1 by omega, ht]
    exact (List.getLast?_eq_getElem? (l := f :: m)).symm.trans (List.getLast?_eq_some_getLast (by simp))
  have hfV := hv f (by simp)
  have htV := hv t htm
  unfold Vr at hfV htV
  refine ⟨⟨rfl, by omega, by omega⟩, row_intro (rD f) (rD f) rfl rfl ?_⟩
  dsimp only [c_band_Region_Box, r_band_Region_Box, rD, run_skip,run_reg,plainB,ifB_true,run_seq,run_blk,run_exit,run_ret,run_ite,iteR,regK,thenK_nrm,thenK_exit,thenK_ret,thenR_nrm,thenR_exit,thenR_ret,blkK,keepS,keepE,runOps_nil,runOps_cons,goG_some,fpOk,foot,entOf,allN,memN,goOn_ok,goOn_call,goOn_row,goOn_arr,goOn_ask,goOn_put,goOn_prm,goOn_callK,goOn_callC,goOn_all,guardP,guardO,notInO,stepF,stepLd,stepSt,stepIxs,stepIxa,stepLen,stepApp,stepCpy,stepPick,stepSls,stepSst,stepSla,bareZ,evX,evL,evB,rd,get,subG,memG,freshG,notInG,hyps,gob,impP,allP,partD,partOf,isOne,isPtr,nth,takeN,dropN,cellsD,lenB,fillD,thirds,entN,setE,sizeE,addE,setL,setN,putE,env0,eqCs,eqAux,eqC,bA,bO,bN,bE,negB,kEq,isShr,lendL,lend,frz,frzL,zRow,known,skipP,closed,closedL,rowsOf,binI,retK,retG,atRet,retD,lendO,resL,resD,oneD,renD,renL,renE,renEs,rho,putAll,entsN,List.append,List.nil_append,List.cons_append,List.append_nil,cond,Nat.reduceBEq,Nat.reduceAdd,Nat.beq]
  rw [rcs_len]
  refine ⟨by simp only [fits]; omega, ⟨rfl, by omega, by omega⟩, row_intro (rD t) (rD t) (rcs_get hlast) rfl ?_⟩
  dsimp only [c_band_Region_Box, r_band_Region_Box, rD, run_skip,run_reg,plainB,ifB_true,run_seq,run_blk,run_exit,run_ret,run_ite,iteR,regK,thenK_nrm,thenK_exit,thenK_ret,thenR_nrm,thenR_exit,thenR_ret,blkK,keepS,keepE,runOps_nil,runOps_cons,goG_some,fpOk,foot,entOf,allN,memN,goOn_ok,goOn_call,goOn_row,goOn_arr,goOn_ask,goOn_put,goOn_prm,goOn_callK,goOn_callC,goOn_all,guardP,guardO,notInO,stepF,stepLd,stepSt,stepIxs,stepIxa,stepLen,stepApp,stepCpy,stepPick,stepSls,stepSst,stepSla,bareZ,evX,evL,evB,rd,get,subG,memG,freshG,notInG,hyps,gob,impP,allP,partD,partOf,isOne,isPtr,nth,takeN,dropN,cellsD,lenB,fillD,thirds,entN,setE,sizeE,addE,setL,setN,putE,env0,eqCs,eqAux,eqC,bA,bO,bN,bE,negB,kEq,isShr,lendL,lend,frz,frzL,zRow,known,skipP,closed,closedL,rowsOf,binI,retK,retG,atRet,retD,lendO,resL,resD,oneD,renD,renL,renE,renEs,rho,putAll,entsN,List.append,List.nil_append,List.cons_append,List.append_nil,cond,Nat.reduceBEq,Nat.reduceAdd,Nat.beq]
  refine ⟨by simp only [fits]; omega, ?_⟩
  clear ht hlast
  generalize hL : f :: m = L at *
  refine loop_ind (α := {i : Nat // i ≤ L.length})
    (fun i => ⟨[(2, [], .box 1 0), (3, [], .box 2 0), (4, [], .box 3 0), (5, [], .int .i64 (minX f.x (L.take i.1))), (6, [], .int .i64 (maxX (f.x + f.w) (L.take i.1))), (34, [], .ls 4 (rcs L)), (35, [], .int .i64 L.length), (36, [], .int .i64 i.1)],
      [.cells [.ls 4 (rcs L)], .cells [.int .i64 0, .int .i64 0, .int .i64 0, .int .i64 0], .cells [.int .i64 f.x, .int .i64 f.y, .int .i64 f.w, .int .i64 f.h], .cells [.int .i64 t.x, .int .i64 t.y, .int .i64 t.w, .int .i64 t.h]]⟩)
    (fun i => L.length - i.1) ?_ ⟨0, Nat.zero_le _⟩ (by simp [minX, maxX, rcs_len])
  rintro ⟨i, hi⟩ I ih
  dsimp only at hi ⊢
  dsimp only [c_band_Region_Box, r_band_Region_Box, run_skip,run_reg,plainB,ifB_true,run_seq,run_blk,run_exit,run_ret,run_ite,iteR,regK,thenK_nrm,thenK_exit,thenK_ret,thenR_nrm,thenR_exit,thenR_ret,blkK,keepS,keepE,runOps_nil,runOps_cons,goG_some,fpOk,foot,entOf,allN,memN,goOn_ok,goOn_call,goOn_row,goOn_arr,goOn_ask,goOn_put,goOn_prm,goOn_callK,goOn_callC,goOn_all,guardP,guardO,notInO,stepF,stepLd,stepSt,stepIxs,stepIxa,stepLen,stepApp,stepCpy,stepPick,stepSls,stepSst,stepSla,bareZ,evX,evL,evB,rd,get,subG,memG,freshG,notInG,hyps,gob,impP,allP,partD,partOf,isOne,isPtr,nth,takeN,dropN,cellsD,lenB,fillD,thirds,entN,setE,sizeE,addE,setL,setN,putE,env0,eqCs,eqAux,eqC,bA,bO,bN,bE,negB,kEq,isShr,lendL,lend,frz,frzL,zRow,known,skipP,closed,closedL,rowsOf,binI,retK,retG,atRet,retD,lendO,resL,resD,oneD,renD,renL,renE,renEs,rho,putAll,entsN,List.append,List.nil_append,List.cons_append,List.append_nil,cond,Nat.reduceBEq,Nat.reduceAdd,Nat.beq]
  have hmn := minX_b (l := L.take i) (a := f.x) (fun q hq => hv q (List.mem_of_mem_take hq)) (by omega)
  have hmx := maxX_b (l := L.take i) (a := f.x + f.w) (fun q hq => hv q (List.mem_of_mem_take hq)) (by omega)
  refine ⟨fun hlt => ?_, fun hge => ?_⟩
  · have hil : i < L.length := by simpa using hlt
    obtain ⟨r, hr⟩ : ∃ r, L[i]? = some r := ⟨_, List.getElem?_eq_getElem hil⟩
    refine ⟨⟨rfl, by omega, by rw [rcs_len]; omega⟩, row_intro (rD r) (rD r) (rcs_get (by simpa using hr)) rfl ?_⟩
    dsimp only [c_band_Region_Box, r_band_Region_Box, rD, run_skip,run_reg,plainB,ifB_true,run_seq,run_blk,run_exit,run_ret,run_ite,iteR,regK,thenK_nrm,thenK_exit,thenK_ret,thenR_nrm,thenR_exit,thenR_ret,blkK,keepS,keepE,runOps_nil,runOps_cons,goG_some,fpOk,foot,entOf,allN,memN,goOn_ok,goOn_call,goOn_row,goOn_arr,goOn_ask,goOn_put,goOn_prm,goOn_callK,goOn_callC,goOn_all,guardP,guardO,notInO,stepF,stepLd,stepSt,stepIxs,stepIxa,stepLen,stepApp,stepCpy,stepPick,stepSls,stepSst,stepSla,bareZ,evX,evL,evB,rd,get,subG,memG,freshG,notInG,hyps,gob,impP,allP,partD,partOf,isOne,isPtr,nth,takeN,dropN,cellsD,lenB,fillD,thirds,entN,setE,sizeE,addE,setL,setN,putE,env0,eqCs,eqAux,eqC,bA,bO,bN,bE,negB,kEq,isShr,lendL,lend,frz,frzL,zRow,known,skipP,closed,closedL,rowsOf,binI,retK,retG,atRet,retD,lendO,resL,resD,oneD,renD,renL,renE,renEs,rho,putAll,entsN,List.append,List.nil_append,List.cons_append,List.append_nil,cond,Nat.reduceBEq,Nat.reduceAdd,Nat.beq]
    have hV := hv r (List.mem_of_getElem? hr)
    unfold Vr at hV
    refine ⟨by simp only [fits]; omega, by simp only [fits]; omega, ?_⟩
    refine again (ih ⟨i + 1, by omega⟩ (by dsimp only; omega)) ⟨rfl, rfl, rfl, ?_, ?_, rfl, rfl, rfl, trivial⟩ ⟨rfl, rfl, rfl, rfl, trivial⟩ rfl rfl
    · rw [List.take_add_one, hr, Option.toList, minX_snoc]; rfl
    · rw [List.take_add_one, hr, Option.toList, maxX_snoc]; rfl
  · have hil : i = L.length := by simp at hge; omega
    subst hil
    rw [List.take_length] at hmn hmx ⊢
    exact ⟨by simp only [fits]; omega, by simp only [fits]; omega, by simp only [fits]; omega, rfl⟩
end Go.AM
