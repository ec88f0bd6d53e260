
/- Bands: rectangles that end are deleted from an own row. -/
import Derived.Test.YtoaialdcgmkbgaaDoorY4
set_option linter.all false
namespace Go.AM
open Go Go.Proofs

theorem agRect : aggN Tryd.prog 25 = some (some 4) := by kernel_rfl
theorem zoRect : zeroOf Tryd.prog 25 = some [.int .i64 0, .int .i64 0, .int .i64 0, .int .i64 0] := by kernel_rfl
theorem idxF_spec {y : Int} : ∀ {l : List Rc} {i : Int}, (idxF y l i = -1 ∧ (∀ r ∈ l, pastB y r = false)) ∨ ∃ k : Nat, idxF y l i = i + k ∧ k < l.length ∧ (∀ r ∈ l.take k, pastB y r = false) ∧ (∃ r, l[k]? = some r ∧ pastB y r = true)
  | [], i => .inl ⟨rfl, nofun⟩
  | r :: l, i => by
    simp only [idxF]
    cases h : pastB y r with
    | true => exact .inr ⟨0, by simp, by simp, by simp, r, rfl, h⟩
    | false =>
      simp only [Bool.false_eq_true, if_false]
      rcases idxF_spec (y := y) (l := l) (i := i + 1) with ⟨h1, h2⟩ | ⟨k, h1, h2, h3, h4⟩
      · exact .inl ⟨h1, fun q hq => by rcases List.mem_cons.1 hq with rfl | hq; exact h; exact h2 q hq⟩
      · refine .inr ⟨k + 1, by rw [h1]; omega, by simpa using h2, fun q hq => ?_, by simpa using h4⟩
        rw [List.take_succ_cons] at hq
        rcases List.mem_cons.1 hq with rfl | hq
        · exact h
        · exact h3 q hq
def keepF (y : Int) (l : List Rc) : List Rc := l.filter fun r => !pastB y r
theorem keepF_all {y : Int} {l : List Rc} (h : ∀ r ∈ l, pastB y r = false) : keepF y l = l := List.filter_eq_self.2 fun r hr => by rw [h r hr]; rfl
theorem rcs_set (l : List Rc) (i : Nat) (r : Rc) : (rcs l).set i (rD r) = rcs (l.set i r) := by simp [rcs, List.map_set]
theorem rcs_take (l : List Rc) (i : Nat) : (rcs l).take i = rcs (l.take i) := by simp [rcs]
def delV (y : Int) (l : List Rc) (ver : Nat) : Nat := if l.any (pastB y) then ver + 1 else ver
theorem sm_DeleteFunc {l : List Rc} {ver : Nat} {y : Int} (hin : ∀ r ∈ l, Vr r) (hl : l.length ≤ 4611686018427387904) :
    TSpM 27 [.own 0 ver, .fn 28 [.box 1 0]] [.arr 25 4 ver (rcs l), .cells [.int .i64 y]] (.own 0 (delV y l ver)) [.arr 25 4 (delV y l ver) (rcs (keepF y l)), .cells [.int .i64 y]] := by
  refine spm_slices_DeleteFunc_api_Rect_api_Rect (by rfl) ?_
  dsimp only [c_slices_DeleteFunc_api_Rect_api_Rect, r_slices_DeleteFunc_api_Rect_api_Rect, run_skip,run_reg,plainB,ifB_true,run_seq,run_blk,run_exit,run_ret,run_ite,iteR,regK,thenK_nrm,thenK_exit,thenK_ret,thenR_nrm,thenR_exit,thenR_ret,blkK,keepS,keepE,runOps_nil,runOps_cons,goG_some,fpOk,foot,entOf,allN,memN,goOn_ok,goOn_call,goOn_row,goOn_arr,goOn_ask,goOn_put,goOn_prm,goOn_callK,goOn_callC,goOn_all,guardP,guardO,notInO,stepF,stepLd,stepSt,stepIxs,stepIxa,stepLen,stepApp,stepCpy,stepPick,stepSls,stepSst,stepSla,bareZ,evX,evL,evB,rd,get,subG,memG,freshG,notInG,hyps,gob,impP,allP,partD,partOf,isOne,isPtr,nth,takeN,dropN,cellsD,lenB,fillD,thirds,entN,setE,sizeE,addE,setL,setN,putE,env0,eqCs,eqAux,eqC,bA,bO,bN,bE,negB,kEq,isShr,lendL,lend,frz,frzL,zRow,known,skipP,closed,closedL,rowsOf,binI,retK,retG,atRet,retD,lendO,resL,resD,oneD,renD,renL,renE,renEs,rho,putAll,entsN,List.append,List.nil_append,List.cons_append,List.append_nil,cond,Nat.reduceBEq,Nat.reduceAdd,Nat.beq]
  refine call_look [0, 1] (sm_IndexFunc (y := y) hin hl) rfl rfl rfl ?_
  dsimp only [c_slices_DeleteFunc_api_Rect_api_Rect, r_slices_DeleteFunc_api_Rect_api_Rect, run_skip,run_reg,plainB,ifB_true,run_seq,run_blk,run_exit,run_ret,run_ite,iteR,regK,thenK_nrm,thenK_exit,thenK_ret,thenR_nrm,thenR_exit,thenR_ret,blkK,keepS,keepE,runOps_nil,runOps_cons,goG_some,fpOk,foot,entOf,allN,memN,goOn_ok,goOn_call,goOn_row,goOn_arr,goOn_ask,goOn_put,goOn_prm,goOn_callK,goOn_callC,goOn_all,guardP,guardO,notInO,stepF,stepLd,stepSt,stepIxs,stepIxa,stepLen,stepApp,stepCpy,stepPick,stepSls,stepSst,stepSla,bareZ,evX,evL,evB,rd,get,subG,memG,freshG,notInG,hyps,gob,impP,allP,partD,partOf,isOne,isPtr,nth,takeN,dropN,cellsD,lenB,fillD,thirds,entN,setE,sizeE,addE,setL,setN,putE,env0,eqCs,eqAux,eqC,bA,bO,bN,bE,negB,kEq,isShr,lendL,lend,frz,frzL,zRow,known,skipP,closed,closedL,rowsOf,binI,retK,retG,atRet,retD,lendO,resL,resD,oneD,renD,renL,renE,renEs,rho,putAll,entsN,List.append,List.nil_append,List.cons_append,List.append_nil,cond,Nat.reduceBEq,Nat.reduceAdd,Nat.beq]
  rcases idxF_spec (y := y) (l := l) (i := 0) with ⟨h1, h2⟩ | ⟨k, h1, h2, h3, r0, h4, h5⟩
  · have hany : l.any (pastB y) = false := by rw [List.any_eq_false]; intro r hr; rw [h2 r hr]; simp
    rw [h1, keepF_all h2, delV, hany]
    refine ⟨fun _ => ?_, fun h => by simp at h⟩
    exact Rt.cut (Nat.le_refl _) ⟨rfl, rfl, trivial⟩ rfl rfl
  have hany : l.any (pastB y) = true := List.any_eq_true.2 ⟨r0, List.mem_of_getElem? h4, h5⟩
  rw [h1, delV, hany]
  simp only [Int.zero_add, if_true]
  refine ⟨fun h => by simp only [decide_eq_true_eq] at h; omega, fun _ => ⟨by simp only [fits]; omega, ?_⟩⟩
  refine loop_ind (α := {p : (Nat × Nat) × List Rc // (p.1.1 < p.1.2 ∧ p.1.2 ≤ l.length) ∧ p.2.length = l.length ∧ p.2.take p.1.1 = keepF y (l.take p.1.2) ∧ p.2.drop p.1.2 = l.drop p.1.2 ∧ ∀ r ∈ p.2, Vr r})
    (fun p => ⟨[(0, [], .own 0 ver), (1, [], .fn 28 [.box 1 0]), (5, [], .int .i64 p.1.1.1), (6, [], .int .i64 p.1.1.2)], [.arr 25 4 ver (rcs p.1.2), .cells [.int .i64 y], .arr 25 4 0 []]⟩)
    (fun p => l.length - p.1.1.2) ?_ ⟨((k, k + 1), l), ⟨Nat.lt_succ_self k, h2⟩, rfl, ?_, rfl, hin⟩ (by simp)
  · rintro ⟨⟨⟨i, j⟩, cur⟩, ⟨hij, hj⟩, hcl, htk, hdr, hcin⟩ I ih
    dsimp only at hij hj hcl htk hdr hcin ⊢
    dsimp only [c_slices_DeleteFunc_api_Rect_api_Rect, r_slices_DeleteFunc_api_Rect_api_Rect, run_skip,run_reg,plainB,ifB_true,run_seq,run_blk,run_exit,run_ret,run_ite,iteR,regK,thenK_nrm,thenK_exit,thenK_ret,thenR_nrm,thenR_exit,thenR_ret,blkK,keepS,keepE,runOps_nil,runOps_cons,goG_some,fpOk,foot,entOf,allN,memN,goOn_ok,goOn_call,goOn_row,goOn_arr,goOn_ask,goOn_put,goOn_prm,goOn_callK,goOn_callC,goOn_all,guardP,guardO,notInO,stepF,stepLd,stepSt,stepIxs,stepIxa,stepLen,stepApp,stepCpy,stepPick,stepSls,stepSst,stepSla,bareZ,evX,evL,evB,rd,get,subG,memG,freshG,notInG,hyps,gob,impP,allP,partD,partOf,isOne,isPtr,nth,takeN,dropN,cellsD,lenB,fillD,thirds,entN,setE,sizeE,addE,setL,setN,putE,env0,eqCs,eqAux,eqC,bA,bO,bN,bE,negB,kEq,isShr,lendL,lend,frz,frzL,zRow,known,skipP,closed,closedL,rowsOf,binI,retK,retG,atRet,retD,lendO,resL,resD,oneD,renD,renL,renE,renEs,rho,putAll,entsN,List.append,List.nil_append,List.cons_append,List.append_nil,cond,Nat.reduceBEq,Nat.reduceAdd,Nat.beq]
    rw [rcs_len]
    refine ⟨rfl, fun hlt => ?_, fun hge => ?_⟩
    · have hjl : j < cur.length := by simpa using hlt
      obtain ⟨r, hr⟩ : ∃ r, cur[j]? = some r := ⟨_, List.getElem?_eq_getElem hjl⟩
      have hrl : l[j]? = some r := by rw [← List.head?_drop, ← hdr, List.head?_drop]; exact hr
      have hV := hcin r (List.mem_of_getElem? hr)
      have hV' := hV
      simp only [Vr] at hV'
      refine ⟨⟨rfl, rfl, by omega, by omega⟩, ⟨rfl, rfl⟩, row_intro (rD r) (rD r) (rcs_get (by simpa using hr)) rfl ?_⟩
      dsimp only [c_slices_DeleteFunc_api_Rect_api_Rect, r_slices_DeleteFunc_api_Rect_api_Rect, rD, run_skip,run_reg,plainB,ifB_true,run_seq,run_blk,run_exit,run_ret,run_ite,iteR,regK,thenK_nrm,thenK_exit,thenK_ret,thenR_nrm,thenR_exit,thenR_ret,blkK,keepS,keepE,runOps_nil,runOps_cons,goG_some,fpOk,foot,entOf,allN,memN,goOn_ok,goOn_call,goOn_row,goOn_arr,goOn_ask,goOn_put,goOn_prm,goOn_callK,goOn_callC,goOn_all,guardP,guardO,notInO,stepF,stepLd,stepSt,stepIxs,stepIxa,stepLen,stepApp,stepCpy,stepPick,stepSls,stepSst,stepSla,bareZ,evX,evL,evB,rd,get,subG,memG,freshG,notInG,hyps,gob,impP,allP,partD,partOf,isOne,isPtr,nth,takeN,dropN,cellsD,lenB,fillD,thirds,entN,setE,sizeE,addE,setL,setN,putE,env0,eqCs,eqAux,eqC,bA,bO,bN,bE,negB,kEq,isShr,lendL,lend,frz,frzL,zRow,known,skipP,closed,closedL,rowsOf,binI,retK,retG,atRet,retD,lendO,resL,resD,oneD,renD,renL,renE,renEs,rho,putAll,entsN,List.append,List.nil_append,List.cons_append,List.append_nil,cond,Nat.reduceBEq,Nat.reduceAdd,Nat.beq]
      refine call_look [1] (sm_band_Of_2 (r := r) (y := y) (by simp only [fits]; omega)) rfl rfl rfl ?_
      dsimp only [c_slices_DeleteFunc_api_Rect_api_Rect, r_slices_DeleteFunc_api_Rect_api_Rect, run_skip,run_reg,plainB,ifB_true,run_seq,run_blk,run_exit,run_ret,run_ite,iteR,regK,thenK_nrm,thenK_exit,thenK_ret,thenR_nrm,thenR_exit,thenR_ret,blkK,keepS,keepE,runOps_nil,runOps_cons,goG_some,fpOk,foot,entOf,allN,memN,goOn_ok,goOn_call,goOn_row,goOn_arr,goOn_ask,goOn_put,goOn_prm,goOn_callK,goOn_callC,goOn_all,guardP,guardO,notInO,stepF,stepLd,stepSt,stepIxs,stepIxa,stepLen,stepApp,stepCpy,stepPick,stepSls,stepSst,stepSla,bareZ,evX,evL,evB,rd,get,subG,memG,freshG,notInG,hyps,gob,impP,allP,partD,partOf,isOne,isPtr,nth,takeN,dropN,cellsD,lenB,fillD,thirds,entN,setE,sizeE,addE,setL,setN,putE,env0,eqCs,eqAux,eqC,bA,bO,bN,bE,negB,kEq,isShr,lendL,lend,frz,frzL,zRow,known,skipP,closed,closedL,rowsOf,binI,retK,retG,atRet,retD,lendO,resL,resD,oneD,renD,renL,renE,renEs,rho,putAll,entsN,List.append,List.nil_append,List.cons_append,List.append_nil,cond,Nat.reduceBEq,Nat.reduceAdd,Nat.beq]
      rw [rcs_len]
      have htj : l.take (j + 1) = l.take j ++ [r] := by
        rw [List.take_add_one, hrl]; rfl
      have hkj : keepF y (l.take (j + 1)) = if pastB y r then keepF y (l.take j) else keepF y (l.take j) ++ [r] := by
        rw [htj]; unfold keepF; rw [List.filter_append]
        cases h : pastB y r <;> simp [h]
      have hd1 : cur.drop (j + 1) = l.drop (j + 1) := by rw [← List.drop_drop, hdr, List.drop_drop]
      refine ⟨fun hb => ?_, fun hb => ⟨by simp only [fits]; omega, ?_⟩⟩
      · have hp : pastB y r = false := by simpa [pastB] using hb
        rw [hp] at hkj
        simp only [Bool.false_eq_true, if_false] at hkj
        obtain ⟨r1, hr1⟩ : ∃ r1, cur[i]? = some r1 := ⟨_, List.getElem?_eq_getElem (by omega)⟩
        refine ⟨⟨rfl, rfl, by omega, by omega⟩, ⟨rfl, rfl⟩, putrow_intro (hs := []) (rD r1) (rD r) (rcs_get (by simpa using hr1)) rfl ?_⟩
        dsimp only [c_slices_DeleteFunc_api_Rect_api_Rect, r_slices_DeleteFunc_api_Rect_api_Rect, run_skip,run_reg,plainB,ifB_true,run_seq,run_blk,run_exit,run_ret,run_ite,iteR,regK,thenK_nrm,thenK_exit,thenK_ret,thenR_nrm,thenR_exit,thenR_ret,blkK,keepS,keepE,runOps_nil,runOps_cons,goG_some,fpOk,foot,entOf,allN,memN,goOn_ok,goOn_call,goOn_row,goOn_arr,goOn_ask,goOn_put,goOn_prm,goOn_callK,goOn_callC,goOn_all,guardP,guardO,notInO,stepF,stepLd,stepSt,stepIxs,stepIxa,stepLen,stepApp,stepCpy,stepPick,stepSls,stepSst,stepSla,bareZ,evX,evL,evB,rd,get,subG,memG,freshG,notInG,hyps,gob,impP,allP,partD,partOf,isOne,isPtr,nth,takeN,dropN,cellsD,lenB,fillD,thirds,entN,setE,sizeE,addE,setL,setN,putE,env0,eqCs,eqAux,eqC,bA,bO,bN,bE,negB,kEq,isShr,lendL,lend,frz,frzL,zRow,known,skipP,closed,closedL,rowsOf,binI,retK,retG,atRet,retD,lendO,resL,resD,oneD,renD,renL,renE,renEs,rho,putAll,entsN,List.append,List.nil_append,List.cons_append,List.append_nil,cond,Nat.reduceBEq,Nat.reduceAdd,Nat.beq]
        refine ⟨by simp only [fits]; omega, by simp only [fits]; omega, ?_⟩
        rw [show (i : Int).toNat = i from by simp, rcs_set]
        refine again (ih ⟨((i + 1, j + 1), cur.set i r), ⟨by dsimp only; omega, by dsimp only; omega⟩, by simpa using hcl, ?_, ?_, fun q hq => ?_⟩ (by dsimp only; omega)) ⟨rfl, rfl, by simp [get], by simp [get], trivial⟩ ⟨rfl, rfl, rfl, trivial⟩ rfl rfl
        · dsimp only
          rw [hkj, ← htk, List.take_add_one, List.getElem?_set_self (by omega), List.take_set_of_le (Nat.le_refl _)]; rfl
        · dsimp only
          rw [List.drop_set_of_lt (by omega)]; exact hd1
        · rcases List.mem_or_eq_of_mem_set hq with h | rfl
          · exact hcin q h
          · exact hV
      · have hp : pastB y r = true := by simpa [pastB] using hb
        rw [hp] at hkj
        simp only [if_true] at hkj
        exact again (ih ⟨((i, j + 1), cur), ⟨by dsimp only; omega, by dsimp only; omega⟩, hcl, by dsimp only; rw [hkj]; exact htk, hd1, hcin⟩ (by dsimp only; omega)) ⟨rfl, rfl, rfl, by simp [get], trivial⟩ ⟨rfl, rfl, rfl, trivial⟩ rfl rfl
    · have hjl : j = l.length := by simp at hge; omega
      subst hjl
      refine prm_look _ (pr_subE tRects szRect (ka := .i64) (a := (i : Int)) rfl (by omega) (by rw [rcs_len]; omega)) ?_
      dsimp only [c_slices_DeleteFunc_api_Rect_api_Rect, r_slices_DeleteFunc_api_Rect_api_Rect, run_skip,run_reg,plainB,ifB_true,run_seq,run_blk,run_exit,run_ret,run_ite,iteR,regK,thenK_nrm,thenK_exit,thenK_ret,thenR_nrm,thenR_exit,thenR_ret,blkK,keepS,keepE,runOps_nil,runOps_cons,goG_some,fpOk,foot,entOf,allN,memN,goOn_ok,goOn_call,goOn_row,goOn_arr,goOn_ask,goOn_put,goOn_prm,goOn_callK,goOn_callC,goOn_all,guardP,guardO,notInO,stepF,stepLd,stepSt,stepIxs,stepIxa,stepLen,stepApp,stepCpy,stepPick,stepSls,stepSst,stepSla,bareZ,evX,evL,evB,rd,get,subG,memG,freshG,notInG,hyps,gob,impP,allP,partD,partOf,isOne,isPtr,nth,takeN,dropN,cellsD,lenB,fillD,thirds,entN,setE,sizeE,addE,setL,setN,putE,env0,eqCs,eqAux,eqC,bA,bO,bN,bE,negB,kEq,isShr,lendL,lend,frz,frzL,zRow,known,skipP,closed,closedL,rowsOf,binI,retK,retG,atRet,retD,lendO,resL,resD,oneD,renD,renL,renE,renEs,rho,putAll,entsN,List.append,List.nil_append,List.cons_append,List.append_nil,cond,Nat.reduceBEq,Nat.reduceAdd,Nat.beq]
      refine prm_eff _ _ (pr_clr tRects agRect rfl zoRect rfl rfl (by omega) rfl (by rw [rcs_len]; omega)) ?_
      dsimp only [c_slices_DeleteFunc_api_Rect_api_Rect, r_slices_DeleteFunc_api_Rect_api_Rect, run_skip,run_reg,plainB,ifB_true,run_seq,run_blk,run_exit,run_ret,run_ite,iteR,regK,thenK_nrm,thenK_exit,thenK_ret,thenR_nrm,thenR_exit,thenR_ret,blkK,keepS,keepE,runOps_nil,runOps_cons,goG_some,fpOk,foot,entOf,allN,memN,goOn_ok,goOn_call,goOn_row,goOn_arr,goOn_ask,goOn_put,goOn_prm,goOn_callK,goOn_callC,goOn_all,guardP,guardO,notInO,stepF,stepLd,stepSt,stepIxs,stepIxa,stepLen,stepApp,stepCpy,stepPick,stepSls,stepSst,stepSla,bareZ,evX,evL,evB,rd,get,subG,memG,freshG,notInG,hyps,gob,impP,allP,partD,partOf,isOne,isPtr,nth,takeN,dropN,cellsD,lenB,fillD,thirds,entN,setE,sizeE,addE,setL,setN,putE,env0,eqCs,eqAux,eqC,bA,bO,bN,bE,negB,kEq,isShr,lendL,lend,frz,frzL,zRow,known,skipP,closed,closedL,rowsOf,binI,retK,retG,atRet,retD,lendO,resL,resD,oneD,renD,renL,renE,renEs,rho,putAll,entsN,List.append,List.nil_append,List.cons_append,List.append_nil,cond,Nat.reduceBEq,Nat.reduceAdd,Nat.beq]
      refine prm_eff _ _ (pr_trc tRects szRect (kb := .i64) (b := (i : Int)) rfl (by omega) (by simp [rcs_len]; omega)) ?_
      dsimp only [c_slices_DeleteFunc_api_Rect_api_Rect, r_slices_DeleteFunc_api_Rect_api_Rect, run_skip,run_reg,plainB,ifB_true,run_seq,run_blk,run_exit,run_ret,run_ite,iteR,regK,thenK_nrm,thenK_exit,thenK_ret,thenR_nrm,thenR_exit,thenR_ret,blkK,keepS,keepE,runOps_nil,runOps_cons,goG_some,fpOk,foot,entOf,allN,memN,goOn_ok,goOn_call,goOn_row,goOn_arr,goOn_ask,goOn_put,goOn_prm,goOn_callK,goOn_callC,goOn_all,guardP,guardO,notInO,stepF,stepLd,stepSt,stepIxs,stepIxa,stepLen,stepApp,stepCpy,stepPick,stepSls,stepSst,stepSla,bareZ,evX,evL,evB,rd,get,subG,memG,freshG,notInG,hyps,gob,impP,allP,partD,partOf,isOne,isPtr,nth,takeN,dropN,cellsD,lenB,fillD,thirds,entN,setE,sizeE,addE,setL,setN,putE,env0,eqCs,eqAux,eqC,bA,bO,bN,bE,negB,kEq,isShr,lendL,lend,frz,frzL,zRow,known,skipP,closed,closedL,rowsOf,binI,retK,retG,atRet,retD,lendO,resL,resD,oneD,renD,renL,renE,renEs,rho,putAll,entsN,List.append,List.nil_append,List.cons_append,List.append_nil,cond,Nat.reduceBEq,Nat.reduceAdd,Nat.beq]
      have e1 : ((rcs cur).take (i : Int).toNat ++ List.replicate ((rcs cur).length - (i : Int).toNat) (D.agg [.int .i64 0, .int .i64 0, .int .i64 0, .int .i64 0])).take (i : Int).toNat = rcs (keepF y l) := by
        rw [show (i : Int).toNat = i from by simp, List.take_append_of_le_length (by simp [rcs_len]; omega), List.take_take, Nat.min_self, rcs_take, htk]
        simp
      rw [e1]
      exact Rt.cut (Nat.le_refl _) ⟨rfl, rfl, trivial⟩ rfl rfl
  · dsimp only
    rw [List.take_add_one, h4]
    unfold keepF
    rw [List.filter_append, List.filter_eq_self.2 (fun r hr => by rw [h3 r hr]; rfl)]
    simp [h5]
end Go.AM
