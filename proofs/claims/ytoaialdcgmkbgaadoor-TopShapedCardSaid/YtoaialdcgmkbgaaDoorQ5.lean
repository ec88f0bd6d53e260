
/- Shapes: regions turned, made thinner, grown, flipped. -/
import Derived.Test.YtoaialdcgmkbgaaDoorQ4
set_option linter.all false
namespace Go.AM
open Go Go.Proofs

/-- A list whose first ones are turned. -/
def mapTo (f : Rc → Rc) (l : List Rc) (i : Nat) : List Rc := (l.take i).map f ++ l.drop i
theorem mapTo_get {f : Rc → Rc} {l : List Rc} {i : Nat} {r : Rc} (h : l[i]? = some r) : (mapTo f l i)[i]? = some r := by
  obtain ⟨hk, h2⟩ := List.getElem?_eq_some_iff.1 h
  unfold mapTo
  rw [List.getElem?_append_right (by simp; omega), List.getElem?_drop]
  have : i + (i - (List.map f (List.take i l)).length) = i := by simp; omega
  rw [this]; exact h
theorem mapTo_set {f : Rc → Rc} {l : List Rc} {i : Nat} {r : Rc} (h : l[i]? = some r) : (mapTo f l i).set i (f r) = mapTo f l (i + 1) := by
  obtain ⟨hk, h2⟩ := List.getElem?_eq_some_iff.1 h
  unfold mapTo
  rw [List.set_append_right _ _ (by simp; omega)]
  have e1 : i - (List.map f (List.take i l)).length = 0 := by simp; omega
  rw [e1, List.drop_eq_getElem_cons hk, h2, List.set_cons_zero, List.take_add_one, h, List.map_append]
  simp
theorem mapTo_len {f : Rc → Rc} {l : List Rc} {i : Nat} : (mapTo f l i).length = l.length := by
  unfold mapTo
  simp only [List.length_append, List.length_map, List.length_take, List.length_drop]; omega
theorem mapTo_zero {f : Rc → Rc} {l : List Rc} : mapTo f l 0 = l := by simp [mapTo]
theorem mapTo_all {f : Rc → Rc} {l : List Rc} : mapTo f l l.length = l.map f := by simp [mapTo]

theorem ero_bdd {n : Int} (hn : 0 ≤ n) {P : Int → Int → Prop} (h : Bdd P) : Bdd (Ero n P) := fun x y hp => h x y (ero_sub hn hp)
theorem eroY_bdd {n : Int} (hn : 0 ≤ n) {P : Int → Int → Prop} (h : Bdd P) : Bdd (EroY n P) := fun x y hp => h x y (eroY_sub hn hp)
theorem turn_bdd {P : Int → Int → Prop} (h : Bdd P) : Bdd fun x y => P y x := fun x y hp => by have := h y x hp; omega

theorem sp_thin {P : Int → Int → Prop} (hP : Bdd P) {n : Nat} (hn : n ≤ 128) (hl : (reg P).length ≤ 1073741824) :
    TSp 37 [.agg [.ls 4 (rcs (reg P))], .int .i64 n] (.agg [.ls 4 (rcs (reg (Ero n P)))]) := by
  have hv := reg_Vr hP
  have hres : reg (pts (allL ((reg P).map (thinR n)))) = reg (Ero n P) := reg_ext fun x y => by
    unfold allL
    rw [allL_pts (fun r hr hp => by
      obtain ⟨q, hq, rfl⟩ := List.mem_map.1 hr
      have := hv q hq
      unfold Vr thinR at *
      unfold Pos at hp
      dsimp only at hp ⊢
      omega), pts_thin (reg_Ca hP)]
    unfold Ero
    simp only [reg_Pt hP]
  generalize reg (Ero n P) = rs at *
  generalize reg P = l at *
  refine spo_shape_thin (by rfl) ?_
  dsimp only [c_shape_thin, r_shape_thin, run_skip,run_reg,plainB,ifB_true,run_seq,run_blk,run_exit,run_ret,run_ite,iteR,regK,thenK_nrm,thenK_exit,thenK_ret,thenR_nrm,thenR_exit,thenR_ret,blkK,keepS,keepE,runOps_nil,runOps_cons,goG_some,fpOk,foot,entOf,allN,memN,goOn_ok,goOn_call,goOn_row,goOn_arr,goOn_ask,goOn_put,goOn_prm,goOn_callK,goOn_callC,goOn_all,guardP,guardO,notInO,stepF,stepLd,stepSt,stepIxs,stepIxa,stepLen,stepApp,stepCpy,stepPick,stepSls,stepSst,stepSla,bareZ,evX,evL,evB,rd,get,subG,memG,freshG,notInG,hyps,gob,impP,allP,partD,partOf,isOne,isPtr,nth,takeN,dropN,cellsD,lenB,fillD,thirds,entN,setE,sizeE,addE,setL,setN,putE,env0,eqCs,eqAux,eqC,bA,bO,bN,bE,negB,kEq,isShr,lendL,lend,frz,frzL,zRow,known,skipP,closed,closedL,rowsOf,binI,retK,retG,atRet,retD,lendO,resL,resD,oneD,renD,renL,renE,renEs,rho,putAll,entsN,List.append,List.nil_append,List.cons_append,List.append_nil,cond,Nat.reduceBEq,Nat.reduceAdd,Nat.beq]
  refine call_own [] (sm_Rects (l := rcs l) (by rw [rcs_len]; omega)) rfl rfl ?_
  dsimp only [c_shape_thin, r_shape_thin, run_skip,run_reg,plainB,ifB_true,run_seq,run_blk,run_exit,run_ret,run_ite,iteR,regK,thenK_nrm,thenK_exit,thenK_ret,thenR_nrm,thenR_exit,thenR_ret,blkK,keepS,keepE,runOps_nil,runOps_cons,goG_some,fpOk,foot,entOf,allN,memN,goOn_ok,goOn_call,goOn_row,goOn_arr,goOn_ask,goOn_put,goOn_prm,goOn_callK,goOn_callC,goOn_all,guardP,guardO,notInO,stepF,stepLd,stepSt,stepIxs,stepIxa,stepLen,stepApp,stepCpy,stepPick,stepSls,stepSst,stepSla,bareZ,evX,evL,evB,rd,get,subG,memG,freshG,notInG,hyps,gob,impP,allP,partD,partOf,isOne,isPtr,nth,takeN,dropN,cellsD,lenB,fillD,thirds,entN,setE,sizeE,addE,setL,setN,putE,env0,eqCs,eqAux,eqC,bA,bO,bN,bE,negB,kEq,isShr,lendL,lend,frz,frzL,zRow,known,skipP,closed,closedL,rowsOf,binI,retK,retG,atRet,retD,lendO,resL,resD,oneD,renD,renL,renE,renEs,rho,putAll,entsN,List.append,List.nil_append,List.cons_append,List.append_nil,cond,Nat.reduceBEq,Nat.reduceAdd,Nat.beq]
  rw [rcs_len]
  refine ⟨rfl, ?_⟩
  refine loop_ind (α := {i : Nat // i ≤ l.length})
    (fun i => ⟨[(1, [], .int .i64 n), (4, [], .box 1 0), (5, [], .own 5 2), (10, [], .int .i64 l.length), (11, [], .int .i64 i.1)],
      [.cells [.ls 4 (rcs l)], .cells [.ls 4 []], .cells [.ls 4 (rcs l)], .arr 25 4 0 [], .arr 25 4 0 [], .arr 25 4 2 (rcs (mapTo (thinR n) l i.1))]⟩)
    (fun i => l.length - i.1) ?_ ⟨0, Nat.zero_le _⟩ (by simp [mapTo_zero])
  rintro ⟨i, hi⟩ I ih
  dsimp only at hi ⊢
  dsimp only [c_shape_thin, r_shape_thin, run_skip,run_reg,plainB,ifB_true,run_seq,run_blk,run_exit,run_ret,run_ite,iteR,regK,thenK_nrm,thenK_exit,thenK_ret,thenR_nrm,thenR_exit,thenR_ret,blkK,keepS,keepE,runOps_nil,runOps_cons,goG_some,fpOk,foot,entOf,allN,memN,goOn_ok,goOn_call,goOn_row,goOn_arr,goOn_ask,goOn_put,goOn_prm,goOn_callK,goOn_callC,goOn_all,guardP,guardO,notInO,stepF,stepLd,stepSt,stepIxs,stepIxa,stepLen,stepApp,stepCpy,stepPick,stepSls,stepSst,stepSla,bareZ,evX,evL,evB,rd,get,subG,memG,freshG,notInG,hyps,gob,impP,allP,partD,partOf,isOne,isPtr,nth,takeN,dropN,cellsD,lenB,fillD,thirds,entN,setE,sizeE,addE,setL,setN,putE,env0,eqCs,eqAux,eqC,bA,bO,bN,bE,negB,kEq,isShr,lendL,lend,frz,frzL,zRow,known,skipP,closed,closedL,rowsOf,binI,retK,retG,atRet,retD,lendO,resL,resD,oneD,renD,renL,renE,renEs,rho,putAll,entsN,List.append,List.nil_append,List.cons_append,List.append_nil,cond,Nat.reduceBEq,Nat.reduceAdd,Nat.beq]
  refine ⟨fun hlt => ?_, fun hge => ?_⟩
  · have hil : i < l.length := by simpa using hlt
    obtain ⟨r, hr⟩ : ∃ r, l[i]? = some r := ⟨_, List.getElem?_eq_getElem hil⟩
    have hV := hv r (List.mem_of_getElem? hr)
    unfold Vr at hV
    have hml : (rcs (mapTo (thinR n) l i)).length = l.length := by rw [rcs_len, mapTo_len]
    have hix : (0 : Int) ≤ i ∧ (i : Int) < ((rcs (mapTo (thinR n) l i)).length : Int) := by rw [hml]; omega
    have hrq : (rcs (mapTo (thinR n) l i))[((i : Nat) : Int).toNat]? = some (rD r) := rcs_get (by rw [Int.toNat_natCast]; exact mapTo_get hr)
    refine ⟨⟨rfl, rfl, hix⟩, ⟨rfl, rfl⟩, row_intro (rD r) (.int .i64 r.x) hrq rfl ?_⟩
    dsimp only [c_shape_thin, r_shape_thin, run_skip,run_reg,plainB,ifB_true,run_seq,run_blk,run_exit,run_ret,run_ite,iteR,regK,thenK_nrm,thenK_exit,thenK_ret,thenR_nrm,thenR_exit,thenR_ret,blkK,keepS,keepE,runOps_nil,runOps_cons,goG_some,fpOk,foot,entOf,allN,memN,goOn_ok,goOn_call,goOn_row,goOn_arr,goOn_ask,goOn_put,goOn_prm,goOn_callK,goOn_callC,goOn_all,guardP,guardO,notInO,stepF,stepLd,stepSt,stepIxs,stepIxa,stepLen,stepApp,stepCpy,stepPick,stepSls,stepSst,stepSla,bareZ,evX,evL,evB,rd,get,subG,memG,freshG,notInG,hyps,gob,impP,allP,partD,partOf,isOne,isPtr,nth,takeN,dropN,cellsD,lenB,fillD,thirds,entN,setE,sizeE,addE,setL,setN,putE,env0,eqCs,eqAux,eqC,bA,bO,bN,bE,negB,kEq,isShr,lendL,lend,frz,frzL,zRow,known,skipP,closed,closedL,rowsOf,binI,retK,retG,atRet,retD,lendO,resL,resD,oneD,renD,renL,renE,renEs,rho,putAll,entsN,List.append,List.nil_append,List.cons_append,List.append_nil,cond,Nat.reduceBEq,Nat.reduceAdd,Nat.beq]
    refine ⟨by simp only [fits]; omega, ⟨rfl, rfl, hix⟩, ⟨rfl, rfl⟩, putrow_intro (hs := []) (rD r) (rD ⟨r.x + n, r.y, r.w, r.h⟩) hrq rfl ?_⟩
    dsimp only [c_shape_thin, r_shape_thin, run_skip,run_reg,plainB,ifB_true,run_seq,run_blk,run_exit,run_ret,run_ite,iteR,regK,thenK_nrm,thenK_exit,thenK_ret,thenR_nrm,thenR_exit,thenR_ret,blkK,keepS,keepE,runOps_nil,runOps_cons,goG_some,fpOk,foot,entOf,allN,memN,goOn_ok,goOn_call,goOn_row,goOn_arr,goOn_ask,goOn_put,goOn_prm,goOn_callK,goOn_callC,goOn_all,guardP,guardO,notInO,stepF,stepLd,stepSt,stepIxs,stepIxa,stepLen,stepApp,stepCpy,stepPick,stepSls,stepSst,stepSla,bareZ,evX,evL,evB,rd,get,subG,memG,freshG,notInG,hyps,gob,impP,allP,partD,partOf,isOne,isPtr,nth,takeN,dropN,cellsD,lenB,fillD,thirds,entN,setE,sizeE,addE,setL,setN,putE,env0,eqCs,eqAux,eqC,bA,bO,bN,bE,negB,kEq,isShr,lendL,lend,frz,frzL,zRow,known,skipP,closed,closedL,rowsOf,binI,retK,retG,atRet,retD,lendO,resL,resD,oneD,renD,renL,renE,renEs,rho,putAll,entsN,List.append,List.nil_append,List.cons_append,List.append_nil,cond,Nat.reduceBEq,Nat.reduceAdd,Nat.beq]
    have hset : ∀ q : Rc, ((rcs (mapTo (thinR n) l i)).set ((i : Nat) : Int).toNat (rD q)) = rcs ((mapTo (thinR n) l i).set i q) := fun q => by rw [rcs_set', Int.toNat_natCast]
    rw [hset]
    have hrq2 : (rcs ((mapTo (thinR n) l i).set i ⟨r.x + n, r.y, r.w, r.h⟩))[((i : Nat) : Int).toNat]? = some (rD ⟨r.x + n, r.y, r.w, r.h⟩) := rcs_get (by
      rw [Int.toNat_natCast, List.getElem?_set_self (by rw [mapTo_len]; exact hil)])
    have hix2 : (0 : Int) ≤ i ∧ (i : Int) < ((rcs ((mapTo (thinR n) l i).set i ⟨r.x + n, r.y, r.w, r.h⟩)).length : Int) := by rw [rcs_len, List.length_set, mapTo_len]; omega
    refine ⟨⟨rfl, rfl, hix2⟩, ⟨rfl, rfl⟩, row_intro (rD ⟨r.x + n, r.y, r.w, r.h⟩) (.int .i64 r.w) hrq2 rfl ?_⟩
    dsimp only [c_shape_thin, r_shape_thin, run_skip,run_reg,plainB,ifB_true,run_seq,run_blk,run_exit,run_ret,run_ite,iteR,regK,thenK_nrm,thenK_exit,thenK_ret,thenR_nrm,thenR_exit,thenR_ret,blkK,keepS,keepE,runOps_nil,runOps_cons,goG_some,fpOk,foot,entOf,allN,memN,goOn_ok,goOn_call,goOn_row,goOn_arr,goOn_ask,goOn_put,goOn_prm,goOn_callK,goOn_callC,goOn_all,guardP,guardO,notInO,stepF,stepLd,stepSt,stepIxs,stepIxa,stepLen,stepApp,stepCpy,stepPick,stepSls,stepSst,stepSla,bareZ,evX,evL,evB,rd,get,subG,memG,freshG,notInG,hyps,gob,impP,allP,partD,partOf,isOne,isPtr,nth,takeN,dropN,cellsD,lenB,fillD,thirds,entN,setE,sizeE,addE,setL,setN,putE,env0,eqCs,eqAux,eqC,bA,bO,bN,bE,negB,kEq,isShr,lendL,lend,frz,frzL,zRow,known,skipP,closed,closedL,rowsOf,binI,retK,retG,atRet,retD,lendO,resL,resD,oneD,renD,renL,renE,renEs,rho,putAll,entsN,List.append,List.nil_append,List.cons_append,List.append_nil,cond,Nat.reduceBEq,Nat.reduceAdd,Nat.beq]
    refine ⟨by simp only [fits]; omega, by simp only [fits]; omega, ⟨rfl, rfl, hix2⟩, ⟨rfl, rfl⟩, putrow_intro (hs := []) (rD ⟨r.x + n, r.y, r.w, r.h⟩) (rD (thinR n r)) hrq2 rfl ?_⟩
    dsimp only [c_shape_thin, r_shape_thin, run_skip,run_reg,plainB,ifB_true,run_seq,run_blk,run_exit,run_ret,run_ite,iteR,regK,thenK_nrm,thenK_exit,thenK_ret,thenR_nrm,thenR_exit,thenR_ret,blkK,keepS,keepE,runOps_nil,runOps_cons,goG_some,fpOk,foot,entOf,allN,memN,goOn_ok,goOn_call,goOn_row,goOn_arr,goOn_ask,goOn_put,goOn_prm,goOn_callK,goOn_callC,goOn_all,guardP,guardO,notInO,stepF,stepLd,stepSt,stepIxs,stepIxa,stepLen,stepApp,stepCpy,stepPick,stepSls,stepSst,stepSla,bareZ,evX,evL,evB,rd,get,subG,memG,freshG,notInG,hyps,gob,impP,allP,partD,partOf,isOne,isPtr,nth,takeN,dropN,cellsD,lenB,fillD,thirds,entN,setE,sizeE,addE,setL,setN,putE,env0,eqCs,eqAux,eqC,bA,bO,bN,bE,negB,kEq,isShr,lendL,lend,frz,frzL,zRow,known,skipP,closed,closedL,rowsOf,binI,retK,retG,atRet,retD,lendO,resL,resD,oneD,renD,renL,renE,renEs,rho,putAll,entsN,List.append,List.nil_append,List.cons_append,List.append_nil,cond,Nat.reduceBEq,Nat.reduceAdd,Nat.beq]
    rw [rcs_set', Int.toNat_natCast, List.set_set, mapTo_set hr]
    exact ⟨by simp only [fits]; omega, again (ih ⟨i + 1, by omega⟩ (by dsimp only; omega)) ⟨rfl, rfl, rfl, rfl, by simp [get], trivial⟩ ⟨rfl, rfl, rfl, rfl, rfl, rfl, trivial⟩ rfl rfl⟩
  · have hil : i = l.length := by simp at hge; omega
    subst hil
    rw [mapTo_all]
    refine call_frz rfl ⟨rfl, trivial⟩ (Sp.lift (sp_band_Of (fun r hr => ?_) (by rw [List.length_map]; exact hl)) rfl) ?_
    · obtain ⟨q, hq, rfl⟩ := List.mem_map.1 hr
      have := hv q hq
      unfold Vr at this
      unfold thinR Rc.In fits; dsimp only; omega
    dsimp only [c_shape_thin, r_shape_thin, run_skip,run_reg,plainB,ifB_true,run_seq,run_blk,run_exit,run_ret,run_ite,iteR,regK,thenK_nrm,thenK_exit,thenK_ret,thenR_nrm,thenR_exit,thenR_ret,blkK,keepS,keepE,runOps_nil,runOps_cons,goG_some,fpOk,foot,entOf,allN,memN,goOn_ok,goOn_call,goOn_row,goOn_arr,goOn_ask,goOn_put,goOn_prm,goOn_callK,goOn_callC,goOn_all,guardP,guardO,notInO,stepF,stepLd,stepSt,stepIxs,stepIxa,stepLen,stepApp,stepCpy,stepPick,stepSls,stepSst,stepSla,bareZ,evX,evL,evB,rd,get,subG,memG,freshG,notInG,hyps,gob,impP,allP,partD,partOf,isOne,isPtr,nth,takeN,dropN,cellsD,lenB,fillD,thirds,entN,setE,sizeE,addE,setL,setN,putE,env0,eqCs,eqAux,eqC,bA,bO,bN,bE,negB,kEq,isShr,lendL,lend,frz,frzL,zRow,known,skipP,closed,closedL,rowsOf,binI,retK,retG,atRet,retD,lendO,resL,resD,oneD,renD,renL,renE,renEs,rho,putAll,entsN,List.append,List.nil_append,List.cons_append,List.append_nil,cond,Nat.reduceBEq,Nat.reduceAdd,Nat.beq]
    rw [hres]
theorem sp_turn {P : Int → Int → Prop} (hP : Bdd P) (hl : (reg P).length ≤ 1073741824) :
    TSp 60 [.agg [.ls 4 (rcs (reg P))]] (.agg [.ls 4 (rcs (reg fun x y => P y x))]) := by
  have hv := reg_Vr hP
  have hres : reg (pts (allL ((reg P).map turnR))) = reg fun x y => P y x := reg_ext fun x y => by
    unfold allL
    rw [allL_pts (fun r hr hp => by
      obtain ⟨q, hq, rfl⟩ := List.mem_map.1 hr
      have := hv q hq
      unfold Vr turnR at *
      dsimp only
      omega), pts_turn, reg_Pt hP]
  generalize (reg fun x y => P y x) = rs at *
  generalize reg P = l at *
  refine spo_shape_turn (by rfl) ?_
  dsimp only [c_shape_turn, r_shape_turn, run_skip,run_reg,plainB,ifB_true,run_seq,run_blk,run_exit,run_ret,run_ite,iteR,regK,thenK_nrm,thenK_exit,thenK_ret,thenR_nrm,thenR_exit,thenR_ret,blkK,keepS,keepE,runOps_nil,runOps_cons,goG_some,fpOk,foot,entOf,allN,memN,goOn_ok,goOn_call,goOn_row,goOn_arr,goOn_ask,goOn_put,goOn_prm,goOn_callK,goOn_callC,goOn_all,guardP,guardO,notInO,stepF,stepLd,stepSt,stepIxs,stepIxa,stepLen,stepApp,stepCpy,stepPick,stepSls,stepSst,stepSla,bareZ,evX,evL,evB,rd,get,subG,memG,freshG,notInG,hyps,gob,impP,allP,partD,partOf,isOne,isPtr,nth,takeN,dropN,cellsD,lenB,fillD,thirds,entN,setE,sizeE,addE,setL,setN,putE,env0,eqCs,eqAux,eqC,bA,bO,bN,bE,negB,kEq,isShr,lendL,lend,frz,frzL,zRow,known,skipP,closed,closedL,rowsOf,binI,retK,retG,atRet,retD,lendO,resL,resD,oneD,renD,renL,renE,renEs,rho,putAll,entsN,List.append,List.nil_append,List.cons_append,List.append_nil,cond,Nat.reduceBEq,Nat.reduceAdd,Nat.beq]
  refine call_own [] (sm_Rects (l := rcs l) (by rw [rcs_len]; omega)) rfl rfl ?_
  dsimp only [c_shape_turn, r_shape_turn, run_skip,run_reg,plainB,ifB_true,run_seq,run_blk,run_exit,run_ret,run_ite,iteR,regK,thenK_nrm,thenK_exit,thenK_ret,thenR_nrm,thenR_exit,thenR_ret,blkK,keepS,keepE,runOps_nil,runOps_cons,goG_some,fpOk,foot,entOf,allN,memN,goOn_ok,goOn_call,goOn_row,goOn_arr,goOn_ask,goOn_put,goOn_prm,goOn_callK,goOn_callC,goOn_all,guardP,guardO,notInO,stepF,stepLd,stepSt,stepIxs,stepIxa,stepLen,stepApp,stepCpy,stepPick,stepSls,stepSst,stepSla,bareZ,evX,evL,evB,rd,get,subG,memG,freshG,notInG,hyps,gob,impP,allP,partD,partOf,isOne,isPtr,nth,takeN,dropN,cellsD,lenB,fillD,thirds,entN,setE,sizeE,addE,setL,setN,putE,env0,eqCs,eqAux,eqC,bA,bO,bN,bE,negB,kEq,isShr,lendL,lend,frz,frzL,zRow,known,skipP,closed,closedL,rowsOf,binI,retK,retG,atRet,retD,lendO,resL,resD,oneD,renD,renL,renE,renEs,rho,putAll,entsN,List.append,List.nil_append,List.cons_append,List.append_nil,cond,Nat.reduceBEq,Nat.reduceAdd,Nat.beq]
  rw [rcs_len]
  refine ⟨rfl, ?_⟩
  refine loop_ind (α := {i : Nat // i ≤ l.length})
    (fun i => ⟨[(2, [], .box 1 0), (3, [], .own 5 2), (8, [], .own 5 2), (9, [], .int .i64 l.length), (10, [], .int .i64 i.1)],
      [.cells [.ls 4 (rcs l)], .cells [.ls 4 []], .cells [.ls 4 (rcs l)], .arr 25 4 0 [], .arr 25 4 0 [], .arr 25 4 2 (rcs (mapTo turnR l i.1))]⟩)
    (fun i => l.length - i.1) ?_ ⟨0, Nat.zero_le _⟩ (by simp [mapTo_zero])
  rintro ⟨i, hi⟩ I ih
  dsimp only at hi ⊢
  dsimp only [c_shape_turn, r_shape_turn, run_skip,run_reg,plainB,ifB_true,run_seq,run_blk,run_exit,run_ret,run_ite,iteR,regK,thenK_nrm,thenK_exit,thenK_ret,thenR_nrm,thenR_exit,thenR_ret,blkK,keepS,keepE,runOps_nil,runOps_cons,goG_some,fpOk,foot,entOf,allN,memN,goOn_ok,goOn_call,goOn_row,goOn_arr,goOn_ask,goOn_put,goOn_prm,goOn_callK,goOn_callC,goOn_all,guardP,guardO,notInO,stepF,stepLd,stepSt,stepIxs,stepIxa,stepLen,stepApp,stepCpy,stepPick,stepSls,stepSst,stepSla,bareZ,evX,evL,evB,rd,get,subG,memG,freshG,notInG,hyps,gob,impP,allP,partD,partOf,isOne,isPtr,nth,takeN,dropN,cellsD,lenB,fillD,thirds,entN,setE,sizeE,addE,setL,setN,putE,env0,eqCs,eqAux,eqC,bA,bO,bN,bE,negB,kEq,isShr,lendL,lend,frz,frzL,zRow,known,skipP,closed,closedL,rowsOf,binI,retK,retG,atRet,retD,lendO,resL,resD,oneD,renD,renL,renE,renEs,rho,putAll,entsN,List.append,List.nil_append,List.cons_append,List.append_nil,cond,Nat.reduceBEq,Nat.reduceAdd,Nat.beq]
  refine ⟨fun hlt => ?_, fun hge => ?_⟩
  · have hil : i < l.length := by simpa using hlt
    obtain ⟨r, hr⟩ : ∃ r, l[i]? = some r := ⟨_, List.getElem?_eq_getElem hil⟩
    have hml : (rcs (mapTo turnR l i)).length = l.length := by rw [rcs_len, mapTo_len]
    have hix : (0 : Int) ≤ i ∧ (i : Int) < ((rcs (mapTo turnR l i)).length : Int) := by rw [hml]; omega
    have hrq : (rcs (mapTo turnR l i))[((i : Nat) : Int).toNat]? = some (rD r) := rcs_get (by rw [Int.toNat_natCast]; exact mapTo_get hr)
    refine ⟨⟨rfl, rfl, hix⟩, ⟨rfl, rfl⟩, row_intro (rD r) (rD r) hrq rfl ?_⟩
    dsimp only [c_shape_turn, r_shape_turn, rD, run_skip,run_reg,plainB,ifB_true,run_seq,run_blk,run_exit,run_ret,run_ite,iteR,regK,thenK_nrm,thenK_exit,thenK_ret,thenR_nrm,thenR_exit,thenR_ret,blkK,keepS,keepE,runOps_nil,runOps_cons,goG_some,fpOk,foot,entOf,allN,memN,goOn_ok,goOn_call,goOn_row,goOn_arr,goOn_ask,goOn_put,goOn_prm,goOn_callK,goOn_callC,goOn_all,guardP,guardO,notInO,stepF,stepLd,stepSt,stepIxs,stepIxa,stepLen,stepApp,stepCpy,stepPick,stepSls,stepSst,stepSla,bareZ,evX,evL,evB,rd,get,subG,memG,freshG,notInG,hyps,gob,impP,allP,partD,partOf,isOne,isPtr,nth,takeN,dropN,cellsD,lenB,fillD,thirds,entN,setE,sizeE,addE,setL,setN,putE,env0,eqCs,eqAux,eqC,bA,bO,bN,bE,negB,kEq,isShr,lendL,lend,frz,frzL,zRow,known,skipP,closed,closedL,rowsOf,binI,retK,retG,atRet,retD,lendO,resL,resD,oneD,renD,renL,renE,renEs,rho,putAll,entsN,List.append,List.nil_append,List.cons_append,List.append_nil,cond,Nat.reduceBEq,Nat.reduceAdd,Nat.beq]
    refine ⟨⟨rfl, rfl, hix⟩, ⟨rfl, rfl⟩, putrow_intro (hs := []) (rD r) (rD (turnR r)) hrq rfl ?_⟩
    dsimp only [c_shape_turn, r_shape_turn, run_skip,run_reg,plainB,ifB_true,run_seq,run_blk,run_exit,run_ret,run_ite,iteR,regK,thenK_nrm,thenK_exit,thenK_ret,thenR_nrm,thenR_exit,thenR_ret,blkK,keepS,keepE,runOps_nil,runOps_cons,goG_some,fpOk,foot,entOf,allN,memN,goOn_ok,goOn_call,goOn_row,goOn_arr,goOn_ask,goOn_put,goOn_prm,goOn_callK,goOn_callC,goOn_all,guardP,guardO,notInO,stepF,stepLd,stepSt,stepIxs,stepIxa,stepLen,stepApp,stepCpy,stepPick,stepSls,stepSst,stepSla,bareZ,evX,evL,evB,rd,get,subG,memG,freshG,notInG,hyps,gob,impP,allP,partD,partOf,isOne,isPtr,nth,takeN,dropN,cellsD,lenB,fillD,thirds,entN,setE,sizeE,addE,setL,setN,putE,env0,eqCs,eqAux,eqC,bA,bO,bN,bE,negB,kEq,isShr,lendL,lend,frz,frzL,zRow,known,skipP,closed,closedL,rowsOf,binI,retK,retG,atRet,retD,lendO,resL,resD,oneD,renD,renL,renE,renEs,rho,putAll,entsN,List.append,List.nil_append,List.cons_append,List.append_nil,cond,Nat.reduceBEq,Nat.reduceAdd,Nat.beq]
    rw [rcs_set', Int.toNat_natCast, mapTo_set hr]
    exact ⟨by simp only [fits]; omega, again (ih ⟨i + 1, by omega⟩ (by dsimp only; omega)) ⟨rfl, rfl, rfl, rfl, by simp [get], trivial⟩ ⟨rfl, rfl, rfl, rfl, rfl, rfl, trivial⟩ rfl rfl⟩
  · have hil : i = l.length := by simp at hge; omega
    subst hil
    rw [mapTo_all]
    refine call_frz rfl ⟨rfl, trivial⟩ (Sp.lift (sp_band_Of (fun r hr => ?_) (by rw [List.length_map]; exact hl)) rfl) ?_
    · obtain ⟨q, hq, rfl⟩ := List.mem_map.1 hr
      have := hv q hq
      unfold Vr at this
      unfold turnR Rc.In fits; dsimp only; omega
    dsimp only [c_shape_turn, r_shape_turn, run_skip,run_reg,plainB,ifB_true,run_seq,run_blk,run_exit,run_ret,run_ite,iteR,regK,thenK_nrm,thenK_exit,thenK_ret,thenR_nrm,thenR_exit,thenR_ret,blkK,keepS,keepE,runOps_nil,runOps_cons,goG_some,fpOk,foot,entOf,allN,memN,goOn_ok,goOn_call,goOn_row,goOn_arr,goOn_ask,goOn_put,goOn_prm,goOn_callK,goOn_callC,goOn_all,guardP,guardO,notInO,stepF,stepLd,stepSt,stepIxs,stepIxa,stepLen,stepApp,stepCpy,stepPick,stepSls,stepSst,stepSla,bareZ,evX,evL,evB,rd,get,subG,memG,freshG,notInG,hyps,gob,impP,allP,partD,partOf,isOne,isPtr,nth,takeN,dropN,cellsD,lenB,fillD,thirds,entN,setE,sizeE,addE,setL,setN,putE,env0,eqCs,eqAux,eqC,bA,bO,bN,bE,negB,kEq,isShr,lendL,lend,frz,frzL,zRow,known,skipP,closed,closedL,rowsOf,binI,retK,retG,atRet,retD,lendO,resL,resD,oneD,renD,renL,renE,renEs,rho,putAll,entsN,List.append,List.nil_append,List.cons_append,List.append_nil,cond,Nat.reduceBEq,Nat.reduceAdd,Nat.beq]
    rw [hres]
theorem sp_low {P : Int → Int → Prop} (hP : Bdd P) {n : Nat} (hn : n ≤ 128) (h1 : (reg P).length ≤ 1073741824) (h2 : (reg fun x y => P y x).length ≤ 1073741824) (h3 : (reg (Ero n fun x y => P y x)).length ≤ 1073741824) :
    TSp 36 [.agg [.ls 4 (rcs (reg P))], .int .i64 n] (.agg [.ls 4 (rcs (reg (EroY n P)))]) := by
  rw [show reg (EroY n P) = reg fun x y => Ero n (fun x y => P y x) y x from reg_ext fun x y => Iff.rfl]
  refine spo_shape_low (by rfl) ?_
  dsimp only [c_shape_low, r_shape_low, run_skip,run_reg,plainB,ifB_true,run_seq,run_blk,run_exit,run_ret,run_ite,iteR,regK,thenK_nrm,thenK_exit,thenK_ret,thenR_nrm,thenR_exit,thenR_ret,blkK,keepS,keepE,runOps_nil,runOps_cons,goG_some,fpOk,foot,entOf,allN,memN,goOn_ok,goOn_call,goOn_row,goOn_arr,goOn_ask,goOn_put,goOn_prm,goOn_callK,goOn_callC,goOn_all,guardP,guardO,notInO,stepF,stepLd,stepSt,stepIxs,stepIxa,stepLen,stepApp,stepCpy,stepPick,stepSls,stepSst,stepSla,bareZ,evX,evL,evB,rd,get,subG,memG,freshG,notInG,hyps,gob,impP,allP,partD,partOf,isOne,isPtr,nth,takeN,dropN,cellsD,lenB,fillD,thirds,entN,setE,sizeE,addE,setL,setN,putE,env0,eqCs,eqAux,eqC,bA,bO,bN,bE,negB,kEq,isShr,lendL,lend,frz,frzL,zRow,known,skipP,closed,closedL,rowsOf,binI,retK,retG,atRet,retD,lendO,resL,resD,oneD,renD,renL,renE,renEs,rho,putAll,entsN,List.append,List.nil_append,List.cons_append,List.append_nil,cond,Nat.reduceBEq,Nat.reduceAdd,Nat.beq]
  refine call_pure (sp_turn hP h1) ?_
  dsimp only [c_shape_low, r_shape_low, run_skip,run_reg,plainB,ifB_true,run_seq,run_blk,run_exit,run_ret,run_ite,iteR,regK,thenK_nrm,thenK_exit,thenK_ret,thenR_nrm,thenR_exit,thenR_ret,blkK,keepS,keepE,runOps_nil,runOps_cons,goG_some,fpOk,foot,entOf,allN,memN,goOn_ok,goOn_call,goOn_row,goOn_arr,goOn_ask,goOn_put,goOn_prm,goOn_callK,goOn_callC,goOn_all,guardP,guardO,notInO,stepF,stepLd,stepSt,stepIxs,stepIxa,stepLen,stepApp,stepCpy,stepPick,stepSls,stepSst,stepSla,bareZ,evX,evL,evB,rd,get,subG,memG,freshG,notInG,hyps,gob,impP,allP,partD,partOf,isOne,isPtr,nth,takeN,dropN,cellsD,lenB,fillD,thirds,entN,setE,sizeE,addE,setL,setN,putE,env0,eqCs,eqAux,eqC,bA,bO,bN,bE,negB,kEq,isShr,lendL,lend,frz,frzL,zRow,known,skipP,closed,closedL,rowsOf,binI,retK,retG,atRet,retD,lendO,resL,resD,oneD,renD,renL,renE,renEs,rho,putAll,entsN,List.append,List.nil_append,List.cons_append,List.append_nil,cond,Nat.reduceBEq,Nat.reduceAdd,Nat.beq]
  refine call_pure (sp_thin (turn_bdd hP) hn h2) ?_
  dsimp only [c_shape_low, r_shape_low, run_skip,run_reg,plainB,ifB_true,run_seq,run_blk,run_exit,run_ret,run_ite,iteR,regK,thenK_nrm,thenK_exit,thenK_ret,thenR_nrm,thenR_exit,thenR_ret,blkK,keepS,keepE,runOps_nil,runOps_cons,goG_some,fpOk,foot,entOf,allN,memN,goOn_ok,goOn_call,goOn_row,goOn_arr,goOn_ask,goOn_put,goOn_prm,goOn_callK,goOn_callC,goOn_all,guardP,guardO,notInO,stepF,stepLd,stepSt,stepIxs,stepIxa,stepLen,stepApp,stepCpy,stepPick,stepSls,stepSst,stepSla,bareZ,evX,evL,evB,rd,get,subG,memG,freshG,notInG,hyps,gob,impP,allP,partD,partOf,isOne,isPtr,nth,takeN,dropN,cellsD,lenB,fillD,thirds,entN,setE,sizeE,addE,setL,setN,putE,env0,eqCs,eqAux,eqC,bA,bO,bN,bE,negB,kEq,isShr,lendL,lend,frz,frzL,zRow,known,skipP,closed,closedL,rowsOf,binI,retK,retG,atRet,retD,lendO,resL,resD,oneD,renD,renL,renE,renEs,rho,putAll,entsN,List.append,List.nil_append,List.cons_append,List.append_nil,cond,Nat.reduceBEq,Nat.reduceAdd,Nat.beq]
  refine call_pure (sp_turn (ero_bdd (by omega) (turn_bdd hP)) h3) ?_
  dsimp only [c_shape_low, r_shape_low, run_skip,run_reg,plainB,ifB_true,run_seq,run_blk,run_exit,run_ret,run_ite,iteR,regK,thenK_nrm,thenK_exit,thenK_ret,thenR_nrm,thenR_exit,thenR_ret,blkK,keepS,keepE,runOps_nil,runOps_cons,goG_some,fpOk,foot,entOf,allN,memN,goOn_ok,goOn_call,goOn_row,goOn_arr,goOn_ask,goOn_put,goOn_prm,goOn_callK,goOn_callC,goOn_all,guardP,guardO,notInO,stepF,stepLd,stepSt,stepIxs,stepIxa,stepLen,stepApp,stepCpy,stepPick,stepSls,stepSst,stepSla,bareZ,evX,evL,evB,rd,get,subG,memG,freshG,notInG,hyps,gob,impP,allP,partD,partOf,isOne,isPtr,nth,takeN,dropN,cellsD,lenB,fillD,thirds,entN,setE,sizeE,addE,setL,setN,putE,env0,eqCs,eqAux,eqC,bA,bO,bN,bE,negB,kEq,isShr,lendL,lend,frz,frzL,zRow,known,skipP,closed,closedL,rowsOf,binI,retK,retG,atRet,retD,lendO,resL,resD,oneD,renD,renL,renE,renEs,rho,putAll,entsN,List.append,List.nil_append,List.cons_append,List.append_nil,cond,Nat.reduceBEq,Nat.reduceAdd,Nat.beq]
theorem sp_wider {r : Rc} {n : Nat} (hr : Vr r ∨ r = .o) (hn : n ≤ 128) : TSp 38 [rD r, .int .i64 n] (rD (widR n r)) := by
  have hb : (-1048576 ≤ r.x ∧ r.x ≤ 1048576) ∧ (-1048576 ≤ r.y ∧ r.y ≤ 1048576) ∧ (0 ≤ r.w ∧ r.w ≤ 2097152) ∧ 0 ≤ r.h ∧ r.h ≤ 2097152 := by
    rcases hr with h | rfl
    · unfold Vr at h; omega
    · simp [Rc.o]
  refine spo_shape_wider (by rfl) ?_
  dsimp only [c_shape_wider, r_shape_wider, rD, run_skip,run_reg,plainB,ifB_true,run_seq,run_blk,run_exit,run_ret,run_ite,iteR,regK,thenK_nrm,thenK_exit,thenK_ret,thenR_nrm,thenR_exit,thenR_ret,blkK,keepS,keepE,runOps_nil,runOps_cons,goG_some,fpOk,foot,entOf,allN,memN,goOn_ok,goOn_call,goOn_row,goOn_arr,goOn_ask,goOn_put,goOn_prm,goOn_callK,goOn_callC,goOn_all,guardP,guardO,notInO,stepF,stepLd,stepSt,stepIxs,stepIxa,stepLen,stepApp,stepCpy,stepPick,stepSls,stepSst,stepSla,bareZ,evX,evL,evB,rd,get,subG,memG,freshG,notInG,hyps,gob,impP,allP,partD,partOf,isOne,isPtr,nth,takeN,dropN,cellsD,lenB,fillD,thirds,entN,setE,sizeE,addE,setL,setN,putE,env0,eqCs,eqAux,eqC,bA,bO,bN,bE,negB,kEq,isShr,lendL,lend,frz,frzL,zRow,known,skipP,closed,closedL,rowsOf,binI,retK,retG,atRet,retD,lendO,resL,resD,oneD,renD,renL,renE,renEs,rho,putAll,entsN,List.append,List.nil_append,List.cons_append,List.append_nil,cond,Nat.reduceBEq,Nat.reduceAdd,Nat.beq]
  exact ⟨by simp only [fits]; omega, by simp only [fits]; omega, by simp only [fits]; omega, by simp only [fits]; omega, by simp only [fits]; omega, by simp only [fits]; omega, rfl⟩
theorem sp_Grow_neg {P : Int → Int → Prop} (hP : Bdd P) {n : Nat} (hn : n ≤ 128) (h0 : (reg P).length ≤ 1073741824) (h1 : (reg (Ero n P)).length ≤ 1073741824) (h2 : (reg fun x y => Ero n P y x).length ≤ 1073741824) (h3 : (reg (Ero n fun x y => Ero n P y x)).length ≤ 1073741824) :
    TSp 11 [.agg [.ls 4 (rcs (reg P))], .int .i64 (-n)] (.tup [.agg [.ls 4 (rcs (reg (EroY n (Ero n P))))], .int .i64 0]) := by
  refine spo_shape_Grow (by rfl) ?_
  dsimp only [c_shape_Grow, r_shape_Grow, run_skip,run_reg,plainB,ifB_true,run_seq,run_blk,run_exit,run_ret,run_ite,iteR,regK,thenK_nrm,thenK_exit,thenK_ret,thenR_nrm,thenR_exit,thenR_ret,blkK,keepS,keepE,runOps_nil,runOps_cons,goG_some,fpOk,foot,entOf,allN,memN,goOn_ok,goOn_call,goOn_row,goOn_arr,goOn_ask,goOn_put,goOn_prm,goOn_callK,goOn_callC,goOn_all,guardP,guardO,notInO,stepF,stepLd,stepSt,stepIxs,stepIxa,stepLen,stepApp,stepCpy,stepPick,stepSls,stepSst,stepSla,bareZ,evX,evL,evB,rd,get,subG,memG,freshG,notInG,hyps,gob,impP,allP,partD,partOf,isOne,isPtr,nth,takeN,dropN,cellsD,lenB,fillD,thirds,entN,setE,sizeE,addE,setL,setN,putE,env0,eqCs,eqAux,eqC,bA,bO,bN,bE,negB,kEq,isShr,lendL,lend,frz,frzL,zRow,known,skipP,closed,closedL,rowsOf,binI,retK,retG,atRet,retD,lendO,resL,resD,oneD,renD,renL,renE,renEs,rho,putAll,entsN,List.append,List.nil_append,List.cons_append,List.append_nil,cond,Nat.reduceBEq,Nat.reduceAdd,Nat.beq]
  refine ⟨fun h => ?_, fun _ => ⟨fun _ => ?_, fun h => ?_⟩⟩
  · simp only [Bool.or_eq_true, decide_eq_true_eq] at h; omega
  · rw [Int.neg_neg]
    refine ⟨by simp only [fits]; omega, ?_⟩
    refine call_pure (sp_thin hP hn h0) ?_
    dsimp only [c_shape_Grow, r_shape_Grow, run_skip,run_reg,plainB,ifB_true,run_seq,run_blk,run_exit,run_ret,run_ite,iteR,regK,thenK_nrm,thenK_exit,thenK_ret,thenR_nrm,thenR_exit,thenR_ret,blkK,keepS,keepE,runOps_nil,runOps_cons,goG_some,fpOk,foot,entOf,allN,memN,goOn_ok,goOn_call,goOn_row,goOn_arr,goOn_ask,goOn_put,goOn_prm,goOn_callK,goOn_callC,goOn_all,guardP,guardO,notInO,stepF,stepLd,stepSt,stepIxs,stepIxa,stepLen,stepApp,stepCpy,stepPick,stepSls,stepSst,stepSla,bareZ,evX,evL,evB,rd,get,subG,memG,freshG,notInG,hyps,gob,impP,allP,partD,partOf,isOne,isPtr,nth,takeN,dropN,cellsD,lenB,fillD,thirds,entN,setE,sizeE,addE,setL,setN,putE,env0,eqCs,eqAux,eqC,bA,bO,bN,bE,negB,kEq,isShr,lendL,lend,frz,frzL,zRow,known,skipP,closed,closedL,rowsOf,binI,retK,retG,atRet,retD,lendO,resL,resD,oneD,renD,renL,renE,renEs,rho,putAll,entsN,List.append,List.nil_append,List.cons_append,List.append_nil,cond,Nat.reduceBEq,Nat.reduceAdd,Nat.beq]
    rw [Int.neg_neg]
    refine ⟨by simp only [fits]; omega, ?_⟩
    refine call_pure (sp_low (ero_bdd (by omega) hP) hn h1 h2 h3) ?_
    dsimp only [c_shape_Grow, r_shape_Grow, run_skip,run_reg,plainB,ifB_true,run_seq,run_blk,run_exit,run_ret,run_ite,iteR,regK,thenK_nrm,thenK_exit,thenK_ret,thenR_nrm,thenR_exit,thenR_ret,blkK,keepS,keepE,runOps_nil,runOps_cons,goG_some,fpOk,foot,entOf,allN,memN,goOn_ok,goOn_call,goOn_row,goOn_arr,goOn_ask,goOn_put,goOn_prm,goOn_callK,goOn_callC,goOn_all,guardP,guardO,notInO,stepF,stepLd,stepSt,stepIxs,stepIxa,stepLen,stepApp,stepCpy,stepPick,stepSls,stepSst,stepSla,bareZ,evX,evL,evB,rd,get,subG,memG,freshG,notInG,hyps,gob,impP,allP,partD,partOf,isOne,isPtr,nth,takeN,dropN,cellsD,lenB,fillD,thirds,entN,setE,sizeE,addE,setL,setN,putE,env0,eqCs,eqAux,eqC,bA,bO,bN,bE,negB,kEq,isShr,lendL,lend,frz,frzL,zRow,known,skipP,closed,closedL,rowsOf,binI,retK,retG,atRet,retD,lendO,resL,resD,oneD,renD,renL,renE,renEs,rho,putAll,entsN,List.append,List.nil_append,List.cons_append,List.append_nil,cond,Nat.reduceBEq,Nat.reduceAdd,Nat.beq]
  · simp only [decide_eq_false_iff_not] at h; omega
end Go.AM
