
/- Rectangles: data, the small functions. -/
import Derived.Test.YtoaialdcgmkbgaaDoorCode
import Derived.Test.YtoaialdcgmkbgaaDoorU4
set_option linter.all false
namespace Go.AM
open Go Go.Proofs


def rD (r : Rc) : D := .agg [.int .i64 r.x, .int .i64 r.y, .int .i64 r.w, .int .i64 r.h]
def Rc.o : Rc := ⟨0, 0, 0, 0⟩
def Rc.In (r : Rc) : Prop := fits .i64 r.x ∧ fits .i64 r.y ∧ fits .i64 r.w ∧ fits .i64 r.h
def Rc.eq (a b : Rc) : Bool := decide (a.x = b.x) && (decide (a.y = b.y) && (decide (a.w = b.w) && decide (a.h = b.h)))
theorem Rc.eq_iff {a b : Rc} : a.eq b = true ↔ a = b := by
  cases a; cases b; simp [Rc.eq]
theorem Rc.eq_o {a : Rc} : a.eq .o = true ↔ a.x = 0 ∧ a.y = 0 ∧ a.w = 0 ∧ a.h = 0 := by simp [Rc.eq_iff, Rc.o]; cases a; simp
def fitsB (a n : Int) : Bool := decide (-1048576 ≤ a) && decide (1 ≤ n) && decide (n ≤ 1048576 - a)
def okRc (r : Rc) : Bool := r.eq .o || (fitsB r.x r.w && fitsB r.y r.h)
def rightR (r : Rc) : Rc := if okRc r then r else .o
def emptyB (r : Rc) : Bool := (rightR r).eq .o
/-- Places, and within bounds. -/
def Vr (r : Rc) : Prop := -1048576 ≤ r.x ∧ -1048576 ≤ r.y ∧ 1 ≤ r.w ∧ 1 ≤ r.h ∧ r.w ≤ 1048576 - r.x ∧ r.h ≤ 1048576 - r.y
def Vz (r : Rc) : Prop := r = .o ∨ Vr r
theorem Vr.in {r : Rc} (h : Vr r) : r.In := by unfold Vr at h; simp only [Rc.In, fits]; omega
theorem In_o : Rc.o.In := by simp [Rc.In, Rc.o, fits]
theorem Vz.in {r : Rc} (h : Vz r) : r.In := h.elim (fun h => h ▸ In_o) Vr.in
theorem fitsB_iff {a n : Int} : fitsB a n = true ↔ -1048576 ≤ a ∧ 1 ≤ n ∧ n ≤ 1048576 - a := by simp [fitsB, and_assoc]
theorem okRc_iff {r : Rc} : okRc r = true ↔ Vz r := by
  simp only [okRc, Bool.or_eq_true, Bool.and_eq_true, fitsB_iff, Rc.eq_iff, Vz, Vr]
  constructor
  · rintro (h | h); exact .inl h; exact .inr (by omega)
  · rintro (h | h); exact .inl h; exact .inr (by omega)
theorem right_vz (r : Rc) : Vz (rightR r) := by
  unfold rightR; split
  · rename_i h; exact okRc_iff.1 h
  · exact .inl rfl
theorem right_of {r : Rc} (h : Vz r) : rightR r = r := by unfold rightR; rw [if_pos (okRc_iff.2 h)]
theorem Vr.ne {r : Rc} (h : Vr r) : r ≠ .o := by rintro rfl; simp [Vr, Rc.o] at h
theorem empty_iff {r : Rc} : emptyB r = false ↔ Vr r := by
  unfold emptyB
  rw [Bool.eq_false_iff, Ne, Rc.eq_iff]
  constructor
  · intro h
    unfold rightR at h
    split at h
    · rename_i h1; exact (okRc_iff.1 h1).resolve_left h
    · exact absurd rfl h
  · intro h; rw [right_of (.inr h)]; exact h.ne
theorem empty_right {r : Rc} (h : emptyB r = true) : rightR r = .o := Rc.eq_iff.1 h

theorem sp_rect_fits {a n : Int} (ha : fits .i64 a) : TSp 100 [.int .i64 a, .int .i64 n] (.bool (fitsB a n)) := by
  refine spo_rect_fits (by rfl) ?_
  dsimp only [c_rect_fits, r_rect_fits, run_skip,run_reg,plainB,ifB_true,run_seq,run_blk,run_exit,run_ret,run_ite,iteR,regK,thenK_nrm,thenK_exit,thenK_ret,thenR_nrm,thenR_exit,thenR_ret,blkK,keepS,keepE,runOps_nil,runOps_cons,goG_some,fpOk,foot,entOf,allN,memN,goOn_ok,goOn_call,goOn_row,goOn_arr,goOn_ask,goOn_put,goOn_prm,goOn_callK,goOn_callC,goOn_all,guardP,guardO,notInO,stepF,stepLd,stepSt,stepIxs,stepIxa,stepLen,stepApp,stepCpy,stepPick,stepSls,stepSst,stepSla,bareZ,evX,evL,evB,rd,get,subG,memG,freshG,notInG,hyps,gob,impP,allP,partD,partOf,isOne,isPtr,nth,takeN,dropN,cellsD,lenB,fillD,thirds,entN,setE,sizeE,addE,setL,setN,putE,env0,eqCs,eqAux,eqC,bA,bO,bN,bE,negB,kEq,isShr,lendL,lend,frz,frzL,zRow,known,skipP,closed,closedL,rowsOf,binI,retK,retG,atRet,retD,lendO,resL,resD,oneD,renD,renL,renE,renEs,rho,putAll,entsN,List.append,List.nil_append,List.cons_append,List.append_nil,cond,Nat.reduceBEq,Nat.reduceAdd,Nat.beq]
  refine ⟨fun h => ?_, rfl⟩
  simp only [fits, Bool.and_eq_true, decide_eq_true_eq] at *
  omega

theorem sp_rect_Check {r : Rc} (hr : r.In) : TSp 95 [rD r] (.int .i64 (if okRc r then 0 else 1)) := by
  refine spo_rect_Check (by rfl) ?_
  dsimp only [c_rect_Check, r_rect_Check, rD, run_skip,run_reg,plainB,ifB_true,run_seq,run_blk,run_exit,run_ret,run_ite,iteR,regK,thenK_nrm,thenK_exit,thenK_ret,thenR_nrm,thenR_exit,thenR_ret,blkK,keepS,keepE,runOps_nil,runOps_cons,goG_some,fpOk,foot,entOf,allN,memN,goOn_ok,goOn_call,goOn_row,goOn_arr,goOn_ask,goOn_put,goOn_prm,goOn_callK,goOn_callC,goOn_all,guardP,guardO,notInO,stepF,stepLd,stepSt,stepIxs,stepIxa,stepLen,stepApp,stepCpy,stepPick,stepSls,stepSst,stepSla,bareZ,evX,evL,evB,rd,get,subG,memG,freshG,notInG,hyps,gob,impP,allP,partD,partOf,isOne,isPtr,nth,takeN,dropN,cellsD,lenB,fillD,thirds,entN,setE,sizeE,addE,setL,setN,putE,env0,eqCs,eqAux,eqC,bA,bO,bN,bE,negB,kEq,isShr,lendL,lend,frz,frzL,zRow,known,skipP,closed,closedL,rowsOf,binI,retK,retG,atRet,retD,lendO,resL,resD,oneD,renD,renL,renE,renEs,rho,putAll,entsN,List.append,List.nil_append,List.cons_append,List.append_nil,cond,Nat.reduceBEq,Nat.reduceAdd,Nat.beq]
  refine call_pure (fun _ => sp_rect_fits hr.1) ?_
  dsimp only [c_rect_Check, r_rect_Check, run_skip,run_reg,plainB,ifB_true,run_seq,run_blk,run_exit,run_ret,run_ite,iteR,regK,thenK_nrm,thenK_exit,thenK_ret,thenR_nrm,thenR_exit,thenR_ret,blkK,keepS,keepE,runOps_nil,runOps_cons,goG_some,fpOk,foot,entOf,allN,memN,goOn_ok,goOn_call,goOn_row,goOn_arr,goOn_ask,goOn_put,goOn_prm,goOn_callK,goOn_callC,goOn_all,guardP,guardO,notInO,stepF,stepLd,stepSt,stepIxs,stepIxa,stepLen,stepApp,stepCpy,stepPick,stepSls,stepSst,stepSla,bareZ,evX,evL,evB,rd,get,subG,memG,freshG,notInG,hyps,gob,impP,allP,partD,partOf,isOne,isPtr,nth,takeN,dropN,cellsD,lenB,fillD,thirds,entN,setE,sizeE,addE,setL,setN,putE,env0,eqCs,eqAux,eqC,bA,bO,bN,bE,negB,kEq,isShr,lendL,lend,frz,frzL,zRow,known,skipP,closed,closedL,rowsOf,binI,retK,retG,atRet,retD,lendO,resL,resD,oneD,renD,renL,renE,renEs,rho,putAll,entsN,List.append,List.nil_append,List.cons_append,List.append_nil,cond,Nat.reduceBEq,Nat.reduceAdd,Nat.beq]
  refine call_pure (fun _ _ => sp_rect_fits hr.2.1) ?_
  dsimp only [c_rect_Check, r_rect_Check, run_skip,run_reg,plainB,ifB_true,run_seq,run_blk,run_exit,run_ret,run_ite,iteR,regK,thenK_nrm,thenK_exit,thenK_ret,thenR_nrm,thenR_exit,thenR_ret,blkK,keepS,keepE,runOps_nil,runOps_cons,goG_some,fpOk,foot,entOf,allN,memN,goOn_ok,goOn_call,goOn_row,goOn_arr,goOn_ask,goOn_put,goOn_prm,goOn_callK,goOn_callC,goOn_all,guardP,guardO,notInO,stepF,stepLd,stepSt,stepIxs,stepIxa,stepLen,stepApp,stepCpy,stepPick,stepSls,stepSst,stepSla,bareZ,evX,evL,evB,rd,get,subG,memG,freshG,notInG,hyps,gob,impP,allP,partD,partOf,isOne,isPtr,nth,takeN,dropN,cellsD,lenB,fillD,thirds,entN,setE,sizeE,addE,setL,setN,putE,env0,eqCs,eqAux,eqC,bA,bO,bN,bE,negB,kEq,isShr,lendL,lend,frz,frzL,zRow,known,skipP,closed,closedL,rowsOf,binI,retK,retG,atRet,retD,lendO,resL,resD,oneD,renD,renL,renE,renEs,rho,putAll,entsN,List.append,List.nil_append,List.cons_append,List.append_nil,cond,Nat.reduceBEq,Nat.reduceAdd,Nat.beq]
  have e : okRc r = (decide (r.x = 0) && (decide (r.y = 0) && (decide (r.w = 0) && decide (r.h = 0))) || fitsB r.x r.w && fitsB r.y r.h) := rfl
  rw [← e]
  exact ⟨fun h => by simp [h], fun h => by simp [h]⟩

theorem sp_rect_right {r : Rc} (hr : r.In) : TSp 80 [rD r] (rD (rightR r)) := by
  refine spo_rect_right (by rfl) ?_
  dsimp only [c_rect_right, r_rect_right, rD, run_skip,run_reg,plainB,ifB_true,run_seq,run_blk,run_exit,run_ret,run_ite,iteR,regK,thenK_nrm,thenK_exit,thenK_ret,thenR_nrm,thenR_exit,thenR_ret,blkK,keepS,keepE,runOps_nil,runOps_cons,goG_some,fpOk,foot,entOf,allN,memN,goOn_ok,goOn_call,goOn_row,goOn_arr,goOn_ask,goOn_put,goOn_prm,goOn_callK,goOn_callC,goOn_all,guardP,guardO,notInO,stepF,stepLd,stepSt,stepIxs,stepIxa,stepLen,stepApp,stepCpy,stepPick,stepSls,stepSst,stepSla,bareZ,evX,evL,evB,rd,get,subG,memG,freshG,notInG,hyps,gob,impP,allP,partD,partOf,isOne,isPtr,nth,takeN,dropN,cellsD,lenB,fillD,thirds,entN,setE,sizeE,addE,setL,setN,putE,env0,eqCs,eqAux,eqC,bA,bO,bN,bE,negB,kEq,isShr,lendL,lend,frz,frzL,zRow,known,skipP,closed,closedL,rowsOf,binI,retK,retG,atRet,retD,lendO,resL,resD,oneD,renD,renL,renE,renEs,rho,putAll,entsN,List.append,List.nil_append,List.cons_append,List.append_nil,cond,Nat.reduceBEq,Nat.reduceAdd,Nat.beq]
  refine call_pure (sp_rect_Check hr) ?_
  dsimp only [c_rect_right, r_rect_right, run_skip,run_reg,plainB,ifB_true,run_seq,run_blk,run_exit,run_ret,run_ite,iteR,regK,thenK_nrm,thenK_exit,thenK_ret,thenR_nrm,thenR_exit,thenR_ret,blkK,keepS,keepE,runOps_nil,runOps_cons,goG_some,fpOk,foot,entOf,allN,memN,goOn_ok,goOn_call,goOn_row,goOn_arr,goOn_ask,goOn_put,goOn_prm,goOn_callK,goOn_callC,goOn_all,guardP,guardO,notInO,stepF,stepLd,stepSt,stepIxs,stepIxa,stepLen,stepApp,stepCpy,stepPick,stepSls,stepSst,stepSla,bareZ,evX,evL,evB,rd,get,subG,memG,freshG,notInG,hyps,gob,impP,allP,partD,partOf,isOne,isPtr,nth,takeN,dropN,cellsD,lenB,fillD,thirds,entN,setE,sizeE,addE,setL,setN,putE,env0,eqCs,eqAux,eqC,bA,bO,bN,bE,negB,kEq,isShr,lendL,lend,frz,frzL,zRow,known,skipP,closed,closedL,rowsOf,binI,retK,retG,atRet,retD,lendO,resL,resD,oneD,renD,renL,renE,renEs,rho,putAll,entsN,List.append,List.nil_append,List.cons_append,List.append_nil,cond,Nat.reduceBEq,Nat.reduceAdd,Nat.beq]
  unfold rightR
  cases okRc r <;> simp [Rc.o]

theorem sp_rect_Empty {r : Rc} (hr : r.In) : TSp 67 [rD r] (.bool (emptyB r)) := by
  refine spo_rect_Empty (by rfl) ?_
  dsimp only [c_rect_Empty, r_rect_Empty, rD, run_skip,run_reg,plainB,ifB_true,run_seq,run_blk,run_exit,run_ret,run_ite,iteR,regK,thenK_nrm,thenK_exit,thenK_ret,thenR_nrm,thenR_exit,thenR_ret,blkK,keepS,keepE,runOps_nil,runOps_cons,goG_some,fpOk,foot,entOf,allN,memN,goOn_ok,goOn_call,goOn_row,goOn_arr,goOn_ask,goOn_put,goOn_prm,goOn_callK,goOn_callC,goOn_all,guardP,guardO,notInO,stepF,stepLd,stepSt,stepIxs,stepIxa,stepLen,stepApp,stepCpy,stepPick,stepSls,stepSst,stepSla,bareZ,evX,evL,evB,rd,get,subG,memG,freshG,notInG,hyps,gob,impP,allP,partD,partOf,isOne,isPtr,nth,takeN,dropN,cellsD,lenB,fillD,thirds,entN,setE,sizeE,addE,setL,setN,putE,env0,eqCs,eqAux,eqC,bA,bO,bN,bE,negB,kEq,isShr,lendL,lend,frz,frzL,zRow,known,skipP,closed,closedL,rowsOf,binI,retK,retG,atRet,retD,lendO,resL,resD,oneD,renD,renL,renE,renEs,rho,putAll,entsN,List.append,List.nil_append,List.cons_append,List.append_nil,cond,Nat.reduceBEq,Nat.reduceAdd,Nat.beq]
  refine call_pure (sp_rect_right hr) ?_
  dsimp only [c_rect_Empty, r_rect_Empty, rD, run_skip,run_reg,plainB,ifB_true,run_seq,run_blk,run_exit,run_ret,run_ite,iteR,regK,thenK_nrm,thenK_exit,thenK_ret,thenR_nrm,thenR_exit,thenR_ret,blkK,keepS,keepE,runOps_nil,runOps_cons,goG_some,fpOk,foot,entOf,allN,memN,goOn_ok,goOn_call,goOn_row,goOn_arr,goOn_ask,goOn_put,goOn_prm,goOn_callK,goOn_callC,goOn_all,guardP,guardO,notInO,stepF,stepLd,stepSt,stepIxs,stepIxa,stepLen,stepApp,stepCpy,stepPick,stepSls,stepSst,stepSla,bareZ,evX,evL,evB,rd,get,subG,memG,freshG,notInG,hyps,gob,impP,allP,partD,partOf,isOne,isPtr,nth,takeN,dropN,cellsD,lenB,fillD,thirds,entN,setE,sizeE,addE,setL,setN,putE,env0,eqCs,eqAux,eqC,bA,bO,bN,bE,negB,kEq,isShr,lendL,lend,frz,frzL,zRow,known,skipP,closed,closedL,rowsOf,binI,retK,retG,atRet,retD,lendO,resL,resD,oneD,renD,renL,renE,renEs,rho,putAll,entsN,List.append,List.nil_append,List.cons_append,List.append_nil,cond,Nat.reduceBEq,Nat.reduceAdd,Nat.beq]
  rfl

end Go.AM
