import Derived.Test.YtoaialdcgmkbgaaGreatRY1

set_option linter.all false
namespace Go.AM
open Go Go.Proofs
def cntB (r : Rc) : Bool := fitsB r.x r.w && fitsB r.y r.h
theorem cntB_iff {r : Rc} : cntB r = true ↔ Vr r := by
  simp only [cntB, Bool.and_eq_true, fitsB_iff, Vr]
  omega
theorem sp_band_fits {a n : Int} (ha : fits .i64 a) : TSp 121 [.int .i64 a, .int .i64 n] (.bool (fitsB a n)) := by
  refine spo_band_fits (by rfl) ?_
  dsimp only [c_band_fits, r_band_fits, jo,jK,jT,jr,jI,jM,jq,jJ,jL,iteR,regK,ji,jc,jl,jk,jb,jj,blkK,kr,kh,jd,ja,jy,fpOk,foot,kp,allN,memN,jN,jm,js,jw,jv,jt,ju,jg,jh,jf,je,newN,jx,jS,jU,j2,jO,jP,jQ,jz,jA,jE,jB,jC,jn,jD,jF,jG,j7,evX,evL,evB,rd,get,subG,memG,jW,jY,hyps,gob,impP,allP,j6,j1,j4,ko,nth,ke,km,jX,lenB,kj,jV,entN,setE,jZ,addE,setL,setN,putE,env0,eqCs,j9,eqC,bA,bO,bN,bE,negB,kEq,ki,j8,lend,frz,frzL,zRow,kg,kd,closed,jH,j0,binI,remP,remI,retK,retG,kq,retD,kn,resL,resD,oneD,renD,renL,renE,j3,rho,jR,j5,List.append,List.nil_append,List.cons_append,List.append_nil,cond,Nat.reduceBEq,Nat.reduceAdd,Nat.beq]
  refine ⟨fun h => ?_, ?_⟩
  · simp only [fits, Bool.and_eq_true, decide_eq_true_eq] at *
    omega
  · congr 1
theorem sp_band_counts {r : Rc} (hr : r.In) : TSp 58 [rD r] (.bool (cntB r)) := by
  refine spo_band_counts (by rfl) ?_
  dsimp only [c_band_counts, zR, rD, jo,jK,jT,jr,jI,jM,jq,jJ,jL,iteR,regK,ji,jc,jl,jk,jb,jj,blkK,kr,kh,jd,ja,jy,fpOk,foot,kp,allN,memN,jN,jm,js,jw,jv,jt,ju,jg,jh,jf,je,newN,jx,jS,jU,j2,jO,jP,jQ,jz,jA,jE,jB,jC,jn,jD,jF,jG,j7,evX,evL,evB,rd,get,subG,memG,jW,jY,hyps,gob,impP,allP,j6,j1,j4,ko,nth,ke,km,jX,lenB,kj,jV,entN,setE,jZ,addE,setL,setN,putE,env0,eqCs,j9,eqC,bA,bO,bN,bE,negB,kEq,ki,j8,lend,frz,frzL,zRow,kg,kd,closed,jH,j0,binI,remP,remI,retK,retG,kq,retD,kn,resL,resD,oneD,renD,renL,renE,j3,rho,jR,j5,List.append,List.nil_append,List.cons_append,List.append_nil,cond,Nat.reduceBEq,Nat.reduceAdd,Nat.beq]
  refine kt (sp_band_fits hr.1) ?_
  dsimp only [c_band_counts, zR, jo,jK,jT,jr,jI,jM,jq,jJ,jL,iteR,regK,ji,jc,jl,jk,jb,jj,blkK,kr,kh,jd,ja,jy,fpOk,foot,kp,allN,memN,jN,jm,js,jw,jv,jt,ju,jg,jh,jf,je,newN,jx,jS,jU,j2,jO,jP,jQ,jz,jA,jE,jB,jC,jn,jD,jF,jG,j7,evX,evL,evB,rd,get,subG,memG,jW,jY,hyps,gob,impP,allP,j6,j1,j4,ko,nth,ke,km,jX,lenB,kj,jV,entN,setE,jZ,addE,setL,setN,putE,env0,eqCs,j9,eqC,bA,bO,bN,bE,negB,kEq,ki,j8,lend,frz,frzL,zRow,kg,kd,closed,jH,j0,binI,remP,remI,retK,retG,kq,retD,kn,resL,resD,oneD,renD,renL,renE,j3,rho,jR,j5,List.append,List.nil_append,List.cons_append,List.append_nil,cond,Nat.reduceBEq,Nat.reduceAdd,Nat.beq]
  refine kt (fun _ => sp_band_fits hr.2.1) ?_
  dsimp only [c_band_counts, zR, jo,jK,jT,jr,jI,jM,jq,jJ,jL,iteR,regK,ji,jc,jl,jk,jb,jj,blkK,kr,kh,jd,ja,jy,fpOk,foot,kp,allN,memN,jN,jm,js,jw,jv,jt,ju,jg,jh,jf,je,newN,jx,jS,jU,j2,jO,jP,jQ,jz,jA,jE,jB,jC,jn,jD,jF,jG,j7,evX,evL,evB,rd,get,subG,memG,jW,jY,hyps,gob,impP,allP,j6,j1,j4,ko,nth,ke,km,jX,lenB,kj,jV,entN,setE,jZ,addE,setL,setN,putE,env0,eqCs,j9,eqC,bA,bO,bN,bE,negB,kEq,ki,j8,lend,frz,frzL,zRow,kg,kd,closed,jH,j0,binI,remP,remI,retK,retG,kq,retD,kn,resL,resD,oneD,renD,renL,renE,j3,rho,jR,j5,List.append,List.nil_append,List.cons_append,List.append_nil,cond,Nat.reduceBEq,Nat.reduceAdd,Nat.beq]
  rfl
def rcs (l : List Rc) : List D := l.map rD
theorem sm_band_Of_2 {r : Rc} {y : Int} (h : fits .i64 (r.y + r.h)) : TSpM 65 [rD r, .box 0 0] [.cells [.int .i64 y]] (.bool (decide (r.y + r.h ≤ y))) [.cells [.int .i64 y]] := by
  refine spm_band_Of_2 (by rfl) ?_
  dsimp only [c_band_Of_2, r_band_Of_2, rD, jo,jK,jT,jr,jI,jM,jq,jJ,jL,iteR,regK,ji,jc,jl,jk,jb,jj,blkK,kr,kh,jd,ja,jy,fpOk,foot,kp,allN,memN,jN,jm,js,jw,jv,jt,ju,jg,jh,jf,je,newN,jx,jS,jU,j2,jO,jP,jQ,jz,jA,jE,jB,jC,jn,jD,jF,jG,j7,evX,evL,evB,rd,get,subG,memG,jW,jY,hyps,gob,impP,allP,j6,j1,j4,ko,nth,ke,km,jX,lenB,kj,jV,entN,setE,jZ,addE,setL,setN,putE,env0,eqCs,j9,eqC,bA,bO,bN,bE,negB,kEq,ki,j8,lend,frz,frzL,zRow,kg,kd,closed,jH,j0,binI,remP,remI,retK,retG,kq,retD,kn,resL,resD,oneD,renD,renL,renE,j3,rho,jR,j5,List.append,List.nil_append,List.cons_append,List.append_nil,cond,Nat.reduceBEq,Nat.reduceAdd,Nat.beq]
  refine ⟨h, ?_⟩
  exact Rt.cut (Nat.le_refl _) ⟨rfl, trivial⟩ rfl rfl
end Go.AM

