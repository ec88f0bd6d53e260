import Derived.Test.YtoaialdcgmkbgaaGreatRQ3

set_option linter.all false
namespace Go.AM
open Go Go.Proofs
theorem sp_Meet_1 (a b : Bool) : TSp 70 [.bool a, .bool b] (.bool (a && b)) := by
  refine spo_region_Meet_1 (by rfl) ?_
  dsimp only [c_region_Meet_1, xl, jo,jK,jT,jr,jI,jM,jq,jJ,jL,iteR,regK,ji,jc,jl,jk,jb,jj,blkK,kr,kh,jd,ja,jy,fpOk,foot,kp,allN,memN,jN,jm,js,jw,jv,jt,ju,jg,jh,jf,je,newN,jx,jS,jU,j2,jO,jP,jQ,jz,jA,jE,jB,jC,jn,jD,jF,jG,j7,evX,evL,evB,rd,get,subG,memG,jW,jY,hyps,gob,impP,allP,j6,j1,j4,ko,nth,ke,km,jX,lenB,kj,jV,entN,setE,jZ,addE,setL,setN,putE,env0,eqCs,j9,eqC,bA,bO,bN,bE,negB,kEq,ki,j8,lend,frz,frzL,zRow,kg,kd,closed,jH,j0,binI,remP,remI,retK,retG,kq,retD,kn,resL,resD,oneD,renD,renL,renE,j3,rho,jR,j5,List.append,List.nil_append,List.cons_append,List.append_nil,cond,Nat.reduceBEq,Nat.reduceAdd,Nat.beq]
theorem sp_Minus_1 (a b : Bool) : TSp 82 [.bool a, .bool b] (.bool (a && !b)) := by
  refine spo_region_Minus_1 (by rfl) ?_
  dsimp only [c_region_Minus_1, vH, jo,jK,jT,jr,jI,jM,jq,jJ,jL,iteR,regK,ji,jc,jl,jk,jb,jj,blkK,kr,kh,jd,ja,jy,fpOk,foot,kp,allN,memN,jN,jm,js,jw,jv,jt,ju,jg,jh,jf,je,newN,jx,jS,jU,j2,jO,jP,jQ,jz,jA,jE,jB,jC,jn,jD,jF,jG,j7,evX,evL,evB,rd,get,subG,memG,jW,jY,hyps,gob,impP,allP,j6,j1,j4,ko,nth,ke,km,jX,lenB,kj,jV,entN,setE,jZ,addE,setL,setN,putE,env0,eqCs,j9,eqC,bA,bO,bN,bE,negB,kEq,ki,j8,lend,frz,frzL,zRow,kg,kd,closed,jH,j0,binI,remP,remI,retK,retG,kq,retD,kn,resL,resD,oneD,renD,renL,renE,j3,rho,jR,j5,List.append,List.nil_append,List.cons_append,List.append_nil,cond,Nat.reduceBEq,Nat.reduceAdd,Nat.beq]
theorem Kp2_and {P Q : Prop} : Kp2 (fun a b => a && b) P Q ↔ P ∧ Q := by
  unfold Kp2; simp
theorem Kp2_not {P Q : Prop} : Kp2 (fun a b => a && !b) P Q ↔ P ∧ ¬ Q := by
  unfold Kp2; simp
theorem sp_Meet {P Q : Int → Int → Prop} (hP : Bdd P) (hQ : Bdd Q) (hl : (reg P).length + (reg Q).length ≤ 8192) :
    TSp 13 [.agg [.ls 4 (rcs (reg P))], .agg [.ls 4 (rcs (reg Q))]] (.agg [.ls 4 (rcs (reg fun x y => P x y ∧ Q x y))]) := by
  rw [show (reg fun x y => P x y ∧ Q x y) = reg fun x y => Kp2 (fun a b => a && b) (P x y) (Q x y) from xI fun x y => Kp2_and.symm]
  refine spo_region_Meet (by rfl) ?_
  dsimp only [c_region_Meet, vT, jo,jK,jT,jr,jI,jM,jq,jJ,jL,iteR,regK,ji,jc,jl,jk,jb,jj,blkK,kr,kh,jd,ja,jy,fpOk,foot,kp,allN,memN,jN,jm,js,jw,jv,jt,ju,jg,jh,jf,je,newN,jx,jS,jU,j2,jO,jP,jQ,jz,jA,jE,jB,jC,jn,jD,jF,jG,j7,evX,evL,evB,rd,get,subG,memG,jW,jY,hyps,gob,impP,allP,j6,j1,j4,ko,nth,ke,km,jX,lenB,kj,jV,entN,setE,jZ,addE,setL,setN,putE,env0,eqCs,j9,eqC,bA,bO,bN,bE,negB,kEq,ki,j8,lend,frz,frzL,zRow,kg,kd,closed,jH,j0,binI,remP,remI,retK,retG,kq,retD,kn,resL,resD,oneD,renD,renL,renE,j3,rho,jR,j5,List.append,List.nil_append,List.cons_append,List.append_nil,cond,Nat.reduceBEq,Nat.reduceAdd,Nat.beq]
  refine kt (sp_join (kf := fun a b => a && b) rfl sp_Meet_1 hP hQ hl) ?_
  dsimp only [c_region_Meet, vT, jo,jK,jT,jr,jI,jM,jq,jJ,jL,iteR,regK,ji,jc,jl,jk,jb,jj,blkK,kr,kh,jd,ja,jy,fpOk,foot,kp,allN,memN,jN,jm,js,jw,jv,jt,ju,jg,jh,jf,je,newN,jx,jS,jU,j2,jO,jP,jQ,jz,jA,jE,jB,jC,jn,jD,jF,jG,j7,evX,evL,evB,rd,get,subG,memG,jW,jY,hyps,gob,impP,allP,j6,j1,j4,ko,nth,ke,km,jX,lenB,kj,jV,entN,setE,jZ,addE,setL,setN,putE,env0,eqCs,j9,eqC,bA,bO,bN,bE,negB,kEq,ki,j8,lend,frz,frzL,zRow,kg,kd,closed,jH,j0,binI,remP,remI,retK,retG,kq,retD,kn,resL,resD,oneD,renD,renL,renE,j3,rho,jR,j5,List.append,List.nil_append,List.cons_append,List.append_nil,cond,Nat.reduceBEq,Nat.reduceAdd,Nat.beq]
theorem sp_Minus {P Q : Int → Int → Prop} (hP : Bdd P) (hQ : Bdd Q) (hl : (reg P).length + (reg Q).length ≤ 8192) :
    TSp 23 [.agg [.ls 4 (rcs (reg P))], .agg [.ls 4 (rcs (reg Q))]] (.agg [.ls 4 (rcs (reg fun x y => P x y ∧ ¬ Q x y))]) := by
  rw [show (reg fun x y => P x y ∧ ¬ Q x y) = reg fun x y => Kp2 (fun a b => a && !b) (P x y) (Q x y) from xI fun x y => Kp2_not.symm]
  refine spo_region_Minus (by rfl) ?_
  dsimp only [c_region_Minus, vw, jo,jK,jT,jr,jI,jM,jq,jJ,jL,iteR,regK,ji,jc,jl,jk,jb,jj,blkK,kr,kh,jd,ja,jy,fpOk,foot,kp,allN,memN,jN,jm,js,jw,jv,jt,ju,jg,jh,jf,je,newN,jx,jS,jU,j2,jO,jP,jQ,jz,jA,jE,jB,jC,jn,jD,jF,jG,j7,evX,evL,evB,rd,get,subG,memG,jW,jY,hyps,gob,impP,allP,j6,j1,j4,ko,nth,ke,km,jX,lenB,kj,jV,entN,setE,jZ,addE,setL,setN,putE,env0,eqCs,j9,eqC,bA,bO,bN,bE,negB,kEq,ki,j8,lend,frz,frzL,zRow,kg,kd,closed,jH,j0,binI,remP,remI,retK,retG,kq,retD,kn,resL,resD,oneD,renD,renL,renE,j3,rho,jR,j5,List.append,List.nil_append,List.cons_append,List.append_nil,cond,Nat.reduceBEq,Nat.reduceAdd,Nat.beq]
  refine kt (sp_join (kf := fun a b => a && !b) rfl sp_Minus_1 hP hQ hl) ?_
  dsimp only [c_region_Minus, vw, jo,jK,jT,jr,jI,jM,jq,jJ,jL,iteR,regK,ji,jc,jl,jk,jb,jj,blkK,kr,kh,jd,ja,jy,fpOk,foot,kp,allN,memN,jN,jm,js,jw,jv,jt,ju,jg,jh,jf,je,newN,jx,jS,jU,j2,jO,jP,jQ,jz,jA,jE,jB,jC,jn,jD,jF,jG,j7,evX,evL,evB,rd,get,subG,memG,jW,jY,hyps,gob,impP,allP,j6,j1,j4,ko,nth,ke,km,jX,lenB,kj,jV,entN,setE,jZ,addE,setL,setN,putE,env0,eqCs,j9,eqC,bA,bO,bN,bE,negB,kEq,ki,j8,lend,frz,frzL,zRow,kg,kd,closed,jH,j0,binI,remP,remI,retK,retG,kq,retD,kn,resL,resD,oneD,renD,renL,renE,j3,rho,jR,j5,List.append,List.nil_append,List.cons_append,List.append_nil,cond,Nat.reduceBEq,Nat.reduceAdd,Nat.beq]
theorem reg_one {c : Rc} (hc : Vr c) : reg (pts (allL [c])) = [c] ∧ (reg fun x y => c.has x y) = [c] ∧ Bdd fun x y => c.has x y := by
  have hv := hc
  unfold Vr at hv
  have hcan : Canon [c] := ⟨[⟨c.y, c.h, [(c.x, c.x + c.w)]⟩], ⟨by dsimp only; omega, by simp, by show c.x < c.x + c.w; omega⟩, by
    simp [qy]; cases c; simp; omega⟩
  have hall : allL [c] = [c] := by simp [allL, cntB_iff.2 hc]
  rw [hall]
  refine ⟨reg_eq hcan fun _ _ => Iff.rfl, reg_eq hcan fun x y => pts_one, fun x y h => ?_⟩
  unfold Rc.has at h; omega
theorem sp_Of_one {c : Rc} (hc : Vr c) : TSp 11 [.ls 4 [rD c]] (.agg [.ls 4 (rcs (reg fun x y => c.has x y))]) := by
  have := vE (l := [c]) (fun r hr => by simp at hr; subst hr; exact hc.in) (by simp)
  rw [(reg_one hc).1.trans (reg_one hc).2.1.symm] at this
  exact this
theorem vF {P : Int → Int → Prop} {c : Rc} (hP : Bdd P) (hc : Vr c) (hl : (reg P).length ≤ 8191) :
    TSp 19 [.agg [.ls 4 (rcs (reg P))], rD c] (.agg [.ls 4 (rcs (reg fun x y => P x y ∧ c.has x y))]) := by
  refine spo_region_Within (by rfl) ?_
  dsimp only [c_region_Within, zo, rD, jo,jK,jT,jr,jI,jM,jq,jJ,jL,iteR,regK,ji,jc,jl,jk,jb,jj,blkK,kr,kh,jd,ja,jy,fpOk,foot,kp,allN,memN,jN,jm,js,jw,jv,jt,ju,jg,jh,jf,je,newN,jx,jS,jU,j2,jO,jP,jQ,jz,jA,jE,jB,jC,jn,jD,jF,jG,j7,evX,evL,evB,rd,get,subG,memG,jW,jY,hyps,gob,impP,allP,j6,j1,j4,ko,nth,ke,km,jX,lenB,kj,jV,entN,setE,jZ,addE,setL,setN,putE,env0,eqCs,j9,eqC,bA,bO,bN,bE,negB,kEq,ki,j8,lend,frz,frzL,zRow,kg,kd,closed,jH,j0,binI,remP,remI,retK,retG,kq,retD,kn,resL,resD,oneD,renD,renL,renE,j3,rho,jR,j5,List.append,List.nil_append,List.cons_append,List.append_nil,cond,Nat.reduceBEq,Nat.reduceAdd,Nat.beq]
  refine kt (sp_Of_one hc) ?_
  dsimp only [c_region_Within, zo, jo,jK,jT,jr,jI,jM,jq,jJ,jL,iteR,regK,ji,jc,jl,jk,jb,jj,blkK,kr,kh,jd,ja,jy,fpOk,foot,kp,allN,memN,jN,jm,js,jw,jv,jt,ju,jg,jh,jf,je,newN,jx,jS,jU,j2,jO,jP,jQ,jz,jA,jE,jB,jC,jn,jD,jF,jG,j7,evX,evL,evB,rd,get,subG,memG,jW,jY,hyps,gob,impP,allP,j6,j1,j4,ko,nth,ke,km,jX,lenB,kj,jV,entN,setE,jZ,addE,setL,setN,putE,env0,eqCs,j9,eqC,bA,bO,bN,bE,negB,kEq,ki,j8,lend,frz,frzL,zRow,kg,kd,closed,jH,j0,binI,remP,remI,retK,retG,kq,retD,kn,resL,resD,oneD,renD,renL,renE,j3,rho,jR,j5,List.append,List.nil_append,List.cons_append,List.append_nil,cond,Nat.reduceBEq,Nat.reduceAdd,Nat.beq]
  refine kt (sp_Meet hP (reg_one hc).2.2 (by rw [(reg_one hc).2.1]; simp; omega)) ?_
  dsimp only [c_region_Within, zo, jo,jK,jT,jr,jI,jM,jq,jJ,jL,iteR,regK,ji,jc,jl,jk,jb,jj,blkK,kr,kh,jd,ja,jy,fpOk,foot,kp,allN,memN,jN,jm,js,jw,jv,jt,ju,jg,jh,jf,je,newN,jx,jS,jU,j2,jO,jP,jQ,jz,jA,jE,jB,jC,jn,jD,jF,jG,j7,evX,evL,evB,rd,get,subG,memG,jW,jY,hyps,gob,impP,allP,j6,j1,j4,ko,nth,ke,km,jX,lenB,kj,jV,entN,setE,jZ,addE,setL,setN,putE,env0,eqCs,j9,eqC,bA,bO,bN,bE,negB,kEq,ki,j8,lend,frz,frzL,zRow,kg,kd,closed,jH,j0,binI,remP,remI,retK,retG,kq,retD,kn,resL,resD,oneD,renD,renL,renE,j3,rho,jR,j5,List.append,List.nil_append,List.cons_append,List.append_nil,cond,Nat.reduceBEq,Nat.reduceAdd,Nat.beq]
end Go.AM

