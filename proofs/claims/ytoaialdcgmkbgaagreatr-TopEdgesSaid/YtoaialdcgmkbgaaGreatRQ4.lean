import Derived.Test.YtoaialdcgmkbgaaGreatRQ3
import Derived.Test.YtoaialdcgmkbgaaGreatRK10
import Derived.Test.YtoaialdcgmkbgaaGreatRCode2
import Derived.Test.YtoaialdcgmkbgaaGreatRA32

set_option linter.all false
namespace Go.AM
open Go Go.Proofs
theorem sp_Meet_1 (a b : Bool) : TSp 70 [.bool a, .bool b] (.bool (a && b)) := by
 refine KV (by rfl) ?_
 dsimp only [c_region_Meet_1, xq, jo,jK,jT,jr,jI,jM,jq,jJ,jL,iteR,regK,ji,jc,jl,jk,jb,jj,blkK,kt,kh,jd,ja,jy,fpOk,foot,kq,allN,memN,jN,jm,js,jw,jv,jt,ju,jg,jh,jf,je,newN,jx,jS,jU,jX,jO,jP,jQ,jz,jA,jE,jB,jC,jn,jD,jF,jG,j7,evX,evL,evB,rd,get,subG,memG,jY,jW,hyps,gob,impP,allP,j5,j2,j4,kp,nth,ke,km,jZ,lenB,kj,jV,entN,setE,j0,addE,setL,setN,putE,env0,eqCs,j9,eqC,bA,bO,bN,bE,negB,kEq,ki,j8,lend,frz,frzL,zRow,kg,kd,closed,jH,j1,binI,remP,remI,retK,retG,kr,retD,ko,resL,resD,oneD,renD,renL,renE,j3,rho,jR,j6,List.append,List.nil_append,List.cons_append,List.append_nil,cond,Nat.reduceBEq,Nat.reduceAdd,Nat.beq]
theorem Kp2_and {P Q : Prop} : Kp2 (fun a b => a && b) P Q ↔ P ∧ Q := by
 unfold Kp2; simp
theorem ZZ {P Q : Int → Int → Prop} (hP : Bdd P) (hQ : Bdd Q) (hl : (reg P).length + (reg Q).length ≤ 8192) :
  TSp 13 [.agg [.ls 4 (rcs (reg P))], .agg [.ls 4 (rcs (reg Q))]] (.agg [.ls 4 (rcs (reg fun x y => P x y ∧ Q x y))]) := by
 rw [show (reg fun x y => P x y ∧ Q x y) = reg fun x y => Kp2 (fun a b => a && b) (P x y) (Q x y) from Qh fun x y => Kp2_and.symm]
 refine ZH (by rfl) ?_
 dsimp only [c_region_Meet, v6, jo,jK,jT,jr,jI,jM,jq,jJ,jL,iteR,regK,ji,jc,jl,jk,jb,jj,blkK,kt,kh,jd,ja,jy,fpOk,foot,kq,allN,memN,jN,jm,js,jw,jv,jt,ju,jg,jh,jf,je,newN,jx,jS,jU,jX,jO,jP,jQ,jz,jA,jE,jB,jC,jn,jD,jF,jG,j7,evX,evL,evB,rd,get,subG,memG,jY,jW,hyps,gob,impP,allP,j5,j2,j4,kp,nth,ke,km,jZ,lenB,kj,jV,entN,setE,j0,addE,setL,setN,putE,env0,eqCs,j9,eqC,bA,bO,bN,bE,negB,kEq,ki,j8,lend,frz,frzL,zRow,kg,kd,closed,jH,j1,binI,remP,remI,retK,retG,kr,retD,ko,resL,resD,oneD,renD,renL,renE,j3,rho,jR,j6,List.append,List.nil_append,List.cons_append,List.append_nil,cond,Nat.reduceBEq,Nat.reduceAdd,Nat.beq]
 refine kx (sp_join (kf := fun a b => a && b) rfl sp_Meet_1 hP hQ hl) ?_
 dsimp only [c_region_Meet, v6, jo,jK,jT,jr,jI,jM,jq,jJ,jL,iteR,regK,ji,jc,jl,jk,jb,jj,blkK,kt,kh,jd,ja,jy,fpOk,foot,kq,allN,memN,jN,jm,js,jw,jv,jt,ju,jg,jh,jf,je,newN,jx,jS,jU,jX,jO,jP,jQ,jz,jA,jE,jB,jC,jn,jD,jF,jG,j7,evX,evL,evB,rd,get,subG,memG,jY,jW,hyps,gob,impP,allP,j5,j2,j4,kp,nth,ke,km,jZ,lenB,kj,jV,entN,setE,j0,addE,setL,setN,putE,env0,eqCs,j9,eqC,bA,bO,bN,bE,negB,kEq,ki,j8,lend,frz,frzL,zRow,kg,kd,closed,jH,j1,binI,remP,remI,retK,retG,kr,retD,ko,resL,resD,oneD,renD,renL,renE,j3,rho,jR,j6,List.append,List.nil_append,List.cons_append,List.append_nil,cond,Nat.reduceBEq,Nat.reduceAdd,Nat.beq]
theorem JX {c : Rc} (hc : Vr c) : reg (pts (allL [c])) = [c] ∧ (reg fun x y => c.has x y) = [c] ∧ Bdd fun x y => c.has x y := by
 have hv := hc
 unfold Vr at hv
 have hcan : JT [c] := ⟨[⟨c.y, c.h, [(c.x, c.x + c.w)]⟩], ⟨by dsimp only; omega, by simp, by show c.x < c.x + c.w; omega⟩, by
  simp [qw]; cases c; simp; omega⟩
 have hall : allL [c] = [c] := by simp [allL, Xj.2 hc]
 rw [hall]
 refine ⟨VE hcan fun _ _ => Iff.rfl, VE hcan fun x y => pts_one, fun x y h => ?_⟩
 unfold Rc.has at h; omega
theorem XQ {c : Rc} (hc : Vr c) : TSp 11 [.ls 4 [rD c]] (.agg [.ls 4 (rcs (reg fun x y => c.has x y))]) := by
 have := yB (l := [c]) (fun r hr => by simp at hr; subst hr; exact hc.in) (by simp)
 rw [(JX hc).1.trans (JX hc).2.1.symm] at this
 exact this
theorem sp_Within {P : Int → Int → Prop} {c : Rc} (hP : Bdd P) (hc : Vr c) (hl : (reg P).length ≤ 8191) :
  TSp 19 [.agg [.ls 4 (rcs (reg P))], rD c] (.agg [.ls 4 (rcs (reg fun x y => P x y ∧ c.has x y))]) := by
 refine KU (by rfl) ?_
 dsimp only [c_region_Within, zz, rD, jo,jK,jT,jr,jI,jM,jq,jJ,jL,iteR,regK,ji,jc,jl,jk,jb,jj,blkK,kt,kh,jd,ja,jy,fpOk,foot,kq,allN,memN,jN,jm,js,jw,jv,jt,ju,jg,jh,jf,je,newN,jx,jS,jU,jX,jO,jP,jQ,jz,jA,jE,jB,jC,jn,jD,jF,jG,j7,evX,evL,evB,rd,get,subG,memG,jY,jW,hyps,gob,impP,allP,j5,j2,j4,kp,nth,ke,km,jZ,lenB,kj,jV,entN,setE,j0,addE,setL,setN,putE,env0,eqCs,j9,eqC,bA,bO,bN,bE,negB,kEq,ki,j8,lend,frz,frzL,zRow,kg,kd,closed,jH,j1,binI,remP,remI,retK,retG,kr,retD,ko,resL,resD,oneD,renD,renL,renE,j3,rho,jR,j6,List.append,List.nil_append,List.cons_append,List.append_nil,cond,Nat.reduceBEq,Nat.reduceAdd,Nat.beq]
 refine kx (XQ hc) ?_
 dsimp only [c_region_Within, zz, jo,jK,jT,jr,jI,jM,jq,jJ,jL,iteR,regK,ji,jc,jl,jk,jb,jj,blkK,kt,kh,jd,ja,jy,fpOk,foot,kq,allN,memN,jN,jm,js,jw,jv,jt,ju,jg,jh,jf,je,newN,jx,jS,jU,jX,jO,jP,jQ,jz,jA,jE,jB,jC,jn,jD,jF,jG,j7,evX,evL,evB,rd,get,subG,memG,jY,jW,hyps,gob,impP,allP,j5,j2,j4,kp,nth,ke,km,jZ,lenB,kj,jV,entN,setE,j0,addE,setL,setN,putE,env0,eqCs,j9,eqC,bA,bO,bN,bE,negB,kEq,ki,j8,lend,frz,frzL,zRow,kg,kd,closed,jH,j1,binI,remP,remI,retK,retG,kr,retD,ko,resL,resD,oneD,renD,renL,renE,j3,rho,jR,j6,List.append,List.nil_append,List.cons_append,List.append_nil,cond,Nat.reduceBEq,Nat.reduceAdd,Nat.beq]
 refine kx (ZZ hP (JX hc).2.2 (by rw [(JX hc).2.1]; simp; omega)) ?_
 dsimp only [c_region_Within, zz, jo,jK,jT,jr,jI,jM,jq,jJ,jL,iteR,regK,ji,jc,jl,jk,jb,jj,blkK,kt,kh,jd,ja,jy,fpOk,foot,kq,allN,memN,jN,jm,js,jw,jv,jt,ju,jg,jh,jf,je,newN,jx,jS,jU,jX,jO,jP,jQ,jz,jA,jE,jB,jC,jn,jD,jF,jG,j7,evX,evL,evB,rd,get,subG,memG,jY,jW,hyps,gob,impP,allP,j5,j2,j4,kp,nth,ke,km,jZ,lenB,kj,jV,entN,setE,j0,addE,setL,setN,putE,env0,eqCs,j9,eqC,bA,bO,bN,bE,negB,kEq,ki,j8,lend,frz,frzL,zRow,kg,kd,closed,jH,j1,binI,remP,remI,retK,retG,kr,retD,ko,resL,resD,oneD,renD,renL,renE,j3,rho,jR,j6,List.append,List.nil_append,List.cons_append,List.append_nil,cond,Nat.reduceBEq,Nat.reduceAdd,Nat.beq]
end Go.AM


set_option linter.all false
namespace Go.AM
open Go Go.Proofs
theorem few64 {P : Int → Int → Prop} (hP : Bdd P) {a b : Int} (hb : ∀ x y, P x y → (a ≤ x ∧ x < a + 64) ∧ b ≤ y ∧ y < b + 64) : (reg P).length ≤ 4096 := by
 have := reg_few (yD hP) hb
 have e1 : max (b + 64 - b) 0 = 64 := by omega
 have e2 : max (a + 64 - a) 0 = 64 := by omega
 rw [e1, e2] at this
 omega
end Go.AM


set_option linter.all false
namespace Go.AM
open Go Go.Proofs
/-! ### Regions -/
theorem sp_Xor_1 (a b : Bool) : TSp 92 [.bool a, .bool b] (.bool (a != b)) := by
 refine QQ (by rfl) ?_
 dsimp only [c_region_Xor_1, xM, jo,jK,jT,jr,jI,jM,jq,jJ,jL,iteR,regK,ji,jc,jl,jk,jb,jj,blkK,kt,kh,jd,ja,jy,fpOk,foot,kq,allN,memN,jN,jm,js,jw,jv,jt,ju,jg,jh,jf,je,newN,jx,jS,jU,jX,jO,jP,jQ,jz,jA,jE,jB,jC,jn,jD,jF,jG,j7,evX,evL,evB,rd,get,subG,memG,jY,jW,hyps,gob,impP,allP,j5,j2,j4,kp,nth,ke,km,jZ,lenB,kj,jV,entN,setE,j0,addE,setL,setN,putE,env0,eqCs,j9,eqC,bA,bO,bN,bE,negB,kEq,ki,j8,lend,frz,frzL,zRow,kg,kd,closed,jH,j1,binI,remP,remI,retK,retG,kr,retD,ko,resL,resD,oneD,renD,renL,renE,j3,rho,jR,j6,List.append,List.nil_append,List.cons_append,List.append_nil,cond,Nat.reduceBEq,Nat.reduceAdd,Nat.beq]
 cases a <;> cases b <;> rfl
def XorP (P Q : Int → Int → Prop) : Int → Int → Prop := fun x y => (P x y ∧ ¬ Q x y) ∨ (Q x y ∧ ¬ P x y)
theorem Kp2_xor {P Q : Prop} : Kp2 (fun a b => a != b) P Q ↔ (P ∧ ¬ Q) ∨ (Q ∧ ¬ P) := by
 unfold Kp2
 by_cases hp : P <;> by_cases hq : Q <;> simp [hp, hq]
theorem sp_Xor {P Q : Int → Int → Prop} (hP : Bdd P) (hQ : Bdd Q) (hl : (reg P).length + (reg Q).length ≤ 8192) :
  TSp 29 [.agg [.ls 4 (rcs (reg P))], .agg [.ls 4 (rcs (reg Q))]] (.agg [.ls 4 (rcs (reg (XorP P Q)))]) := by
 rw [show reg (XorP P Q) = reg fun x y => Kp2 (fun a b => a != b) (P x y) (Q x y) from Qh fun x y => Kp2_xor.symm]
 refine Vf (by rfl) ?_
 dsimp only [c_region_Xor, xC, jo,jK,jT,jr,jI,jM,jq,jJ,jL,iteR,regK,ji,jc,jl,jk,jb,jj,blkK,kt,kh,jd,ja,jy,fpOk,foot,kq,allN,memN,jN,jm,js,jw,jv,jt,ju,jg,jh,jf,je,newN,jx,jS,jU,jX,jO,jP,jQ,jz,jA,jE,jB,jC,jn,jD,jF,jG,j7,evX,evL,evB,rd,get,subG,memG,jY,jW,hyps,gob,impP,allP,j5,j2,j4,kp,nth,ke,km,jZ,lenB,kj,jV,entN,setE,j0,addE,setL,setN,putE,env0,eqCs,j9,eqC,bA,bO,bN,bE,negB,kEq,ki,j8,lend,frz,frzL,zRow,kg,kd,closed,jH,j1,binI,remP,remI,retK,retG,kr,retD,ko,resL,resD,oneD,renD,renL,renE,j3,rho,jR,j6,List.append,List.nil_append,List.cons_append,List.append_nil,cond,Nat.reduceBEq,Nat.reduceAdd,Nat.beq]
 refine kx (sp_join (kf := fun a b => a != b) rfl sp_Xor_1 hP hQ hl) ?_
 dsimp only [c_region_Xor, xC, jo,jK,jT,jr,jI,jM,jq,jJ,jL,iteR,regK,ji,jc,jl,jk,jb,jj,blkK,kt,kh,jd,ja,jy,fpOk,foot,kq,allN,memN,jN,jm,js,jw,jv,jt,ju,jg,jh,jf,je,newN,jx,jS,jU,jX,jO,jP,jQ,jz,jA,jE,jB,jC,jn,jD,jF,jG,j7,evX,evL,evB,rd,get,subG,memG,jY,jW,hyps,gob,impP,allP,j5,j2,j4,kp,nth,ke,km,jZ,lenB,kj,jV,entN,setE,j0,addE,setL,setN,putE,env0,eqCs,j9,eqC,bA,bO,bN,bE,negB,kEq,ki,j8,lend,frz,frzL,zRow,kg,kd,closed,jH,j1,binI,remP,remI,retK,retG,kr,retD,ko,resL,resD,oneD,renD,renL,renE,j3,rho,jR,j6,List.append,List.nil_append,List.cons_append,List.append_nil,cond,Nat.reduceBEq,Nat.reduceAdd,Nat.beq]
/-! ### The pixel -/
theorem YD : TSpM 180 [.int .i64 6] [] (.fn 210 [.box 0 0]) [.cells [.int .i64 6]] := by
 refine QU (by rfl) ?_
 dsimp only [c_rop_function, vI, jo,jK,jT,jr,jI,jM,jq,jJ,jL,iteR,regK,ji,jc,jl,jk,jb,jj,blkK,kt,kh,jd,ja,jy,fpOk,foot,kq,allN,memN,jN,jm,js,jw,jv,jt,ju,jg,jh,jf,je,newN,jx,jS,jU,jX,jO,jP,jQ,jz,jA,jE,jB,jC,jn,jD,jF,jG,j7,evX,evL,evB,rd,get,subG,memG,jY,jW,hyps,gob,impP,allP,j5,j2,j4,kp,nth,ke,km,jZ,lenB,kj,jV,entN,setE,j0,addE,setL,setN,putE,env0,eqCs,j9,eqC,bA,bO,bN,bE,negB,kEq,ki,j8,lend,frz,frzL,zRow,kg,kd,closed,jH,j1,binI,remP,remI,retK,retG,kr,retD,ko,resL,resD,oneD,renD,renL,renE,j3,rho,jR,j6,List.append,List.nil_append,List.cons_append,List.append_nil,cond,Nat.reduceBEq,Nat.reduceAdd,Nat.beq]
 refine kx sp_known ?_
 dsimp only [c_rop_function, vI, jo,jK,jT,jr,jI,jM,jq,jJ,jL,iteR,regK,ji,jc,jl,jk,jb,jj,blkK,kt,kh,jd,ja,jy,fpOk,foot,kq,allN,memN,jN,jm,js,jw,jv,jt,ju,jg,jh,jf,je,newN,jx,jS,jU,jX,jO,jP,jQ,jz,jA,jE,jB,jC,jn,jD,jF,jG,j7,evX,evL,evB,rd,get,subG,memG,jY,jW,hyps,gob,impP,allP,j5,j2,j4,kp,nth,ke,km,jZ,lenB,kj,jV,entN,setE,j0,addE,setL,setN,putE,env0,eqCs,j9,eqC,bA,bO,bN,bE,negB,kEq,ki,j8,lend,frz,frzL,zRow,kg,kd,closed,jH,j1,binI,remP,remI,retK,retG,kr,retD,ko,resL,resD,oneD,renD,renL,renE,j3,rho,jR,j6,List.append,List.nil_append,List.cons_append,List.append_nil,cond,Nat.reduceBEq,Nat.reduceAdd,Nat.beq]
 exact ⟨fun h => absurd h (by decide), fun _ => Rt.id⟩
theorem Vw {a b : Bool} : TSpM 210 [.bool a, .bool b, .box 0 0] [.cells [.int .i64 6]] (.bool (a != b)) [.cells [.int .i64 6]] := by
 refine Ks (by rfl) ?_
 dsimp only [c_rop_function_2, zS, jo,jK,jT,jr,jI,jM,jq,jJ,jL,iteR,regK,ji,jc,jl,jk,jb,jj,blkK,kt,kh,jd,ja,jy,fpOk,foot,kq,allN,memN,jN,jm,js,jw,jv,jt,ju,jg,jh,jf,je,newN,jx,jS,jU,jX,jO,jP,jQ,jz,jA,jE,jB,jC,jn,jD,jF,jG,j7,evX,evL,evB,rd,get,subG,memG,jY,jW,hyps,gob,impP,allP,j5,j2,j4,kp,nth,ke,km,jZ,lenB,kj,jV,entN,setE,j0,addE,setL,setN,putE,env0,eqCs,j9,eqC,bA,bO,bN,bE,negB,kEq,ki,j8,lend,frz,frzL,zRow,kg,kd,closed,jH,j1,binI,remP,remI,retK,retG,kr,retD,ko,resL,resD,oneD,renD,renL,renE,j3,rho,jR,j6,List.append,List.nil_append,List.cons_append,List.append_nil,cond,Nat.reduceBEq,Nat.reduceAdd,Nat.beq]
 refine kx sp_weight ?_
 dsimp only [c_rop_function_2, zS, jo,jK,jT,jr,jI,jM,jq,jJ,jL,iteR,regK,ji,jc,jl,jk,jb,jj,blkK,kt,kh,jd,ja,jy,fpOk,foot,kq,allN,memN,jN,jm,js,jw,jv,jt,ju,jg,jh,jf,je,newN,jx,jS,jU,jX,jO,jP,jQ,jz,jA,jE,jB,jC,jn,jD,jF,jG,j7,evX,evL,evB,rd,get,subG,memG,jY,jW,hyps,gob,impP,allP,j5,j2,j4,kp,nth,ke,km,jZ,lenB,kj,jV,entN,setE,j0,addE,setL,setN,putE,env0,eqCs,j9,eqC,bA,bO,bN,bE,negB,kEq,ki,j8,lend,frz,frzL,zRow,kg,kd,closed,jH,j1,binI,remP,remI,retK,retG,kr,retD,ko,resL,resD,oneD,renD,renL,renE,j3,rho,jR,j6,List.append,List.nil_append,List.cons_append,List.append_nil,cond,Nat.reduceBEq,Nat.reduceAdd,Nat.beq]
 refine ⟨⟨by omega, by cases a <;> cases b <;> decide, by simp [fits], by cases a <;> cases b <;> simp [wgt, fits]⟩, ?_⟩
 have : (!decide (Int.ofNat (Int.toNat 6 &&& (wgt a b).toNat) = 0)) = (a != b) := by cases a <;> cases b <;> rfl
 rw [this]
 exact Rt.id
def xorI (s d : Int) : Int := ((s.toNat ^^^ d.toNat : Nat) : Int)
theorem xorI_ok {s d : Int} (hs : 0 ≤ s ∧ s ≤ 255) (hd : 0 ≤ d ∧ d ≤ 255) : 0 ≤ xorI s d ∧ xorI s d ≤ 255 := by
 unfold xorI
 have : s.toNat ^^^ d.toNat < 2 ^ 8 := Nat.xor_lt_two_pow (by omega) (by omega)
 omega
theorem sp_MixX {s d : Int} (hs : 0 ≤ s ∧ s ≤ 255) (hd : 0 ≤ d ∧ d ≤ 255) : TSp 143 [.int .i64 6, .int .u8 s, .int .u8 d, .int .u8 255] (.int .u8 (xorI s d)) := by
 obtain ⟨s, rfl⟩ : ∃ n : Nat, s = n := ⟨s.toNat, by omega⟩
 obtain ⟨d, rfl⟩ : ∃ n : Nat, d = n := ⟨d.toNat, by omega⟩
 obtain ⟨e, he⟩ : ∃ e, e = s ^^^ d := ⟨_, rfl⟩
 have he' : e < 256 := by
  have : s ^^^ d < 2 ^ 8 := Nat.xor_lt_two_pow (by omega) (by omega)
  omega
 have hxe : xorI s d = (e : Int) := by unfold xorI; rw [Int.toNat_natCast, Int.toNat_natCast, he]
 rw [hxe]
 refine spo_rop_Mix (by rfl) ?_
 dsimp only [c_rop_Mix, xE, jo,jK,jT,jr,jI,jM,jq,jJ,jL,iteR,regK,ji,jc,jl,jk,jb,jj,blkK,kt,kh,jd,ja,jy,fpOk,foot,kq,allN,memN,jN,jm,js,jw,jv,jt,ju,jg,jh,jf,je,newN,jx,jS,jU,jX,jO,jP,jQ,jz,jA,jE,jB,jC,jn,jD,jF,jG,j7,evX,evL,evB,rd,get,subG,memG,jY,jW,hyps,gob,impP,allP,j5,j2,j4,kp,nth,ke,km,jZ,lenB,kj,jV,entN,setE,j0,addE,setL,setN,putE,env0,eqCs,j9,eqC,bA,bO,bN,bE,negB,kEq,ki,j8,lend,frz,frzL,zRow,kg,kd,closed,jH,j1,binI,remP,remI,retK,retG,kr,retD,ko,resL,resD,oneD,renD,renL,renE,j3,rho,jR,j6,List.append,List.nil_append,List.cons_append,List.append_nil,cond,Nat.reduceBEq,Nat.reduceAdd,Nat.beq]
 refine qm [] YD rfl rfl ?_
 dsimp only [c_rop_Mix, xE, jo,jK,jT,jr,jI,jM,jq,jJ,jL,iteR,regK,ji,jc,jl,jk,jb,jj,blkK,kt,kh,jd,ja,jy,fpOk,foot,kq,allN,memN,jN,jm,js,jw,jv,jt,ju,jg,jh,jf,je,newN,jx,jS,jU,jX,jO,jP,jQ,jz,jA,jE,jB,jC,jn,jD,jF,jG,j7,evX,evL,evB,rd,get,subG,memG,jY,jW,hyps,gob,impP,allP,j5,j2,j4,kp,nth,ke,km,jZ,lenB,kj,jV,entN,setE,j0,addE,setL,setN,putE,env0,eqCs,j9,eqC,bA,bO,bN,bE,negB,kEq,ki,j8,lend,frz,frzL,zRow,kg,kd,closed,jH,j1,binI,remP,remI,retK,retG,kr,retD,ko,resL,resD,oneD,renD,renL,renE,j3,rho,jR,j6,List.append,List.nil_append,List.cons_append,List.append_nil,cond,Nat.reduceBEq,Nat.reduceAdd,Nat.beq]
 have h0 : Int.ofNat (((d : Int).toNat ^^^ (255 : Int).toNat) &&& (d : Int).toNat) = 0 := by
  rw [Int.toNat_natCast, show (255 : Int).toNat = 255 from rfl, mix_none d (by omega)]; rfl
 rw [h0]
 refine ⟨⟨by omega, by omega, by simp only [fits]; omega, by simp [fits]⟩, ?_⟩
 refine kH (α := {i : Nat // i ≤ 8})
  (fun i => ⟨[(1, [], .int .u8 s), (2, [], .int .u8 d), (3, [], .int .u8 255), (9, [], .fn 210 [.box 0 0]), (10, [], .int .u8 ((e % 2 ^ i.1 : Nat) : Int)), (18, [], .int .i64 i.1)], [.cells [.int .i64 6]]⟩)
  (fun i => 8 - i.1) ?_ ⟨0, by omega⟩ (by simp [Nat.mod_one])
 rintro ⟨i, hi⟩ I ih
 dsimp only at hi ⊢
 dsimp only [c_rop_Mix, xE, jo,jK,jT,jr,jI,jM,jq,jJ,jL,iteR,regK,ji,jc,jl,jk,jb,jj,blkK,kt,kh,jd,ja,jy,fpOk,foot,kq,allN,memN,jN,jm,js,jw,jv,jt,ju,jg,jh,jf,je,newN,jx,jS,jU,jX,jO,jP,jQ,jz,jA,jE,jB,jC,jn,jD,jF,jG,j7,evX,evL,evB,rd,get,subG,memG,jY,jW,hyps,gob,impP,allP,j5,j2,j4,kp,nth,ke,km,jZ,lenB,kj,jV,entN,setE,j0,addE,setL,setN,putE,env0,eqCs,j9,eqC,bA,bO,bN,bE,negB,kEq,ki,j8,lend,frz,frzL,zRow,kg,kd,closed,jH,j1,binI,remP,remI,retK,retG,kr,retD,ko,resL,resD,oneD,renD,renL,renE,j3,rho,jR,j6,List.append,List.nil_append,List.cons_append,List.append_nil,cond,Nat.reduceBEq,Nat.reduceAdd,Nat.beq]
 refine ⟨fun hlt => ?_, fun hge => ?_⟩
 ·have hil : i < 8 := by simp only [decide_eq_true_eq] at hlt; omega
  have e1 : (1 : Int) * 2 ^ ((i : Nat) : Int).toNat = ((2 ^ i : Nat) : Int) := by rw [Int.toNat_natCast]; simp
  have hp : 2 ^ i ≤ 128 := by
   have : 2 ^ i ≤ 2 ^ 7 := Nat.pow_le_pow_right (by omega) (by omega)
   simpa using this
  rw [e1]
  have hb1 : (!decide (Int.ofNat ((255 : Int).toNat &&& ((2 ^ i : Nat) : Int).toNat) = 0)) = true := by
   rw [Int.toNat_natCast]; exact mix_mask i hil
  have hb2 : (!decide (Int.ofNat ((s : Int).toNat &&& ((2 ^ i : Nat) : Int).toNat) = 0)) = s.testBit i := by
   rw [Int.toNat_natCast, Int.toNat_natCast]; exact mix_bit s (by omega) i hil
  have hb3 : (!decide (Int.ofNat ((d : Int).toNat &&& ((2 ^ i : Nat) : Int).toNat) = 0)) = d.testBit i := by
   rw [Int.toNat_natCast, Int.toNat_natCast]; exact mix_bit d (by omega) i hil
  rw [hb1, hb2, hb3]
  have hf : ∀ n : Nat, n ≤ 255 → fits .u8 (n : Int) := fun n hn => by simp only [fits]; omega
  have hsm : e % 2 ^ i ≤ 255 := Nat.le_trans (Nat.mod_le _ _) (by omega)
  refine ⟨⟨by omega, by simp only [IntKind.bits]; omega, hf _ (by omega)⟩, ⟨by omega, by omega, by simp [fits], hf _ (by omega)⟩, fun _ => ⟨by omega, by omega, hf _ (by omega), hf _ (by omega)⟩, fun _ => ⟨by omega, by omega, hf _ (by omega), hf _ (by omega)⟩, q9 [0] (fun _ => Vw) rfl rfl rfl ?_⟩
  dsimp only [c_rop_Mix, xE, jo,jK,jT,jr,jI,jM,jq,jJ,jL,iteR,regK,ji,jc,jl,jk,jb,jj,blkK,kt,kh,jd,ja,jy,fpOk,foot,kq,allN,memN,jN,jm,js,jw,jv,jt,ju,jg,jh,jf,je,newN,jx,jS,jU,jX,jO,jP,jQ,jz,jA,jE,jB,jC,jn,jD,jF,jG,j7,evX,evL,evB,rd,get,subG,memG,jY,jW,hyps,gob,impP,allP,j5,j2,j4,kp,nth,ke,km,jZ,lenB,kj,jV,entN,setE,j0,addE,setL,setN,putE,env0,eqCs,j9,eqC,bA,bO,bN,bE,negB,kEq,ki,j8,lend,frz,frzL,zRow,kg,kd,closed,jH,j1,binI,remP,remI,retK,retG,kr,retD,ko,resL,resD,oneD,renD,renL,renE,j3,rho,jR,j6,List.append,List.nil_append,List.cons_append,List.append_nil,cond,Nat.reduceBEq,Nat.reduceAdd,Nat.beq]
  have hn := mix_next e he' i hil
  have hbit : (s.testBit i != d.testBit i) = e.testBit i := by rw [he, Nat.testBit_xor]
  rw [hbit]
  refine ⟨fun ht => ?_, fun ht => ?_⟩
  ·rw [if_pos (by simpa using ht)] at hn
   rw [Int.toNat_natCast, Int.toNat_natCast, show Int.ofNat (e % 2 ^ i ||| 2 ^ i) = ((e % 2 ^ (i + 1) : Nat) : Int) from by rw [hn]; rfl]
   refine ⟨⟨by omega, by omega, hf _ hsm, hf _ (by omega)⟩, by simp only [fits]; omega, ?_⟩
   exact k9 (ih ⟨i + 1, hil⟩ (by dsimp only; omega)) ⟨rfl, rfl, rfl, rfl, rfl, by simp [get], trivial⟩ ⟨rfl, trivial⟩ rfl rfl
  ·rw [if_neg (by simpa using ht)] at hn
   rw [← hn]
   refine ⟨by simp only [fits]; omega, ?_⟩
   exact k9 (ih ⟨i + 1, hil⟩ (by dsimp only; omega)) ⟨rfl, rfl, rfl, rfl, rfl, by simp [get], trivial⟩ ⟨rfl, trivial⟩ rfl rfl
 ·have : i = 8 := by simp only [decide_eq_false_iff_not] at hge; omega
  subst this
  rw [Nat.mod_eq_of_lt (by simpa using he')]
/-! ### Pens that turn pixels -/
abbrev penX (fore : Int) : List D := [.int .i64 6, .int .u8 255, .int .u8 fore, .int .u8 1, .int .u32 0, .int .i64 0, .int .i64 0, .bool false, .ls 4 []]
theorem Yx {fore : Int} : TSp 83 [.agg (penX fore)] (.int .i64 0) := by
 refine KW (by rfl) ?_
 dsimp only [c_pen_Pen_Check, qM, jo,jK,jT,jr,jI,jM,jq,jJ,jL,iteR,regK,ji,jc,jl,jk,jb,jj,blkK,kt,kh,jd,ja,jy,fpOk,foot,kq,allN,memN,jN,jm,js,jw,jv,jt,ju,jg,jh,jf,je,newN,jx,jS,jU,jX,jO,jP,jQ,jz,jA,jE,jB,jC,jn,jD,jF,jG,j7,evX,evL,evB,rd,get,subG,memG,jY,jW,hyps,gob,impP,allP,j5,j2,j4,kp,nth,ke,km,jZ,lenB,kj,jV,entN,setE,j0,addE,setL,setN,putE,env0,eqCs,j9,eqC,bA,bO,bN,bE,negB,kEq,ki,j8,lend,frz,frzL,zRow,kg,kd,closed,jH,j1,binI,remP,remI,retK,retG,kr,retD,ko,resL,resD,oneD,renD,renL,renE,j3,rho,jR,j6,List.append,List.nil_append,List.cons_append,List.append_nil,cond,Nat.reduceBEq,Nat.reduceAdd,Nat.beq]
 refine kx sp_isFunc ?_
 dsimp only [c_pen_Pen_Check, qM, jo,jK,jT,jr,jI,jM,jq,jJ,jL,iteR,regK,ji,jc,jl,jk,jb,jj,blkK,kt,kh,jd,ja,jy,fpOk,foot,kq,allN,memN,jN,jm,js,jw,jv,jt,ju,jg,jh,jf,je,newN,jx,jS,jU,jX,jO,jP,jQ,jz,jA,jE,jB,jC,jn,jD,jF,jG,j7,evX,evL,evB,rd,get,subG,memG,jY,jW,hyps,gob,impP,allP,j5,j2,j4,kp,nth,ke,km,jZ,lenB,kj,jV,entN,setE,j0,addE,setL,setN,putE,env0,eqCs,j9,eqC,bA,bO,bN,bE,negB,kEq,ki,j8,lend,frz,frzL,zRow,kg,kd,closed,jH,j1,binI,remP,remI,retK,retG,kr,retD,ko,resL,resD,oneD,renD,renL,renE,j3,rho,jR,j6,List.append,List.nil_append,List.cons_append,List.append_nil,cond,Nat.reduceBEq,Nat.reduceAdd,Nat.beq]
 refine ⟨fun h => absurd h (by decide), fun _ => ?_⟩
 refine kx Vs ?_
 dsimp only [c_pen_Pen_Check, qM, jo,jK,jT,jr,jI,jM,jq,jJ,jL,iteR,regK,ji,jc,jl,jk,jb,jj,blkK,kt,kh,jd,ja,jy,fpOk,foot,kq,allN,memN,jN,jm,js,jw,jv,jt,ju,jg,jh,jf,je,newN,jx,jS,jU,jX,jO,jP,jQ,jz,jA,jE,jB,jC,jn,jD,jF,jG,j7,evX,evL,evB,rd,get,subG,memG,jY,jW,hyps,gob,impP,allP,j5,j2,j4,kp,nth,ke,km,jZ,lenB,kj,jV,entN,setE,j0,addE,setL,setN,putE,env0,eqCs,j9,eqC,bA,bO,bN,bE,negB,kEq,ki,j8,lend,frz,frzL,zRow,kg,kd,closed,jH,j1,binI,remP,remI,retK,retG,kr,retD,ko,resL,resD,oneD,renD,renL,renE,j3,rho,jR,j6,List.append,List.nil_append,List.cons_append,List.append_nil,cond,Nat.reduceBEq,Nat.reduceAdd,Nat.beq]
 refine kx (fun _ => Vs) ?_
 dsimp only [c_pen_Pen_Check, qM, jo,jK,jT,jr,jI,jM,jq,jJ,jL,iteR,regK,ji,jc,jl,jk,jb,jj,blkK,kt,kh,jd,ja,jy,fpOk,foot,kq,allN,memN,jN,jm,js,jw,jv,jt,ju,jg,jh,jf,je,newN,jx,jS,jU,jX,jO,jP,jQ,jz,jA,jE,jB,jC,jn,jD,jF,jG,j7,evX,evL,evB,rd,get,subG,memG,jY,jW,hyps,gob,impP,allP,j5,j2,j4,kp,nth,ke,km,jZ,lenB,kj,jV,entN,setE,j0,addE,setL,setN,putE,env0,eqCs,j9,eqC,bA,bO,bN,bE,negB,kEq,ki,j8,lend,frz,frzL,zRow,kg,kd,closed,jH,j1,binI,remP,remI,retK,retG,kr,retD,ko,resL,resD,oneD,renD,renL,renE,j3,rho,jR,j6,List.append,List.nil_append,List.cons_append,List.append_nil,cond,Nat.reduceBEq,Nat.reduceAdd,Nat.beq]
 refine ⟨fun h => absurd h (by decide), fun _ => ⟨fun h => absurd h (by decide), fun _ => ⟨fun h => absurd h (by decide), fun _ => ?_⟩⟩⟩
 refine run_unroll ?_
 dsimp only [c_pen_Pen_Check, qM, jo,jK,jT,jr,jI,jM,jq,jJ,jL,iteR,regK,ji,jc,jl,jk,jb,jj,blkK,kt,kh,jd,ja,jy,fpOk,foot,kq,allN,memN,jN,jm,js,jw,jv,jt,ju,jg,jh,jf,je,newN,jx,jS,jU,jX,jO,jP,jQ,jz,jA,jE,jB,jC,jn,jD,jF,jG,j7,evX,evL,evB,rd,get,subG,memG,jY,jW,hyps,gob,impP,allP,j5,j2,j4,kp,nth,ke,km,jZ,lenB,kj,jV,entN,setE,j0,addE,setL,setN,putE,env0,eqCs,j9,eqC,bA,bO,bN,bE,negB,kEq,ki,j8,lend,frz,frzL,zRow,kg,kd,closed,jH,j1,binI,remP,remI,retK,retG,kr,retD,ko,resL,resD,oneD,renD,renL,renE,j3,rho,jR,j6,List.append,List.nil_append,List.cons_append,List.append_nil,cond,Nat.reduceBEq,Nat.reduceAdd,Nat.beq]
 exact ⟨fun h => absurd h (by decide), fun _ => rfl⟩
abbrev ptE (w h : Nat) (f g : Px) (fore src : Int) : List Ent := [.cells (plC w h f (.own 1 (w * h + 1)) (.own 2 1)), .arr 51 1 (w * h + 1) (gl w h f), .arr 51 1 1 (gl w h g), .cells [.box 0 0], .cells (penX fore), .cells [.int .u8 src]]
theorem sm_painter {w h : Nat} {f g : Px} {fore src : Int} : TSpM 151 [.box 0 0, .agg (penX fore), .int .u8 src] (plE w h f g) (.fn 188 [.box 3 0, .box 4 0, .box 5 0]) (ptE w h f g fore src) := by
 refine K5 (by rfl) ?_
 dsimp only [c_paint_painter, xr, jo,jK,jT,jr,jI,jM,jq,jJ,jL,iteR,regK,ji,jc,jl,jk,jb,jj,blkK,kt,kh,jd,ja,jy,fpOk,foot,kq,allN,memN,jN,jm,js,jw,jv,jt,ju,jg,jh,jf,je,newN,jx,jS,jU,jX,jO,jP,jQ,jz,jA,jE,jB,jC,jn,jD,jF,jG,j7,evX,evL,evB,rd,get,subG,memG,jY,jW,hyps,gob,impP,allP,j5,j2,j4,kp,nth,ke,km,jZ,lenB,kj,jV,entN,setE,j0,addE,setL,setN,putE,env0,eqCs,j9,eqC,bA,bO,bN,bE,negB,kEq,ki,j8,lend,frz,frzL,zRow,kg,kd,closed,jH,j1,binI,remP,remI,retK,retG,kr,retD,ko,resL,resD,oneD,renD,renL,renE,j3,rho,jR,j6,List.append,List.nil_append,List.cons_append,List.append_nil,cond,Nat.reduceBEq,Nat.reduceAdd,Nat.beq]
 exact Rt.id
theorem YC {w h : Nat} {f g : Px} {fore src x y : Int} (hw : w ≤ 128) (hh : h ≤ 128) (hs : 0 ≤ src ∧ src ≤ 255) (hg : Pok g) (hp : inP w h x y) :
  TSpM 188 [.int .i64 x, .int .i64 y, .box 3 0, .box 4 0, .box 5 0] (ptE w h f g fore src) (.tup []) (ptE w h f (updX g x y (xorI src (g x y))) fore src) := by
 refine Ka (by rfl) ?_
 dsimp only [c_paint_painter_1, qJ, jo,jK,jT,jr,jI,jM,jq,jJ,jL,iteR,regK,ji,jc,jl,jk,jb,jj,blkK,kt,kh,jd,ja,jy,fpOk,foot,kq,allN,memN,jN,jm,js,jw,jv,jt,ju,jg,jh,jf,je,newN,jx,jS,jU,jX,jO,jP,jQ,jz,jA,jE,jB,jC,jn,jD,jF,jG,j7,evX,evL,evB,rd,get,subG,memG,jY,jW,hyps,gob,impP,allP,j5,j2,j4,kp,nth,ke,km,jZ,lenB,kj,jV,entN,setE,j0,addE,setL,setN,putE,env0,eqCs,j9,eqC,bA,bO,bN,bE,negB,kEq,ki,j8,lend,frz,frzL,zRow,kg,kd,closed,jH,j1,binI,remP,remI,retK,retG,kr,retD,ko,resL,resD,oneD,renD,renL,renE,j3,rho,jR,j6,List.append,List.nil_append,List.cons_append,List.append_nil,cond,Nat.reduceBEq,Nat.reduceAdd,Nat.beq]
 refine q9 [0, 1, 2] (Vv hw hh hp) rfl rfl rfl ?_
 dsimp only [c_paint_painter_1, qJ, jo,jK,jT,jr,jI,jM,jq,jJ,jL,iteR,regK,ji,jc,jl,jk,jb,jj,blkK,kt,kh,jd,ja,jy,fpOk,foot,kq,allN,memN,jN,jm,js,jw,jv,jt,ju,jg,jh,jf,je,newN,jx,jS,jU,jX,jO,jP,jQ,jz,jA,jE,jB,jC,jn,jD,jF,jG,j7,evX,evL,evB,rd,get,subG,memG,jY,jW,hyps,gob,impP,allP,j5,j2,j4,kp,nth,ke,km,jZ,lenB,kj,jV,entN,setE,j0,addE,setL,setN,putE,env0,eqCs,j9,eqC,bA,bO,bN,bE,negB,kEq,ki,j8,lend,frz,frzL,zRow,kg,kd,closed,jH,j1,binI,remP,remI,retK,retG,kr,retD,ko,resL,resD,oneD,renD,renL,renE,j3,rho,jR,j6,List.append,List.nil_append,List.cons_append,List.append_nil,cond,Nat.reduceBEq,Nat.reduceAdd,Nat.beq]
 refine kx (sp_MixX hs (hg x y)) ?_
 dsimp only [c_paint_painter_1, qJ, jo,jK,jT,jr,jI,jM,jq,jJ,jL,iteR,regK,ji,jc,jl,jk,jb,jj,blkK,kt,kh,jd,ja,jy,fpOk,foot,kq,allN,memN,jN,jm,js,jw,jv,jt,ju,jg,jh,jf,je,newN,jx,jS,jU,jX,jO,jP,jQ,jz,jA,jE,jB,jC,jn,jD,jF,jG,j7,evX,evL,evB,rd,get,subG,memG,jY,jW,hyps,gob,impP,allP,j5,j2,j4,kp,nth,ke,km,jZ,lenB,kj,jV,entN,setE,j0,addE,setL,setN,putE,env0,eqCs,j9,eqC,bA,bO,bN,bE,negB,kEq,ki,j8,lend,frz,frzL,zRow,kg,kd,closed,jH,j1,binI,remP,remI,retK,retG,kr,retD,ko,resL,resD,oneD,renD,renL,renE,j3,rho,jR,j6,List.append,List.nil_append,List.cons_append,List.append_nil,cond,Nat.reduceBEq,Nat.reduceAdd,Nat.beq]
 refine qm [0, 1, 2] (sm_plSet hw hh hp) rfl rfl ?_
 dsimp only [c_paint_painter_1, qJ, jo,jK,jT,jr,jI,jM,jq,jJ,jL,iteR,regK,ji,jc,jl,jk,jb,jj,blkK,kt,kh,jd,ja,jy,fpOk,foot,kq,allN,memN,jN,jm,js,jw,jv,jt,ju,jg,jh,jf,je,newN,jx,jS,jU,jX,jO,jP,jQ,jz,jA,jE,jB,jC,jn,jD,jF,jG,j7,evX,evL,evB,rd,get,subG,memG,jY,jW,hyps,gob,impP,allP,j5,j2,j4,kp,nth,ke,km,jZ,lenB,kj,jV,entN,setE,j0,addE,setL,setN,putE,env0,eqCs,j9,eqC,bA,bO,bN,bE,negB,kEq,ki,j8,lend,frz,frzL,zRow,kg,kd,closed,jH,j1,binI,remP,remI,retK,retG,kr,retD,ko,resL,resD,oneD,renD,renL,renE,j3,rho,jR,j6,List.append,List.nil_append,List.cons_append,List.append_nil,cond,Nat.reduceBEq,Nat.reduceAdd,Nat.beq]
 exact Rt.id
end Go.AM

