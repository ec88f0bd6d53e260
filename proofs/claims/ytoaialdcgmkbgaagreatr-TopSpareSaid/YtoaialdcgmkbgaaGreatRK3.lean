import Derived.Test.YtoaialdcgmkbgaaGreatRCode
import Derived.Test.YtoaialdcgmkbgaaGreatRA32
import Derived.Test.YtoaialdcgmkbgaaGreatRK1
import Derived.Test.YtoaialdcgmkbgaaGreatRY2

set_option linter.all false
namespace Go.AM
open Go Go.Proofs
abbrev gD (w h : Nat) (f : Px) : D := .agg [.int .i64 w, .int .i64 h, .ls 1 (gl w h f)]
theorem sp_side {n : Int} : TSp 73 [.int .i64 n] (.bool (decide (1 ≤ n) && decide (n ≤ 128))) := by
  refine spo_grid_side (by rfl) ?_
  dsimp only [c_grid_side, r_grid_side, jo,jK,jT,jr,jI,jM,jq,jJ,jL,iteR,regK,ji,jc,jl,jk,jb,jj,blkK,kr,kh,jd,ja,jy,fpOk,foot,kp,allN,memN,jN,jm,js,jw,jv,jt,ju,jg,jh,jf,je,newN,jx,jS,jU,j2,jO,jP,jQ,jz,jA,jE,jB,jC,jn,jD,jF,jG,j7,evX,evL,evB,rd,get,subG,memG,jW,jY,hyps,gob,impP,allP,j6,j1,j4,ko,nth,ke,km,jX,lenB,kj,jV,entN,setE,jZ,addE,setL,setN,putE,env0,eqCs,j9,eqC,bA,bO,bN,bE,negB,kEq,ki,j8,lend,frz,frzL,zRow,kg,kd,closed,jH,j0,binI,remP,remI,retK,retG,kq,retD,kn,resL,resD,oneD,renD,renL,renE,j3,rho,jR,j5,List.append,List.nil_append,List.cons_append,List.append_nil,cond,Nat.reduceBEq,Nat.reduceAdd,Nat.beq]
theorem sp_gcoord {n : Int} : TSp 74 [.int .i64 n] (.bool (decide (-1048576 ≤ n) && decide (n ≤ 1048576))) := by
  refine spo_grid_coord (by rfl) ?_
  dsimp only [c_grid_coord, yo, jo,jK,jT,jr,jI,jM,jq,jJ,jL,iteR,regK,ji,jc,jl,jk,jb,jj,blkK,kr,kh,jd,ja,jy,fpOk,foot,kp,allN,memN,jN,jm,js,jw,jv,jt,ju,jg,jh,jf,je,newN,jx,jS,jU,j2,jO,jP,jQ,jz,jA,jE,jB,jC,jn,jD,jF,jG,j7,evX,evL,evB,rd,get,subG,memG,jW,jY,hyps,gob,impP,allP,j6,j1,j4,ko,nth,ke,km,jX,lenB,kj,jV,entN,setE,jZ,addE,setL,setN,putE,env0,eqCs,j9,eqC,bA,bO,bN,bE,negB,kEq,ki,j8,lend,frz,frzL,zRow,kg,kd,closed,jH,j0,binI,remP,remI,retK,retG,kq,retD,kn,resL,resD,oneD,renD,renL,renE,j3,rho,jR,j5,List.append,List.nil_append,List.cons_append,List.append_nil,cond,Nat.reduceBEq,Nat.reduceAdd,Nat.beq]
theorem sp_has {w h : Int} {d : D} {x y : Int} (hd : j4 d = true := by rfl) (hc : closed d = true := by rfl) : TSp 75 [.agg [.int .i64 w, .int .i64 h, d], .int .i64 x, .int .i64 y] (.bool (decide (0 ≤ x) && decide (x < w) && decide (0 ≤ y) && decide (y < h))) := by
  refine spo_grid_Grid_has (by rfl) ?_
  dsimp only [c_grid_Grid_has, xn, jo,jK,jT,jr,jI,jM,jq,jJ,jL,iteR,regK,ji,jc,jl,jk,jb,jj,blkK,kr,kh,jd,ja,jy,fpOk,foot,kp,allN,memN,jN,jm,js,jw,jv,jt,ju,jg,jh,jf,je,newN,jx,jS,jU,j2,jO,jP,jQ,jz,jA,jE,jB,jC,jn,jD,jF,jG,j7,evX,evL,evB,rd,get,subG,memG,jW,jY,hyps,gob,impP,allP,j6,j1,j4,ko,nth,ke,km,jX,lenB,kj,jV,entN,setE,jZ,addE,setL,setN,putE,env0,eqCs,j9,eqC,bA,bO,bN,bE,negB,kEq,ki,j8,lend,frz,frzL,zRow,kg,kd,closed,jH,j0,binI,remP,remI,retK,retG,kq,retD,kn,resL,resD,oneD,renD,renL,renE,j3,rho,jR,j5,List.append,List.nil_append,List.cons_append,List.append_nil,cond,Nat.reduceBEq,Nat.reduceAdd,Nat.beq]
theorem has_iff {w h : Nat} {x y : Int} : (decide (0 ≤ x) && decide (x < (w : Int)) && decide (0 ≤ y) && decide (y < (h : Int))) = true ↔ inP w h x y := by
  simp only [Bool.and_eq_true, decide_eq_true_eq, inP]; constructor <;> (intro h; omega)
theorem has_yes {w h : Nat} {x y : Int} (hp : inP w h x y) : (decide (0 ≤ x) && decide (x < (w : Int)) && decide (0 ≤ y) && decide (y < (h : Int))) = true := has_iff.2 hp
theorem sp_Size {w h : Nat} {f : Px} : TSp 10 [gD w h f] (.tup [.int .i64 w, .int .i64 h]) := by
  refine spo_grid_Grid_Size (by rfl) ?_
  dsimp only [c_grid_Grid_Size, vJ, jo,jK,jT,jr,jI,jM,jq,jJ,jL,iteR,regK,ji,jc,jl,jk,jb,jj,blkK,kr,kh,jd,ja,jy,fpOk,foot,kp,allN,memN,jN,jm,js,jw,jv,jt,ju,jg,jh,jf,je,newN,jx,jS,jU,j2,jO,jP,jQ,jz,jA,jE,jB,jC,jn,jD,jF,jG,j7,evX,evL,evB,rd,get,subG,memG,jW,jY,hyps,gob,impP,allP,j6,j1,j4,ko,nth,ke,km,jX,lenB,kj,jV,entN,setE,jZ,addE,setL,setN,putE,env0,eqCs,j9,eqC,bA,bO,bN,bE,negB,kEq,ki,j8,lend,frz,frzL,zRow,kg,kd,closed,jH,j0,binI,remP,remI,retK,retG,kq,retD,kn,resL,resD,oneD,renD,renL,renE,j3,rho,jR,j5,List.append,List.nil_append,List.cons_append,List.append_nil,cond,Nat.reduceBEq,Nat.reduceAdd,Nat.beq]
theorem kW {w h : Nat} (hw : w ≤ 128) (hh : h ≤ 128) : w * h ≤ 16384 := by
  have := Nat.mul_le_mul hw hh
  omega
theorem sp_At {w h : Nat} {f : Px} {x y : Int} (hw : w ≤ 128) (hh : h ≤ 128) (hp : inP w h x y) : TSp 46 [gD w h f, .int .i64 x, .int .i64 y] (.int .u8 (f x y)) := by
  refine spo_grid_Grid_At (by rfl) ?_
  dsimp only [c_grid_Grid_At, zF, jo,jK,jT,jr,jI,jM,jq,jJ,jL,iteR,regK,ji,jc,jl,jk,jb,jj,blkK,kr,kh,jd,ja,jy,fpOk,foot,kp,allN,memN,jN,jm,js,jw,jv,jt,ju,jg,jh,jf,je,newN,jx,jS,jU,j2,jO,jP,jQ,jz,jA,jE,jB,jC,jn,jD,jF,jG,j7,evX,evL,evB,rd,get,subG,memG,jW,jY,hyps,gob,impP,allP,j6,j1,j4,ko,nth,ke,km,jX,lenB,kj,jV,entN,setE,jZ,addE,setL,setN,putE,env0,eqCs,j9,eqC,bA,bO,bN,bE,negB,kEq,ki,j8,lend,frz,frzL,zRow,kg,kd,closed,jH,j0,binI,remP,remI,retK,retG,kq,retD,kn,resL,resD,oneD,renD,renL,renE,j3,rho,jR,j5,List.append,List.nil_append,List.cons_append,List.append_nil,cond,Nat.reduceBEq,Nat.reduceAdd,Nat.beq]
  refine kt (sp_has) ?_
  dsimp only [c_grid_Grid_At, zF, jo,jK,jT,jr,jI,jM,jq,jJ,jL,iteR,regK,ji,jc,jl,jk,jb,jj,blkK,kr,kh,jd,ja,jy,fpOk,foot,kp,allN,memN,jN,jm,js,jw,jv,jt,ju,jg,jh,jf,je,newN,jx,jS,jU,j2,jO,jP,jQ,jz,jA,jE,jB,jC,jn,jD,jF,jG,j7,evX,evL,evB,rd,get,subG,memG,jW,jY,hyps,gob,impP,allP,j6,j1,j4,ko,nth,ke,km,jX,lenB,kj,jV,entN,setE,jZ,addE,setL,setN,putE,env0,eqCs,j9,eqC,bA,bO,bN,bE,negB,kEq,ki,j8,lend,frz,frzL,zRow,kg,kd,closed,jH,j0,binI,remP,remI,retK,retG,kq,retD,kn,resL,resD,oneD,renD,renL,renE,j3,rho,jR,j5,List.append,List.nil_append,List.cons_append,List.append_nil,cond,Nat.reduceBEq,Nat.reduceAdd,Nat.beq]
  rw [has_yes hp]
  obtain ⟨h1, h2, h3, h4⟩ := xK hp
  have hm := kW hw hh
  refine ⟨fun h => absurd h (by simp), fun _ => ?_⟩
  refine ⟨by simp only [fits]; omega, by simp only [fits]; omega, ⟨rfl, h1, by rw [zf]; exact h2⟩, kA _ _ (gl_get hp) rfl ?_⟩
  dsimp only [c_grid_Grid_At, zF, jo,jK,jT,jr,jI,jM,jq,jJ,jL,iteR,regK,ji,jc,jl,jk,jb,jj,blkK,kr,kh,jd,ja,jy,fpOk,foot,kp,allN,memN,jN,jm,js,jw,jv,jt,ju,jg,jh,jf,je,newN,jx,jS,jU,j2,jO,jP,jQ,jz,jA,jE,jB,jC,jn,jD,jF,jG,j7,evX,evL,evB,rd,get,subG,memG,jW,jY,hyps,gob,impP,allP,j6,j1,j4,ko,nth,ke,km,jX,lenB,kj,jV,entN,setE,jZ,addE,setL,setN,putE,env0,eqCs,j9,eqC,bA,bO,bN,bE,negB,kEq,ki,j8,lend,frz,frzL,zRow,kg,kd,closed,jH,j0,binI,remP,remI,retK,retG,kq,retD,kn,resL,resD,oneD,renD,renL,renE,j3,rho,jR,j5,List.append,List.nil_append,List.cons_append,List.append_nil,cond,Nat.reduceBEq,Nat.reduceAdd,Nat.beq]
theorem sm_twin {w h : Nat} {f : Px} (hw : w ≤ 128) (hh : h ≤ 128) : TSpM 78 [gD w h f] [] (.agg [.int .i64 w, .int .i64 h, .own 0 1]) [.arr 51 1 1 (gl w h f)] := by
  have hm := kW hw hh
  refine spm_grid_Grid_twin (by rfl) ?_
  dsimp only [c_grid_Grid_twin, vI, jo,jK,jT,jr,jI,jM,jq,jJ,jL,iteR,regK,ji,jc,jl,jk,jb,jj,blkK,kr,kh,jd,ja,jy,fpOk,foot,kp,allN,memN,jN,jm,js,jw,jv,jt,ju,jg,jh,jf,je,newN,jx,jS,jU,j2,jO,jP,jQ,jz,jA,jE,jB,jC,jn,jD,jF,jG,j7,evX,evL,evB,rd,get,subG,memG,jW,jY,hyps,gob,impP,allP,j6,j1,j4,ko,nth,ke,km,jX,lenB,kj,jV,entN,setE,jZ,addE,setL,setN,putE,env0,eqCs,j9,eqC,bA,bO,bN,bE,negB,kEq,ki,j8,lend,frz,frzL,zRow,kg,kd,closed,jH,j0,binI,remP,remI,retK,retG,kq,retD,kn,resL,resD,oneD,renD,renL,renE,j3,rho,jR,j5,List.append,List.nil_append,List.cons_append,List.append_nil,cond,Nat.reduceBEq,Nat.reduceAdd,Nat.beq]
  rw [zf]
  refine ⟨⟨by omega, by omega, by omega⟩, ⟨rfl, rfl, rfl, rfl⟩, ?_⟩
  have hov : over (List.replicate ((w * h : Nat) : Int).toNat (.int .u8 0)) (gl w h f) = gl w h f := by
    unfold over
    rw [Int.toNat_natCast, List.length_replicate, List.take_of_length_le (by rw [zf]; omega), List.drop_eq_nil_of_le (by rw [List.length_replicate, zf]; unfold minN; split <;> omega), List.append_nil]
  rw [hov]
  exact Rt.pick [2] rfl rfl rfl
end Go.AM


set_option linter.all false
namespace Go.AM
open Go Go.Proofs
def fillR (n i : Nat) (v : Int) : List D := List.replicate i (.int .u8 v) ++ List.replicate (n - i) (.int .u8 0)
theorem fillR_len {n i : Nat} {v : Int} (h : i ≤ n) : (fillR n i v).length = n := by simp [fillR]; omega
theorem fillR_get {n i : Nat} {v : Int} (h : i < n) : (fillR n i v)[i]? = some (.int .u8 0) := by
  unfold fillR
  rw [List.getElem?_append_right (by simp), List.length_replicate, Nat.sub_self, List.getElem?_replicate, if_pos (by omega)]
theorem fillR_set {n i : Nat} {v : Int} (h : i < n) : (fillR n i v).set i (.int .u8 v) = fillR n (i + 1) v := by
  unfold fillR
  rw [List.set_append_right _ _ (by simp)]
  rw [show n - i = (n - (i + 1)) + 1 by omega, List.replicate_succ, List.length_replicate, Nat.sub_self, List.set_cons_zero, List.replicate_succ', List.append_assoc]
  rfl
theorem natMul (w h : Nat) : ((w : Int) * (h : Int)) = ((w * h : Nat) : Int) := by simp
theorem sp_New {w h : Nat} {v : Int} (hw : 1 ≤ w ∧ w ≤ 128) (hh : 1 ≤ h ∧ h ≤ 128) : TSp 27 [.int .i64 w, .int .i64 h, .int .u8 v] (.tup [gD w h fun _ _ => v, .int .i64 0]) := by
  have hm := kW hw.2 hh.2
  refine spo_grid_New (by rfl) ?_
  dsimp only [c_grid_New, vc, jo,jK,jT,jr,jI,jM,jq,jJ,jL,iteR,regK,ji,jc,jl,jk,jb,jj,blkK,kr,kh,jd,ja,jy,fpOk,foot,kp,allN,memN,jN,jm,js,jw,jv,jt,ju,jg,jh,jf,je,newN,jx,jS,jU,j2,jO,jP,jQ,jz,jA,jE,jB,jC,jn,jD,jF,jG,j7,evX,evL,evB,rd,get,subG,memG,jW,jY,hyps,gob,impP,allP,j6,j1,j4,ko,nth,ke,km,jX,lenB,kj,jV,entN,setE,jZ,addE,setL,setN,putE,env0,eqCs,j9,eqC,bA,bO,bN,bE,negB,kEq,ki,j8,lend,frz,frzL,zRow,kg,kd,closed,jH,j0,binI,remP,remI,retK,retG,kq,retD,kn,resL,resD,oneD,renD,renL,renE,j3,rho,jR,j5,List.append,List.nil_append,List.cons_append,List.append_nil,cond,Nat.reduceBEq,Nat.reduceAdd,Nat.beq]
  refine kt sp_side ?_
  dsimp only [c_grid_New, vc, jo,jK,jT,jr,jI,jM,jq,jJ,jL,iteR,regK,ji,jc,jl,jk,jb,jj,blkK,kr,kh,jd,ja,jy,fpOk,foot,kp,allN,memN,jN,jm,js,jw,jv,jt,ju,jg,jh,jf,je,newN,jx,jS,jU,j2,jO,jP,jQ,jz,jA,jE,jB,jC,jn,jD,jF,jG,j7,evX,evL,evB,rd,get,subG,memG,jW,jY,hyps,gob,impP,allP,j6,j1,j4,ko,nth,ke,km,jX,lenB,kj,jV,entN,setE,jZ,addE,setL,setN,putE,env0,eqCs,j9,eqC,bA,bO,bN,bE,negB,kEq,ki,j8,lend,frz,frzL,zRow,kg,kd,closed,jH,j0,binI,remP,remI,retK,retG,kq,retD,kn,resL,resD,oneD,renD,renL,renE,j3,rho,jR,j5,List.append,List.nil_append,List.cons_append,List.append_nil,cond,Nat.reduceBEq,Nat.reduceAdd,Nat.beq]
  refine kt (fun _ => sp_side) ?_
  dsimp only [c_grid_New, vc, jo,jK,jT,jr,jI,jM,jq,jJ,jL,iteR,regK,ji,jc,jl,jk,jb,jj,blkK,kr,kh,jd,ja,jy,fpOk,foot,kp,allN,memN,jN,jm,js,jw,jv,jt,ju,jg,jh,jf,je,newN,jx,jS,jU,j2,jO,jP,jQ,jz,jA,jE,jB,jC,jn,jD,jF,jG,j7,evX,evL,evB,rd,get,subG,memG,jW,jY,hyps,gob,impP,allP,j6,j1,j4,ko,nth,ke,km,jX,lenB,kj,jV,entN,setE,jZ,addE,setL,setN,putE,env0,eqCs,j9,eqC,bA,bO,bN,bE,negB,kEq,ki,j8,lend,frz,frzL,zRow,kg,kd,closed,jH,j0,binI,remP,remI,retK,retG,kq,retD,kn,resL,resD,oneD,renD,renL,renE,j3,rho,jR,j5,List.append,List.nil_append,List.cons_append,List.append_nil,cond,Nat.reduceBEq,Nat.reduceAdd,Nat.beq]
  refine ⟨fun hc => ?_, fun _ => ?_⟩
  · simp only [Bool.or_eq_true, Bool.not_eq_true', Bool.and_eq_false_iff, decide_eq_false_iff_not] at hc; omega
  rw [natMul]
  refine ⟨by simp only [fits]; omega, ⟨by omega, by omega, by omega⟩, rfl, ?_⟩
  rw [List.length_replicate]
  refine kE (α := {i : Nat // i ≤ w * h})
    (fun i => ⟨[(0, [], .int .i64 w), (1, [], .int .i64 h), (2, [], .int .u8 v), (6, [], .box 0 0), (8, [], .own 1 1), (24, [], .int .i64 ((w * h : Nat) : Int)), (25, [], .int .i64 i.1)], [.cells [.int .i64 0, .int .i64 0, .ls 1 []], .arr 51 1 1 (fillR (w * h) i.1 v)]⟩)
    (fun i => w * h - i.1) ?_ ⟨0, Nat.zero_le _⟩ (by simp [fillR]; exact ⟨by omega, by rw [natMul, Int.toNat_natCast]⟩)
  rintro ⟨i, hi⟩ I ih
  dsimp only at hi ⊢
  dsimp only [c_grid_New, vc, jo,jK,jT,jr,jI,jM,jq,jJ,jL,iteR,regK,ji,jc,jl,jk,jb,jj,blkK,kr,kh,jd,ja,jy,fpOk,foot,kp,allN,memN,jN,jm,js,jw,jv,jt,ju,jg,jh,jf,je,newN,jx,jS,jU,j2,jO,jP,jQ,jz,jA,jE,jB,jC,jn,jD,jF,jG,j7,evX,evL,evB,rd,get,subG,memG,jW,jY,hyps,gob,impP,allP,j6,j1,j4,ko,nth,ke,km,jX,lenB,kj,jV,entN,setE,jZ,addE,setL,setN,putE,env0,eqCs,j9,eqC,bA,bO,bN,bE,negB,kEq,ki,j8,lend,frz,frzL,zRow,kg,kd,closed,jH,j0,binI,remP,remI,retK,retG,kq,retD,kn,resL,resD,oneD,renD,renL,renE,j3,rho,jR,j5,List.append,List.nil_append,List.cons_append,List.append_nil,cond,Nat.reduceBEq,Nat.reduceAdd,Nat.beq]
  refine ⟨fun hlt => ?_, fun hge => ?_⟩
  · have hil : i < w * h := by simp only [decide_eq_true_eq] at hlt; omega
    refine ⟨⟨rfl, rfl, by omega, by rw [fillR_len hi]; omega⟩, ⟨rfl, rfl⟩, qD (hs := []) _ _ (by rw [Int.toNat_natCast]; exact fillR_get hil) rfl ?_⟩
    dsimp only [c_grid_New, vc, jo,jK,jT,jr,jI,jM,jq,jJ,jL,iteR,regK,ji,jc,jl,jk,jb,jj,blkK,kr,kh,jd,ja,jy,fpOk,foot,kp,allN,memN,jN,jm,js,jw,jv,jt,ju,jg,jh,jf,je,newN,jx,jS,jU,j2,jO,jP,jQ,jz,jA,jE,jB,jC,jn,jD,jF,jG,j7,evX,evL,evB,rd,get,subG,memG,jW,jY,hyps,gob,impP,allP,j6,j1,j4,ko,nth,ke,km,jX,lenB,kj,jV,entN,setE,jZ,addE,setL,setN,putE,env0,eqCs,j9,eqC,bA,bO,bN,bE,negB,kEq,ki,j8,lend,frz,frzL,zRow,kg,kd,closed,jH,j0,binI,remP,remI,retK,retG,kq,retD,kn,resL,resD,oneD,renD,renL,renE,j3,rho,jR,j5,List.append,List.nil_append,List.cons_append,List.append_nil,cond,Nat.reduceBEq,Nat.reduceAdd,Nat.beq]
    rw [Int.toNat_natCast, fillR_set hil]
    exact ⟨by simp only [fits]; omega, qj (ih ⟨i + 1, hil⟩ (by dsimp only; omega)) ⟨rfl, rfl, rfl, rfl, rfl, rfl, by simp [get], trivial⟩ ⟨rfl, rfl, trivial⟩ rfl rfl⟩
  · have hil : i = w * h := by simp only [decide_eq_false_iff_not] at hge; omega
    subst hil
    have : fillR (w * h) (w * h) v = gl w h fun _ _ => v := by rw [← gl_const]; simp [fillR]
    rw [this]
    exact ⟨rfl, rfl⟩
theorem sp_Set {w h : Nat} {f : Px} {x y v : Int} (hw : w ≤ 128) (hh : h ≤ 128) (hp : inP w h x y) : TSp 56 [gD w h f, .int .i64 x, .int .i64 y, .int .u8 v] (gD w h (updX f x y v)) := by
  have hm := kW hw hh
  obtain ⟨h1, h2, h3, h4⟩ := xK hp
  refine spo_grid_Grid_Set (by rfl) ?_
  dsimp only [c_grid_Grid_Set, q9, jo,jK,jT,jr,jI,jM,jq,jJ,jL,iteR,regK,ji,jc,jl,jk,jb,jj,blkK,kr,kh,jd,ja,jy,fpOk,foot,kp,allN,memN,jN,jm,js,jw,jv,jt,ju,jg,jh,jf,je,newN,jx,jS,jU,j2,jO,jP,jQ,jz,jA,jE,jB,jC,jn,jD,jF,jG,j7,evX,evL,evB,rd,get,subG,memG,jW,jY,hyps,gob,impP,allP,j6,j1,j4,ko,nth,ke,km,jX,lenB,kj,jV,entN,setE,jZ,addE,setL,setN,putE,env0,eqCs,j9,eqC,bA,bO,bN,bE,negB,kEq,ki,j8,lend,frz,frzL,zRow,kg,kd,closed,jH,j0,binI,remP,remI,retK,retG,kq,retD,kn,resL,resD,oneD,renD,renL,renE,j3,rho,jR,j5,List.append,List.nil_append,List.cons_append,List.append_nil,cond,Nat.reduceBEq,Nat.reduceAdd,Nat.beq]
  refine kt sp_has ?_
  dsimp only [c_grid_Grid_Set, q9, jo,jK,jT,jr,jI,jM,jq,jJ,jL,iteR,regK,ji,jc,jl,jk,jb,jj,blkK,kr,kh,jd,ja,jy,fpOk,foot,kp,allN,memN,jN,jm,js,jw,jv,jt,ju,jg,jh,jf,je,newN,jx,jS,jU,j2,jO,jP,jQ,jz,jA,jE,jB,jC,jn,jD,jF,jG,j7,evX,evL,evB,rd,get,subG,memG,jW,jY,hyps,gob,impP,allP,j6,j1,j4,ko,nth,ke,km,jX,lenB,kj,jV,entN,setE,jZ,addE,setL,setN,putE,env0,eqCs,j9,eqC,bA,bO,bN,bE,negB,kEq,ki,j8,lend,frz,frzL,zRow,kg,kd,closed,jH,j0,binI,remP,remI,retK,retG,kq,retD,kn,resL,resD,oneD,renD,renL,renE,j3,rho,jR,j5,List.append,List.nil_append,List.cons_append,List.append_nil,cond,Nat.reduceBEq,Nat.reduceAdd,Nat.beq]
  rw [has_yes hp]
  refine ⟨fun h => absurd h (by simp), fun _ => ?_⟩
  refine qe [] (sm_twin hw hh) rfl rfl ?_
  dsimp only [c_grid_Grid_Set, q9, jo,jK,jT,jr,jI,jM,jq,jJ,jL,iteR,regK,ji,jc,jl,jk,jb,jj,blkK,kr,kh,jd,ja,jy,fpOk,foot,kp,allN,memN,jN,jm,js,jw,jv,jt,ju,jg,jh,jf,je,newN,jx,jS,jU,j2,jO,jP,jQ,jz,jA,jE,jB,jC,jn,jD,jF,jG,j7,evX,evL,evB,rd,get,subG,memG,jW,jY,hyps,gob,impP,allP,j6,j1,j4,ko,nth,ke,km,jX,lenB,kj,jV,entN,setE,jZ,addE,setL,setN,putE,env0,eqCs,j9,eqC,bA,bO,bN,bE,negB,kEq,ki,j8,lend,frz,frzL,zRow,kg,kd,closed,jH,j0,binI,remP,remI,retK,retG,kq,retD,kn,resL,resD,oneD,renD,renL,renE,j3,rho,jR,j5,List.append,List.nil_append,List.cons_append,List.append_nil,cond,Nat.reduceBEq,Nat.reduceAdd,Nat.beq]
  refine ⟨by simp only [fits]; omega, by simp only [fits]; omega, ⟨rfl, rfl, h1, by rw [zf]; exact h2⟩, ⟨rfl, rfl⟩, qD (hs := []) _ _ (gl_get hp) rfl ?_⟩
  dsimp only [c_grid_Grid_Set, q9, jo,jK,jT,jr,jI,jM,jq,jJ,jL,iteR,regK,ji,jc,jl,jk,jb,jj,blkK,kr,kh,jd,ja,jy,fpOk,foot,kp,allN,memN,jN,jm,js,jw,jv,jt,ju,jg,jh,jf,je,newN,jx,jS,jU,j2,jO,jP,jQ,jz,jA,jE,jB,jC,jn,jD,jF,jG,j7,evX,evL,evB,rd,get,subG,memG,jW,jY,hyps,gob,impP,allP,j6,j1,j4,ko,nth,ke,km,jX,lenB,kj,jV,entN,setE,jZ,addE,setL,setN,putE,env0,eqCs,j9,eqC,bA,bO,bN,bE,negB,kEq,ki,j8,lend,frz,frzL,zRow,kg,kd,closed,jH,j0,binI,remP,remI,retK,retG,kq,retD,kn,resL,resD,oneD,renD,renL,renE,j3,rho,jR,j5,List.append,List.nil_append,List.cons_append,List.append_nil,cond,Nat.reduceBEq,Nat.reduceAdd,Nat.beq]
  rw [gl_set hp]
  exact ⟨rfl, rfl⟩
theorem sp_gSame {w h : Nat} {f g : Px} (hw : w ≤ 128) (hh : h ≤ 128) (he : ∀ x y, inP w h x y → f x y = g x y) : TSp 20 [gD w h f, gD w h g] (.bool true) := by
  have hm := kW hw hh
  unfold gD
  rw [← xT he]
  generalize hl : gl w h f = l
  have hll : l.length ≤ 16384 := by rw [← hl, zf]; exact hm
  have hone : ∀ d ∈ l, ∃ n, d = .int .u8 n := fun d hd => by
    rw [← hl] at hd
    obtain ⟨k, _, rfl⟩ := List.mem_map.1 hd
    exact ⟨_, rfl⟩
  refine spo_grid_Same (by rfl) ?_
  dsimp only [c_grid_Same, vh, jo,jK,jT,jr,jI,jM,jq,jJ,jL,iteR,regK,ji,jc,jl,jk,jb,jj,blkK,kr,kh,jd,ja,jy,fpOk,foot,kp,allN,memN,jN,jm,js,jw,jv,jt,ju,jg,jh,jf,je,newN,jx,jS,jU,j2,jO,jP,jQ,jz,jA,jE,jB,jC,jn,jD,jF,jG,j7,evX,evL,evB,rd,get,subG,memG,jW,jY,hyps,gob,impP,allP,j6,j1,j4,ko,nth,ke,km,jX,lenB,kj,jV,entN,setE,jZ,addE,setL,setN,putE,env0,eqCs,j9,eqC,bA,bO,bN,bE,negB,kEq,ki,j8,lend,frz,frzL,zRow,kg,kd,closed,jH,j0,binI,remP,remI,retK,retG,kq,retD,kn,resL,resD,oneD,renD,renL,renE,j3,rho,jR,j5,List.append,List.nil_append,List.cons_append,List.append_nil,cond,Nat.reduceBEq,Nat.reduceAdd,Nat.beq]
  refine ⟨fun h => absurd h (by simp), fun _ => ?_⟩
  refine kE (α := {i : Nat // i ≤ l.length})
    (fun i => ⟨[(3, [], .box 1 0), (20, [], .ls 1 l), (21, [], .int .i64 l.length), (22, [], .int .i64 i.1)], [.cells [.int .i64 w, .int .i64 h, .ls 1 l], .cells [.int .i64 w, .int .i64 h, .ls 1 l]]⟩)
    (fun i => l.length - i.1) ?_ ⟨0, Nat.zero_le _⟩ rfl
  rintro ⟨i, hi⟩ I ih
  dsimp only at hi ⊢
  dsimp only [c_grid_Same, vh, jo,jK,jT,jr,jI,jM,jq,jJ,jL,iteR,regK,ji,jc,jl,jk,jb,jj,blkK,kr,kh,jd,ja,jy,fpOk,foot,kp,allN,memN,jN,jm,js,jw,jv,jt,ju,jg,jh,jf,je,newN,jx,jS,jU,j2,jO,jP,jQ,jz,jA,jE,jB,jC,jn,jD,jF,jG,j7,evX,evL,evB,rd,get,subG,memG,jW,jY,hyps,gob,impP,allP,j6,j1,j4,ko,nth,ke,km,jX,lenB,kj,jV,entN,setE,jZ,addE,setL,setN,putE,env0,eqCs,j9,eqC,bA,bO,bN,bE,negB,kEq,ki,j8,lend,frz,frzL,zRow,kg,kd,closed,jH,j0,binI,remP,remI,retK,retG,kq,retD,kn,resL,resD,oneD,renD,renL,renE,j3,rho,jR,j5,List.append,List.nil_append,List.cons_append,List.append_nil,cond,Nat.reduceBEq,Nat.reduceAdd,Nat.beq]
  refine ⟨fun hlt => ?_, fun hge => rfl⟩
  have hil : i < l.length := by simpa using hlt
  obtain ⟨r, hr⟩ : ∃ r, l[i]? = some r := ⟨_, List.getElem?_eq_getElem hil⟩
  obtain ⟨n, rfl⟩ := hone r (List.mem_of_getElem? hr)
  refine ⟨⟨rfl, by omega, by omega⟩, kA _ _ (by rw [Int.toNat_natCast]; exact hr) rfl ?_⟩
  dsimp only [c_grid_Same, vh, jo,jK,jT,jr,jI,jM,jq,jJ,jL,iteR,regK,ji,jc,jl,jk,jb,jj,blkK,kr,kh,jd,ja,jy,fpOk,foot,kp,allN,memN,jN,jm,js,jw,jv,jt,ju,jg,jh,jf,je,newN,jx,jS,jU,j2,jO,jP,jQ,jz,jA,jE,jB,jC,jn,jD,jF,jG,j7,evX,evL,evB,rd,get,subG,memG,jW,jY,hyps,gob,impP,allP,j6,j1,j4,ko,nth,ke,km,jX,lenB,kj,jV,entN,setE,jZ,addE,setL,setN,putE,env0,eqCs,j9,eqC,bA,bO,bN,bE,negB,kEq,ki,j8,lend,frz,frzL,zRow,kg,kd,closed,jH,j0,binI,remP,remI,retK,retG,kq,retD,kn,resL,resD,oneD,renD,renL,renE,j3,rho,jR,j5,List.append,List.nil_append,List.cons_append,List.append_nil,cond,Nat.reduceBEq,Nat.reduceAdd,Nat.beq]
  refine ⟨⟨rfl, by omega, by omega⟩, kA _ _ (by rw [Int.toNat_natCast]; exact hr) rfl ?_⟩
  dsimp only [c_grid_Same, vh, jo,jK,jT,jr,jI,jM,jq,jJ,jL,iteR,regK,ji,jc,jl,jk,jb,jj,blkK,kr,kh,jd,ja,jy,fpOk,foot,kp,allN,memN,jN,jm,js,jw,jv,jt,ju,jg,jh,jf,je,newN,jx,jS,jU,j2,jO,jP,jQ,jz,jA,jE,jB,jC,jn,jD,jF,jG,j7,evX,evL,evB,rd,get,subG,memG,jW,jY,hyps,gob,impP,allP,j6,j1,j4,ko,nth,ke,km,jX,lenB,kj,jV,entN,setE,jZ,addE,setL,setN,putE,env0,eqCs,j9,eqC,bA,bO,bN,bE,negB,kEq,ki,j8,lend,frz,frzL,zRow,kg,kd,closed,jH,j0,binI,remP,remI,retK,retG,kq,retD,kn,resL,resD,oneD,renD,renL,renE,j3,rho,jR,j5,List.append,List.nil_append,List.cons_append,List.append_nil,cond,Nat.reduceBEq,Nat.reduceAdd,Nat.beq]
  refine ⟨fun h => absurd h (by simp), fun _ => ⟨by simp only [fits]; omega, ?_⟩⟩
  exact qj (ih ⟨i + 1, hil⟩ (by dsimp only; omega)) ⟨rfl, rfl, rfl, by simp [get], trivial⟩ ⟨rfl, rfl, trivial⟩ rfl rfl
end Go.AM


set_option linter.all false
namespace Go.AM
open Go Go.Proofs
theorem zy {Q : Int → Int → Prop} {s f : Px} {x y : Int} (h : Q x y) : onX Q s f x y = s x y := by unfold onX; rw [if_pos h]
theorem zk {Q : Int → Int → Prop} {s f : Px} {x y : Int} (h : ¬ Q x y) : onX Q s f x y = f x y := by unfold onX; rw [if_neg h]
def rowS (w : Nat) (f : Px) (y : Int) : List UInt8 := (List.range w).map fun x : Nat => UInt8.ofNat (f (x : Int) y).toNat
theorem rowS_len {w : Nat} {f : Px} {y : Int} : (rowS w f y).length = w := by simp [rowS]
theorem rowS_D {w : Nat} {f : Px} {y : Int} (hf : Pok f) : xp (rowS w f y) = (List.range w).map fun x : Nat => D.int .u8 (f (x : Int) y) := by
  unfold xp rowS
  rw [List.map_map]
  refine List.map_congr_left fun x _ => ?_
  have := hf x y
  show D.int .u8 ((UInt8.ofNat (f (x : Int) y).toNat).toNat : Int) = _
  congr 1
  rw [UInt8.toNat_ofNat']
  omega
def segR (w : Nat) (f : Px) (y : Int) (i : Nat) : List D := (List.range i).map fun x : Nat => D.int .u8 (f (x : Int) y)
theorem segR_succ {w : Nat} {f : Px} {y : Int} {i : Nat} : segR w f y (i + 1) = segR w f y i ++ [D.int .u8 (f (i : Int) y)] := by simp [segR, List.range_succ]
theorem seg_get {w h : Nat} {f : Px} {y x : Nat} (hy : y < h) (hx : x < w) : (((gl w h f).take ((y + 1) * w)).drop (y * w))[x]? = some (.int .u8 (f x y)) := by
  have h1 : (y + 1) * w = y * w + w := by rw [Nat.add_mul]; omega
  have h2 := idx_lt hx hy
  rw [List.getElem?_drop, List.getElem?_take_of_lt (by omega), gl, gk_get h2, glK_at hx]
theorem seg_len {w h : Nat} {f : Px} {y : Nat} (hy : y < h) : (((gl w h f).take ((y + 1) * w)).drop (y * w)).length = w := by
  have h1 : (y + 1) * w = y * w + w := by rw [Nat.add_mul]; omega
  have h2 : (y + 1) * w ≤ h * w := Nat.mul_le_mul_right _ hy
  rw [List.length_drop, List.length_take, zf, Nat.mul_comm w h]; omega
theorem sp_Row {w h : Nat} {f : Px} {y : Nat} (hw : w ≤ 128) (hh : h ≤ 128) (hy : y < h) (hf : Pok f) : TSp 57 [gD w h f, .int .i64 y] (.str (rowS w f y)) := by
  have hm := kW hw hh
  have h2 : (y + 1) * w ≤ h * w := Nat.mul_le_mul_right _ hy
  rw [Nat.mul_comm h w] at h2
  have h3 : y * w ≤ (y + 1) * w := Nat.mul_le_mul_right _ (by omega)
  have e1 : ((y : Int) * (w : Int)) = ((y * w : Nat) : Int) := by simp
  have e2 : (((y : Int) + 1) * (w : Int)) = (((y + 1) * w : Nat) : Int) := by simp
  refine spo_grid_Grid_Row (by rfl) ?_
  dsimp only [c_grid_Grid_Row, za, jo,jK,jT,jr,jI,jM,jq,jJ,jL,iteR,regK,ji,jc,jl,jk,jb,jj,blkK,kr,kh,jd,ja,jy,fpOk,foot,kp,allN,memN,jN,jm,js,jw,jv,jt,ju,jg,jh,jf,je,newN,jx,jS,jU,j2,jO,jP,jQ,jz,jA,jE,jB,jC,jn,jD,jF,jG,j7,evX,evL,evB,rd,get,subG,memG,jW,jY,hyps,gob,impP,allP,j6,j1,j4,ko,nth,ke,km,jX,lenB,kj,jV,entN,setE,jZ,addE,setL,setN,putE,env0,eqCs,j9,eqC,bA,bO,bN,bE,negB,kEq,ki,j8,lend,frz,frzL,zRow,kg,kd,closed,jH,j0,binI,remP,remI,retK,retG,kq,retD,kn,resL,resD,oneD,renD,renL,renE,j3,rho,jR,j5,List.append,List.nil_append,List.cons_append,List.append_nil,cond,Nat.reduceBEq,Nat.reduceAdd,Nat.beq]
  refine ⟨fun hc => ?_, fun _ => ?_⟩
  · simp only [Bool.or_eq_true, decide_eq_true_eq] at hc; omega
  rw [e1, e2, zf, Int.toNat_natCast, Int.toNat_natCast]
  refine ⟨⟨by omega, by omega, by omega⟩, by simp only [fits]; omega, by simp only [fits]; omega, by simp only [fits]; omega, ⟨rfl, by omega, by omega, by omega⟩, ?_⟩
  rw [seg_len hy]
  refine kE (α := {i : Nat // i ≤ w})
    (fun i => ⟨[(5, [], .own 1 (i.1 + 1)), (30, [], .ls 1 (((gl w h f).take ((y + 1) * w)).drop (y * w))), (31, [], .int .i64 w), (32, [], .int .i64 i.1)], [.cells [.int .i64 w, .int .i64 h, .ls 1 (gl w h f)], .arr 5 1 (i.1 + 1) (segR w f y i.1)]⟩)
    (fun i => w - i.1) ?_ ⟨0, Nat.zero_le _⟩ (by simp [segR])
  rintro ⟨i, hi⟩ I ih
  dsimp only at hi ⊢
  dsimp only [c_grid_Grid_Row, za, jo,jK,jT,jr,jI,jM,jq,jJ,jL,iteR,regK,ji,jc,jl,jk,jb,jj,blkK,kr,kh,jd,ja,jy,fpOk,foot,kp,allN,memN,jN,jm,js,jw,jv,jt,ju,jg,jh,jf,je,newN,jx,jS,jU,j2,jO,jP,jQ,jz,jA,jE,jB,jC,jn,jD,jF,jG,j7,evX,evL,evB,rd,get,subG,memG,jW,jY,hyps,gob,impP,allP,j6,j1,j4,ko,nth,ke,km,jX,lenB,kj,jV,entN,setE,jZ,addE,setL,setN,putE,env0,eqCs,j9,eqC,bA,bO,bN,bE,negB,kEq,ki,j8,lend,frz,frzL,zRow,kg,kd,closed,jH,j0,binI,remP,remI,retK,retG,kq,retD,kn,resL,resD,oneD,renD,renL,renE,j3,rho,jR,j5,List.append,List.nil_append,List.cons_append,List.append_nil,cond,Nat.reduceBEq,Nat.reduceAdd,Nat.beq]
  refine ⟨fun hlt => ?_, fun hge => ?_⟩
  · have hil : i < w := by simpa using hlt
    have hsl : (segR w f y i).length = i := by simp [segR]
    refine ⟨⟨rfl, by omega, by rw [seg_len hy]; omega⟩, kA _ _ (by rw [Int.toNat_natCast]; exact seg_get hy hil) rfl ?_⟩
    dsimp only [c_grid_Grid_Row, za, jo,jK,jT,jr,jI,jM,jq,jJ,jL,iteR,regK,ji,jc,jl,jk,jb,jj,blkK,kr,kh,jd,ja,jy,fpOk,foot,kp,allN,memN,jN,jm,js,jw,jv,jt,ju,jg,jh,jf,je,newN,jx,jS,jU,j2,jO,jP,jQ,jz,jA,jE,jB,jC,jn,jD,jF,jG,j7,evX,evL,evB,rd,get,subG,memG,jW,jY,hyps,gob,impP,allP,j6,j1,j4,ko,nth,ke,km,jX,lenB,kj,jV,entN,setE,jZ,addE,setL,setN,putE,env0,eqCs,j9,eqC,bA,bO,bN,bE,negB,kEq,ki,j8,lend,frz,frzL,zRow,kg,kd,closed,jH,j0,binI,remP,remI,retK,retG,kq,retD,kn,resL,resD,oneD,renD,renL,renE,j3,rho,jR,j5,List.append,List.nil_append,List.cons_append,List.append_nil,cond,Nat.reduceBEq,Nat.reduceAdd,Nat.beq]
    rw [hsl]
    refine ⟨⟨rfl, rfl, rfl, rfl, by simp only [List.length_cons, List.length_nil]; omega, by simp only [List.length_cons, List.length_nil]; omega⟩, by simp only [fits]; omega, ?_⟩
    rw [← segR_succ (w := w)]
    exact qj (ih ⟨i + 1, hil⟩ (by dsimp only; omega)) ⟨rfl, rfl, rfl, by simp [get], trivial⟩ ⟨rfl, rfl, trivial⟩ rfl rfl
  · have hil : i = w := by have : ¬ i < w := by simpa using hge
                           omega
    subst hil
    refine ⟨⟨rfl, rfl⟩, ask_intro (.str (rowS i f y)) ⟨_, (rowS_D hf).symm, rfl⟩ ?_⟩
    dsimp only [c_grid_Grid_Row, za, jo,jK,jT,jr,jI,jM,jq,jJ,jL,iteR,regK,ji,jc,jl,jk,jb,jj,blkK,kr,kh,jd,ja,jy,fpOk,foot,kp,allN,memN,jN,jm,js,jw,jv,jt,ju,jg,jh,jf,je,newN,jx,jS,jU,j2,jO,jP,jQ,jz,jA,jE,jB,jC,jn,jD,jF,jG,j7,evX,evL,evB,rd,get,subG,memG,jW,jY,hyps,gob,impP,allP,j6,j1,j4,ko,nth,ke,km,jX,lenB,kj,jV,entN,setE,jZ,addE,setL,setN,putE,env0,eqCs,j9,eqC,bA,bO,bN,bE,negB,kEq,ki,j8,lend,frz,frzL,zRow,kg,kd,closed,jH,j0,binI,remP,remI,retK,retG,kq,retD,kn,resL,resD,oneD,renD,renL,renE,j3,rho,jR,j5,List.append,List.nil_append,List.cons_append,List.append_nil,cond,Nat.reduceBEq,Nat.reduceAdd,Nat.beq]
noncomputable def cropX (w h : Nat) (f : Px) (rx ry o : Int) : Px := onX (fun x y => inP w h (rx + x) (ry + y)) (fun x y => f (rx + x) (ry + y)) fun _ _ => o
theorem sp_Crop {w h rw rh : Nat} {f : Px} {rx ry o : Int} (hw : w ≤ 128) (hh : h ≤ 128) (hrw : 1 ≤ rw ∧ rw ≤ 128) (hrh : 1 ≤ rh ∧ rh ≤ 128) (hx : -1048576 ≤ rx ∧ rx ≤ 1048576) (hy : -1048576 ≤ ry ∧ ry ≤ 1048576) :
    TSp 17 [gD w h f, rD ⟨rx, ry, rw, rh⟩, .int .u8 o] (.tup [gD rw rh (cropX w h f rx ry o), .int .i64 0]) := by
  have hm := kW hw hh
  have hm2 := kW hrw.2 hrh.2
  obtain ⟨fc, hfc⟩ : ∃ fc, fc = cropX w h f rx ry o := ⟨_, rfl⟩
  rw [← hfc]
  refine spo_grid_Grid_Crop (by rfl) ?_
  dsimp only [c_grid_Grid_Crop, kZ, rD, jo,jK,jT,jr,jI,jM,jq,jJ,jL,iteR,regK,ji,jc,jl,jk,jb,jj,blkK,kr,kh,jd,ja,jy,fpOk,foot,kp,allN,memN,jN,jm,js,jw,jv,jt,ju,jg,jh,jf,je,newN,jx,jS,jU,j2,jO,jP,jQ,jz,jA,jE,jB,jC,jn,jD,jF,jG,j7,evX,evL,evB,rd,get,subG,memG,jW,jY,hyps,gob,impP,allP,j6,j1,j4,ko,nth,ke,km,jX,lenB,kj,jV,entN,setE,jZ,addE,setL,setN,putE,env0,eqCs,j9,eqC,bA,bO,bN,bE,negB,kEq,ki,j8,lend,frz,frzL,zRow,kg,kd,closed,jH,j0,binI,remP,remI,retK,retG,kq,retD,kn,resL,resD,oneD,renD,renL,renE,j3,rho,jR,j5,List.append,List.nil_append,List.cons_append,List.append_nil,cond,Nat.reduceBEq,Nat.reduceAdd,Nat.beq]
  refine kt sp_side ?_
  dsimp only [c_grid_Grid_Crop, kZ, jo,jK,jT,jr,jI,jM,jq,jJ,jL,iteR,regK,ji,jc,jl,jk,jb,jj,blkK,kr,kh,jd,ja,jy,fpOk,foot,kp,allN,memN,jN,jm,js,jw,jv,jt,ju,jg,jh,jf,je,newN,jx,jS,jU,j2,jO,jP,jQ,jz,jA,jE,jB,jC,jn,jD,jF,jG,j7,evX,evL,evB,rd,get,subG,memG,jW,jY,hyps,gob,impP,allP,j6,j1,j4,ko,nth,ke,km,jX,lenB,kj,jV,entN,setE,jZ,addE,setL,setN,putE,env0,eqCs,j9,eqC,bA,bO,bN,bE,negB,kEq,ki,j8,lend,frz,frzL,zRow,kg,kd,closed,jH,j0,binI,remP,remI,retK,retG,kq,retD,kn,resL,resD,oneD,renD,renL,renE,j3,rho,jR,j5,List.append,List.nil_append,List.cons_append,List.append_nil,cond,Nat.reduceBEq,Nat.reduceAdd,Nat.beq]
  refine kt (fun _ => sp_side) ?_
  dsimp only [c_grid_Grid_Crop, kZ, jo,jK,jT,jr,jI,jM,jq,jJ,jL,iteR,regK,ji,jc,jl,jk,jb,jj,blkK,kr,kh,jd,ja,jy,fpOk,foot,kp,allN,memN,jN,jm,js,jw,jv,jt,ju,jg,jh,jf,je,newN,jx,jS,jU,j2,jO,jP,jQ,jz,jA,jE,jB,jC,jn,jD,jF,jG,j7,evX,evL,evB,rd,get,subG,memG,jW,jY,hyps,gob,impP,allP,j6,j1,j4,ko,nth,ke,km,jX,lenB,kj,jV,entN,setE,jZ,addE,setL,setN,putE,env0,eqCs,j9,eqC,bA,bO,bN,bE,negB,kEq,ki,j8,lend,frz,frzL,zRow,kg,kd,closed,jH,j0,binI,remP,remI,retK,retG,kq,retD,kn,resL,resD,oneD,renD,renL,renE,j3,rho,jR,j5,List.append,List.nil_append,List.cons_append,List.append_nil,cond,Nat.reduceBEq,Nat.reduceAdd,Nat.beq]
  refine ⟨fun hc => ?_, fun _ => ?_⟩
  · simp only [Bool.or_eq_true, Bool.not_eq_true', Bool.and_eq_false_iff, decide_eq_false_iff_not] at hc; omega
  refine kt sp_gcoord ?_
  dsimp only [c_grid_Grid_Crop, kZ, jo,jK,jT,jr,jI,jM,jq,jJ,jL,iteR,regK,ji,jc,jl,jk,jb,jj,blkK,kr,kh,jd,ja,jy,fpOk,foot,kp,allN,memN,jN,jm,js,jw,jv,jt,ju,jg,jh,jf,je,newN,jx,jS,jU,j2,jO,jP,jQ,jz,jA,jE,jB,jC,jn,jD,jF,jG,j7,evX,evL,evB,rd,get,subG,memG,jW,jY,hyps,gob,impP,allP,j6,j1,j4,ko,nth,ke,km,jX,lenB,kj,jV,entN,setE,jZ,addE,setL,setN,putE,env0,eqCs,j9,eqC,bA,bO,bN,bE,negB,kEq,ki,j8,lend,frz,frzL,zRow,kg,kd,closed,jH,j0,binI,remP,remI,retK,retG,kq,retD,kn,resL,resD,oneD,renD,renL,renE,j3,rho,jR,j5,List.append,List.nil_append,List.cons_append,List.append_nil,cond,Nat.reduceBEq,Nat.reduceAdd,Nat.beq]
  refine kt (fun _ => sp_gcoord) ?_
  dsimp only [c_grid_Grid_Crop, kZ, jo,jK,jT,jr,jI,jM,jq,jJ,jL,iteR,regK,ji,jc,jl,jk,jb,jj,blkK,kr,kh,jd,ja,jy,fpOk,foot,kp,allN,memN,jN,jm,js,jw,jv,jt,ju,jg,jh,jf,je,newN,jx,jS,jU,j2,jO,jP,jQ,jz,jA,jE,jB,jC,jn,jD,jF,jG,j7,evX,evL,evB,rd,get,subG,memG,jW,jY,hyps,gob,impP,allP,j6,j1,j4,ko,nth,ke,km,jX,lenB,kj,jV,entN,setE,jZ,addE,setL,setN,putE,env0,eqCs,j9,eqC,bA,bO,bN,bE,negB,kEq,ki,j8,lend,frz,frzL,zRow,kg,kd,closed,jH,j0,binI,remP,remI,retK,retG,kq,retD,kn,resL,resD,oneD,renD,renL,renE,j3,rho,jR,j5,List.append,List.nil_append,List.cons_append,List.append_nil,cond,Nat.reduceBEq,Nat.reduceAdd,Nat.beq]
  refine ⟨fun hc => ?_, fun _ => ?_⟩
  · simp only [Bool.or_eq_true, Bool.not_eq_true', Bool.and_eq_false_iff, decide_eq_false_iff_not] at hc; omega
  rw [natMul]
  refine ⟨by simp only [fits]; omega, ⟨by omega, by omega, by omega⟩, ?_⟩
  refine kE (α := {j : Nat // j ≤ rh})
    (fun j => ⟨[(2, [], .int .u8 o), (3, [], .box 0 0), (4, [], .box 1 0), (6, [], .box 2 0), (8, [], .own 3 (j.1 * rw + 1)), (41, [], .int .i64 rh), (42, [], .int .i64 j.1)],
      [.cells [.int .i64 w, .int .i64 h, .ls 1 (gl w h f)], .cells [.int .i64 rx, .int .i64 ry, .int .i64 rw, .int .i64 rh], .cells [.int .i64 0, .int .i64 0, .ls 1 []], .arr 51 1 (j.1 * rw + 1) (gk (j.1 * rw) rw fc)]⟩)
    (fun j => rh - j.1) ?_ ⟨0, Nat.zero_le _⟩ (by simp [gk])
  rintro ⟨j, hj⟩ I ih
  dsimp only at hj ⊢
  dsimp only [c_grid_Grid_Crop, kZ, jo,jK,jT,jr,jI,jM,jq,jJ,jL,iteR,regK,ji,jc,jl,jk,jb,jj,blkK,kr,kh,jd,ja,jy,fpOk,foot,kp,allN,memN,jN,jm,js,jw,jv,jt,ju,jg,jh,jf,je,newN,jx,jS,jU,j2,jO,jP,jQ,jz,jA,jE,jB,jC,jn,jD,jF,jG,j7,evX,evL,evB,rd,get,subG,memG,jW,jY,hyps,gob,impP,allP,j6,j1,j4,ko,nth,ke,km,jX,lenB,kj,jV,entN,setE,jZ,addE,setL,setN,putE,env0,eqCs,j9,eqC,bA,bO,bN,bE,negB,kEq,ki,j8,lend,frz,frzL,zRow,kg,kd,closed,jH,j0,binI,remP,remI,retK,retG,kq,retD,kn,resL,resD,oneD,renD,renL,renE,j3,rho,jR,j5,List.append,List.nil_append,List.cons_append,List.append_nil,cond,Nat.reduceBEq,Nat.reduceAdd,Nat.beq]
  refine ⟨fun hlt => ?_, fun hge => ?_⟩
  · have hjl : j < rh := by simpa using hlt
    refine kE (α := {i : Nat // i ≤ rw})
      (fun i => ⟨[(2, [], .int .u8 o), (3, [], .box 0 0), (4, [], .box 1 0), (6, [], .box 2 0), (8, [], .own 3 (j * rw + i.1 + 1)), (9, [], .int .i64 j), (41, [], .int .i64 rh), (42, [], .int .i64 j), (46, [], .int .i64 rw), (47, [], .int .i64 i.1)],
        [.cells [.int .i64 w, .int .i64 h, .ls 1 (gl w h f)], .cells [.int .i64 rx, .int .i64 ry, .int .i64 rw, .int .i64 rh], .cells [.int .i64 0, .int .i64 0, .ls 1 []], .arr 51 1 (j * rw + i.1 + 1) (gk (j * rw + i.1) rw fc)]⟩)
      (fun i => rw - i.1) ?_ ⟨0, Nat.zero_le _⟩ rfl
    rintro ⟨i, hi⟩ I2 ih2
    dsimp only at hi ⊢
    dsimp only [c_grid_Grid_Crop, kZ, jo,jK,jT,jr,jI,jM,jq,jJ,jL,iteR,regK,ji,jc,jl,jk,jb,jj,blkK,kr,kh,jd,ja,jy,fpOk,foot,kp,allN,memN,jN,jm,js,jw,jv,jt,ju,jg,jh,jf,je,newN,jx,jS,jU,j2,jO,jP,jQ,jz,jA,jE,jB,jC,jn,jD,jF,jG,j7,evX,evL,evB,rd,get,subG,memG,jW,jY,hyps,gob,impP,allP,j6,j1,j4,ko,nth,ke,km,jX,lenB,kj,jV,entN,setE,jZ,addE,setL,setN,putE,env0,eqCs,j9,eqC,bA,bO,bN,bE,negB,kEq,ki,j8,lend,frz,frzL,zRow,kg,kd,closed,jH,j0,binI,remP,remI,retK,retG,kq,retD,kn,resL,resD,oneD,renD,renL,renE,j3,rho,jR,j5,List.append,List.nil_append,List.cons_append,List.append_nil,cond,Nat.reduceBEq,Nat.reduceAdd,Nat.beq]
    refine ⟨fun hlt => ?_, fun hge => ?_⟩
    · have hil : i < rw := by simpa using hlt
      have hidx := idx_lt hil hjl
      have hnext : some' 0 I2 ⟨[(2, [], .int .u8 o), (3, [], .box 0 0), (4, [], .box 1 0), (6, [], .box 2 0), (8, [], .own 3 (j * rw + i + 1 + 1)), (9, [], .int .i64 j), (41, [], .int .i64 rh), (42, [], .int .i64 j), (46, [], .int .i64 rw), (47, [], .int .i64 ((i : Int) + 1))],
        [.cells [.int .i64 w, .int .i64 h, .ls 1 (gl w h f)], .cells [.int .i64 rx, .int .i64 ry, .int .i64 rw, .int .i64 rh], .cells [.int .i64 0, .int .i64 0, .ls 1 []], .arr 51 1 (j * rw + i + 1 + 1) (gk (j * rw + i) rw fc ++ [.int .u8 (fc i j)])]⟩ := by
        have := gk_succ (j * rw + i) rw fc
        rw [glK_at hil] at this
        rw [← this]
        exact qj (ih2 ⟨i + 1, hil⟩ (by dsimp only; omega)) ⟨rfl, rfl, rfl, rfl, rfl, rfl, rfl, rfl, rfl, by simp [get], trivial⟩ ⟨rfl, rfl, rfl, rfl, trivial⟩ rfl rfl
      refine ⟨by simp only [fits]; omega, by simp only [fits]; omega, kt sp_has ?_⟩
      dsimp only [c_grid_Grid_Crop, kZ, jo,jK,jT,jr,jI,jM,jq,jJ,jL,iteR,regK,ji,jc,jl,jk,jb,jj,blkK,kr,kh,jd,ja,jy,fpOk,foot,kp,allN,memN,jN,jm,js,jw,jv,jt,ju,jg,jh,jf,je,newN,jx,jS,jU,j2,jO,jP,jQ,jz,jA,jE,jB,jC,jn,jD,jF,jG,j7,evX,evL,evB,rd,get,subG,memG,jW,jY,hyps,gob,impP,allP,j6,j1,j4,ko,nth,ke,km,jX,lenB,kj,jV,entN,setE,jZ,addE,setL,setN,putE,env0,eqCs,j9,eqC,bA,bO,bN,bE,negB,kEq,ki,j8,lend,frz,frzL,zRow,kg,kd,closed,jH,j0,binI,remP,remI,retK,retG,kq,retD,kn,resL,resD,oneD,renD,renL,renE,j3,rho,jR,j5,List.append,List.nil_append,List.cons_append,List.append_nil,cond,Nat.reduceBEq,Nat.reduceAdd,Nat.beq]
      rw [gk_len]
      refine ⟨fun hy => ?_, fun hn => ?_⟩
      · have hp := has_iff.1 hy
        have hk : fc i j = f (rx + i) (ry + j) := by rw [hfc]; exact zy hp
        refine ⟨by simp only [fits]; omega, by simp only [fits]; omega, kt (sp_At hw hh hp) ?_⟩
        dsimp only [c_grid_Grid_Crop, kZ, jo,jK,jT,jr,jI,jM,jq,jJ,jL,iteR,regK,ji,jc,jl,jk,jb,jj,blkK,kr,kh,jd,ja,jy,fpOk,foot,kp,allN,memN,jN,jm,js,jw,jv,jt,ju,jg,jh,jf,je,newN,jx,jS,jU,j2,jO,jP,jQ,jz,jA,jE,jB,jC,jn,jD,jF,jG,j7,evX,evL,evB,rd,get,subG,memG,jW,jY,hyps,gob,impP,allP,j6,j1,j4,ko,nth,ke,km,jX,lenB,kj,jV,entN,setE,jZ,addE,setL,setN,putE,env0,eqCs,j9,eqC,bA,bO,bN,bE,negB,kEq,ki,j8,lend,frz,frzL,zRow,kg,kd,closed,jH,j0,binI,remP,remI,retK,retG,kq,retD,kn,resL,resD,oneD,renD,renL,renE,j3,rho,jR,j5,List.append,List.nil_append,List.cons_append,List.append_nil,cond,Nat.reduceBEq,Nat.reduceAdd,Nat.beq]
        rw [gk_len]
        refine ⟨⟨rfl, rfl, rfl, rfl, by simp only [List.length_cons, List.length_nil]; omega, by simp only [List.length_cons, List.length_nil]; omega⟩, by simp only [fits]; omega, ?_⟩
        rw [← hk]
        exact hnext
      · have hp : ¬ inP w h (rx + i) (ry + j) := fun hp => by rw [has_yes hp] at hn; cases hn
        have hk : fc i j = o := by rw [hfc]; exact zk hp
        refine ⟨⟨rfl, rfl, rfl, rfl, by simp only [List.length_cons, List.length_nil]; omega, by simp only [List.length_cons, List.length_nil]; omega⟩, by simp only [fits]; omega, ?_⟩
        rw [hk] at hnext
        exact hnext
    · have hil : i = rw := by have : ¬ i < rw := by simpa using hge
                              omega
      subst hil
      refine ⟨by simp only [fits]; omega, ?_⟩
      have e : j * i + i = (j + 1) * i := by rw [Nat.add_mul]; omega
      rw [e]
      exact qj (ih ⟨j + 1, hjl⟩ (by dsimp only; omega)) ⟨rfl, rfl, rfl, rfl, rfl, rfl, by simp [get], trivial⟩ ⟨rfl, rfl, rfl, rfl, trivial⟩ rfl rfl
  · have hjl : j = rh := by have : ¬ j < rh := by simpa using hge
                            omega
    subst hjl
    have : gk (j * rw) rw fc = gl rw j fc := by unfold gl; rw [Nat.mul_comm]
    rw [this]
    exact ⟨rfl, rfl⟩
end Go.AM

