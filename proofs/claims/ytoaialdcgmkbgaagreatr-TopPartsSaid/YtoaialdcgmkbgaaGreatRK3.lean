import Derived.Test.YtoaialdcgmkbgaaGreatRCode
import Derived.Test.YtoaialdcgmkbgaaGreatRA32
import Derived.Test.YtoaialdcgmkbgaaGreatRK1
import Derived.Test.YtoaialdcgmkbgaaGreatRY1
import Derived.Test.YtoaialdcgmkbgaaGreatRQ1

set_option linter.all false
namespace Go.AM
open Go Go.Proofs
abbrev gD (w h : Nat) (f : Px) : D := .agg [.int .i64 w, .int .i64 h, .ls 1 (gl w h f)]
theorem jD4 {n : Int} : TSp 73 [.int .i64 n] (.bool (decide (1 <= n) && decide (n <= 128))) := by
 refine jb7 (by rfl) ?_
 dsimp only [c_grid_side, Xo, jn,jH,jO,jq,jF,jJ,jo,jG,jI,iteR,regK,jh,jc,jk,jj,jb,ji,blkK,kp,kd,jd,ja,jx,fpOk,foot,km,allN,memN,jK,jl,jr,jv,jt,ju,jf,jg,je,newN,jw,jN,jP,jY,jQ,jM,jS,jz,jA,jC,jD,jE,jm,jB,evX,evL,evB,rd,get,subG,memG,jT,jV,hyps,gob,impP,allP,j1,jX,j3,kj,nth,j8,kh,jU,lenB,kg,jR,entN,setE,jZ,addE,setL,setN,putE,env0,eqCs,j6,eqC,bA,bO,bN,bE,negB,kEq,ke,j5,lend,frz,frzL,zRow,j9,j7,closed,jy,jW,binI,remP,remI,retK,retG,ko,retD,ki,resL,resD,oneD,renD,renL,renE,j0,rho,jL,j4,zla,zlb,zlc,zld,zca,zcb,o1,o0,og,Nat.reduceBEq,Nat.reduceAdd,Nat.beq]
theorem je1 {n : Int} : TSp 74 [.int .i64 n] (.bool (decide (-1048576 <= n) && decide (n <= 1048576))) := by
 refine Ye (by rfl) ?_
 dsimp only [c_grid_coord, ZM, jn,jH,jO,jq,jF,jJ,jo,jG,jI,iteR,regK,jh,jc,jk,jj,jb,ji,blkK,kp,kd,jd,ja,jx,fpOk,foot,km,allN,memN,jK,jl,jr,jv,jt,ju,jf,jg,je,newN,jw,jN,jP,jY,jQ,jM,jS,jz,jA,jC,jD,jE,jm,jB,evX,evL,evB,rd,get,subG,memG,jT,jV,hyps,gob,impP,allP,j1,jX,j3,kj,nth,j8,kh,jU,lenB,kg,jR,entN,setE,jZ,addE,setL,setN,putE,env0,eqCs,j6,eqC,bA,bO,bN,bE,negB,kEq,ke,j5,lend,frz,frzL,zRow,j9,j7,closed,jy,jW,binI,remP,remI,retK,retG,ko,retD,ki,resL,resD,oneD,renD,renL,renE,j0,rho,jL,j4,zla,zlb,zlc,zld,zca,zcb,o1,o0,og,Nat.reduceBEq,Nat.reduceAdd,Nat.beq]
theorem jN5 {w h : Int} {d : D} {x y : Int} (hd : j3 d = true := by rfl) (hc : closed d = true := by rfl) : TSp 75 [.agg [.int .i64 w, .int .i64 h, d], .int .i64 x, .int .i64 y] (.bool (decide (0 <= x) && decide (x < w) && decide (0 <= y) && decide (y < h))) := by
 refine Zt (by rfl) ?_
 dsimp only [c_grid_Grid_has, Jx, jn,jH,jO,jq,jF,jJ,jo,jG,jI,iteR,regK,jh,jc,jk,jj,jb,ji,blkK,kp,kd,jd,ja,jx,fpOk,foot,km,allN,memN,jK,jl,jr,jv,jt,ju,jf,jg,je,newN,jw,jN,jP,jY,jQ,jM,jS,jz,jA,jC,jD,jE,jm,jB,evX,evL,evB,rd,get,subG,memG,jT,jV,hyps,gob,impP,allP,j1,jX,j3,kj,nth,j8,kh,jU,lenB,kg,jR,entN,setE,jZ,addE,setL,setN,putE,env0,eqCs,j6,eqC,bA,bO,bN,bE,negB,kEq,ke,j5,lend,frz,frzL,zRow,j9,j7,closed,jy,jW,binI,remP,remI,retK,retG,ko,retD,ki,resL,resD,oneD,renD,renL,renE,j0,rho,jL,j4,zla,zlb,zlc,zld,zca,zcb,o1,o0,og,Nat.reduceBEq,Nat.reduceAdd,Nat.beq]
theorem jG5 {w h : Nat} {x y : Int} : (decide (0 <= x) && decide (x < (w : Int)) && decide (0 <= y) && decide (y < (h : Int))) = true ↔ inP w h x y := by
 simp only [Bool.and_eq_true, decide_eq_true_eq, inP]; constructor <;> (intro h; omega)
theorem jG4 {w h : Nat} {x y : Int} (hp : inP w h x y) : (decide (0 <= x) && decide (x < (w : Int)) && decide (0 <= y) && decide (y < (h : Int))) = true := jG5.2 hp
theorem sp_Size {w h : Nat} {f : Px} : TSp 10 [gD w h f] (.tup [.int .i64 w, .int .i64 h]) := by
 refine QE (by rfl) ?_
 dsimp only [c_grid_Grid_Size, yA, jn,jH,jO,jq,jF,jJ,jo,jG,jI,iteR,regK,jh,jc,jk,jj,jb,ji,blkK,kp,kd,jd,ja,jx,fpOk,foot,km,allN,memN,jK,jl,jr,jv,jt,ju,jf,jg,je,newN,jw,jN,jP,jY,jQ,jM,jS,jz,jA,jC,jD,jE,jm,jB,evX,evL,evB,rd,get,subG,memG,jT,jV,hyps,gob,impP,allP,j1,jX,j3,kj,nth,j8,kh,jU,lenB,kg,jR,entN,setE,jZ,addE,setL,setN,putE,env0,eqCs,j6,eqC,bA,bO,bN,bE,negB,kEq,ke,j5,lend,frz,frzL,zRow,j9,j7,closed,jy,jW,binI,remP,remI,retK,retG,ko,retD,ki,resL,resD,oneD,renD,renL,renE,j0,rho,jL,j4,zla,zlb,zlc,zld,zca,zcb,o1,o0,og,Nat.reduceBEq,Nat.reduceAdd,Nat.beq]
theorem yo {w h : Nat} (hw : w <= 128) (hh : h <= 128) : w * h <= 16384 := by
 have := Nat.mul_le_mul hw hh
 omega
theorem jO2 {w h : Nat} {f : Px} {x y : Int} (hw : w <= 128) (hh : h <= 128) (hp : inP w h x y) : TSp 46 [gD w h f, .int .i64 x, .int .i64 y] (.int .u8 (f x y)) := by
 refine Vx (by rfl) ?_
 dsimp only [c_grid_Grid_At, vI, jn,jH,jO,jq,jF,jJ,jo,jG,jI,iteR,regK,jh,jc,jk,jj,jb,ji,blkK,kp,kd,jd,ja,jx,fpOk,foot,km,allN,memN,jK,jl,jr,jv,jt,ju,jf,jg,je,newN,jw,jN,jP,jY,jQ,jM,jS,jz,jA,jC,jD,jE,jm,jB,evX,evL,evB,rd,get,subG,memG,jT,jV,hyps,gob,impP,allP,j1,jX,j3,kj,nth,j8,kh,jU,lenB,kg,jR,entN,setE,jZ,addE,setL,setN,putE,env0,eqCs,j6,eqC,bA,bO,bN,bE,negB,kEq,ke,j5,lend,frz,frzL,zRow,j9,j7,closed,jy,jW,binI,remP,remI,retK,retG,ko,retD,ki,resL,resD,oneD,renD,renL,renE,j0,rho,jL,j4,zla,zlb,zlc,zld,zca,zcb,o1,o0,og,Nat.reduceBEq,Nat.reduceAdd,Nat.beq]
 refine kq (jN5) ?_
 dsimp only [c_grid_Grid_At, vI, jn,jH,jO,jq,jF,jJ,jo,jG,jI,iteR,regK,jh,jc,jk,jj,jb,ji,blkK,kp,kd,jd,ja,jx,fpOk,foot,km,allN,memN,jK,jl,jr,jv,jt,ju,jf,jg,je,newN,jw,jN,jP,jY,jQ,jM,jS,jz,jA,jC,jD,jE,jm,jB,evX,evL,evB,rd,get,subG,memG,jT,jV,hyps,gob,impP,allP,j1,jX,j3,kj,nth,j8,kh,jU,lenB,kg,jR,entN,setE,jZ,addE,setL,setN,putE,env0,eqCs,j6,eqC,bA,bO,bN,bE,negB,kEq,ke,j5,lend,frz,frzL,zRow,j9,j7,closed,jy,jW,binI,remP,remI,retK,retG,ko,retD,ki,resL,resD,oneD,renD,renL,renE,j0,rho,jL,j4,zla,zlb,zlc,zld,zca,zcb,o1,o0,og,Nat.reduceBEq,Nat.reduceAdd,Nat.beq]
 rw [jG4 hp]
 obtain ⟨h1, h2, h3, h4⟩ := jG3 hp
 have hm := yo hw hh
 refine ⟨fun h => absurd h (by simp), fun _ => ?_⟩
 refine ⟨by simp only [fits]; omega, by simp only [fits]; omega, ⟨rfl, h1, by rw [Kt]; exact h2⟩, ky _ _ (jT6 hp) rfl ?_⟩
 dsimp only [c_grid_Grid_At, vI, jn,jH,jO,jq,jF,jJ,jo,jG,jI,iteR,regK,jh,jc,jk,jj,jb,ji,blkK,kp,kd,jd,ja,jx,fpOk,foot,km,allN,memN,jK,jl,jr,jv,jt,ju,jf,jg,je,newN,jw,jN,jP,jY,jQ,jM,jS,jz,jA,jC,jD,jE,jm,jB,evX,evL,evB,rd,get,subG,memG,jT,jV,hyps,gob,impP,allP,j1,jX,j3,kj,nth,j8,kh,jU,lenB,kg,jR,entN,setE,jZ,addE,setL,setN,putE,env0,eqCs,j6,eqC,bA,bO,bN,bE,negB,kEq,ke,j5,lend,frz,frzL,zRow,j9,j7,closed,jy,jW,binI,remP,remI,retK,retG,ko,retD,ki,resL,resD,oneD,renD,renL,renE,j0,rho,jL,j4,zla,zlb,zlc,zld,zca,zcb,o1,o0,og,Nat.reduceBEq,Nat.reduceAdd,Nat.beq]
theorem sm_twin {w h : Nat} {f : Px} (hw : w <= 128) (hh : h <= 128) : TSpM 78 [gD w h f] [] (.agg [.int .i64 w, .int .i64 h, .own 0 1]) [.arr 51 1 1 (gl w h f)] := by
 have hm := yo hw hh
 refine QG (by rfl) ?_
 dsimp only [c_grid_Grid_twin, yz, jn,jH,jO,jq,jF,jJ,jo,jG,jI,iteR,regK,jh,jc,jk,jj,jb,ji,blkK,kp,kd,jd,ja,jx,fpOk,foot,km,allN,memN,jK,jl,jr,jv,jt,ju,jf,jg,je,newN,jw,jN,jP,jY,jQ,jM,jS,jz,jA,jC,jD,jE,jm,jB,evX,evL,evB,rd,get,subG,memG,jT,jV,hyps,gob,impP,allP,j1,jX,j3,kj,nth,j8,kh,jU,lenB,kg,jR,entN,setE,jZ,addE,setL,setN,putE,env0,eqCs,j6,eqC,bA,bO,bN,bE,negB,kEq,ke,j5,lend,frz,frzL,zRow,j9,j7,closed,jy,jW,binI,remP,remI,retK,retG,ko,retD,ki,resL,resD,oneD,renD,renL,renE,j0,rho,jL,j4,zla,zlb,zlc,zld,zca,zcb,o1,o0,og,Nat.reduceBEq,Nat.reduceAdd,Nat.beq]
 rw [Kt]
 refine ⟨⟨by omega, by omega, by omega⟩, ⟨rfl, rfl, rfl, rfl⟩, ?_⟩
 have hov : over (List.replicate ((w * h : Nat) : Int).toNat (.int .u8 0)) (gl w h f) = gl w h f := by
  unfold over
  rw [Int.toNat_natCast, List.length_replicate, List.take_of_length_le (by rw [Kt]; omega), List.drop_eq_nil_of_le (by rw [List.length_replicate, Kt]; unfold minN; split <;> omega), List.append_nil]
 rw [hov]
 exact Rt.pick [2] rfl rfl rfl

def Ku (n i : Nat) (v : Int) : List D := List.replicate i (.int .u8 v) ++ List.replicate (n - i) (.int .u8 0)
theorem jL2 {n i : Nat} {v : Int} (h : i <= n) : (Ku n i v).length = n := by simp [Ku]; omega
theorem jL3 {n i : Nat} {v : Int} (h : i < n) : (Ku n i v)[i]? = some (.int .u8 0) := by
 unfold Ku
 rw [List.getElem?_append_right (by simp), List.length_replicate, Nat.sub_self, List.getElem?_replicate, if_pos (by omega)]
theorem jL1 {n i : Nat} {v : Int} (h : i < n) : (Ku n i v).set i (.int .u8 v) = Ku n (i + 1) v := by
 unfold Ku
 rw [List.set_append_right _ _ (by simp)]
 rw [show n - i = (n - (i + 1)) + 1 by omega, List.replicate_succ, List.length_replicate, Nat.sub_self, List.set_cons_zero, List.replicate_succ', List.append_assoc]
 rfl
theorem jS0 (w h : Nat) : ((w : Int) * (h : Int)) = ((w * h : Nat) : Int) := by simp
theorem jN8 {w h : Nat} {v : Int} (hw : 1 <= w /\ w <= 128) (hh : 1 <= h /\ h <= 128) : TSp 27 [.int .i64 w, .int .i64 h, .int .u8 v] (.tup [gD w h fun _ _ => v, .int .i64 0]) := by
 have hm := yo hw.2 hh.2
 refine ji6 (by rfl) ?_
 dsimp only [c_grid_New, vS, jn,jH,jO,jq,jF,jJ,jo,jG,jI,iteR,regK,jh,jc,jk,jj,jb,ji,blkK,kp,kd,jd,ja,jx,fpOk,foot,km,allN,memN,jK,jl,jr,jv,jt,ju,jf,jg,je,newN,jw,jN,jP,jY,jQ,jM,jS,jz,jA,jC,jD,jE,jm,jB,evX,evL,evB,rd,get,subG,memG,jT,jV,hyps,gob,impP,allP,j1,jX,j3,kj,nth,j8,kh,jU,lenB,kg,jR,entN,setE,jZ,addE,setL,setN,putE,env0,eqCs,j6,eqC,bA,bO,bN,bE,negB,kEq,ke,j5,lend,frz,frzL,zRow,j9,j7,closed,jy,jW,binI,remP,remI,retK,retG,ko,retD,ki,resL,resD,oneD,renD,renL,renE,j0,rho,jL,j4,zla,zlb,zlc,zld,zca,zcb,o1,o0,og,Nat.reduceBEq,Nat.reduceAdd,Nat.beq]
 refine kq jD4 ?_
 dsimp only [c_grid_New, vS, jn,jH,jO,jq,jF,jJ,jo,jG,jI,iteR,regK,jh,jc,jk,jj,jb,ji,blkK,kp,kd,jd,ja,jx,fpOk,foot,km,allN,memN,jK,jl,jr,jv,jt,ju,jf,jg,je,newN,jw,jN,jP,jY,jQ,jM,jS,jz,jA,jC,jD,jE,jm,jB,evX,evL,evB,rd,get,subG,memG,jT,jV,hyps,gob,impP,allP,j1,jX,j3,kj,nth,j8,kh,jU,lenB,kg,jR,entN,setE,jZ,addE,setL,setN,putE,env0,eqCs,j6,eqC,bA,bO,bN,bE,negB,kEq,ke,j5,lend,frz,frzL,zRow,j9,j7,closed,jy,jW,binI,remP,remI,retK,retG,ko,retD,ki,resL,resD,oneD,renD,renL,renE,j0,rho,jL,j4,zla,zlb,zlc,zld,zca,zcb,o1,o0,og,Nat.reduceBEq,Nat.reduceAdd,Nat.beq]
 refine kq (fun _ => jD4) ?_
 dsimp only [c_grid_New, vS, jn,jH,jO,jq,jF,jJ,jo,jG,jI,iteR,regK,jh,jc,jk,jj,jb,ji,blkK,kp,kd,jd,ja,jx,fpOk,foot,km,allN,memN,jK,jl,jr,jv,jt,ju,jf,jg,je,newN,jw,jN,jP,jY,jQ,jM,jS,jz,jA,jC,jD,jE,jm,jB,evX,evL,evB,rd,get,subG,memG,jT,jV,hyps,gob,impP,allP,j1,jX,j3,kj,nth,j8,kh,jU,lenB,kg,jR,entN,setE,jZ,addE,setL,setN,putE,env0,eqCs,j6,eqC,bA,bO,bN,bE,negB,kEq,ke,j5,lend,frz,frzL,zRow,j9,j7,closed,jy,jW,binI,remP,remI,retK,retG,ko,retD,ki,resL,resD,oneD,renD,renL,renE,j0,rho,jL,j4,zla,zlb,zlc,zld,zca,zcb,o1,o0,og,Nat.reduceBEq,Nat.reduceAdd,Nat.beq]
 refine ⟨fun hc => ?_, fun _ => ?_⟩
 ·simp only [Bool.or_eq_true, Bool.not_eq_true', Bool.and_eq_false_iff, decide_eq_false_iff_not] at hc; omega
 rw [jS0]
 refine ⟨by simp only [fits]; omega, ⟨by omega, by omega, by omega⟩, rfl, ?_⟩
 rw [List.length_replicate]
 refine kG (α := {i : Nat // i <= w * h})
  (fun i => ⟨[(0, [], .int .i64 w), (1, [], .int .i64 h), (2, [], .int .u8 v), (6, [], .box 0 0), (8, [], .own 1 1), (24, [], .int .i64 ((w * h : Nat) : Int)), (25, [], .int .i64 i.1)], [.cells [.int .i64 0, .int .i64 0, .ls 1 []], .arr 51 1 1 (Ku (w * h) i.1 v)]⟩)
  (fun i => w * h - i.1) ?_ ⟨0, Nat.zero_le _⟩ (by simp [Ku]; exact ⟨by omega, by rw [jS0, Int.toNat_natCast]⟩)
 rintro ⟨i, hi⟩ I ih
 dsimp only at hi |-
 dsimp only [c_grid_New, vS, jn,jH,jO,jq,jF,jJ,jo,jG,jI,iteR,regK,jh,jc,jk,jj,jb,ji,blkK,kp,kd,jd,ja,jx,fpOk,foot,km,allN,memN,jK,jl,jr,jv,jt,ju,jf,jg,je,newN,jw,jN,jP,jY,jQ,jM,jS,jz,jA,jC,jD,jE,jm,jB,evX,evL,evB,rd,get,subG,memG,jT,jV,hyps,gob,impP,allP,j1,jX,j3,kj,nth,j8,kh,jU,lenB,kg,jR,entN,setE,jZ,addE,setL,setN,putE,env0,eqCs,j6,eqC,bA,bO,bN,bE,negB,kEq,ke,j5,lend,frz,frzL,zRow,j9,j7,closed,jy,jW,binI,remP,remI,retK,retG,ko,retD,ki,resL,resD,oneD,renD,renL,renE,j0,rho,jL,j4,zla,zlb,zlc,zld,zca,zcb,o1,o0,og,Nat.reduceBEq,Nat.reduceAdd,Nat.beq]
 refine ⟨fun hlt => ?_, fun hge => ?_⟩
 ·have hil : i < w * h := by simp only [decide_eq_true_eq] at hlt; omega
  refine ⟨⟨rfl, rfl, by omega, by rw [jL2 hi]; omega⟩, ⟨rfl, rfl⟩, zf (hs := []) _ _ (by rw [Int.toNat_natCast]; exact jL3 hil) rfl ?_⟩
  dsimp only [c_grid_New, vS, jn,jH,jO,jq,jF,jJ,jo,jG,jI,iteR,regK,jh,jc,jk,jj,jb,ji,blkK,kp,kd,jd,ja,jx,fpOk,foot,km,allN,memN,jK,jl,jr,jv,jt,ju,jf,jg,je,newN,jw,jN,jP,jY,jQ,jM,jS,jz,jA,jC,jD,jE,jm,jB,evX,evL,evB,rd,get,subG,memG,jT,jV,hyps,gob,impP,allP,j1,jX,j3,kj,nth,j8,kh,jU,lenB,kg,jR,entN,setE,jZ,addE,setL,setN,putE,env0,eqCs,j6,eqC,bA,bO,bN,bE,negB,kEq,ke,j5,lend,frz,frzL,zRow,j9,j7,closed,jy,jW,binI,remP,remI,retK,retG,ko,retD,ki,resL,resD,oneD,renD,renL,renE,j0,rho,jL,j4,zla,zlb,zlc,zld,zca,zcb,o1,o0,og,Nat.reduceBEq,Nat.reduceAdd,Nat.beq]
  rw [Int.toNat_natCast, jL1 hil]
  exact ⟨by simp only [fits]; omega, qa (ih ⟨i + 1, hil⟩ (by dsimp only; omega)) ⟨rfl, rfl, rfl, rfl, rfl, rfl, by simp [get], trivial⟩ ⟨rfl, rfl, trivial⟩ rfl rfl⟩
 ·have hil : i = w * h := by simp only [decide_eq_false_iff_not] at hge; omega
  subst hil
  have : Ku (w * h) (w * h) v = gl w h fun _ _ => v := by rw [<- jT7]; simp [Ku]
  rw [this]
  exact ⟨rfl, rfl⟩

theorem jl3 {Q : Int -> Int -> Prop} {s f : Px} {x y : Int} (h : Q x y) : onX Q s f x y = s x y := by unfold onX; rw [if_pos h]
theorem X0 {Q : Int -> Int -> Prop} {s f : Px} {x y : Int} (h : ¬ Q x y) : onX Q s f x y = f x y := by unfold onX; rw [if_neg h]

theorem jJ0 {w h : Nat} {l : List Rc} {F : Nat} {R : (Int -> Int -> Prop) -> List D} {w2 h2 x0 y0 : Int} {pix : List D} (hw : w <= 128) (hh : h <= 128) (hv : ∀ r ∈ l, Vr r) (hl : l.length <= 1048576)
  (hcb : ∀ (Q : Int -> Int -> Prop) (y a b : Int), 0 <= y /\ y < h -> 0 <= a /\ a < b /\ b <= w -> TSpM F [.int .i64 y, .int .i64 a, .int .i64 b, .box 0 0, .box 1 0, .box 2 0, .box 4 0] [.cells [.int .i64 w2, .int .i64 h2, .ls 1 pix], .cells [.int .i64 x0], .cells [.int .i64 y0], .arr 51 1 1 (R Q), .cells [.int .i64 w, .int .i64 h, .own 3 1]] (.tup []) [.cells [.int .i64 w2, .int .i64 h2, .ls 1 pix], .cells [.int .i64 x0], .cells [.int .i64 y0], .arr 51 1 1 (R (fun X Y => Q X Y \/ (Y = y /\ a <= X /\ X < b))), .cells [.int .i64 w, .int .i64 h, .own 3 1]]) :
  TSpM 79 [.agg [.int .i64 w, .int .i64 h, .own 3 1], .agg [.ls 4 (rcs l)], .fn F [.box 0 0, .box 1 0, .box 2 0, .box 4 0]] [.cells [.int .i64 w2, .int .i64 h2, .ls 1 pix], .cells [.int .i64 x0], .cells [.int .i64 y0], .arr 51 1 1 (R (fun _ _ => False)), .cells [.int .i64 w, .int .i64 h, .own 3 1]] (.tup []) [.cells [.int .i64 w2, .int .i64 h2, .ls 1 pix], .cells [.int .i64 x0], .cells [.int .i64 y0], .arr 51 1 1 (R (fun X Y => pts l X Y /\ inP w h X Y)), .cells [.int .i64 w, .int .i64 h, .own 3 1]] := by
 refine Qe (by rfl) ?_
 dsimp only [c_grid_Grid_spans, qz, jn,jH,jO,jq,jF,jJ,jo,jG,jI,iteR,regK,jh,jc,jk,jj,jb,ji,blkK,kp,kd,jd,ja,jx,fpOk,foot,km,allN,memN,jK,jl,jr,jv,jt,ju,jf,jg,je,newN,jw,jN,jP,jY,jQ,jM,jS,jz,jA,jC,jD,jE,jm,jB,evX,evL,evB,rd,get,subG,memG,jT,jV,hyps,gob,impP,allP,j1,jX,j3,kj,nth,j8,kh,jU,lenB,kg,jR,entN,setE,jZ,addE,setL,setN,putE,env0,eqCs,j6,eqC,bA,bO,bN,bE,negB,kEq,ke,j5,lend,frz,frzL,zRow,j9,j7,closed,jy,jW,binI,remP,remI,retK,retG,ko,retD,ki,resL,resD,oneD,renD,renL,renE,j0,rho,jL,j4,zla,zlb,zlc,zld,zca,zcb,o1,o0,og,Nat.reduceBEq,Nat.reduceAdd,Nat.beq]
 refine kq (ZE (l := rcs l) (by rw [ku]; omega)) ?_
 dsimp only [c_grid_Grid_spans, qz, jn,jH,jO,jq,jF,jJ,jo,jG,jI,iteR,regK,jh,jc,jk,jj,jb,ji,blkK,kp,kd,jd,ja,jx,fpOk,foot,km,allN,memN,jK,jl,jr,jv,jt,ju,jf,jg,je,newN,jw,jN,jP,jY,jQ,jM,jS,jz,jA,jC,jD,jE,jm,jB,evX,evL,evB,rd,get,subG,memG,jT,jV,hyps,gob,impP,allP,j1,jX,j3,kj,nth,j8,kh,jU,lenB,kg,jR,entN,setE,jZ,addE,setL,setN,putE,env0,eqCs,j6,eqC,bA,bO,bN,bE,negB,kEq,ke,j5,lend,frz,frzL,zRow,j9,j7,closed,jy,jW,binI,remP,remI,retK,retG,ko,retD,ki,resL,resD,oneD,renD,renL,renE,j0,rho,jL,j4,zla,zlb,zlc,zld,zca,zcb,o1,o0,og,Nat.reduceBEq,Nat.reduceAdd,Nat.beq]
 rw [ku]
 have e0 : (fun _ _ => False : Int -> Int -> Prop) = fun X Y => pts (l.take 0) X Y /\ inP w h X Y := vD fun x y => by simp [pts]
 rw [e0]
 refine kG (α := {i : Nat // i <= l.length})
  (fun i => ⟨[(2, [], .fn F [.box 0 0, .box 1 0, .box 2 0, .box 4 0]), (3, [], .box 5 0), (12, [], .ls 4 (rcs l)), (13, [], .int .i64 l.length), (14, [], .int .i64 i.1)],
    [.cells [.int .i64 w2, .int .i64 h2, .ls 1 pix], .cells [.int .i64 x0], .cells [.int .i64 y0], .arr 51 1 1 (R (fun X Y => pts (l.take i.1) X Y /\ inP w h X Y)), .cells [.int .i64 w, .int .i64 h, .own 3 1], .cells [.int .i64 w, .int .i64 h, .own 3 1], .cells [.ls 4 (rcs l)]]⟩)
  (fun i => l.length - i.1) ?_ ⟨0, Nat.zero_le _⟩ rfl
 rintro ⟨i, hi⟩ I ih
 dsimp only at hi |-
 dsimp only [c_grid_Grid_spans, qz, jn,jH,jO,jq,jF,jJ,jo,jG,jI,iteR,regK,jh,jc,jk,jj,jb,ji,blkK,kp,kd,jd,ja,jx,fpOk,foot,km,allN,memN,jK,jl,jr,jv,jt,ju,jf,jg,je,newN,jw,jN,jP,jY,jQ,jM,jS,jz,jA,jC,jD,jE,jm,jB,evX,evL,evB,rd,get,subG,memG,jT,jV,hyps,gob,impP,allP,j1,jX,j3,kj,nth,j8,kh,jU,lenB,kg,jR,entN,setE,jZ,addE,setL,setN,putE,env0,eqCs,j6,eqC,bA,bO,bN,bE,negB,kEq,ke,j5,lend,frz,frzL,zRow,j9,j7,closed,jy,jW,binI,remP,remI,retK,retG,ko,retD,ki,resL,resD,oneD,renD,renL,renE,j0,rho,jL,j4,zla,zlb,zlc,zld,zca,zcb,o1,o0,og,Nat.reduceBEq,Nat.reduceAdd,Nat.beq]
 refine ⟨fun hlt => ?_, fun hge => ?_⟩
 ·have hil : i < l.length := by simpa using hlt
  obtain ⟨r, hr⟩ : ∃ r, l[i]? = some r := ⟨_, List.getElem?_eq_getElem hil⟩
  have hV := hv r (List.mem_of_getElem? hr)
  unfold Vr at hV
  have htk : ∀ X Y, pts (l.take (i + 1)) X Y ↔ pts (l.take i) X Y \/ r.has X Y := fun X Y => by rw [List.take_add_one, hr, Option.toList, ptsA, ptsO]
  have hnext : ∀ Q : Int -> Int -> Prop, (∀ X Y, Q X Y ↔ pts (l.take (i + 1)) X Y /\ inP w h X Y) -> Xj 5 I ⟨[(2, [], .fn F [.box 0 0, .box 1 0, .box 2 0, .box 4 0]), (3, [], .box 5 0), (12, [], .ls 4 (rcs l)), (13, [], .int .i64 l.length), (14, [], .int .i64 ((i : Int) + 1))], [.cells [.int .i64 w2, .int .i64 h2, .ls 1 pix], .cells [.int .i64 x0], .cells [.int .i64 y0], .arr 51 1 1 (R Q), .cells [.int .i64 w, .int .i64 h, .own 3 1], .cells [.int .i64 w, .int .i64 h, .own 3 1], .cells [.ls 4 (rcs l)], .cells [.int .i64 r.x, .int .i64 r.y, .int .i64 r.w, .int .i64 r.h]]⟩ := fun Q hQ => by
   rw [vD hQ]
   exact qa (ih ⟨i + 1, hil⟩ (by dsimp only; omega)) ⟨rfl, rfl, rfl, rfl, by simp [get], trivial⟩ ⟨rfl, rfl, rfl, rfl, rfl, rfl, rfl, trivial⟩ rfl rfl
  refine ⟨⟨rfl, by omega, by rw [ku]; omega⟩, ky (rD r) (rD r) (qx (by simpa using hr)) rfl ?_⟩
  dsimp only [c_grid_Grid_spans, qz, rD, jn,jH,jO,jq,jF,jJ,jo,jG,jI,iteR,regK,jh,jc,jk,jj,jb,ji,blkK,kp,kd,jd,ja,jx,fpOk,foot,km,allN,memN,jK,jl,jr,jv,jt,ju,jf,jg,je,newN,jw,jN,jP,jY,jQ,jM,jS,jz,jA,jC,jD,jE,jm,jB,evX,evL,evB,rd,get,subG,memG,jT,jV,hyps,gob,impP,allP,j1,jX,j3,kj,nth,j8,kh,jU,lenB,kg,jR,entN,setE,jZ,addE,setL,setN,putE,env0,eqCs,j6,eqC,bA,bO,bN,bE,negB,kEq,ke,j5,lend,frz,frzL,zRow,j9,j7,closed,jy,jW,binI,remP,remI,retK,retG,ko,retD,ki,resL,resD,oneD,renD,renL,renE,j0,rho,jL,j4,zla,zlb,zlc,zld,zca,zcb,o1,o0,og,Nat.reduceBEq,Nat.reduceAdd,Nat.beq]
  refine ⟨by simp only [fits]; omega, fun hge => ⟨by simp only [fits]; omega, hnext _ fun X Y => ?_⟩, fun hlt => ?_⟩
  ·simp only [decide_eq_true_eq] at hge
   rw [htk]; unfold Rc.has inP
   constructor
   ·rintro ⟨h1, h2⟩; exact ⟨.inl h1, h2⟩
   ·rintro ⟨h1 | h1, h2⟩
    ·exact ⟨h1, h2⟩
    ·omega
  have hab : max r.x 0 < min (r.x + r.w) w := by simp only [decide_eq_false_iff_not] at hlt; omega
  have e1 : (fun X Y => pts (l.take i) X Y /\ inP w h X Y) = fun X Y => (pts (l.take i) X Y \/ (r.has X Y /\ Y < max r.y 0)) /\ inP w h X Y := vD fun X Y => by
   unfold Rc.has inP
   constructor
   ·rintro ⟨h1, h2⟩; exact ⟨.inl h1, h2⟩
   ·rintro ⟨h1 | h1, h2⟩
    ·exact ⟨h1, h2⟩
    ·omega
  rw [e1]
  refine kG (α := {y : Int // max r.y 0 <= y})
   (fun y => ⟨[(2, [], .fn F [.box 0 0, .box 1 0, .box 2 0, .box 4 0]), (3, [], .box 5 0), (7, [], .box 7 0), (8, [], .int .i64 (max r.x 0)), (9, [], .int .i64 (min (r.x + r.w) w)), (10, [], .int .i64 y.1), (12, [], .ls 4 (rcs l)), (13, [], .int .i64 l.length), (14, [], .int .i64 i)],
     [.cells [.int .i64 w2, .int .i64 h2, .ls 1 pix], .cells [.int .i64 x0], .cells [.int .i64 y0], .arr 51 1 1 (R (fun X Y => (pts (l.take i) X Y \/ (r.has X Y /\ Y < y.1)) /\ inP w h X Y)), .cells [.int .i64 w, .int .i64 h, .own 3 1], .cells [.int .i64 w, .int .i64 h, .own 3 1], .cells [.ls 4 (rcs l)], .cells [.int .i64 r.x, .int .i64 r.y, .int .i64 r.w, .int .i64 r.h]]⟩)
   (fun y => (r.y + r.h - y.1).toNat) ?_ ⟨max r.y 0, Int.le_refl _⟩ rfl
  rintro ⟨y, hy⟩ I2 ih2
  dsimp only at hy |-
  dsimp only [c_grid_Grid_spans, qz, jn,jH,jO,jq,jF,jJ,jo,jG,jI,iteR,regK,jh,jc,jk,jj,jb,ji,blkK,kp,kd,jd,ja,jx,fpOk,foot,km,allN,memN,jK,jl,jr,jv,jt,ju,jf,jg,je,newN,jw,jN,jP,jY,jQ,jM,jS,jz,jA,jC,jD,jE,jm,jB,evX,evL,evB,rd,get,subG,memG,jT,jV,hyps,gob,impP,allP,j1,jX,j3,kj,nth,j8,kh,jU,lenB,kg,jR,entN,setE,jZ,addE,setL,setN,putE,env0,eqCs,j6,eqC,bA,bO,bN,bE,negB,kEq,ke,j5,lend,frz,frzL,zRow,j9,j7,closed,jy,jW,binI,remP,remI,retK,retG,ko,retD,ki,resL,resD,oneD,renD,renL,renE,j0,rho,jL,j4,zla,zlb,zlc,zld,zca,zcb,o1,o0,og,Nat.reduceBEq,Nat.reduceAdd,Nat.beq]
  refine ⟨by simp only [fits]; omega, fun hlt => ⟨fun hge => ⟨by simp only [fits]; omega, hnext _ fun X Y => ?_⟩, fun hlt2 => ?_⟩, fun hge => ⟨by simp only [fits]; omega, hnext _ fun X Y => ?_⟩⟩
  ·simp only [decide_eq_true_eq] at hge
   rw [htk]; unfold Rc.has inP
   constructor
   ·rintro ⟨h1 | h1, h2⟩
    ·exact ⟨.inl h1, h2⟩
    ·exact ⟨.inr h1.1, h2⟩
   ·rintro ⟨h1 | h1, h2⟩
    ·exact ⟨.inl h1, h2⟩
    ·exact ⟨.inr ⟨h1, by omega⟩, h2⟩
  ·simp only [decide_eq_true_eq, decide_eq_false_iff_not] at hlt hlt2
   refine kX [0, 1, 2, 3, 4] (hcb _ y _ _ ⟨by omega, by omega⟩ ⟨by omega, hab, by omega⟩) rfl rfl ?_
   dsimp only [c_grid_Grid_spans, qz, jn,jH,jO,jq,jF,jJ,jo,jG,jI,iteR,regK,jh,jc,jk,jj,jb,ji,blkK,kp,kd,jd,ja,jx,fpOk,foot,km,allN,memN,jK,jl,jr,jv,jt,ju,jf,jg,je,newN,jw,jN,jP,jY,jQ,jM,jS,jz,jA,jC,jD,jE,jm,jB,evX,evL,evB,rd,get,subG,memG,jT,jV,hyps,gob,impP,allP,j1,jX,j3,kj,nth,j8,kh,jU,lenB,kg,jR,entN,setE,jZ,addE,setL,setN,putE,env0,eqCs,j6,eqC,bA,bO,bN,bE,negB,kEq,ke,j5,lend,frz,frzL,zRow,j9,j7,closed,jy,jW,binI,remP,remI,retK,retG,ko,retD,ki,resL,resD,oneD,renD,renL,renE,j0,rho,jL,j4,zla,zlb,zlc,zld,zca,zcb,o1,o0,og,Nat.reduceBEq,Nat.reduceAdd,Nat.beq]
   refine ⟨by simp only [fits]; omega, ?_⟩
   have e2 : (fun X Y => ((pts (l.take i) X Y \/ (r.has X Y /\ Y < y)) /\ inP w h X Y) \/ (Y = y /\ max r.x 0 <= X /\ X < min (r.x + r.w) w)) = fun X Y => (pts (l.take i) X Y \/ (r.has X Y /\ Y < y + 1)) /\ inP w h X Y := vD fun X Y => by
    unfold Rc.has inP
    constructor
    ·rintro (⟨h1 | h1, h2⟩ | h1)
     ·exact ⟨.inl h1, h2⟩
     ·exact ⟨.inr ⟨h1.1, by omega⟩, h2⟩
     ·exact ⟨.inr ⟨by omega, by omega⟩, by omega⟩
    ·rintro ⟨h1 | h1, h2⟩
     ·exact .inl ⟨.inl h1, h2⟩
     ·by_cases hY : Y = y
      ·exact .inr ⟨hY, by omega⟩
      ·exact .inl ⟨.inr ⟨h1.1, by omega⟩, h2⟩
   rw [e2]
   exact qa (ih2 ⟨y + 1, by omega⟩ (by dsimp only; omega)) ⟨rfl, rfl, rfl, rfl, rfl, by simp [get], rfl, rfl, rfl, trivial⟩ ⟨rfl, rfl, rfl, rfl, rfl, rfl, rfl, rfl, trivial⟩ rfl rfl
  ·simp only [decide_eq_false_iff_not] at hge
   rw [htk]; unfold Rc.has inP
   constructor
   ·rintro ⟨h1 | h1, h2⟩
    ·exact ⟨.inl h1, h2⟩
    ·exact ⟨.inr h1.1, h2⟩
   ·rintro ⟨h1 | h1, h2⟩
    ·exact ⟨.inl h1, h2⟩
    ·exact ⟨.inr ⟨h1, by omega⟩, h2⟩
 ·have hil : i = l.length := by have : ¬ i < l.length := by simpa using hge
                                omega
  subst hil
  rw [List.take_length]
  exact Rt.cut (Nat.le_refl _) (vM [.cells [.int .i64 w2, .int .i64 h2, .ls 1 pix], .cells [.int .i64 x0], .cells [.int .i64 y0], .arr 51 1 1 (R (fun X Y => pts l X Y /\ inP w h X Y)), .cells [.int .i64 w, .int .i64 h, .own 3 1]] _) rfl rfl

theorem jK0 {Q Q' : Int -> Int -> Prop} {s f : Px} {x y : Int} (h : Q x y ↔ Q' x y) : onX Q s f x y = onX Q' s f x y := by
 by_cases hq : Q x y
 ·rw [jl3 hq, jl3 (h.1 hq)]
 ·rw [X0 hq, X0 fun h2 => hq (h.2 h2)]
noncomputable def layX (w2 h2 : Nat) (f2 : Px) (x0 y0 : Int) (Q : Int -> Int -> Prop) (f : Px) : Px := onX (fun X Y => Q X Y /\ inP w2 h2 (X - x0) (Y - y0)) (fun X Y => f2 (X - x0) (Y - y0)) f
theorem jO8 {w h w2 h2 : Nat} {f f2 : Px} {x0 y0 : Int} (hw : w <= 128) (hh : h <= 128) (hw2 : w2 <= 128) (hh2 : h2 <= 128) (hx0 : -1048576 <= x0 /\ x0 <= 1048576) (hy0 : -1048576 <= y0 /\ y0 <= 1048576) (Q : Int -> Int -> Prop) (y a b : Int) (hy : 0 <= y /\ y < h) (hab : 0 <= a /\ a < b /\ b <= w) :
  TSpM 80 [.int .i64 y, .int .i64 a, .int .i64 b, .box 0 0, .box 1 0, .box 2 0, .box 4 0]
   [.cells [.int .i64 w2, .int .i64 h2, .ls 1 (gl w2 h2 f2)], .cells [.int .i64 x0], .cells [.int .i64 y0], .arr 51 1 1 (gl w h (layX w2 h2 f2 x0 y0 Q f)), .cells [.int .i64 w, .int .i64 h, .own 3 1]] (.tup [])
   [.cells [.int .i64 w2, .int .i64 h2, .ls 1 (gl w2 h2 f2)], .cells [.int .i64 x0], .cells [.int .i64 y0], .arr 51 1 1 (gl w h (layX w2 h2 f2 x0 y0 (fun X Y => Q X Y \/ (Y = y /\ a <= X /\ X < b)) f)), .cells [.int .i64 w, .int .i64 h, .own 3 1]] := by
 have hm := yo hw hh
 refine Qf (by rfl) ?_
 dsimp only [c_grid_Grid_Lay_1, qM, jn,jH,jO,jq,jF,jJ,jo,jG,jI,iteR,regK,jh,jc,jk,jj,jb,ji,blkK,kp,kd,jd,ja,jx,fpOk,foot,km,allN,memN,jK,jl,jr,jv,jt,ju,jf,jg,je,newN,jw,jN,jP,jY,jQ,jM,jS,jz,jA,jC,jD,jE,jm,jB,evX,evL,evB,rd,get,subG,memG,jT,jV,hyps,gob,impP,allP,j1,jX,j3,kj,nth,j8,kh,jU,lenB,kg,jR,entN,setE,jZ,addE,setL,setN,putE,env0,eqCs,j6,eqC,bA,bO,bN,bE,negB,kEq,ke,j5,lend,frz,frzL,zRow,j9,j7,closed,jy,jW,binI,remP,remI,retK,retG,ko,retD,ki,resL,resD,oneD,renD,renL,renE,j0,rho,jL,j4,zla,zlb,zlc,zld,zca,zcb,o1,o0,og,Nat.reduceBEq,Nat.reduceAdd,Nat.beq]
 have e0 : Q = fun X Y => Q X Y \/ (Y = y /\ a <= X /\ X < a) := vD fun X Y => ⟨.inl, fun h => h.elim id fun h => by omega⟩
 refine kG (α := {x : Int // a <= x /\ x <= b})
  (fun x => ⟨[(0, [], .int .i64 y), (2, [], .int .i64 b), (3, [], .box 0 0), (4, [], .box 1 0), (5, [], .box 2 0), (6, [], .box 4 0), (10, [], .int .i64 x.1)],
    [.cells [.int .i64 w2, .int .i64 h2, .ls 1 (gl w2 h2 f2)], .cells [.int .i64 x0], .cells [.int .i64 y0], .arr 51 1 1 (gl w h (layX w2 h2 f2 x0 y0 (fun X Y => Q X Y \/ (Y = y /\ a <= X /\ X < x.1)) f)), .cells [.int .i64 w, .int .i64 h, .own 3 1]]⟩)
  (fun x => (b - x.1).toNat) ?_ ⟨a, by omega⟩ (by dsimp only; rw [<- e0])
 rintro ⟨x, hx⟩ I ih
 dsimp only at hx |-
 dsimp only [c_grid_Grid_Lay_1, qM, jn,jH,jO,jq,jF,jJ,jo,jG,jI,iteR,regK,jh,jc,jk,jj,jb,ji,blkK,kp,kd,jd,ja,jx,fpOk,foot,km,allN,memN,jK,jl,jr,jv,jt,ju,jf,jg,je,newN,jw,jN,jP,jY,jQ,jM,jS,jz,jA,jC,jD,jE,jm,jB,evX,evL,evB,rd,get,subG,memG,jT,jV,hyps,gob,impP,allP,j1,jX,j3,kj,nth,j8,kh,jU,lenB,kg,jR,entN,setE,jZ,addE,setL,setN,putE,env0,eqCs,j6,eqC,bA,bO,bN,bE,negB,kEq,ke,j5,lend,frz,frzL,zRow,j9,j7,closed,jy,jW,binI,remP,remI,retK,retG,ko,retD,ki,resL,resD,oneD,renD,renL,renE,j0,rho,jL,j4,zla,zlb,zlc,zld,zca,zcb,o1,o0,og,Nat.reduceBEq,Nat.reduceAdd,Nat.beq]
 have e2 : (fun X Y => (Q X Y \/ (Y = y /\ a <= X /\ X < x)) \/ (Y = y /\ X = x)) = fun X Y => Q X Y \/ (Y = y /\ a <= X /\ X < x + 1) := vD fun X Y => by
  constructor
  ·rintro ((h | h) | h)
   ·exact .inl h
   ·exact .inr (by omega)
   ·exact .inr (by omega)
  ·rintro (h | h)
   ·exact .inl (.inl h)
   ·by_cases hX : X = x
    ·exact .inr (by omega)
    ·exact .inl (.inr (by omega))
 refine ⟨fun hlt => ?_, fun hge => ?_⟩
 ·simp only [decide_eq_true_eq] at hlt
  have hp : inP w h x y := ⟨by omega, hy⟩
  obtain ⟨g1, g2, g3, g4⟩ := jG3 hp
  refine ⟨by simp only [fits]; omega, by simp only [fits]; omega, kq jN5 ?_⟩
  dsimp only [c_grid_Grid_Lay_1, qM, jn,jH,jO,jq,jF,jJ,jo,jG,jI,iteR,regK,jh,jc,jk,jj,jb,ji,blkK,kp,kd,jd,ja,jx,fpOk,foot,km,allN,memN,jK,jl,jr,jv,jt,ju,jf,jg,je,newN,jw,jN,jP,jY,jQ,jM,jS,jz,jA,jC,jD,jE,jm,jB,evX,evL,evB,rd,get,subG,memG,jT,jV,hyps,gob,impP,allP,j1,jX,j3,kj,nth,j8,kh,jU,lenB,kg,jR,entN,setE,jZ,addE,setL,setN,putE,env0,eqCs,j6,eqC,bA,bO,bN,bE,negB,kEq,ke,j5,lend,frz,frzL,zRow,j9,j7,closed,jy,jW,binI,remP,remI,retK,retG,ko,retD,ki,resL,resD,oneD,renD,renL,renE,j0,rho,jL,j4,zla,zlb,zlc,zld,zca,zcb,o1,o0,og,Nat.reduceBEq,Nat.reduceAdd,Nat.beq]
  refine ⟨fun hyes => ?_, fun hno => ?_⟩
  ·have hp2 := jG5.1 hyes
   refine ⟨by simp only [fits]; omega, by simp only [fits]; omega, by simp only [fits]; omega, by simp only [fits]; omega, kq (jO2 hw2 hh2 hp2) ?_⟩
   dsimp only [c_grid_Grid_Lay_1, qM, jn,jH,jO,jq,jF,jJ,jo,jG,jI,iteR,regK,jh,jc,jk,jj,jb,ji,blkK,kp,kd,jd,ja,jx,fpOk,foot,km,allN,memN,jK,jl,jr,jv,jt,ju,jf,jg,je,newN,jw,jN,jP,jY,jQ,jM,jS,jz,jA,jC,jD,jE,jm,jB,evX,evL,evB,rd,get,subG,memG,jT,jV,hyps,gob,impP,allP,j1,jX,j3,kj,nth,j8,kh,jU,lenB,kg,jR,entN,setE,jZ,addE,setL,setN,putE,env0,eqCs,j6,eqC,bA,bO,bN,bE,negB,kEq,ke,j5,lend,frz,frzL,zRow,j9,j7,closed,jy,jW,binI,remP,remI,retK,retG,ko,retD,ki,resL,resD,oneD,renD,renL,renE,j0,rho,jL,j4,zla,zlb,zlc,zld,zca,zcb,o1,o0,og,Nat.reduceBEq,Nat.reduceAdd,Nat.beq]
   refine ⟨⟨rfl, rfl, g1, by rw [Kt]; exact g2⟩, ⟨rfl, rfl⟩, zf (hs := []) _ _ (jT6 hp) rfl ?_⟩
   dsimp only [c_grid_Grid_Lay_1, qM, jn,jH,jO,jq,jF,jJ,jo,jG,jI,iteR,regK,jh,jc,jk,jj,jb,ji,blkK,kp,kd,jd,ja,jx,fpOk,foot,km,allN,memN,jK,jl,jr,jv,jt,ju,jf,jg,je,newN,jw,jN,jP,jY,jQ,jM,jS,jz,jA,jC,jD,jE,jm,jB,evX,evL,evB,rd,get,subG,memG,jT,jV,hyps,gob,impP,allP,j1,jX,j3,kj,nth,j8,kh,jU,lenB,kg,jR,entN,setE,jZ,addE,setL,setN,putE,env0,eqCs,j6,eqC,bA,bO,bN,bE,negB,kEq,ke,j5,lend,frz,frzL,zRow,j9,j7,closed,jy,jW,binI,remP,remI,retK,retG,ko,retD,ki,resL,resD,oneD,renD,renL,renE,j0,rho,jL,j4,zla,zlb,zlc,zld,zca,zcb,o1,o0,og,Nat.reduceBEq,Nat.reduceAdd,Nat.beq]
   have e1 : updX (layX w2 h2 f2 x0 y0 (fun X Y => Q X Y \/ (Y = y /\ a <= X /\ X < x)) f) x y (f2 (x - x0) (y - y0)) = layX w2 h2 f2 x0 y0 (fun X Y => Q X Y \/ (Y = y /\ a <= X /\ X < x + 1)) f := by
    unfold layX
    have := onX_upd (Q := fun X Y => (Q X Y \/ (Y = y /\ a <= X /\ X < x)) /\ inP w2 h2 (X - x0) (Y - y0)) (s := fun X Y => f2 (X - x0) (Y - y0)) (f := f) (x := x) (y := y)
    rw [this, <- e2]
    congr 1
    refine vD fun X Y => ?_
    constructor
    ·rintro (⟨h5, h6⟩ | h5)
     ·exact ⟨.inl h5, h6⟩
     ·obtain ⟨rfl, rfl⟩ := h5
      exact ⟨.inr ⟨rfl, rfl⟩, hp2⟩
    ·rintro ⟨h5 | h5, h6⟩
     ·exact .inl ⟨h5, h6⟩
     ·exact .inr h5
   rw [gl_set hp, e1]
   exact ⟨by simp only [fits]; omega, qa (ih ⟨x + 1, by omega⟩ (by dsimp only; omega)) ⟨rfl, rfl, rfl, rfl, rfl, rfl, by simp [get], trivial⟩ ⟨rfl, rfl, rfl, rfl, rfl, trivial⟩ rfl rfl⟩
  ·have hp2 : ¬ inP w2 h2 (x - x0) (y - y0) := fun hp2 => by rw [jG4 hp2] at hno; cases hno
   have e1 : layX w2 h2 f2 x0 y0 (fun X Y => Q X Y \/ (Y = y /\ a <= X /\ X < x)) f = layX w2 h2 f2 x0 y0 (fun X Y => Q X Y \/ (Y = y /\ a <= X /\ X < x + 1)) f := by
    unfold layX
    rw [<- e2]
    congr 1
    refine vD fun X Y => ?_
    constructor
    ·rintro ⟨h5, h6⟩; exact ⟨.inl h5, h6⟩
    ·rintro ⟨h5 | h5, h6⟩
     ·exact ⟨h5, h6⟩
     ·obtain ⟨rfl, rfl⟩ := h5
      exact absurd h6 hp2
   rw [e1]
   exact ⟨by simp only [fits]; omega, qa (ih ⟨x + 1, by omega⟩ (by dsimp only; omega)) ⟨rfl, rfl, rfl, rfl, rfl, rfl, by simp [get], trivial⟩ ⟨rfl, rfl, rfl, rfl, rfl, trivial⟩ rfl rfl⟩
 ·simp only [decide_eq_false_iff_not] at hge
  have : x = b := by omega
  subst this
  exact Rt.id
theorem sp_Lay {w h w2 h2 : Nat} {f f2 : Px} {x0 y0 : Int} {P : Int -> Int -> Prop} (hw : w <= 128) (hh : h <= 128) (hw2 : w2 <= 128) (hh2 : h2 <= 128) (hx0 : -1048576 <= x0 /\ x0 <= 1048576) (hy0 : -1048576 <= y0 /\ y0 <= 1048576) (hP : Bdd P) (hl : (reg P).length <= 1048576) :
  TSp 21 [gD w h f, gD w2 h2 f2, .int .i64 x0, .int .i64 y0, .agg [.ls 4 (rcs (reg P))]] (gD w h (layX w2 h2 f2 x0 y0 P f)) := by
 have hm := yo hw hh
 refine Zu (by rfl) ?_
 dsimp only [c_grid_Grid_Lay, ze, jn,jH,jO,jq,jF,jJ,jo,jG,jI,iteR,regK,jh,jc,jk,jj,jb,ji,blkK,kp,kd,jd,ja,jx,fpOk,foot,km,allN,memN,jK,jl,jr,jv,jt,ju,jf,jg,je,newN,jw,jN,jP,jY,jQ,jM,jS,jz,jA,jC,jD,jE,jm,jB,evX,evL,evB,rd,get,subG,memG,jT,jV,hyps,gob,impP,allP,j1,jX,j3,kj,nth,j8,kh,jU,lenB,kg,jR,entN,setE,jZ,addE,setL,setN,putE,env0,eqCs,j6,eqC,bA,bO,bN,bE,negB,kEq,ke,j5,lend,frz,frzL,zRow,j9,j7,closed,jy,jW,binI,remP,remI,retK,retG,ko,retD,ki,resL,resD,oneD,renD,renL,renE,j0,rho,jL,j4,zla,zlb,zlc,zld,zca,zcb,o1,o0,og,Nat.reduceBEq,Nat.reduceAdd,Nat.beq]
 refine kq je1 ?_
 dsimp only [c_grid_Grid_Lay, ze, jn,jH,jO,jq,jF,jJ,jo,jG,jI,iteR,regK,jh,jc,jk,jj,jb,ji,blkK,kp,kd,jd,ja,jx,fpOk,foot,km,allN,memN,jK,jl,jr,jv,jt,ju,jf,jg,je,newN,jw,jN,jP,jY,jQ,jM,jS,jz,jA,jC,jD,jE,jm,jB,evX,evL,evB,rd,get,subG,memG,jT,jV,hyps,gob,impP,allP,j1,jX,j3,kj,nth,j8,kh,jU,lenB,kg,jR,entN,setE,jZ,addE,setL,setN,putE,env0,eqCs,j6,eqC,bA,bO,bN,bE,negB,kEq,ke,j5,lend,frz,frzL,zRow,j9,j7,closed,jy,jW,binI,remP,remI,retK,retG,ko,retD,ki,resL,resD,oneD,renD,renL,renE,j0,rho,jL,j4,zla,zlb,zlc,zld,zca,zcb,o1,o0,og,Nat.reduceBEq,Nat.reduceAdd,Nat.beq]
 refine kq (fun _ => je1) ?_
 dsimp only [c_grid_Grid_Lay, ze, jn,jH,jO,jq,jF,jJ,jo,jG,jI,iteR,regK,jh,jc,jk,jj,jb,ji,blkK,kp,kd,jd,ja,jx,fpOk,foot,km,allN,memN,jK,jl,jr,jv,jt,ju,jf,jg,je,newN,jw,jN,jP,jY,jQ,jM,jS,jz,jA,jC,jD,jE,jm,jB,evX,evL,evB,rd,get,subG,memG,jT,jV,hyps,gob,impP,allP,j1,jX,j3,kj,nth,j8,kh,jU,lenB,kg,jR,entN,setE,jZ,addE,setL,setN,putE,env0,eqCs,j6,eqC,bA,bO,bN,bE,negB,kEq,ke,j5,lend,frz,frzL,zRow,j9,j7,closed,jy,jW,binI,remP,remI,retK,retG,ko,retD,ki,resL,resD,oneD,renD,renL,renE,j0,rho,jL,j4,zla,zlb,zlc,zld,zca,zcb,o1,o0,og,Nat.reduceBEq,Nat.reduceAdd,Nat.beq]
 refine ⟨fun hc => ?_, fun _ => ?_⟩
 ·simp only [Bool.or_eq_true, Bool.not_eq_true', Bool.and_eq_false_iff, decide_eq_false_iff_not] at hc; omega
 refine kX [] (sm_twin hw hh) rfl rfl ?_
 dsimp only [c_grid_Grid_Lay, ze, jn,jH,jO,jq,jF,jJ,jo,jG,jI,iteR,regK,jh,jc,jk,jj,jb,ji,blkK,kp,kd,jd,ja,jx,fpOk,foot,km,allN,memN,jK,jl,jr,jv,jt,ju,jf,jg,je,newN,jw,jN,jP,jY,jQ,jM,jS,jz,jA,jC,jD,jE,jm,jB,evX,evL,evB,rd,get,subG,memG,jT,jV,hyps,gob,impP,allP,j1,jX,j3,kj,nth,j8,kh,jU,lenB,kg,jR,entN,setE,jZ,addE,setL,setN,putE,env0,eqCs,j6,eqC,bA,bO,bN,bE,negB,kEq,ke,j5,lend,frz,frzL,zRow,j9,j7,closed,jy,jW,binI,remP,remI,retK,retG,ko,retD,ki,resL,resD,oneD,renD,renL,renE,j0,rho,jL,j4,zla,zlb,zlc,zld,zca,zcb,o1,o0,og,Nat.reduceBEq,Nat.reduceAdd,Nat.beq]
 have hsp := jJ0 (R := fun Q => gl w h (layX w2 h2 f2 x0 y0 Q f)) (w2 := w2) (h2 := h2) (x0 := x0) (y0 := y0) (pix := gl w2 h2 f2) hw hh (x9 hP) hl (fun Q y a b hy hab => jO8 hw hh hw2 hh2 hx0 hy0 Q y a b hy hab)
 have e0 : layX w2 h2 f2 x0 y0 (fun _ _ => False) f = f := by
  unfold layX
  rw [show (fun X Y : Int => False /\ inP w2 h2 (X - x0) (Y - y0)) = fun _ _ => False from vD fun _ _ => ⟨fun h => h.1, fun h => h.elim⟩, onX_no]
 rw [e0] at hsp
 refine kX [1, 2, 3, 6, 7] hsp rfl rfl ?_
 dsimp only [c_grid_Grid_Lay, ze, jn,jH,jO,jq,jF,jJ,jo,jG,jI,iteR,regK,jh,jc,jk,jj,jb,ji,blkK,kp,kd,jd,ja,jx,fpOk,foot,km,allN,memN,jK,jl,jr,jv,jt,ju,jf,jg,je,newN,jw,jN,jP,jY,jQ,jM,jS,jz,jA,jC,jD,jE,jm,jB,evX,evL,evB,rd,get,subG,memG,jT,jV,hyps,gob,impP,allP,j1,jX,j3,kj,nth,j8,kh,jU,lenB,kg,jR,entN,setE,jZ,addE,setL,setN,putE,env0,eqCs,j6,eqC,bA,bO,bN,bE,negB,kEq,ke,j5,lend,frz,frzL,zRow,j9,j7,closed,jy,jW,binI,remP,remI,retK,retG,ko,retD,ki,resL,resD,oneD,renD,renL,renE,j0,rho,jL,j4,zla,zlb,zlc,zld,zca,zcb,o1,o0,og,Nat.reduceBEq,Nat.reduceAdd,Nat.beq]
 have : gl w h (layX w2 h2 f2 x0 y0 (fun X Y => pts (reg P) X Y /\ inP w h X Y) f) = gl w h (layX w2 h2 f2 x0 y0 P f) := gl_ext fun x y hp => by
  exact jK0 (by (try dsimp only); rw [y7 hP]; exact ⟨fun h => ⟨h.1.1, h.2⟩, fun h => ⟨⟨h.1, hp⟩, h.2⟩⟩)
 rw [this]
 exact ⟨rfl, rfl⟩
end Go.AM
