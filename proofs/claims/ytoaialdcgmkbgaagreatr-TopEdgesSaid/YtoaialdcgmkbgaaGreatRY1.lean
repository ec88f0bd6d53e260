import Derived.Test.YtoaialdcgmkbgaaGreatRCode
import Derived.Test.YtoaialdcgmkbgaaGreatRU3
import Derived.Test.YtoaialdcgmkbgaaGreatRA32
import Derived.Test.YtoaialdcgmkbgaaGreatRK1

set_option linter.all false
namespace Go.AM
open Go Go.Proofs
def rD (r : Rc) : D := .agg [.int .i64 r.x, .int .i64 r.y, .int .i64 r.w, .int .i64 r.h]
def Rc.o : Rc := ⟨0, 0, 0, 0⟩
def Rc.In (r : Rc) : Prop := fits .i64 r.x ∧ fits .i64 r.y ∧ fits .i64 r.w ∧ fits .i64 r.h
def Rc.eq (a b : Rc) : Bool := decide (a.x = b.x) && (decide (a.y = b.y) && (decide (a.w = b.w) && decide (a.h = b.h)))
theorem Rc.eq_iff {a b : Rc} : a.eq b = true ↔ a = b := by
 cases a; cases b; simp [Rc.eq]
def fitsB (a n : Int) : Bool := decide (-1048576 ≤ a) && decide (1 ≤ n) && decide (n ≤ 1048576 - a)
def Vr (r : Rc) : Prop := -1048576 ≤ r.x ∧ -1048576 ≤ r.y ∧ 1 ≤ r.w ∧ 1 ≤ r.h ∧ r.w ≤ 1048576 - r.x ∧ r.h ≤ 1048576 - r.y
def Vz (r : Rc) : Prop := r = .o ∨ Vr r
theorem Vr.in {r : Rc} (h : Vr r) : r.In := by unfold Vr at h; simp only [Rc.In, fits]; omega
theorem In_o : Rc.o.In := by simp [Rc.In, Rc.o, fits]
theorem Vz.in {r : Rc} (h : Vz r) : r.In := h.elim (fun h => h ▸ In_o) Vr.in
theorem fitsB_iff {a n : Int} : fitsB a n = true ↔ -1048576 ≤ a ∧ 1 ≤ n ∧ n ≤ 1048576 - a := by simp [fitsB, and_assoc]
end Go.AM


set_option linter.all false
namespace Go.AM
open Go Go.Proofs
def cntB (r : Rc) : Bool := fitsB r.x r.w && fitsB r.y r.h
theorem Xj {r : Rc} : cntB r = true ↔ Vr r := by
 simp only [cntB, Bool.and_eq_true, fitsB_iff, Vr]
 omega
theorem K9 {a n : Int} (ha : fits .i64 a) : TSp 121 [.int .i64 a, .int .i64 n] (.bool (fitsB a n)) := by
 refine Xu (by rfl) ?_
 dsimp only [c_band_fits, Ju, jo,jK,jT,jr,jI,jM,jq,jJ,jL,iteR,regK,ji,jc,jl,jk,jb,jj,blkK,kt,kh,jd,ja,jy,fpOk,foot,kq,allN,memN,jN,jm,js,jw,jv,jt,ju,jg,jh,jf,je,newN,jx,jS,jU,jX,jO,jP,jQ,jz,jA,jE,jB,jC,jn,jD,jF,jG,j7,evX,evL,evB,rd,get,subG,memG,jY,jW,hyps,gob,impP,allP,j5,j2,j4,kp,nth,ke,km,jZ,lenB,kj,jV,entN,setE,j0,addE,setL,setN,putE,env0,eqCs,j9,eqC,bA,bO,bN,bE,negB,kEq,ki,j8,lend,frz,frzL,zRow,kg,kd,closed,jH,j1,binI,remP,remI,retK,retG,kr,retD,ko,resL,resD,oneD,renD,renL,renE,j3,rho,jR,j6,List.append,List.nil_append,List.cons_append,List.append_nil,cond,Nat.reduceBEq,Nat.reduceAdd,Nat.beq]
 refine ⟨fun h => ?_, ?_⟩
 ·simp only [fits, Bool.and_eq_true, decide_eq_true_eq] at *
  omega
 ·congr 1
theorem Vu {r : Rc} (hr : r.In) : TSp 58 [rD r] (.bool (cntB r)) := by
 refine ZM (by rfl) ?_
 dsimp only [c_band_counts, z7, rD, jo,jK,jT,jr,jI,jM,jq,jJ,jL,iteR,regK,ji,jc,jl,jk,jb,jj,blkK,kt,kh,jd,ja,jy,fpOk,foot,kq,allN,memN,jN,jm,js,jw,jv,jt,ju,jg,jh,jf,je,newN,jx,jS,jU,jX,jO,jP,jQ,jz,jA,jE,jB,jC,jn,jD,jF,jG,j7,evX,evL,evB,rd,get,subG,memG,jY,jW,hyps,gob,impP,allP,j5,j2,j4,kp,nth,ke,km,jZ,lenB,kj,jV,entN,setE,j0,addE,setL,setN,putE,env0,eqCs,j9,eqC,bA,bO,bN,bE,negB,kEq,ki,j8,lend,frz,frzL,zRow,kg,kd,closed,jH,j1,binI,remP,remI,retK,retG,kr,retD,ko,resL,resD,oneD,renD,renL,renE,j3,rho,jR,j6,List.append,List.nil_append,List.cons_append,List.append_nil,cond,Nat.reduceBEq,Nat.reduceAdd,Nat.beq]
 refine kx (K9 hr.1) ?_
 dsimp only [c_band_counts, z7, jo,jK,jT,jr,jI,jM,jq,jJ,jL,iteR,regK,ji,jc,jl,jk,jb,jj,blkK,kt,kh,jd,ja,jy,fpOk,foot,kq,allN,memN,jN,jm,js,jw,jv,jt,ju,jg,jh,jf,je,newN,jx,jS,jU,jX,jO,jP,jQ,jz,jA,jE,jB,jC,jn,jD,jF,jG,j7,evX,evL,evB,rd,get,subG,memG,jY,jW,hyps,gob,impP,allP,j5,j2,j4,kp,nth,ke,km,jZ,lenB,kj,jV,entN,setE,j0,addE,setL,setN,putE,env0,eqCs,j9,eqC,bA,bO,bN,bE,negB,kEq,ki,j8,lend,frz,frzL,zRow,kg,kd,closed,jH,j1,binI,remP,remI,retK,retG,kr,retD,ko,resL,resD,oneD,renD,renL,renE,j3,rho,jR,j6,List.append,List.nil_append,List.cons_append,List.append_nil,cond,Nat.reduceBEq,Nat.reduceAdd,Nat.beq]
 refine kx (fun _ => K9 hr.2.1) ?_
 dsimp only [c_band_counts, z7, jo,jK,jT,jr,jI,jM,jq,jJ,jL,iteR,regK,ji,jc,jl,jk,jb,jj,blkK,kt,kh,jd,ja,jy,fpOk,foot,kq,allN,memN,jN,jm,js,jw,jv,jt,ju,jg,jh,jf,je,newN,jx,jS,jU,jX,jO,jP,jQ,jz,jA,jE,jB,jC,jn,jD,jF,jG,j7,evX,evL,evB,rd,get,subG,memG,jY,jW,hyps,gob,impP,allP,j5,j2,j4,kp,nth,ke,km,jZ,lenB,kj,jV,entN,setE,j0,addE,setL,setN,putE,env0,eqCs,j9,eqC,bA,bO,bN,bE,negB,kEq,ki,j8,lend,frz,frzL,zRow,kg,kd,closed,jH,j1,binI,remP,remI,retK,retG,kr,retD,ko,resL,resD,oneD,renD,renL,renE,j3,rho,jR,j6,List.append,List.nil_append,List.cons_append,List.append_nil,cond,Nat.reduceBEq,Nat.reduceAdd,Nat.beq]
 rfl
def rcs (l : List Rc) : List D := l.map rD
theorem Qc {r : Rc} {y : Int} (h : fits .i64 (r.y + r.h)) : TSpM 65 [rD r, .box 0 0] [.cells [.int .i64 y]] (.bool (decide (r.y + r.h ≤ y))) [.cells [.int .i64 y]] := by
 refine Xw (by rfl) ?_
 dsimp only [c_band_Of_2, Jv, rD, jo,jK,jT,jr,jI,jM,jq,jJ,jL,iteR,regK,ji,jc,jl,jk,jb,jj,blkK,kt,kh,jd,ja,jy,fpOk,foot,kq,allN,memN,jN,jm,js,jw,jv,jt,ju,jg,jh,jf,je,newN,jx,jS,jU,jX,jO,jP,jQ,jz,jA,jE,jB,jC,jn,jD,jF,jG,j7,evX,evL,evB,rd,get,subG,memG,jY,jW,hyps,gob,impP,allP,j5,j2,j4,kp,nth,ke,km,jZ,lenB,kj,jV,entN,setE,j0,addE,setL,setN,putE,env0,eqCs,j9,eqC,bA,bO,bN,bE,negB,kEq,ki,j8,lend,frz,frzL,zRow,kg,kd,closed,jH,j1,binI,remP,remI,retK,retG,kr,retD,ko,resL,resD,oneD,renD,renL,renE,j3,rho,jR,j6,List.append,List.nil_append,List.cons_append,List.append_nil,cond,Nat.reduceBEq,Nat.reduceAdd,Nat.beq]
 refine ⟨h, ?_⟩
 exact Rt.cut (Nat.le_refl _) ⟨rfl, trivial⟩ rfl rfl
end Go.AM


set_option linter.all false
namespace Go.AM
open Go Go.Proofs
abbrev gD (w h : Nat) (f : Px) : D := .agg [.int .i64 w, .int .i64 h, .ls 1 (gl w h f)]
theorem sp_side {n : Int} : TSp 73 [.int .i64 n] (.bool (decide (1 ≤ n) && decide (n ≤ 128))) := by
 refine Xt (by rfl) ?_
 dsimp only [c_grid_side, Jt, jo,jK,jT,jr,jI,jM,jq,jJ,jL,iteR,regK,ji,jc,jl,jk,jb,jj,blkK,kt,kh,jd,ja,jy,fpOk,foot,kq,allN,memN,jN,jm,js,jw,jv,jt,ju,jg,jh,jf,je,newN,jx,jS,jU,jX,jO,jP,jQ,jz,jA,jE,jB,jC,jn,jD,jF,jG,j7,evX,evL,evB,rd,get,subG,memG,jY,jW,hyps,gob,impP,allP,j5,j2,j4,kp,nth,ke,km,jZ,lenB,kj,jV,entN,setE,j0,addE,setL,setN,putE,env0,eqCs,j9,eqC,bA,bO,bN,bE,negB,kEq,ki,j8,lend,frz,frzL,zRow,kg,kd,closed,jH,j1,binI,remP,remI,retK,retG,kr,retD,ko,resL,resD,oneD,renD,renL,renE,j3,rho,jR,j6,List.append,List.nil_append,List.cons_append,List.append_nil,cond,Nat.reduceBEq,Nat.reduceAdd,Nat.beq]
theorem Yy {w h : Nat} {f : Px} : TSp 10 [gD w h f] (.tup [.int .i64 w, .int .i64 h]) := by
 refine Kq (by rfl) ?_
 dsimp only [c_grid_Grid_Size, vT, jo,jK,jT,jr,jI,jM,jq,jJ,jL,iteR,regK,ji,jc,jl,jk,jb,jj,blkK,kt,kh,jd,ja,jy,fpOk,foot,kq,allN,memN,jN,jm,js,jw,jv,jt,ju,jg,jh,jf,je,newN,jx,jS,jU,jX,jO,jP,jQ,jz,jA,jE,jB,jC,jn,jD,jF,jG,j7,evX,evL,evB,rd,get,subG,memG,jY,jW,hyps,gob,impP,allP,j5,j2,j4,kp,nth,ke,km,jZ,lenB,kj,jV,entN,setE,j0,addE,setL,setN,putE,env0,eqCs,j9,eqC,bA,bO,bN,bE,negB,kEq,ki,j8,lend,frz,frzL,zRow,kg,kd,closed,jH,j1,binI,remP,remI,retK,retG,kr,retD,ko,resL,resD,oneD,renD,renL,renE,j3,rho,jR,j6,List.append,List.nil_append,List.cons_append,List.append_nil,cond,Nat.reduceBEq,Nat.reduceAdd,Nat.beq]
theorem qQ {w h : Nat} (hw : w ≤ 128) (hh : h ≤ 128) : w * h ≤ 16384 := by
 have := Nat.mul_le_mul hw hh
 omega
theorem sm_twin {w h : Nat} {f : Px} (hw : w ≤ 128) (hh : h ≤ 128) : TSpM 78 [gD w h f] [] (.agg [.int .i64 w, .int .i64 h, .own 0 1]) [.arr 51 1 1 (gl w h f)] := by
 have hm := qQ hw hh
 refine Kt (by rfl) ?_
 dsimp only [c_grid_Grid_twin, vS, jo,jK,jT,jr,jI,jM,jq,jJ,jL,iteR,regK,ji,jc,jl,jk,jb,jj,blkK,kt,kh,jd,ja,jy,fpOk,foot,kq,allN,memN,jN,jm,js,jw,jv,jt,ju,jg,jh,jf,je,newN,jx,jS,jU,jX,jO,jP,jQ,jz,jA,jE,jB,jC,jn,jD,jF,jG,j7,evX,evL,evB,rd,get,subG,memG,jY,jW,hyps,gob,impP,allP,j5,j2,j4,kp,nth,ke,km,jZ,lenB,kj,jV,entN,setE,j0,addE,setL,setN,putE,env0,eqCs,j9,eqC,bA,bO,bN,bE,negB,kEq,ki,j8,lend,frz,frzL,zRow,kg,kd,closed,jH,j1,binI,remP,remI,retK,retG,kr,retD,ko,resL,resD,oneD,renD,renL,renE,j3,rho,jR,j6,List.append,List.nil_append,List.cons_append,List.append_nil,cond,Nat.reduceBEq,Nat.reduceAdd,Nat.beq]
 rw [zx]
 refine ⟨⟨by omega, by omega, by omega⟩, ⟨rfl, rfl, rfl, rfl⟩, ?_⟩
 have hov : over (List.replicate ((w * h : Nat) : Int).toNat (.int .u8 0)) (gl w h f) = gl w h f := by
  unfold over
  rw [Int.toNat_natCast, List.length_replicate, List.take_of_length_le (by rw [zx]; omega), List.drop_eq_nil_of_le (by rw [List.length_replicate, zx]; unfold minN; split <;> omega), List.append_nil]
 rw [hov]
 exact Rt.pick [2] rfl rfl rfl
end Go.AM


set_option linter.all false
namespace Go.AM
open Go Go.Proofs
def JF (n i : Nat) (v : Int) : List D := List.replicate i (.int .u8 v) ++ List.replicate (n - i) (.int .u8 0)
theorem fillR_len {n i : Nat} {v : Int} (h : i ≤ n) : (JF n i v).length = n := by simp [JF]; omega
theorem fillR_get {n i : Nat} {v : Int} (h : i < n) : (JF n i v)[i]? = some (.int .u8 0) := by
 unfold JF
 rw [List.getElem?_append_right (by simp), List.length_replicate, Nat.sub_self, List.getElem?_replicate, if_pos (by omega)]
theorem fillR_set {n i : Nat} {v : Int} (h : i < n) : (JF n i v).set i (.int .u8 v) = JF n (i + 1) v := by
 unfold JF
 rw [List.set_append_right _ _ (by simp)]
 rw [show n - i = (n - (i + 1)) + 1 by omega, List.replicate_succ, List.length_replicate, Nat.sub_self, List.set_cons_zero, List.replicate_succ', List.append_assoc]
 rfl
theorem natMul (w h : Nat) : ((w : Int) * (h : Int)) = ((w * h : Nat) : Int) := by simp
theorem sp_New {w h : Nat} {v : Int} (hw : 1 ≤ w ∧ w ≤ 128) (hh : 1 ≤ h ∧ h ≤ 128) : TSp 27 [.int .i64 w, .int .i64 h, .int .u8 v] (.tup [gD w h fun _ _ => v, .int .i64 0]) := by
 have hm := qQ hw.2 hh.2
 refine Yu (by rfl) ?_
 dsimp only [c_grid_New, vt, jo,jK,jT,jr,jI,jM,jq,jJ,jL,iteR,regK,ji,jc,jl,jk,jb,jj,blkK,kt,kh,jd,ja,jy,fpOk,foot,kq,allN,memN,jN,jm,js,jw,jv,jt,ju,jg,jh,jf,je,newN,jx,jS,jU,jX,jO,jP,jQ,jz,jA,jE,jB,jC,jn,jD,jF,jG,j7,evX,evL,evB,rd,get,subG,memG,jY,jW,hyps,gob,impP,allP,j5,j2,j4,kp,nth,ke,km,jZ,lenB,kj,jV,entN,setE,j0,addE,setL,setN,putE,env0,eqCs,j9,eqC,bA,bO,bN,bE,negB,kEq,ki,j8,lend,frz,frzL,zRow,kg,kd,closed,jH,j1,binI,remP,remI,retK,retG,kr,retD,ko,resL,resD,oneD,renD,renL,renE,j3,rho,jR,j6,List.append,List.nil_append,List.cons_append,List.append_nil,cond,Nat.reduceBEq,Nat.reduceAdd,Nat.beq]
 refine kx sp_side ?_
 dsimp only [c_grid_New, vt, jo,jK,jT,jr,jI,jM,jq,jJ,jL,iteR,regK,ji,jc,jl,jk,jb,jj,blkK,kt,kh,jd,ja,jy,fpOk,foot,kq,allN,memN,jN,jm,js,jw,jv,jt,ju,jg,jh,jf,je,newN,jx,jS,jU,jX,jO,jP,jQ,jz,jA,jE,jB,jC,jn,jD,jF,jG,j7,evX,evL,evB,rd,get,subG,memG,jY,jW,hyps,gob,impP,allP,j5,j2,j4,kp,nth,ke,km,jZ,lenB,kj,jV,entN,setE,j0,addE,setL,setN,putE,env0,eqCs,j9,eqC,bA,bO,bN,bE,negB,kEq,ki,j8,lend,frz,frzL,zRow,kg,kd,closed,jH,j1,binI,remP,remI,retK,retG,kr,retD,ko,resL,resD,oneD,renD,renL,renE,j3,rho,jR,j6,List.append,List.nil_append,List.cons_append,List.append_nil,cond,Nat.reduceBEq,Nat.reduceAdd,Nat.beq]
 refine kx (fun _ => sp_side) ?_
 dsimp only [c_grid_New, vt, jo,jK,jT,jr,jI,jM,jq,jJ,jL,iteR,regK,ji,jc,jl,jk,jb,jj,blkK,kt,kh,jd,ja,jy,fpOk,foot,kq,allN,memN,jN,jm,js,jw,jv,jt,ju,jg,jh,jf,je,newN,jx,jS,jU,jX,jO,jP,jQ,jz,jA,jE,jB,jC,jn,jD,jF,jG,j7,evX,evL,evB,rd,get,subG,memG,jY,jW,hyps,gob,impP,allP,j5,j2,j4,kp,nth,ke,km,jZ,lenB,kj,jV,entN,setE,j0,addE,setL,setN,putE,env0,eqCs,j9,eqC,bA,bO,bN,bE,negB,kEq,ki,j8,lend,frz,frzL,zRow,kg,kd,closed,jH,j1,binI,remP,remI,retK,retG,kr,retD,ko,resL,resD,oneD,renD,renL,renE,j3,rho,jR,j6,List.append,List.nil_append,List.cons_append,List.append_nil,cond,Nat.reduceBEq,Nat.reduceAdd,Nat.beq]
 refine ⟨fun hc => ?_, fun _ => ?_⟩
 ·simp only [Bool.or_eq_true, Bool.not_eq_true', Bool.and_eq_false_iff, decide_eq_false_iff_not] at hc; omega
 rw [natMul]
 refine ⟨by simp only [fits]; omega, ⟨by omega, by omega, by omega⟩, rfl, ?_⟩
 rw [List.length_replicate]
 refine kH (α := {i : Nat // i ≤ w * h})
  (fun i => ⟨[(0, [], .int .i64 w), (1, [], .int .i64 h), (2, [], .int .u8 v), (6, [], .box 0 0), (8, [], .own 1 1), (24, [], .int .i64 ((w * h : Nat) : Int)), (25, [], .int .i64 i.1)], [.cells [.int .i64 0, .int .i64 0, .ls 1 []], .arr 51 1 1 (JF (w * h) i.1 v)]⟩)
  (fun i => w * h - i.1) ?_ ⟨0, Nat.zero_le _⟩ (by simp [JF]; exact ⟨by omega, by rw [natMul, Int.toNat_natCast]⟩)
 rintro ⟨i, hi⟩ I ih
 dsimp only at hi ⊢
 dsimp only [c_grid_New, vt, jo,jK,jT,jr,jI,jM,jq,jJ,jL,iteR,regK,ji,jc,jl,jk,jb,jj,blkK,kt,kh,jd,ja,jy,fpOk,foot,kq,allN,memN,jN,jm,js,jw,jv,jt,ju,jg,jh,jf,je,newN,jx,jS,jU,jX,jO,jP,jQ,jz,jA,jE,jB,jC,jn,jD,jF,jG,j7,evX,evL,evB,rd,get,subG,memG,jY,jW,hyps,gob,impP,allP,j5,j2,j4,kp,nth,ke,km,jZ,lenB,kj,jV,entN,setE,j0,addE,setL,setN,putE,env0,eqCs,j9,eqC,bA,bO,bN,bE,negB,kEq,ki,j8,lend,frz,frzL,zRow,kg,kd,closed,jH,j1,binI,remP,remI,retK,retG,kr,retD,ko,resL,resD,oneD,renD,renL,renE,j3,rho,jR,j6,List.append,List.nil_append,List.cons_append,List.append_nil,cond,Nat.reduceBEq,Nat.reduceAdd,Nat.beq]
 refine ⟨fun hlt => ?_, fun hge => ?_⟩
 ·have hil : i < w * h := by simp only [decide_eq_true_eq] at hlt; omega
  refine ⟨⟨rfl, rfl, by omega, by rw [fillR_len hi]; omega⟩, ⟨rfl, rfl⟩, zd (hs := []) _ _ (by rw [Int.toNat_natCast]; exact fillR_get hil) rfl ?_⟩
  dsimp only [c_grid_New, vt, jo,jK,jT,jr,jI,jM,jq,jJ,jL,iteR,regK,ji,jc,jl,jk,jb,jj,blkK,kt,kh,jd,ja,jy,fpOk,foot,kq,allN,memN,jN,jm,js,jw,jv,jt,ju,jg,jh,jf,je,newN,jx,jS,jU,jX,jO,jP,jQ,jz,jA,jE,jB,jC,jn,jD,jF,jG,j7,evX,evL,evB,rd,get,subG,memG,jY,jW,hyps,gob,impP,allP,j5,j2,j4,kp,nth,ke,km,jZ,lenB,kj,jV,entN,setE,j0,addE,setL,setN,putE,env0,eqCs,j9,eqC,bA,bO,bN,bE,negB,kEq,ki,j8,lend,frz,frzL,zRow,kg,kd,closed,jH,j1,binI,remP,remI,retK,retG,kr,retD,ko,resL,resD,oneD,renD,renL,renE,j3,rho,jR,j6,List.append,List.nil_append,List.cons_append,List.append_nil,cond,Nat.reduceBEq,Nat.reduceAdd,Nat.beq]
  rw [Int.toNat_natCast, fillR_set hil]
  exact ⟨by simp only [fits]; omega, k9 (ih ⟨i + 1, hil⟩ (by dsimp only; omega)) ⟨rfl, rfl, rfl, rfl, rfl, rfl, by simp [get], trivial⟩ ⟨rfl, rfl, trivial⟩ rfl rfl⟩
 ·have hil : i = w * h := by simp only [decide_eq_false_iff_not] at hge; omega
  subst hil
  have : JF (w * h) (w * h) v = gl w h fun _ _ => v := by rw [← gl_const]; simp [JF]
  rw [this]
  exact ⟨rfl, rfl⟩
theorem sp_gSame {w h : Nat} {f g : Px} (hw : w ≤ 128) (hh : h ≤ 128) (he : ∀ x y, inP w h x y → f x y = g x y) : TSp 20 [gD w h f, gD w h g] (.bool true) := by
 have hm := qQ hw hh
 unfold gD
 rw [← JE he]
 generalize hl : gl w h f = l
 have hll : l.length ≤ 16384 := by rw [← hl, zx]; exact hm
 have hone : ∀ d ∈ l, ∃ n, d = .int .u8 n := fun d hd => by
  rw [← hl] at hd
  obtain ⟨k, _, rfl⟩ := List.mem_map.1 hd
  exact ⟨_, rfl⟩
 refine Kj (by rfl) ?_
 dsimp only [c_grid_Same, qP, jo,jK,jT,jr,jI,jM,jq,jJ,jL,iteR,regK,ji,jc,jl,jk,jb,jj,blkK,kt,kh,jd,ja,jy,fpOk,foot,kq,allN,memN,jN,jm,js,jw,jv,jt,ju,jg,jh,jf,je,newN,jx,jS,jU,jX,jO,jP,jQ,jz,jA,jE,jB,jC,jn,jD,jF,jG,j7,evX,evL,evB,rd,get,subG,memG,jY,jW,hyps,gob,impP,allP,j5,j2,j4,kp,nth,ke,km,jZ,lenB,kj,jV,entN,setE,j0,addE,setL,setN,putE,env0,eqCs,j9,eqC,bA,bO,bN,bE,negB,kEq,ki,j8,lend,frz,frzL,zRow,kg,kd,closed,jH,j1,binI,remP,remI,retK,retG,kr,retD,ko,resL,resD,oneD,renD,renL,renE,j3,rho,jR,j6,List.append,List.nil_append,List.cons_append,List.append_nil,cond,Nat.reduceBEq,Nat.reduceAdd,Nat.beq]
 refine ⟨fun h => absurd h (by simp), fun _ => ?_⟩
 refine kH (α := {i : Nat // i ≤ l.length})
  (fun i => ⟨[(3, [], .box 1 0), (20, [], .ls 1 l), (21, [], .int .i64 l.length), (22, [], .int .i64 i.1)], [.cells [.int .i64 w, .int .i64 h, .ls 1 l], .cells [.int .i64 w, .int .i64 h, .ls 1 l]]⟩)
  (fun i => l.length - i.1) ?_ ⟨0, Nat.zero_le _⟩ rfl
 rintro ⟨i, hi⟩ I ih
 dsimp only at hi ⊢
 dsimp only [c_grid_Same, qP, jo,jK,jT,jr,jI,jM,jq,jJ,jL,iteR,regK,ji,jc,jl,jk,jb,jj,blkK,kt,kh,jd,ja,jy,fpOk,foot,kq,allN,memN,jN,jm,js,jw,jv,jt,ju,jg,jh,jf,je,newN,jx,jS,jU,jX,jO,jP,jQ,jz,jA,jE,jB,jC,jn,jD,jF,jG,j7,evX,evL,evB,rd,get,subG,memG,jY,jW,hyps,gob,impP,allP,j5,j2,j4,kp,nth,ke,km,jZ,lenB,kj,jV,entN,setE,j0,addE,setL,setN,putE,env0,eqCs,j9,eqC,bA,bO,bN,bE,negB,kEq,ki,j8,lend,frz,frzL,zRow,kg,kd,closed,jH,j1,binI,remP,remI,retK,retG,kr,retD,ko,resL,resD,oneD,renD,renL,renE,j3,rho,jR,j6,List.append,List.nil_append,List.cons_append,List.append_nil,cond,Nat.reduceBEq,Nat.reduceAdd,Nat.beq]
 refine ⟨fun hlt => ?_, fun hge => rfl⟩
 have hil : i < l.length := by simpa using hlt
 obtain ⟨r, hr⟩ : ∃ r, l[i]? = some r := ⟨_, List.getElem?_eq_getElem hil⟩
 obtain ⟨n, rfl⟩ := hone r (List.mem_of_getElem? hr)
 refine ⟨⟨rfl, by omega, by omega⟩, kB _ _ (by rw [Int.toNat_natCast]; exact hr) rfl ?_⟩
 dsimp only [c_grid_Same, qP, jo,jK,jT,jr,jI,jM,jq,jJ,jL,iteR,regK,ji,jc,jl,jk,jb,jj,blkK,kt,kh,jd,ja,jy,fpOk,foot,kq,allN,memN,jN,jm,js,jw,jv,jt,ju,jg,jh,jf,je,newN,jx,jS,jU,jX,jO,jP,jQ,jz,jA,jE,jB,jC,jn,jD,jF,jG,j7,evX,evL,evB,rd,get,subG,memG,jY,jW,hyps,gob,impP,allP,j5,j2,j4,kp,nth,ke,km,jZ,lenB,kj,jV,entN,setE,j0,addE,setL,setN,putE,env0,eqCs,j9,eqC,bA,bO,bN,bE,negB,kEq,ki,j8,lend,frz,frzL,zRow,kg,kd,closed,jH,j1,binI,remP,remI,retK,retG,kr,retD,ko,resL,resD,oneD,renD,renL,renE,j3,rho,jR,j6,List.append,List.nil_append,List.cons_append,List.append_nil,cond,Nat.reduceBEq,Nat.reduceAdd,Nat.beq]
 refine ⟨⟨rfl, by omega, by omega⟩, kB _ _ (by rw [Int.toNat_natCast]; exact hr) rfl ?_⟩
 dsimp only [c_grid_Same, qP, jo,jK,jT,jr,jI,jM,jq,jJ,jL,iteR,regK,ji,jc,jl,jk,jb,jj,blkK,kt,kh,jd,ja,jy,fpOk,foot,kq,allN,memN,jN,jm,js,jw,jv,jt,ju,jg,jh,jf,je,newN,jx,jS,jU,jX,jO,jP,jQ,jz,jA,jE,jB,jC,jn,jD,jF,jG,j7,evX,evL,evB,rd,get,subG,memG,jY,jW,hyps,gob,impP,allP,j5,j2,j4,kp,nth,ke,km,jZ,lenB,kj,jV,entN,setE,j0,addE,setL,setN,putE,env0,eqCs,j9,eqC,bA,bO,bN,bE,negB,kEq,ki,j8,lend,frz,frzL,zRow,kg,kd,closed,jH,j1,binI,remP,remI,retK,retG,kr,retD,ko,resL,resD,oneD,renD,renL,renE,j3,rho,jR,j6,List.append,List.nil_append,List.cons_append,List.append_nil,cond,Nat.reduceBEq,Nat.reduceAdd,Nat.beq]
 refine ⟨fun h => absurd h (by simp), fun _ => ⟨by simp only [fits]; omega, ?_⟩⟩
 exact k9 (ih ⟨i + 1, hil⟩ (by dsimp only; omega)) ⟨rfl, rfl, rfl, by simp [get], trivial⟩ ⟨rfl, rfl, trivial⟩ rfl rfl
end Go.AM


set_option linter.all false
namespace Go.AM
open Go Go.Proofs
theorem zf {Q : Int → Int → Prop} {s f : Px} {x y : Int} (h : Q x y) : onX Q s f x y = s x y := by unfold onX; rw [if_pos h]
theorem qX {Q : Int → Int → Prop} {s f : Px} {x y : Int} (h : ¬ Q x y) : onX Q s f x y = f x y := by unfold onX; rw [if_neg h]
def rowS (w : Nat) (f : Px) (y : Int) : List UInt8 := (List.range w).map fun x : Nat => UInt8.ofNat (f (x : Int) y).toNat
theorem rowS_len {w : Nat} {f : Px} {y : Int} : (rowS w f y).length = w := by simp [rowS]
theorem rowS_D {w : Nat} {f : Px} {y : Int} (hf : Pok f) : xw (rowS w f y) = (List.range w).map fun x : Nat => D.int .u8 (f (x : Int) y) := by
 unfold xw rowS
 rw [List.map_map]
 refine List.map_congr_left fun x _ => ?_
 have := hf x y
 show D.int .u8 ((UInt8.ofNat (f (x : Int) y).toNat).toNat : Int) = _
 congr 1
 rw [UInt8.toNat_ofNat']
 omega
def segR (w : Nat) (f : Px) (y : Int) (i : Nat) : List D := (List.range i).map fun x : Nat => D.int .u8 (f (x : Int) y)
theorem segR_succ {w : Nat} {f : Px} {y : Int} {i : Nat} : segR w f y (i + 1) = segR w f y i ++ [D.int .u8 (f (i : Int) y)] := by simp [segR, List.range_succ]
theorem seg_get {w h : Nat} {f : Px} {y x : Nat} (hy : y < h) (hx : x < w) : (((gl w h f).take ((y + 1) * w)).drop (y * w))[x]? = some (.int .u8 (f x y)) := by
 have h1 : (y + 1) * w = y * w + w := by rw [Nat.add_mul]; omega
 have h2 := VV hx hy
 rw [List.getElem?_drop, List.getElem?_take_of_lt (by omega), gl, YY h2, YX hx]
theorem seg_len {w h : Nat} {f : Px} {y : Nat} (hy : y < h) : (((gl w h f).take ((y + 1) * w)).drop (y * w)).length = w := by
 have h1 : (y + 1) * w = y * w + w := by rw [Nat.add_mul]; omega
 have h2 : (y + 1) * w ≤ h * w := Nat.mul_le_mul_right _ hy
 rw [List.length_drop, List.length_take, zx, Nat.mul_comm w h]; omega
theorem sp_Row {w h : Nat} {f : Px} {y : Nat} (hw : w ≤ 128) (hh : h ≤ 128) (hy : y < h) (hf : Pok f) : TSp 57 [gD w h f, .int .i64 y] (.str (rowS w f y)) := by
 have hm := qQ hw hh
 have h2 : (y + 1) * w ≤ h * w := Nat.mul_le_mul_right _ hy
 rw [Nat.mul_comm h w] at h2
 have h3 : y * w ≤ (y + 1) * w := Nat.mul_le_mul_right _ (by omega)
 have e1 : ((y : Int) * (w : Int)) = ((y * w : Nat) : Int) := by simp
 have e2 : (((y : Int) + 1) * (w : Int)) = (((y + 1) * w : Nat) : Int) := by simp
 refine KX (by rfl) ?_
 dsimp only [c_grid_Grid_Row, qZ, jo,jK,jT,jr,jI,jM,jq,jJ,jL,iteR,regK,ji,jc,jl,jk,jb,jj,blkK,kt,kh,jd,ja,jy,fpOk,foot,kq,allN,memN,jN,jm,js,jw,jv,jt,ju,jg,jh,jf,je,newN,jx,jS,jU,jX,jO,jP,jQ,jz,jA,jE,jB,jC,jn,jD,jF,jG,j7,evX,evL,evB,rd,get,subG,memG,jY,jW,hyps,gob,impP,allP,j5,j2,j4,kp,nth,ke,km,jZ,lenB,kj,jV,entN,setE,j0,addE,setL,setN,putE,env0,eqCs,j9,eqC,bA,bO,bN,bE,negB,kEq,ki,j8,lend,frz,frzL,zRow,kg,kd,closed,jH,j1,binI,remP,remI,retK,retG,kr,retD,ko,resL,resD,oneD,renD,renL,renE,j3,rho,jR,j6,List.append,List.nil_append,List.cons_append,List.append_nil,cond,Nat.reduceBEq,Nat.reduceAdd,Nat.beq]
 refine ⟨fun hc => ?_, fun _ => ?_⟩
 ·simp only [Bool.or_eq_true, decide_eq_true_eq] at hc; omega
 rw [e1, e2, zx, Int.toNat_natCast, Int.toNat_natCast]
 refine ⟨⟨by omega, by omega, by omega⟩, by simp only [fits]; omega, by simp only [fits]; omega, by simp only [fits]; omega, ⟨rfl, by omega, by omega, by omega⟩, ?_⟩
 rw [seg_len hy]
 refine kH (α := {i : Nat // i ≤ w})
  (fun i => ⟨[(5, [], .own 1 (i.1 + 1)), (30, [], .ls 1 (((gl w h f).take ((y + 1) * w)).drop (y * w))), (31, [], .int .i64 w), (32, [], .int .i64 i.1)], [.cells [.int .i64 w, .int .i64 h, .ls 1 (gl w h f)], .arr 5 1 (i.1 + 1) (segR w f y i.1)]⟩)
  (fun i => w - i.1) ?_ ⟨0, Nat.zero_le _⟩ (by simp [segR])
 rintro ⟨i, hi⟩ I ih
 dsimp only at hi ⊢
 dsimp only [c_grid_Grid_Row, qZ, jo,jK,jT,jr,jI,jM,jq,jJ,jL,iteR,regK,ji,jc,jl,jk,jb,jj,blkK,kt,kh,jd,ja,jy,fpOk,foot,kq,allN,memN,jN,jm,js,jw,jv,jt,ju,jg,jh,jf,je,newN,jx,jS,jU,jX,jO,jP,jQ,jz,jA,jE,jB,jC,jn,jD,jF,jG,j7,evX,evL,evB,rd,get,subG,memG,jY,jW,hyps,gob,impP,allP,j5,j2,j4,kp,nth,ke,km,jZ,lenB,kj,jV,entN,setE,j0,addE,setL,setN,putE,env0,eqCs,j9,eqC,bA,bO,bN,bE,negB,kEq,ki,j8,lend,frz,frzL,zRow,kg,kd,closed,jH,j1,binI,remP,remI,retK,retG,kr,retD,ko,resL,resD,oneD,renD,renL,renE,j3,rho,jR,j6,List.append,List.nil_append,List.cons_append,List.append_nil,cond,Nat.reduceBEq,Nat.reduceAdd,Nat.beq]
 refine ⟨fun hlt => ?_, fun hge => ?_⟩
 ·have hil : i < w := by simpa using hlt
  have hsl : (segR w f y i).length = i := by simp [segR]
  refine ⟨⟨rfl, by omega, by rw [seg_len hy]; omega⟩, kB _ _ (by rw [Int.toNat_natCast]; exact seg_get hy hil) rfl ?_⟩
  dsimp only [c_grid_Grid_Row, qZ, jo,jK,jT,jr,jI,jM,jq,jJ,jL,iteR,regK,ji,jc,jl,jk,jb,jj,blkK,kt,kh,jd,ja,jy,fpOk,foot,kq,allN,memN,jN,jm,js,jw,jv,jt,ju,jg,jh,jf,je,newN,jx,jS,jU,jX,jO,jP,jQ,jz,jA,jE,jB,jC,jn,jD,jF,jG,j7,evX,evL,evB,rd,get,subG,memG,jY,jW,hyps,gob,impP,allP,j5,j2,j4,kp,nth,ke,km,jZ,lenB,kj,jV,entN,setE,j0,addE,setL,setN,putE,env0,eqCs,j9,eqC,bA,bO,bN,bE,negB,kEq,ki,j8,lend,frz,frzL,zRow,kg,kd,closed,jH,j1,binI,remP,remI,retK,retG,kr,retD,ko,resL,resD,oneD,renD,renL,renE,j3,rho,jR,j6,List.append,List.nil_append,List.cons_append,List.append_nil,cond,Nat.reduceBEq,Nat.reduceAdd,Nat.beq]
  rw [hsl]
  refine ⟨⟨rfl, rfl, rfl, rfl, by simp only [List.length_cons, List.length_nil]; omega, by simp only [List.length_cons, List.length_nil]; omega⟩, by simp only [fits]; omega, ?_⟩
  rw [← segR_succ (w := w)]
  exact k9 (ih ⟨i + 1, hil⟩ (by dsimp only; omega)) ⟨rfl, rfl, rfl, by simp [get], trivial⟩ ⟨rfl, rfl, trivial⟩ rfl rfl
 ·have hil : i = w := by have : ¬ i < w := by simpa using hge
                         omega
  subst hil
  refine ⟨⟨rfl, rfl⟩, ask_intro (.str (rowS i f y)) ⟨_, (rowS_D hf).symm, rfl⟩ ?_⟩
  dsimp only [c_grid_Grid_Row, qZ, jo,jK,jT,jr,jI,jM,jq,jJ,jL,iteR,regK,ji,jc,jl,jk,jb,jj,blkK,kt,kh,jd,ja,jy,fpOk,foot,kq,allN,memN,jN,jm,js,jw,jv,jt,ju,jg,jh,jf,je,newN,jx,jS,jU,jX,jO,jP,jQ,jz,jA,jE,jB,jC,jn,jD,jF,jG,j7,evX,evL,evB,rd,get,subG,memG,jY,jW,hyps,gob,impP,allP,j5,j2,j4,kp,nth,ke,km,jZ,lenB,kj,jV,entN,setE,j0,addE,setL,setN,putE,env0,eqCs,j9,eqC,bA,bO,bN,bE,negB,kEq,ki,j8,lend,frz,frzL,zRow,kg,kd,closed,jH,j1,binI,remP,remI,retK,retG,kr,retD,ko,resL,resD,oneD,renD,renL,renE,j3,rho,jR,j6,List.append,List.nil_append,List.cons_append,List.append_nil,cond,Nat.reduceBEq,Nat.reduceAdd,Nat.beq]
end Go.AM

