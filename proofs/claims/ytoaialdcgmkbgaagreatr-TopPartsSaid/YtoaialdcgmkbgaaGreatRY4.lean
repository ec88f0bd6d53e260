import Derived.Test.YtoaialdcgmkbgaaGreatRY1
import Derived.Test.YtoaialdcgmkbgaaGreatRA29

set_option linter.all false
namespace Go.AM
open Go Go.Proofs
def alkB (a b : Rc) : Bool := decide (a.x = b.x) && decide (a.w = b.w) && decide (a.y + a.h = b.y)
theorem jy2 {a b : Rc} (h : fits .i64 (a.y + a.h)) : TSp 130 [rD a, rD b] (.bool (alkB a b)) := by
 refine Vy (by rfl) ?_
 dsimp only [c_band_alike_1, Kh, rD, jn,jH,jO,jq,jF,jJ,jo,jG,jI,iteR,regK,jh,jc,jk,jj,jb,ji,blkK,kp,kd,jd,ja,jx,fpOk,foot,km,allN,memN,jK,jl,jr,jv,jt,ju,jf,jg,je,newN,jw,jN,jP,jY,jQ,jM,jS,jz,jA,jC,jD,jE,jm,jB,evX,evL,evB,rd,get,subG,memG,jT,jV,hyps,gob,impP,allP,j1,jX,j3,kj,nth,j8,kh,jU,lenB,kg,jR,entN,setE,jZ,addE,setL,setN,putE,env0,eqCs,j6,eqC,bA,bO,bN,bE,negB,kEq,ke,j5,lend,frz,frzL,zRow,j9,j7,closed,jy,jW,binI,remP,remI,retK,retG,ko,retD,ki,resL,resD,oneD,renD,renL,renE,j0,rho,jL,j4,zla,zlb,zlc,zld,zca,zcb,o1,o0,og,Nat.reduceBEq,Nat.reduceAdd,Nat.beq]
 exact ⟨fun _ => h, rfl⟩
def eqF : List Rc -> List Rc -> Bool
 | [], [] => true
 | a :: l, b :: r => alkB a b && eqF l r
 | _, _ => false
theorem jH0 : ∀ {a b : List Rc}, eqF a b = true -> a.length = b.length
 | [], [], _ => rfl
 | a :: l, b :: r, h => by simp only [eqF, Bool.and_eq_true] at h; simp [jH0 h.2]
 | [], _ :: _, h => by simp [eqF] at h
 | _ :: _, [], h => by simp [eqF] at h
theorem jj3 {a b : List Rc} (ha : ∀ r ∈ a, fits .i64 (r.y + r.h)) (hl : a.length <= 4611686018427387904) :
  TSp 129 [.ls 4 (rcs a), .ls 4 (rcs b), .fn 130 []] (.bool (eqF a b)) := by
 refine qJ (by rfl) ?_
 dsimp only [c_slices_EqualFunc_api_Rect_api_Rect_api_Rect_api_Rect, kz, jn,jH,jO,jq,jF,jJ,jo,jG,jI,iteR,regK,jh,jc,jk,jj,jb,ji,blkK,kp,kd,jd,ja,jx,fpOk,foot,km,allN,memN,jK,jl,jr,jv,jt,ju,jf,jg,je,newN,jw,jN,jP,jY,jQ,jM,jS,jz,jA,jC,jD,jE,jm,jB,evX,evL,evB,rd,get,subG,memG,jT,jV,hyps,gob,impP,allP,j1,jX,j3,kj,nth,j8,kh,jU,lenB,kg,jR,entN,setE,jZ,addE,setL,setN,putE,env0,eqCs,j6,eqC,bA,bO,bN,bE,negB,kEq,ke,j5,lend,frz,frzL,zRow,j9,j7,closed,jy,jW,binI,remP,remI,retK,retG,ko,retD,ki,resL,resD,oneD,renD,renL,renE,j0,rho,jL,j4,zla,zlb,zlc,zld,zca,zcb,o1,o0,og,Nat.reduceBEq,Nat.reduceAdd,Nat.beq]
 rw [ku, ku]
 refine ⟨fun h => ?_, fun h => ?_⟩
 ·have : eqF a b = false := by
   rw [Bool.eq_false_iff]; intro h1
   have := jH0 h1
   simp at h; omega
  rw [this]
 have hlen : a.length = b.length := by simp at h; omega
 refine kG (α := {i : Nat // i <= a.length /\ eqF a b = eqF (a.drop i) (b.drop i)}) (fun i => ⟨[(1, [], .ls 4 (rcs b)), (2, [], .fn 130 []), (15, [], .ls 4 (rcs a)), (16, [], .int .i64 a.length), (17, [], .int .i64 i.1)], []⟩)
  (fun i => a.length - i.1) ?_ ⟨0, by simp⟩ rfl
 rintro ⟨i, hi, he⟩ I ih
 dsimp only [c_slices_EqualFunc_api_Rect_api_Rect_api_Rect_api_Rect, kz, jn,jH,jO,jq,jF,jJ,jo,jG,jI,iteR,regK,jh,jc,jk,jj,jb,ji,blkK,kp,kd,jd,ja,jx,fpOk,foot,km,allN,memN,jK,jl,jr,jv,jt,ju,jf,jg,je,newN,jw,jN,jP,jY,jQ,jM,jS,jz,jA,jC,jD,jE,jm,jB,evX,evL,evB,rd,get,subG,memG,jT,jV,hyps,gob,impP,allP,j1,jX,j3,kj,nth,j8,kh,jU,lenB,kg,jR,entN,setE,jZ,addE,setL,setN,putE,env0,eqCs,j6,eqC,bA,bO,bN,bE,negB,kEq,ke,j5,lend,frz,frzL,zRow,j9,j7,closed,jy,jW,binI,remP,remI,retK,retG,ko,retD,ki,resL,resD,oneD,renD,renL,renE,j0,rho,jL,j4,zla,zlb,zlc,zld,zca,zcb,o1,o0,og,Nat.reduceBEq,Nat.reduceAdd,Nat.beq]
 refine ⟨fun hlt => ?_, fun hge => ?_⟩
 ·have hl : i < a.length := by simpa using hlt
  obtain ⟨r, hr⟩ : ∃ r, a[i]? = some r := ⟨_, List.getElem?_eq_getElem hl⟩
  obtain ⟨q, hq⟩ : ∃ q, b[i]? = some q := ⟨_, List.getElem?_eq_getElem (by omega)⟩
  refine ⟨⟨rfl, by omega, by rw [ku]; omega⟩, ky (rD r) (rD r) (qx (by simpa using hr)) rfl ?_⟩
  dsimp only [c_slices_EqualFunc_api_Rect_api_Rect_api_Rect_api_Rect, kz, rD, jn,jH,jO,jq,jF,jJ,jo,jG,jI,iteR,regK,jh,jc,jk,jj,jb,ji,blkK,kp,kd,jd,ja,jx,fpOk,foot,km,allN,memN,jK,jl,jr,jv,jt,ju,jf,jg,je,newN,jw,jN,jP,jY,jQ,jM,jS,jz,jA,jC,jD,jE,jm,jB,evX,evL,evB,rd,get,subG,memG,jT,jV,hyps,gob,impP,allP,j1,jX,j3,kj,nth,j8,kh,jU,lenB,kg,jR,entN,setE,jZ,addE,setL,setN,putE,env0,eqCs,j6,eqC,bA,bO,bN,bE,negB,kEq,ke,j5,lend,frz,frzL,zRow,j9,j7,closed,jy,jW,binI,remP,remI,retK,retG,ko,retD,ki,resL,resD,oneD,renD,renL,renE,j0,rho,jL,j4,zla,zlb,zlc,zld,zca,zcb,o1,o0,og,Nat.reduceBEq,Nat.reduceAdd,Nat.beq]
  refine ⟨⟨rfl, by omega, by rw [ku]; omega⟩, ky (rD q) (rD q) (qx (by simpa using hq)) rfl ?_⟩
  dsimp only [c_slices_EqualFunc_api_Rect_api_Rect_api_Rect_api_Rect, kz, rD, jn,jH,jO,jq,jF,jJ,jo,jG,jI,iteR,regK,jh,jc,jk,jj,jb,ji,blkK,kp,kd,jd,ja,jx,fpOk,foot,km,allN,memN,jK,jl,jr,jv,jt,ju,jf,jg,je,newN,jw,jN,jP,jY,jQ,jM,jS,jz,jA,jC,jD,jE,jm,jB,evX,evL,evB,rd,get,subG,memG,jT,jV,hyps,gob,impP,allP,j1,jX,j3,kj,nth,j8,kh,jU,lenB,kg,jR,entN,setE,jZ,addE,setL,setN,putE,env0,eqCs,j6,eqC,bA,bO,bN,bE,negB,kEq,ke,j5,lend,frz,frzL,zRow,j9,j7,closed,jy,jW,binI,remP,remI,retK,retG,ko,retD,ki,resL,resD,oneD,renD,renL,renE,j0,rho,jL,j4,zla,zlb,zlc,zld,zca,zcb,o1,o0,og,Nat.reduceBEq,Nat.reduceAdd,Nat.beq]
  refine kq (jy2 (ha r (List.mem_of_getElem? hr))) ?_
  dsimp only [c_slices_EqualFunc_api_Rect_api_Rect_api_Rect_api_Rect, kz, jn,jH,jO,jq,jF,jJ,jo,jG,jI,iteR,regK,jh,jc,jk,jj,jb,ji,blkK,kp,kd,jd,ja,jx,fpOk,foot,km,allN,memN,jK,jl,jr,jv,jt,ju,jf,jg,je,newN,jw,jN,jP,jY,jQ,jM,jS,jz,jA,jC,jD,jE,jm,jB,evX,evL,evB,rd,get,subG,memG,jT,jV,hyps,gob,impP,allP,j1,jX,j3,kj,nth,j8,kh,jU,lenB,kg,jR,entN,setE,jZ,addE,setL,setN,putE,env0,eqCs,j6,eqC,bA,bO,bN,bE,negB,kEq,ke,j5,lend,frz,frzL,zRow,j9,j7,closed,jy,jW,binI,remP,remI,retK,retG,ko,retD,ki,resL,resD,oneD,renD,renL,renE,j0,rho,jL,j4,zla,zlb,zlc,zld,zca,zcb,o1,o0,og,Nat.reduceBEq,Nat.reduceAdd,Nat.beq]
  have hda : a.drop i = r :: a.drop (i + 1) := by
   rw [List.drop_eq_getElem_cons hl]; congr 1; rw [List.getElem?_eq_getElem hl] at hr; exact Option.some.inj hr
  have hdb : b.drop i = q :: b.drop (i + 1) := by
   rw [List.drop_eq_getElem_cons (by omega)]; congr 1; rw [List.getElem?_eq_getElem (by omega)] at hq; exact Option.some.inj hq
  rw [hda, hdb] at he
  simp only [eqF] at he
  refine ⟨fun h1 => ?_, fun h1 => ⟨by simp only [fits]; omega, ?_⟩⟩
  ·have h2 : alkB r q = false := by simpa using h1
   rw [he, h2]; rfl
  ·have h2 : alkB r q = true := by simpa using h1
   rw [h2, Bool.true_and] at he
   exact qa (ih ⟨i + 1, hl, he⟩ (by dsimp only; omega)) ⟨rfl, rfl, rfl, rfl, by simp [get], trivial⟩ trivial rfl rfl
 ·have hl : ¬ i < a.length := by simpa using hge
  rw [List.drop_eq_nil_of_le (by omega), List.drop_eq_nil_of_le (by omega)] at he
  rw [he]; rfl
theorem jN6 {a b : List Rc} (ha : ∀ r ∈ a, fits .i64 (r.y + r.h)) (hl : a.length <= 4611686018427387904) : TSp 68 [.ls 4 (rcs a), .ls 4 (rcs b)] (.bool (decide (0 < (a.length : Int)) && eqF a b)) := by
 refine Yf (by rfl) ?_
 dsimp only [c_band_alike, y8, jn,jH,jO,jq,jF,jJ,jo,jG,jI,iteR,regK,jh,jc,jk,jj,jb,ji,blkK,kp,kd,jd,ja,jx,fpOk,foot,km,allN,memN,jK,jl,jr,jv,jt,ju,jf,jg,je,newN,jw,jN,jP,jY,jQ,jM,jS,jz,jA,jC,jD,jE,jm,jB,evX,evL,evB,rd,get,subG,memG,jT,jV,hyps,gob,impP,allP,j1,jX,j3,kj,nth,j8,kh,jU,lenB,kg,jR,entN,setE,jZ,addE,setL,setN,putE,env0,eqCs,j6,eqC,bA,bO,bN,bE,negB,kEq,ke,j5,lend,frz,frzL,zRow,j9,j7,closed,jy,jW,binI,remP,remI,retK,retG,ko,retD,ki,resL,resD,oneD,renD,renL,renE,j0,rho,jL,j4,zla,zlb,zlc,zld,zca,zcb,o1,o0,og,Nat.reduceBEq,Nat.reduceAdd,Nat.beq]
 refine kq (fun _ => jj3 ha hl) ?_
 dsimp only [c_band_alike, y8, jn,jH,jO,jq,jF,jJ,jo,jG,jI,iteR,regK,jh,jc,jk,jj,jb,ji,blkK,kp,kd,jd,ja,jx,fpOk,foot,km,allN,memN,jK,jl,jr,jv,jt,ju,jf,jg,je,newN,jw,jN,jP,jY,jQ,jM,jS,jz,jA,jC,jD,jE,jm,jB,evX,evL,evB,rd,get,subG,memG,jT,jV,hyps,gob,impP,allP,j1,jX,j3,kj,nth,j8,kh,jU,lenB,kg,jR,entN,setE,jZ,addE,setL,setN,putE,env0,eqCs,j6,eqC,bA,bO,bN,bE,negB,kEq,ke,j5,lend,frz,frzL,zRow,j9,j7,closed,jy,jW,binI,remP,remI,retK,retG,ko,retD,ki,resL,resD,oneD,renD,renL,renE,j0,rho,jL,j4,zla,zlb,zlc,zld,zca,zcb,o1,o0,og,Nat.reduceBEq,Nat.reduceAdd,Nat.beq]
 rw [ku]
theorem yU : Tryz.prog.underlying 40 = some (.slice 45) := by kernel_rfl
theorem Vn : szOf Tryz.prog 45 = some 4 := by kernel_rfl
theorem sp_Clip {l : List D} : TSp 69 [.ls 4 l] (.ls 4 l) := by
 refine vA (by rfl) ?_
 dsimp only [c_slices_Clip_api_Rect_api_Rect, qE, jn,jH,jO,jq,jF,jJ,jo,jG,jI,iteR,regK,jh,jc,jk,jj,jb,ji,blkK,kp,kd,jd,ja,jx,fpOk,foot,km,allN,memN,jK,jl,jr,jv,jt,ju,jf,jg,je,newN,jw,jN,jP,jY,jQ,jM,jS,jz,jA,jC,jD,jE,jm,jB,evX,evL,evB,rd,get,subG,memG,jT,jV,hyps,gob,impP,allP,j1,jX,j3,kj,nth,j8,kh,jU,lenB,kg,jR,entN,setE,jZ,addE,setL,setN,putE,env0,eqCs,j6,eqC,bA,bO,bN,bE,negB,kEq,ke,j5,lend,frz,frzL,zRow,j9,j7,closed,jy,jW,binI,remP,remI,retK,retG,ko,retD,ki,resL,resD,oneD,renD,renL,renE,j0,rho,jL,j4,zla,zlb,zlc,zld,zca,zcb,o1,o0,og,Nat.reduceBEq,Nat.reduceAdd,Nat.beq]
 refine kO _ (pr_clp yU Vn rfl) ?_
 dsimp only [c_slices_Clip_api_Rect_api_Rect, qE, jn,jH,jO,jq,jF,jJ,jo,jG,jI,iteR,regK,jh,jc,jk,jj,jb,ji,blkK,kp,kd,jd,ja,jx,fpOk,foot,km,allN,memN,jK,jl,jr,jv,jt,ju,jf,jg,je,newN,jw,jN,jP,jY,jQ,jM,jS,jz,jA,jC,jD,jE,jm,jB,evX,evL,evB,rd,get,subG,memG,jT,jV,hyps,gob,impP,allP,j1,jX,j3,kj,nth,j8,kh,jU,lenB,kg,jR,entN,setE,jZ,addE,setL,setN,putE,env0,eqCs,j6,eqC,bA,bO,bN,bE,negB,kEq,ke,j5,lend,frz,frzL,zRow,j9,j7,closed,jy,jW,binI,remP,remI,retK,retG,ko,retD,ki,resL,resD,oneD,renD,renL,renE,j0,rho,jL,j4,zla,zlb,zlc,zld,zca,zcb,o1,o0,og,Nat.reduceBEq,Nat.reduceAdd,Nat.beq]
theorem jO1 {l : List D} (hl : l.length <= 4294967296) : TSp 138 [.ls 4 l] (.ls 4 l) := by
 refine vi (by rfl) ?_
 dsimp only [c_slices_Clone_api_Rect_api_Rect, kL, jn,jH,jO,jq,jF,jJ,jo,jG,jI,iteR,regK,jh,jc,jk,jj,jb,ji,blkK,kp,kd,jd,ja,jx,fpOk,foot,km,allN,memN,jK,jl,jr,jv,jt,ju,jf,jg,je,newN,jw,jN,jP,jY,jQ,jM,jS,jz,jA,jC,jD,jE,jm,jB,evX,evL,evB,rd,get,subG,memG,jT,jV,hyps,gob,impP,allP,j1,jX,j3,kj,nth,j8,kh,jU,lenB,kg,jR,entN,setE,jZ,addE,setL,setN,putE,env0,eqCs,j6,eqC,bA,bO,bN,bE,negB,kEq,ke,j5,lend,frz,frzL,zRow,j9,j7,closed,jy,jW,binI,remP,remI,retK,retG,ko,retD,ki,resL,resD,oneD,renD,renL,renE,j0,rho,jL,j4,zla,zlb,zlc,zld,zca,zcb,o1,o0,og,Nat.reduceBEq,Nat.reduceAdd,Nat.beq]
 refine y9 _ (jl0 yU false) ?_
 rintro d bx' ⟨rfl, b, rfl, hb⟩
 dsimp only [c_slices_Clone_api_Rect_api_Rect, kL, jn,jH,jO,jq,jF,jJ,jo,jG,jI,iteR,regK,jh,jc,jk,jj,jb,ji,blkK,kp,kd,jd,ja,jx,fpOk,foot,km,allN,memN,jK,jl,jr,jv,jt,ju,jf,jg,je,newN,jw,jN,jP,jY,jQ,jM,jS,jz,jA,jC,jD,jE,jm,jB,evX,evL,evB,rd,get,subG,memG,jT,jV,hyps,gob,impP,allP,j1,jX,j3,kj,nth,j8,kh,jU,lenB,kg,jR,entN,setE,jZ,addE,setL,setN,putE,env0,eqCs,j6,eqC,bA,bO,bN,bE,negB,kEq,ke,j5,lend,frz,frzL,zRow,j9,j7,closed,jy,jW,binI,remP,remI,retK,retG,ko,retD,ki,resL,resD,oneD,renD,renL,renE,j0,rho,jL,j4,zla,zlb,zlc,zld,zca,zcb,o1,o0,og,Nat.reduceBEq,Nat.reduceAdd,Nat.beq]
 refine ⟨fun h => ?_, fun h => ?_⟩
 ·have : l = [] := hb (by simpa using h)
  subst this
  exact ⟨rfl, rfl⟩
 ·refine ⟨⟨rfl, rfl, rfl, rfl, ?_, ?_⟩, rfl, rfl⟩ <;> simp only [List.length_nil] <;> omega
theorem jO0 {a b : List Rc} (hl : a.length <= 4611686018427387904) : TSp 81 [.ls 4 (rcs a), .ls 4 (rcs b)] (.bool (decide (a = b))) := by
 refine vh (by rfl) ?_
 dsimp only [c_slices_Equal_api_Rect_api_Rect, kS, jn,jH,jO,jq,jF,jJ,jo,jG,jI,iteR,regK,jh,jc,jk,jj,jb,ji,blkK,kp,kd,jd,ja,jx,fpOk,foot,km,allN,memN,jK,jl,jr,jv,jt,ju,jf,jg,je,newN,jw,jN,jP,jY,jQ,jM,jS,jz,jA,jC,jD,jE,jm,jB,evX,evL,evB,rd,get,subG,memG,jT,jV,hyps,gob,impP,allP,j1,jX,j3,kj,nth,j8,kh,jU,lenB,kg,jR,entN,setE,jZ,addE,setL,setN,putE,env0,eqCs,j6,eqC,bA,bO,bN,bE,negB,kEq,ke,j5,lend,frz,frzL,zRow,j9,j7,closed,jy,jW,binI,remP,remI,retK,retG,ko,retD,ki,resL,resD,oneD,renD,renL,renE,j0,rho,jL,j4,zla,zlb,zlc,zld,zca,zcb,o1,o0,og,Nat.reduceBEq,Nat.reduceAdd,Nat.beq]
 rw [ku, ku]
 refine ⟨fun h => ?_, fun h => ?_⟩
 ·have : ¬ a = b := by rintro rfl; simp at h
  rw [decide_eq_false this]
 have hlen : a.length = b.length := by simp at h; omega
 refine kG (α := {i : Nat // i <= a.length /\ (a = b ↔ a.drop i = b.drop i)}) (fun i => ⟨[(0, [], .ls 4 (rcs a)), (1, [], .ls 4 (rcs b)), (12, [], .int .i64 a.length), (13, [], .int .i64 i.1)], []⟩)
  (fun i => a.length - i.1) ?_ ⟨0, by simp⟩ rfl
 rintro ⟨i, hi, he⟩ I ih
 dsimp only [c_slices_Equal_api_Rect_api_Rect, kS, jn,jH,jO,jq,jF,jJ,jo,jG,jI,iteR,regK,jh,jc,jk,jj,jb,ji,blkK,kp,kd,jd,ja,jx,fpOk,foot,km,allN,memN,jK,jl,jr,jv,jt,ju,jf,jg,je,newN,jw,jN,jP,jY,jQ,jM,jS,jz,jA,jC,jD,jE,jm,jB,evX,evL,evB,rd,get,subG,memG,jT,jV,hyps,gob,impP,allP,j1,jX,j3,kj,nth,j8,kh,jU,lenB,kg,jR,entN,setE,jZ,addE,setL,setN,putE,env0,eqCs,j6,eqC,bA,bO,bN,bE,negB,kEq,ke,j5,lend,frz,frzL,zRow,j9,j7,closed,jy,jW,binI,remP,remI,retK,retG,ko,retD,ki,resL,resD,oneD,renD,renL,renE,j0,rho,jL,j4,zla,zlb,zlc,zld,zca,zcb,o1,o0,og,Nat.reduceBEq,Nat.reduceAdd,Nat.beq]
 refine ⟨fun hlt => ?_, fun hge => ?_⟩
 ·have hl : i < a.length := by simpa using hlt
  obtain ⟨r, hr⟩ : ∃ r, a[i]? = some r := ⟨_, List.getElem?_eq_getElem hl⟩
  obtain ⟨q, hq⟩ : ∃ q, b[i]? = some q := ⟨_, List.getElem?_eq_getElem (by omega)⟩
  refine ⟨⟨rfl, by omega, by rw [ku]; omega⟩, ky (rD r) (rD r) (qx (by simpa using hr)) rfl ?_⟩
  dsimp only [c_slices_Equal_api_Rect_api_Rect, kS, rD, jn,jH,jO,jq,jF,jJ,jo,jG,jI,iteR,regK,jh,jc,jk,jj,jb,ji,blkK,kp,kd,jd,ja,jx,fpOk,foot,km,allN,memN,jK,jl,jr,jv,jt,ju,jf,jg,je,newN,jw,jN,jP,jY,jQ,jM,jS,jz,jA,jC,jD,jE,jm,jB,evX,evL,evB,rd,get,subG,memG,jT,jV,hyps,gob,impP,allP,j1,jX,j3,kj,nth,j8,kh,jU,lenB,kg,jR,entN,setE,jZ,addE,setL,setN,putE,env0,eqCs,j6,eqC,bA,bO,bN,bE,negB,kEq,ke,j5,lend,frz,frzL,zRow,j9,j7,closed,jy,jW,binI,remP,remI,retK,retG,ko,retD,ki,resL,resD,oneD,renD,renL,renE,j0,rho,jL,j4,zla,zlb,zlc,zld,zca,zcb,o1,o0,og,Nat.reduceBEq,Nat.reduceAdd,Nat.beq]
  refine ⟨⟨rfl, by omega, by rw [ku]; omega⟩, ky (rD q) (rD q) (qx (by simpa using hq)) rfl ?_⟩
  dsimp only [c_slices_Equal_api_Rect_api_Rect, kS, rD, jn,jH,jO,jq,jF,jJ,jo,jG,jI,iteR,regK,jh,jc,jk,jj,jb,ji,blkK,kp,kd,jd,ja,jx,fpOk,foot,km,allN,memN,jK,jl,jr,jv,jt,ju,jf,jg,je,newN,jw,jN,jP,jY,jQ,jM,jS,jz,jA,jC,jD,jE,jm,jB,evX,evL,evB,rd,get,subG,memG,jT,jV,hyps,gob,impP,allP,j1,jX,j3,kj,nth,j8,kh,jU,lenB,kg,jR,entN,setE,jZ,addE,setL,setN,putE,env0,eqCs,j6,eqC,bA,bO,bN,bE,negB,kEq,ke,j5,lend,frz,frzL,zRow,j9,j7,closed,jy,jW,binI,remP,remI,retK,retG,ko,retD,ki,resL,resD,oneD,renD,renL,renE,j0,rho,jL,j4,zla,zlb,zlc,zld,zca,zcb,o1,o0,og,Nat.reduceBEq,Nat.reduceAdd,Nat.beq]
  have hda : a.drop i = r :: a.drop (i + 1) := by
   rw [List.drop_eq_getElem_cons hl]; congr 1; rw [List.getElem?_eq_getElem hl] at hr; exact Option.some.inj hr
  have hdb : b.drop i = q :: b.drop (i + 1) := by
   rw [List.drop_eq_getElem_cons (by omega)]; congr 1; rw [List.getElem?_eq_getElem (by omega)] at hq; exact Option.some.inj hq
  rw [hda, hdb, List.cons.injEq] at he
  have hrq : (decide (r.x = q.x) && (decide (r.y = q.y) && (decide (r.w = q.w) && decide (r.h = q.h)))) = r.eq q := rfl
  rw [hrq]
  refine ⟨fun h1 => ?_, fun h1 => ⟨by simp only [fits]; omega, ?_⟩⟩
  ·have h2 : ¬ r = q := by rw [<- Rc.eq_iff]; simpa using h1
   rw [decide_eq_false (fun h3 => h2 (he.1 h3).1)]
  ·have h2 : r = q := by rw [<- Rc.eq_iff]; simpa using h1
   exact qa (ih ⟨i + 1, hl, he.trans ⟨fun h => h.2, fun h => ⟨h2, h⟩⟩⟩ (by dsimp only; omega)) ⟨rfl, rfl, rfl, by simp [get], trivial⟩ trivial rfl rfl
 ·have hl : ¬ i < a.length := by simpa using hge
  rw [List.drop_eq_nil_of_le (by omega), List.drop_eq_nil_of_le (by omega)] at he
  rw [decide_eq_true (he.2 rfl)]
/-! ### Rectangles that end are deleted -/
def qv (y : Int) (r : Rc) : Bool := decide (r.y + r.h <= y)
def idxF (y : Int) : List Rc -> Int -> Int
 | [], _ => -1
 | r :: l, i => if qv y r then i else idxF y l (i + 1)
theorem jj6 {l : List Rc} {ver : Nat} {y : Int} (hin : ∀ r ∈ l, Vr r) (hl : l.length <= 4611686018427387904) :
  TSpM 127 [.own 0 ver, .fn 65 [.box 1 0]] [.arr 45 4 ver (rcs l), .cells [.int .i64 y]] (.int .i64 (idxF y l 0)) [.arr 45 4 ver (rcs l), .cells [.int .i64 y]] := by
 refine zH (by rfl) ?_
 dsimp only [c_slices_IndexFunc_api_Rect_api_Rect, kM, jn,jH,jO,jq,jF,jJ,jo,jG,jI,iteR,regK,jh,jc,jk,jj,jb,ji,blkK,kp,kd,jd,ja,jx,fpOk,foot,km,allN,memN,jK,jl,jr,jv,jt,ju,jf,jg,je,newN,jw,jN,jP,jY,jQ,jM,jS,jz,jA,jC,jD,jE,jm,jB,evX,evL,evB,rd,get,subG,memG,jT,jV,hyps,gob,impP,allP,j1,jX,j3,kj,nth,j8,kh,jU,lenB,kg,jR,entN,setE,jZ,addE,setL,setN,putE,env0,eqCs,j6,eqC,bA,bO,bN,bE,negB,kEq,ke,j5,lend,frz,frzL,zRow,j9,j7,closed,jy,jW,binI,remP,remI,retK,retG,ko,retD,ki,resL,resD,oneD,renD,renL,renE,j0,rho,jL,j4,zla,zlb,zlc,zld,zca,zcb,o1,o0,og,Nat.reduceBEq,Nat.reduceAdd,Nat.beq]
 refine ⟨rfl, ?_⟩
 refine kG (α := {i : Nat // i <= l.length /\ idxF y l 0 = idxF y (l.drop i) i}) (fun i => ⟨[(0, [], .own 0 ver), (1, [], .fn 65 [.box 1 0]), (7, [], .int .i64 (rcs l).length), (8, [], .int .i64 i.1)], [.arr 45 4 ver (rcs l), .cells [.int .i64 y]]⟩)
  (fun i => l.length - i.1) ?_ ⟨0, by simp⟩ rfl
 rintro ⟨i, hi, he⟩ I ih
 dsimp only [c_slices_IndexFunc_api_Rect_api_Rect, kM, jn,jH,jO,jq,jF,jJ,jo,jG,jI,iteR,regK,jh,jc,jk,jj,jb,ji,blkK,kp,kd,jd,ja,jx,fpOk,foot,km,allN,memN,jK,jl,jr,jv,jt,ju,jf,jg,je,newN,jw,jN,jP,jY,jQ,jM,jS,jz,jA,jC,jD,jE,jm,jB,evX,evL,evB,rd,get,subG,memG,jT,jV,hyps,gob,impP,allP,j1,jX,j3,kj,nth,j8,kh,jU,lenB,kg,jR,entN,setE,jZ,addE,setL,setN,putE,env0,eqCs,j6,eqC,bA,bO,bN,bE,negB,kEq,ke,j5,lend,frz,frzL,zRow,j9,j7,closed,jy,jW,binI,remP,remI,retK,retG,ko,retD,ki,resL,resD,oneD,renD,renL,renE,j0,rho,jL,j4,zla,zlb,zlc,zld,zca,zcb,o1,o0,og,Nat.reduceBEq,Nat.reduceAdd,Nat.beq]
 rw [ku]
 refine ⟨fun hlt => ?_, fun hge => ?_⟩
 ·have hl : i < l.length := by simpa using hlt
  obtain ⟨r, hr⟩ : ∃ r, l[i]? = some r := ⟨_, List.getElem?_eq_getElem hl⟩
  have hV := hin r (List.mem_of_getElem? hr)
  simp only [Vr] at hV
  refine ⟨⟨rfl, rfl, by omega, by omega⟩, ⟨rfl, rfl⟩, ky (rD r) (rD r) (qx (by simpa using hr)) rfl ?_⟩
  dsimp only [c_slices_IndexFunc_api_Rect_api_Rect, kM, rD, jn,jH,jO,jq,jF,jJ,jo,jG,jI,iteR,regK,jh,jc,jk,jj,jb,ji,blkK,kp,kd,jd,ja,jx,fpOk,foot,km,allN,memN,jK,jl,jr,jv,jt,ju,jf,jg,je,newN,jw,jN,jP,jY,jQ,jM,jS,jz,jA,jC,jD,jE,jm,jB,evX,evL,evB,rd,get,subG,memG,jT,jV,hyps,gob,impP,allP,j1,jX,j3,kj,nth,j8,kh,jU,lenB,kg,jR,entN,setE,jZ,addE,setL,setN,putE,env0,eqCs,j6,eqC,bA,bO,bN,bE,negB,kEq,ke,j5,lend,frz,frzL,zRow,j9,j7,closed,jy,jW,binI,remP,remI,retK,retG,ko,retD,ki,resL,resD,oneD,renD,renL,renE,j0,rho,jL,j4,zla,zlb,zlc,zld,zca,zcb,o1,o0,og,Nat.reduceBEq,Nat.reduceAdd,Nat.beq]
  refine KY [1] (ZG (r := r) (y := y) (by simp only [fits]; omega)) rfl rfl rfl ?_
  dsimp only [c_slices_IndexFunc_api_Rect_api_Rect, kM, jn,jH,jO,jq,jF,jJ,jo,jG,jI,iteR,regK,jh,jc,jk,jj,jb,ji,blkK,kp,kd,jd,ja,jx,fpOk,foot,km,allN,memN,jK,jl,jr,jv,jt,ju,jf,jg,je,newN,jw,jN,jP,jY,jQ,jM,jS,jz,jA,jC,jD,jE,jm,jB,evX,evL,evB,rd,get,subG,memG,jT,jV,hyps,gob,impP,allP,j1,jX,j3,kj,nth,j8,kh,jU,lenB,kg,jR,entN,setE,jZ,addE,setL,setN,putE,env0,eqCs,j6,eqC,bA,bO,bN,bE,negB,kEq,ke,j5,lend,frz,frzL,zRow,j9,j7,closed,jy,jW,binI,remP,remI,retK,retG,ko,retD,ki,resL,resD,oneD,renD,renL,renE,j0,rho,jL,j4,zla,zlb,zlc,zld,zca,zcb,o1,o0,og,Nat.reduceBEq,Nat.reduceAdd,Nat.beq]
  have hda : l.drop i = r :: l.drop (i + 1) := by
   rw [List.drop_eq_getElem_cons hl]; congr 1; rw [List.getElem?_eq_getElem hl] at hr; exact Option.some.inj hr
  rw [hda] at he
  simp only [idxF] at he
  refine ⟨fun h1 => ?_, fun h1 => ⟨by simp only [fits]; omega, ?_⟩⟩
  ·rw [show qv y r = true from h1] at he
   rw [he]
   exact Rt.cut (Nat.le_refl _) ⟨rfl, rfl, trivial⟩ rfl rfl
  ·rw [show qv y r = false from h1] at he
   exact qa (ih ⟨i + 1, hl, by simpa using he⟩ (by dsimp only; omega)) ⟨rfl, rfl, by rw [ku]; rfl, by simp [get], trivial⟩ ⟨rfl, rfl, trivial⟩ rfl rfl
 ·have hl : ¬ i < l.length := by simpa using hge
  rw [List.drop_eq_nil_of_le (by omega)] at he
  rw [he]
  exact Rt.cut (Nat.le_refl _) ⟨rfl, rfl, trivial⟩ rfl rfl

theorem agRect : aggN Tryz.prog 45 = some (some 4) := by kernel_rfl
theorem zoRect : xv Tryz.prog 45 = some [.int .i64 0, .int .i64 0, .int .i64 0, .int .i64 0] := by kernel_rfl
theorem jg8 {y : Int} : ∀ {l : List Rc} {i : Int}, (idxF y l i = -1 /\ (∀ r ∈ l, qv y r = false)) \/ ∃ k : Nat, idxF y l i = i + k /\ k < l.length /\ (∀ r ∈ l.take k, qv y r = false) /\ (∃ r, l[k]? = some r /\ qv y r = true)
 | [], i => .inl ⟨rfl, nofun⟩
 | r :: l, i => by
   simp only [idxF]
   cases h : qv y r with
   | true => exact .inr ⟨0, by simp, by simp, by simp, r, rfl, h⟩
   | false =>
     simp only [Bool.false_eq_true, if_false]
     rcases jg8 (y := y) (l := l) (i := i + 1) with ⟨h1, h2⟩ | ⟨k, h1, h2, h3, h4⟩
     ·exact .inl ⟨h1, fun q hq => by rcases List.mem_cons.1 hq with rfl | hq; exact h; exact h2 q hq⟩
     ·refine .inr ⟨k + 1, by rw [h1]; omega, by simpa using h2, fun q hq => ?_, by simpa using h4⟩
      rw [List.take_succ_cons] at hq
      rcases List.mem_cons.1 hq with rfl | hq
      ·exact h
      ·exact h3 q hq
def vL (y : Int) (l : List Rc) : List Rc := l.filter fun r => !qv y r
theorem jK5 {y : Int} {l : List Rc} (h : ∀ r ∈ l, qv y r = false) : vL y l = l := List.filter_eq_self.2 fun r hr => by rw [h r hr]; rfl
theorem rcs_set (l : List Rc) (i : Nat) (r : Rc) : (rcs l).set i (rD r) = rcs (l.set i r) := by simp [rcs, List.map_set]
theorem Kc (l : List Rc) (i : Nat) : (rcs l).take i = rcs (l.take i) := by simp [rcs]
def delV (y : Int) (l : List Rc) (ver : Nat) : Nat := if l.any (qv y) then ver + 1 else ver
theorem jc6 {l : List Rc} {ver : Nat} {y : Int} (hin : ∀ r ∈ l, Vr r) (hl : l.length <= 4611686018427387904) :
  TSpM 64 [.own 0 ver, .fn 65 [.box 1 0]] [.arr 45 4 ver (rcs l), .cells [.int .i64 y]] (.own 0 (delV y l ver)) [.arr 45 4 (delV y l ver) (rcs (vL y l)), .cells [.int .i64 y]] := by
 refine zE (by rfl) ?_
 dsimp only [c_slices_DeleteFunc_api_Rect_api_Rect, kw, jn,jH,jO,jq,jF,jJ,jo,jG,jI,iteR,regK,jh,jc,jk,jj,jb,ji,blkK,kp,kd,jd,ja,jx,fpOk,foot,km,allN,memN,jK,jl,jr,jv,jt,ju,jf,jg,je,newN,jw,jN,jP,jY,jQ,jM,jS,jz,jA,jC,jD,jE,jm,jB,evX,evL,evB,rd,get,subG,memG,jT,jV,hyps,gob,impP,allP,j1,jX,j3,kj,nth,j8,kh,jU,lenB,kg,jR,entN,setE,jZ,addE,setL,setN,putE,env0,eqCs,j6,eqC,bA,bO,bN,bE,negB,kEq,ke,j5,lend,frz,frzL,zRow,j9,j7,closed,jy,jW,binI,remP,remI,retK,retG,ko,retD,ki,resL,resD,oneD,renD,renL,renE,j0,rho,jL,j4,zla,zlb,zlc,zld,zca,zcb,o1,o0,og,Nat.reduceBEq,Nat.reduceAdd,Nat.beq]
 refine KY [0, 1] (jj6 (y := y) hin hl) rfl rfl rfl ?_
 dsimp only [c_slices_DeleteFunc_api_Rect_api_Rect, kw, jn,jH,jO,jq,jF,jJ,jo,jG,jI,iteR,regK,jh,jc,jk,jj,jb,ji,blkK,kp,kd,jd,ja,jx,fpOk,foot,km,allN,memN,jK,jl,jr,jv,jt,ju,jf,jg,je,newN,jw,jN,jP,jY,jQ,jM,jS,jz,jA,jC,jD,jE,jm,jB,evX,evL,evB,rd,get,subG,memG,jT,jV,hyps,gob,impP,allP,j1,jX,j3,kj,nth,j8,kh,jU,lenB,kg,jR,entN,setE,jZ,addE,setL,setN,putE,env0,eqCs,j6,eqC,bA,bO,bN,bE,negB,kEq,ke,j5,lend,frz,frzL,zRow,j9,j7,closed,jy,jW,binI,remP,remI,retK,retG,ko,retD,ki,resL,resD,oneD,renD,renL,renE,j0,rho,jL,j4,zla,zlb,zlc,zld,zca,zcb,o1,o0,og,Nat.reduceBEq,Nat.reduceAdd,Nat.beq]
 rcases jg8 (y := y) (l := l) (i := 0) with ⟨h1, h2⟩ | ⟨k, h1, h2, h3, r0, h4, h5⟩
 ·have hany : l.any (qv y) = false := by rw [List.any_eq_false]; intro r hr; rw [h2 r hr]; simp
  rw [h1, jK5 h2, delV, hany]
  refine ⟨fun _ => ?_, fun h => by simp at h⟩
  exact Rt.cut (Nat.le_refl _) ⟨rfl, rfl, trivial⟩ rfl rfl
 have hany : l.any (qv y) = true := List.any_eq_true.2 ⟨r0, List.mem_of_getElem? h4, h5⟩
 rw [h1, delV, hany]
 simp only [Int.zero_add, if_true]
 refine ⟨fun h => by simp only [decide_eq_true_eq] at h; omega, fun _ => ⟨by simp only [fits]; omega, ?_⟩⟩
 refine kG (α := {p : (Nat × Nat) × List Rc // (p.1.1 < p.1.2 /\ p.1.2 <= l.length) /\ p.2.length = l.length /\ p.2.take p.1.1 = vL y (l.take p.1.2) /\ p.2.drop p.1.2 = l.drop p.1.2 /\ ∀ r ∈ p.2, Vr r})
  (fun p => ⟨[(0, [], .own 0 ver), (1, [], .fn 65 [.box 1 0]), (5, [], .int .i64 p.1.1.1), (6, [], .int .i64 p.1.1.2)], [.arr 45 4 ver (rcs p.1.2), .cells [.int .i64 y], .arr 45 4 0 []]⟩)
  (fun p => l.length - p.1.1.2) ?_ ⟨((k, k + 1), l), ⟨Nat.lt_succ_self k, h2⟩, rfl, ?_, rfl, hin⟩ (by simp)
 ·rintro ⟨⟨⟨i, j⟩, cur⟩, ⟨hij, hj⟩, hcl, htk, hdr, hcin⟩ I ih
  dsimp only at hij hj hcl htk hdr hcin |-
  dsimp only [c_slices_DeleteFunc_api_Rect_api_Rect, kw, jn,jH,jO,jq,jF,jJ,jo,jG,jI,iteR,regK,jh,jc,jk,jj,jb,ji,blkK,kp,kd,jd,ja,jx,fpOk,foot,km,allN,memN,jK,jl,jr,jv,jt,ju,jf,jg,je,newN,jw,jN,jP,jY,jQ,jM,jS,jz,jA,jC,jD,jE,jm,jB,evX,evL,evB,rd,get,subG,memG,jT,jV,hyps,gob,impP,allP,j1,jX,j3,kj,nth,j8,kh,jU,lenB,kg,jR,entN,setE,jZ,addE,setL,setN,putE,env0,eqCs,j6,eqC,bA,bO,bN,bE,negB,kEq,ke,j5,lend,frz,frzL,zRow,j9,j7,closed,jy,jW,binI,remP,remI,retK,retG,ko,retD,ki,resL,resD,oneD,renD,renL,renE,j0,rho,jL,j4,zla,zlb,zlc,zld,zca,zcb,o1,o0,og,Nat.reduceBEq,Nat.reduceAdd,Nat.beq]
  rw [ku]
  refine ⟨rfl, fun hlt => ?_, fun hge => ?_⟩
  ·have hjl : j < cur.length := by simpa using hlt
   obtain ⟨r, hr⟩ : ∃ r, cur[j]? = some r := ⟨_, List.getElem?_eq_getElem hjl⟩
   have hrl : l[j]? = some r := by rw [<- List.head?_drop, <- hdr, List.head?_drop]; exact hr
   have hV := hcin r (List.mem_of_getElem? hr)
   have hV' := hV
   simp only [Vr] at hV'
   refine ⟨⟨rfl, rfl, by omega, by omega⟩, ⟨rfl, rfl⟩, ky (rD r) (rD r) (qx (by simpa using hr)) rfl ?_⟩
   dsimp only [c_slices_DeleteFunc_api_Rect_api_Rect, kw, rD, jn,jH,jO,jq,jF,jJ,jo,jG,jI,iteR,regK,jh,jc,jk,jj,jb,ji,blkK,kp,kd,jd,ja,jx,fpOk,foot,km,allN,memN,jK,jl,jr,jv,jt,ju,jf,jg,je,newN,jw,jN,jP,jY,jQ,jM,jS,jz,jA,jC,jD,jE,jm,jB,evX,evL,evB,rd,get,subG,memG,jT,jV,hyps,gob,impP,allP,j1,jX,j3,kj,nth,j8,kh,jU,lenB,kg,jR,entN,setE,jZ,addE,setL,setN,putE,env0,eqCs,j6,eqC,bA,bO,bN,bE,negB,kEq,ke,j5,lend,frz,frzL,zRow,j9,j7,closed,jy,jW,binI,remP,remI,retK,retG,ko,retD,ki,resL,resD,oneD,renD,renL,renE,j0,rho,jL,j4,zla,zlb,zlc,zld,zca,zcb,o1,o0,og,Nat.reduceBEq,Nat.reduceAdd,Nat.beq]
   refine KY [1] (ZG (r := r) (y := y) (by simp only [fits]; omega)) rfl rfl rfl ?_
   dsimp only [c_slices_DeleteFunc_api_Rect_api_Rect, kw, jn,jH,jO,jq,jF,jJ,jo,jG,jI,iteR,regK,jh,jc,jk,jj,jb,ji,blkK,kp,kd,jd,ja,jx,fpOk,foot,km,allN,memN,jK,jl,jr,jv,jt,ju,jf,jg,je,newN,jw,jN,jP,jY,jQ,jM,jS,jz,jA,jC,jD,jE,jm,jB,evX,evL,evB,rd,get,subG,memG,jT,jV,hyps,gob,impP,allP,j1,jX,j3,kj,nth,j8,kh,jU,lenB,kg,jR,entN,setE,jZ,addE,setL,setN,putE,env0,eqCs,j6,eqC,bA,bO,bN,bE,negB,kEq,ke,j5,lend,frz,frzL,zRow,j9,j7,closed,jy,jW,binI,remP,remI,retK,retG,ko,retD,ki,resL,resD,oneD,renD,renL,renE,j0,rho,jL,j4,zla,zlb,zlc,zld,zca,zcb,o1,o0,og,Nat.reduceBEq,Nat.reduceAdd,Nat.beq]
   rw [ku]
   have htj : l.take (j + 1) = l.take j ++ [r] := by
    rw [List.take_add_one, hrl]; rfl
   have hkj : vL y (l.take (j + 1)) = if qv y r then vL y (l.take j) else vL y (l.take j) ++ [r] := by
    rw [htj]; unfold vL; rw [List.filter_append]
    cases h : qv y r <;> simp [h]
   have hd1 : cur.drop (j + 1) = l.drop (j + 1) := by rw [<- List.drop_drop, hdr, List.drop_drop]
   refine ⟨fun hb => ?_, fun hb => ⟨by simp only [fits]; omega, ?_⟩⟩
   ·have hp : qv y r = false := by simpa [qv] using hb
    rw [hp] at hkj
    simp only [Bool.false_eq_true, if_false] at hkj
    obtain ⟨r1, hr1⟩ : ∃ r1, cur[i]? = some r1 := ⟨_, List.getElem?_eq_getElem (by omega)⟩
    refine ⟨⟨rfl, rfl, by omega, by omega⟩, ⟨rfl, rfl⟩, zf (hs := []) (rD r1) (rD r) (qx (by simpa using hr1)) rfl ?_⟩
    dsimp only [c_slices_DeleteFunc_api_Rect_api_Rect, kw, jn,jH,jO,jq,jF,jJ,jo,jG,jI,iteR,regK,jh,jc,jk,jj,jb,ji,blkK,kp,kd,jd,ja,jx,fpOk,foot,km,allN,memN,jK,jl,jr,jv,jt,ju,jf,jg,je,newN,jw,jN,jP,jY,jQ,jM,jS,jz,jA,jC,jD,jE,jm,jB,evX,evL,evB,rd,get,subG,memG,jT,jV,hyps,gob,impP,allP,j1,jX,j3,kj,nth,j8,kh,jU,lenB,kg,jR,entN,setE,jZ,addE,setL,setN,putE,env0,eqCs,j6,eqC,bA,bO,bN,bE,negB,kEq,ke,j5,lend,frz,frzL,zRow,j9,j7,closed,jy,jW,binI,remP,remI,retK,retG,ko,retD,ki,resL,resD,oneD,renD,renL,renE,j0,rho,jL,j4,zla,zlb,zlc,zld,zca,zcb,o1,o0,og,Nat.reduceBEq,Nat.reduceAdd,Nat.beq]
    refine ⟨by simp only [fits]; omega, by simp only [fits]; omega, ?_⟩
    rw [show (i : Int).toNat = i from by simp, rcs_set]
    refine qa (ih ⟨((i + 1, j + 1), cur.set i r), ⟨by dsimp only; omega, by dsimp only; omega⟩, by simpa using hcl, ?_, ?_, fun q hq => ?_⟩ (by dsimp only; omega)) ⟨rfl, rfl, by simp [get], by simp [get], trivial⟩ ⟨rfl, rfl, rfl, trivial⟩ rfl rfl
    ·dsimp only
     rw [hkj, <- htk, List.take_add_one, List.getElem?_set_self (by omega), List.take_set_of_le (Nat.le_refl _)]; rfl
    ·dsimp only
     rw [List.drop_set_of_lt (by omega)]; exact hd1
    ·rcases List.mem_or_eq_of_mem_set hq with h | rfl
     ·exact hcin q h
     ·exact hV
   ·have hp : qv y r = true := by simpa [qv] using hb
    rw [hp] at hkj
    simp only [if_true] at hkj
    exact qa (ih ⟨((i, j + 1), cur), ⟨by dsimp only; omega, by dsimp only; omega⟩, hcl, by dsimp only; rw [hkj]; exact htk, hd1, hcin⟩ (by dsimp only; omega)) ⟨rfl, rfl, rfl, by simp [get], trivial⟩ ⟨rfl, rfl, rfl, trivial⟩ rfl rfl
  ·have hjl : j = l.length := by simp at hge; omega
   subst hjl
   refine kO _ (jF1 yU Vn (ka := .i64) (a := (i : Int)) rfl (by omega) (by rw [ku]; omega)) ?_
   dsimp only [c_slices_DeleteFunc_api_Rect_api_Rect, kw, jn,jH,jO,jq,jF,jJ,jo,jG,jI,iteR,regK,jh,jc,jk,jj,jb,ji,blkK,kp,kd,jd,ja,jx,fpOk,foot,km,allN,memN,jK,jl,jr,jv,jt,ju,jf,jg,je,newN,jw,jN,jP,jY,jQ,jM,jS,jz,jA,jC,jD,jE,jm,jB,evX,evL,evB,rd,get,subG,memG,jT,jV,hyps,gob,impP,allP,j1,jX,j3,kj,nth,j8,kh,jU,lenB,kg,jR,entN,setE,jZ,addE,setL,setN,putE,env0,eqCs,j6,eqC,bA,bO,bN,bE,negB,kEq,ke,j5,lend,frz,frzL,zRow,j9,j7,closed,jy,jW,binI,remP,remI,retK,retG,ko,retD,ki,resL,resD,oneD,renD,renL,renE,j0,rho,jL,j4,zla,zlb,zlc,zld,zca,zcb,o1,o0,og,Nat.reduceBEq,Nat.reduceAdd,Nat.beq]
   refine qh _ _ (pr_clr yU agRect rfl zoRect rfl rfl (by omega) rfl (by rw [ku]; omega)) ?_
   dsimp only [c_slices_DeleteFunc_api_Rect_api_Rect, kw, jn,jH,jO,jq,jF,jJ,jo,jG,jI,iteR,regK,jh,jc,jk,jj,jb,ji,blkK,kp,kd,jd,ja,jx,fpOk,foot,km,allN,memN,jK,jl,jr,jv,jt,ju,jf,jg,je,newN,jw,jN,jP,jY,jQ,jM,jS,jz,jA,jC,jD,jE,jm,jB,evX,evL,evB,rd,get,subG,memG,jT,jV,hyps,gob,impP,allP,j1,jX,j3,kj,nth,j8,kh,jU,lenB,kg,jR,entN,setE,jZ,addE,setL,setN,putE,env0,eqCs,j6,eqC,bA,bO,bN,bE,negB,kEq,ke,j5,lend,frz,frzL,zRow,j9,j7,closed,jy,jW,binI,remP,remI,retK,retG,ko,retD,ki,resL,resD,oneD,renD,renL,renE,j0,rho,jL,j4,zla,zlb,zlc,zld,zca,zcb,o1,o0,og,Nat.reduceBEq,Nat.reduceAdd,Nat.beq]
   refine qh _ _ (jP9 yU Vn (kb := .i64) (b := (i : Int)) rfl (by omega) (by simp [ku]; omega)) ?_
   dsimp only [c_slices_DeleteFunc_api_Rect_api_Rect, kw, jn,jH,jO,jq,jF,jJ,jo,jG,jI,iteR,regK,jh,jc,jk,jj,jb,ji,blkK,kp,kd,jd,ja,jx,fpOk,foot,km,allN,memN,jK,jl,jr,jv,jt,ju,jf,jg,je,newN,jw,jN,jP,jY,jQ,jM,jS,jz,jA,jC,jD,jE,jm,jB,evX,evL,evB,rd,get,subG,memG,jT,jV,hyps,gob,impP,allP,j1,jX,j3,kj,nth,j8,kh,jU,lenB,kg,jR,entN,setE,jZ,addE,setL,setN,putE,env0,eqCs,j6,eqC,bA,bO,bN,bE,negB,kEq,ke,j5,lend,frz,frzL,zRow,j9,j7,closed,jy,jW,binI,remP,remI,retK,retG,ko,retD,ki,resL,resD,oneD,renD,renL,renE,j0,rho,jL,j4,zla,zlb,zlc,zld,zca,zcb,o1,o0,og,Nat.reduceBEq,Nat.reduceAdd,Nat.beq]
   have e1 : ((rcs cur).take (i : Int).toNat ++ List.replicate ((rcs cur).length - (i : Int).toNat) (D.agg [.int .i64 0, .int .i64 0, .int .i64 0, .int .i64 0])).take (i : Int).toNat = rcs (vL y l) := by
    rw [show (i : Int).toNat = i from by simp, List.take_append_of_le_length (by simp [ku]; omega), List.take_take, Nat.min_self, Kc, htk]
    simp
   rw [e1]
   exact Rt.cut (Nat.le_refl _) ⟨rfl, rfl, trivial⟩ rfl rfl
 ·dsimp only
  rw [List.take_add_one, h4]
  unfold vL
  rw [List.filter_append, List.filter_eq_self.2 (fun r hr => by rw [h3 r hr]; rfl)]
  simp [h5]
end Go.AM
