import Derived.Test.YtoaialdcgmkbgaaGreatRZ6
import Derived.Test.YtoaialdcgmkbgaaGreatRP6
import Derived.Test.YtoaialdcgmkbgaaGreatRA31

set_option linter.all false
namespace Go.AM
open Go Go.Proofs
theorem jO9 {l : List D} (hl : l.length <= 4294967296) : TSpM 138 [.ls 4 l] [] (.own 1 2) [.arr 45 4 0 [], .arr 45 4 2 l] := by
 refine vj (by rfl) ?_
 dsimp only [c_slices_Clone_api_Rect_api_Rect, kL, jn,jH,jO,jq,jF,jJ,jo,jG,jI,iteR,regK,jh,jc,jk,jj,jb,ji,blkK,kp,kd,jd,ja,jx,fpOk,foot,km,allN,memN,jK,jl,jr,jv,jt,ju,jf,jg,je,newN,jw,jN,jP,jY,jQ,jM,jS,jz,jA,jC,jD,jE,jm,jB,evX,evL,evB,rd,get,subG,memG,jT,jV,hyps,gob,impP,allP,j1,jX,j3,kj,nth,j8,kh,jU,lenB,kg,jR,entN,setE,jZ,addE,setL,setN,putE,env0,eqCs,j6,eqC,bA,bO,bN,bE,negB,kEq,ke,j5,lend,frz,frzL,zRow,j9,j7,closed,jy,jW,binI,remP,remI,retK,retG,ko,retD,ki,resL,resD,oneD,renD,renL,renE,j0,rho,jL,j4,zla,zlb,zlc,zld,zca,zcb,o1,o0,og,Nat.reduceBEq,Nat.reduceAdd,Nat.beq]
 refine y9 _ (jl0 yU false) ?_
 rintro d bx' ⟨rfl, b, rfl, hb⟩
 dsimp only [c_slices_Clone_api_Rect_api_Rect, kL, jn,jH,jO,jq,jF,jJ,jo,jG,jI,iteR,regK,jh,jc,jk,jj,jb,ji,blkK,kp,kd,jd,ja,jx,fpOk,foot,km,allN,memN,jK,jl,jr,jv,jt,ju,jf,jg,je,newN,jw,jN,jP,jY,jQ,jM,jS,jz,jA,jC,jD,jE,jm,jB,evX,evL,evB,rd,get,subG,memG,jT,jV,hyps,gob,impP,allP,j1,jX,j3,kj,nth,j8,kh,jU,lenB,kg,jR,entN,setE,jZ,addE,setL,setN,putE,env0,eqCs,j6,eqC,bA,bO,bN,bE,negB,kEq,ke,j5,lend,frz,frzL,zRow,j9,j7,closed,jy,jW,binI,remP,remI,retK,retG,ko,retD,ki,resL,resD,oneD,renD,renL,renE,j0,rho,jL,j4,zla,zlb,zlc,zld,zca,zcb,o1,o0,og,Nat.reduceBEq,Nat.reduceAdd,Nat.beq]
 refine ⟨fun h => ?_, fun h => ?_⟩
 ·have : l = [] := hb (by simpa using h)
  subst this
  exact Rt.trans (Rt.next (k := 1) rfl) (Rt.next (k := 1) rfl)
 ·refine ⟨⟨rfl, rfl, rfl, rfl, ?_, ?_⟩, Rt.id⟩ <;> simp only [List.length_nil] <;> omega
theorem jq8 {l : List D} (hl : l.length <= 4294967296) : TSpM 76 [.agg [.ls 4 l]] [] (.own 3 2) [.cells [.ls 4 l], .arr 45 4 0 [], .arr 45 4 0 [], .arr 45 4 2 l] := by
 refine JM (by rfl) ?_
 dsimp only [c_band_Region_Rects, qC, jn,jH,jO,jq,jF,jJ,jo,jG,jI,iteR,regK,jh,jc,jk,jj,jb,ji,blkK,kp,kd,jd,ja,jx,fpOk,foot,km,allN,memN,jK,jl,jr,jv,jt,ju,jf,jg,je,newN,jw,jN,jP,jY,jQ,jM,jS,jz,jA,jC,jD,jE,jm,jB,evX,evL,evB,rd,get,subG,memG,jT,jV,hyps,gob,impP,allP,j1,jX,j3,kj,nth,j8,kh,jU,lenB,kg,jR,entN,setE,jZ,addE,setL,setN,putE,env0,eqCs,j6,eqC,bA,bO,bN,bE,negB,kEq,ke,j5,lend,frz,frzL,zRow,j9,j7,closed,jy,jW,binI,remP,remI,retK,retG,ko,retD,ki,resL,resD,oneD,renD,renL,renE,j0,rho,jL,j4,zla,zlb,zlc,zld,zca,zcb,o1,o0,og,Nat.reduceBEq,Nat.reduceAdd,Nat.beq]
 refine kX [] (jO9 hl) rfl rfl ?_
 dsimp only [c_band_Region_Rects, qC, jn,jH,jO,jq,jF,jJ,jo,jG,jI,iteR,regK,jh,jc,jk,jj,jb,ji,blkK,kp,kd,jd,ja,jx,fpOk,foot,km,allN,memN,jK,jl,jr,jv,jt,ju,jf,jg,je,newN,jw,jN,jP,jY,jQ,jM,jS,jz,jA,jC,jD,jE,jm,jB,evX,evL,evB,rd,get,subG,memG,jT,jV,hyps,gob,impP,allP,j1,jX,j3,kj,nth,j8,kh,jU,lenB,kg,jR,entN,setE,jZ,addE,setL,setN,putE,env0,eqCs,j6,eqC,bA,bO,bN,bE,negB,kEq,ke,j5,lend,frz,frzL,zRow,j9,j7,closed,jy,jW,binI,remP,remI,retK,retG,ko,retD,ki,resL,resD,oneD,renD,renL,renE,j0,rho,jL,j4,zla,zlb,zlc,zld,zca,zcb,o1,o0,og,Nat.reduceBEq,Nat.reduceAdd,Nat.beq]
 exact Rt.id
theorem ZE {l : List D} (hl : l.length <= 4294967296) : TSp 76 [.agg [.ls 4 l]] (.ls 4 l) := by
 refine JJ (by rfl) ?_
 dsimp only [c_band_Region_Rects, qC, jn,jH,jO,jq,jF,jJ,jo,jG,jI,iteR,regK,jh,jc,jk,jj,jb,ji,blkK,kp,kd,jd,ja,jx,fpOk,foot,km,allN,memN,jK,jl,jr,jv,jt,ju,jf,jg,je,newN,jw,jN,jP,jY,jQ,jM,jS,jz,jA,jC,jD,jE,jm,jB,evX,evL,evB,rd,get,subG,memG,jT,jV,hyps,gob,impP,allP,j1,jX,j3,kj,nth,j8,kh,jU,lenB,kg,jR,entN,setE,jZ,addE,setL,setN,putE,env0,eqCs,j6,eqC,bA,bO,bN,bE,negB,kEq,ke,j5,lend,frz,frzL,zRow,j9,j7,closed,jy,jW,binI,remP,remI,retK,retG,ko,retD,ki,resL,resD,oneD,renD,renL,renE,j0,rho,jL,j4,zla,zlb,zlc,zld,zca,zcb,o1,o0,og,Nat.reduceBEq,Nat.reduceAdd,Nat.beq]
 refine kq (jO1 hl) ?_
 dsimp only [c_band_Region_Rects, qC, jn,jH,jO,jq,jF,jJ,jo,jG,jI,iteR,regK,jh,jc,jk,jj,jb,ji,blkK,kp,kd,jd,ja,jx,fpOk,foot,km,allN,memN,jK,jl,jr,jv,jt,ju,jf,jg,je,newN,jw,jN,jP,jY,jQ,jM,jS,jz,jA,jC,jD,jE,jm,jB,evX,evL,evB,rd,get,subG,memG,jT,jV,hyps,gob,impP,allP,j1,jX,j3,kj,nth,j8,kh,jU,lenB,kg,jR,entN,setE,jZ,addE,setL,setN,putE,env0,eqCs,j6,eqC,bA,bO,bN,bE,negB,kEq,ke,j5,lend,frz,frzL,zRow,j9,j7,closed,jy,jW,binI,remP,remI,retK,retG,ko,retD,ki,resL,resD,oneD,renD,renL,renE,j0,rho,jL,j4,zla,zlb,zlc,zld,zca,zcb,o1,o0,og,Nat.reduceBEq,Nat.reduceAdd,Nat.beq]
theorem ZF {l : List D} : TSp 30 [.agg [.ls 4 l]] (.bool (decide ((l.length : Int) = 0))) := by
 refine JK (by rfl) ?_
 dsimp only [c_band_Region_Empty, xC, jn,jH,jO,jq,jF,jJ,jo,jG,jI,iteR,regK,jh,jc,jk,jj,jb,ji,blkK,kp,kd,jd,ja,jx,fpOk,foot,km,allN,memN,jK,jl,jr,jv,jt,ju,jf,jg,je,newN,jw,jN,jP,jY,jQ,jM,jS,jz,jA,jC,jD,jE,jm,jB,evX,evL,evB,rd,get,subG,memG,jT,jV,hyps,gob,impP,allP,j1,jX,j3,kj,nth,j8,kh,jU,lenB,kg,jR,entN,setE,jZ,addE,setL,setN,putE,env0,eqCs,j6,eqC,bA,bO,bN,bE,negB,kEq,ke,j5,lend,frz,frzL,zRow,j9,j7,closed,jy,jW,binI,remP,remI,retK,retG,ko,retD,ki,resL,resD,oneD,renD,renL,renE,j0,rho,jL,j4,zla,zlb,zlc,zld,zca,zcb,o1,o0,og,Nat.reduceBEq,Nat.reduceAdd,Nat.beq]
theorem jD9 {a b : List Rc} (hl : a.length <= 4611686018427387904) : TSp 22 [.agg [.ls 4 (rcs a)], .agg [.ls 4 (rcs b)]] (.bool (decide (a = b))) := by
 refine jb9 (by rfl) ?_
 dsimp only [c_band_Same, Ki, jn,jH,jO,jq,jF,jJ,jo,jG,jI,iteR,regK,jh,jc,jk,jj,jb,ji,blkK,kp,kd,jd,ja,jx,fpOk,foot,km,allN,memN,jK,jl,jr,jv,jt,ju,jf,jg,je,newN,jw,jN,jP,jY,jQ,jM,jS,jz,jA,jC,jD,jE,jm,jB,evX,evL,evB,rd,get,subG,memG,jT,jV,hyps,gob,impP,allP,j1,jX,j3,kj,nth,j8,kh,jU,lenB,kg,jR,entN,setE,jZ,addE,setL,setN,putE,env0,eqCs,j6,eqC,bA,bO,bN,bE,negB,kEq,ke,j5,lend,frz,frzL,zRow,j9,j7,closed,jy,jW,binI,remP,remI,retK,retG,ko,retD,ki,resL,resD,oneD,renD,renL,renE,j0,rho,jL,j4,zla,zlb,zlc,zld,zca,zcb,o1,o0,og,Nat.reduceBEq,Nat.reduceAdd,Nat.beq]
 refine kq (jO0 hl) ?_
 dsimp only [c_band_Same, Ki, jn,jH,jO,jq,jF,jJ,jo,jG,jI,iteR,regK,jh,jc,jk,jj,jb,ji,blkK,kp,kd,jd,ja,jx,fpOk,foot,km,allN,memN,jK,jl,jr,jv,jt,ju,jf,jg,je,newN,jw,jN,jP,jY,jQ,jM,jS,jz,jA,jC,jD,jE,jm,jB,evX,evL,evB,rd,get,subG,memG,jT,jV,hyps,gob,impP,allP,j1,jX,j3,kj,nth,j8,kh,jU,lenB,kg,jR,entN,setE,jZ,addE,setL,setN,putE,env0,eqCs,j6,eqC,bA,bO,bN,bE,negB,kEq,ke,j5,lend,frz,frzL,zRow,j9,j7,closed,jy,jW,binI,remP,remI,retK,retG,ko,retD,ki,resL,resD,oneD,renD,renL,renE,j0,rho,jL,j4,zla,zlb,zlc,zld,zca,zcb,o1,o0,og,Nat.reduceBEq,Nat.reduceAdd,Nat.beq]
theorem jN9 {l : List Rc} (hc : JF l) (hv : ∀ r ∈ l, Vr r) (hl : l.length <= 1048576) {x y : Int} {b : Bool} (hb : b = true ↔ pts l x y) : TSp 45 [.agg [.ls 4 (rcs l)], .int .i64 x, .int .i64 y] (.bool b) := by
 refine Qb (by rfl) ?_
 dsimp only [c_band_Region_Has, zD, jn,jH,jO,jq,jF,jJ,jo,jG,jI,iteR,regK,jh,jc,jk,jj,jb,ji,blkK,kp,kd,jd,ja,jx,fpOk,foot,km,allN,memN,jK,jl,jr,jv,jt,ju,jf,jg,je,newN,jw,jN,jP,jY,jQ,jM,jS,jz,jA,jC,jD,jE,jm,jB,evX,evL,evB,rd,get,subG,memG,jT,jV,hyps,gob,impP,allP,j1,jX,j3,kj,nth,j8,kh,jU,lenB,kg,jR,entN,setE,jZ,addE,setL,setN,putE,env0,eqCs,j6,eqC,bA,bO,bN,bE,negB,kEq,ke,j5,lend,frz,frzL,zRow,j9,j7,closed,jy,jW,binI,remP,remI,retK,retG,ko,retD,ki,resL,resD,oneD,renD,renL,renE,j0,rho,jL,j4,zla,zlb,zlc,zld,zca,zcb,o1,o0,og,Nat.reduceBEq,Nat.reduceAdd,Nat.beq]
 rw [ku]
 refine kG (α := {i : Nat // i <= l.length /\ ∀ r ∈ l.take i, ¬ r.has x y})
  (fun i => ⟨[(1, [], .int .i64 x), (2, [], .int .i64 y), (7, [], .bool false), (11, [], .ls 4 (rcs l)), (12, [], .int .i64 l.length), (13, [], .int .i64 i.1)], [.cells [.ls 4 (rcs l)]]⟩)
  (fun i => l.length - i.1) ?_ ⟨0, Nat.zero_le _, by simp⟩ (by simp)
 rintro ⟨i, hi, hno⟩ I ih
 dsimp only at hi hno |-
 dsimp only [c_band_Region_Has, zD, jn,jH,jO,jq,jF,jJ,jo,jG,jI,iteR,regK,jh,jc,jk,jj,jb,ji,blkK,kp,kd,jd,ja,jx,fpOk,foot,km,allN,memN,jK,jl,jr,jv,jt,ju,jf,jg,je,newN,jw,jN,jP,jY,jQ,jM,jS,jz,jA,jC,jD,jE,jm,jB,evX,evL,evB,rd,get,subG,memG,jT,jV,hyps,gob,impP,allP,j1,jX,j3,kj,nth,j8,kh,jU,lenB,kg,jR,entN,setE,jZ,addE,setL,setN,putE,env0,eqCs,j6,eqC,bA,bO,bN,bE,negB,kEq,ke,j5,lend,frz,frzL,zRow,j9,j7,closed,jy,jW,binI,remP,remI,retK,retG,ko,retD,ki,resL,resD,oneD,renD,renL,renE,j0,rho,jL,j4,zla,zlb,zlc,zld,zca,zcb,o1,o0,og,Nat.reduceBEq,Nat.reduceAdd,Nat.beq]
 refine ⟨fun hlt => ?_, fun hge => ?_⟩
 ·have hil : i < l.length := by simpa using hlt
  obtain ⟨r, hr⟩ : ∃ r, l[i]? = some r := ⟨_, List.getElem?_eq_getElem hil⟩
  refine ⟨⟨rfl, by omega, by rw [ku]; omega⟩, ky (rD r) (rD r) (qx (by simpa using hr)) rfl ?_⟩
  dsimp only [c_band_Region_Has, zD, rD, jn,jH,jO,jq,jF,jJ,jo,jG,jI,iteR,regK,jh,jc,jk,jj,jb,ji,blkK,kp,kd,jd,ja,jx,fpOk,foot,km,allN,memN,jK,jl,jr,jv,jt,ju,jf,jg,je,newN,jw,jN,jP,jY,jQ,jM,jS,jz,jA,jC,jD,jE,jm,jB,evX,evL,evB,rd,get,subG,memG,jT,jV,hyps,gob,impP,allP,j1,jX,j3,kj,nth,j8,kh,jU,lenB,kg,jR,entN,setE,jZ,addE,setL,setN,putE,env0,eqCs,j6,eqC,bA,bO,bN,bE,negB,kEq,ke,j5,lend,frz,frzL,zRow,j9,j7,closed,jy,jW,binI,remP,remI,retK,retG,ko,retD,ki,resL,resD,oneD,renD,renL,renE,j0,rho,jL,j4,zla,zlb,zlc,zld,zca,zcb,o1,o0,og,Nat.reduceBEq,Nat.reduceAdd,Nat.beq]
  have hV := hv r (List.mem_of_getElem? hr)
  unfold Vr at hV
  have hnext : ¬ r.has x y -> ∀ q ∈ l.take (i + 1), ¬ q.has x y := fun h q hq => by
   rw [List.take_add_one, hr] at hq
   rcases List.mem_append.1 hq with hq | hq
   ·exact hno q hq
   ·simp at hq; subst hq; exact h
  refine ⟨fun h1 => ?_, fun h1 => ?_⟩
  ·have hbf : b = false := by
    rw [Bool.eq_false_iff]
    intro h2
    obtain ⟨q, hq, h3, h4⟩ := hb.1 h2
    rw [<- List.take_append_drop (i + 1) l] at hq
    simp only [decide_eq_true_eq] at h1
    rcases List.mem_append.1 hq with hq | hq
    ·exact hnext (fun h => by unfold Rc.has at h; omega) q hq ⟨h3, h4⟩
    ·have hp := (Jo hc).1
     obtain ⟨hil', e⟩ := List.getElem?_eq_some_iff.1 hr
     have hpp : (l.drop i).Pairwise Bfr := hp.sublist (List.drop_sublist _ _)
     rw [List.drop_eq_getElem_cons hil', e] at hpp
     have := (List.pairwise_cons.1 hpp).1 q hq
     unfold Bfr at this
     omega
   rw [hbf]
  ·simp only [decide_eq_false_iff_not] at h1
   refine ⟨by simp only [fits]; omega, fun h => by simp only [fits]; omega, ?_⟩
   have hag : ¬ r.has x y -> Xj 0 I ⟨[(1, [], .int .i64 x), (2, [], .int .i64 y), (7, [], .bool false), (11, [], .ls 4 (rcs l)), (12, [], .int .i64 l.length), (13, [], .int .i64 ((i : Int) + 1))], [.cells [.ls 4 (rcs l)], .cells [.int .i64 r.x, .int .i64 r.y, .int .i64 r.w, .int .i64 r.h]]⟩ := fun h =>
    qa (ih ⟨i + 1, by omega, hnext h⟩ (by dsimp only; omega)) ⟨rfl, rfl, rfl, rfl, rfl, by simp [get], trivial⟩ ⟨rfl, trivial⟩ rfl rfl
   refine ⟨fun h2 => ⟨by simp only [fits]; omega, hag fun h => ?_⟩, fun h2 => ⟨fun h3 => ?_, fun h3 => ⟨by simp only [fits]; omega, hag fun h => ?_⟩⟩⟩
   ·unfold Rc.has at h
    simp only [Bool.or_eq_true, decide_eq_true_eq] at h2
    omega
   ·have : b = true := hb.2 ⟨r, List.mem_of_getElem? hr, by
     simp only [Bool.or_eq_false_iff, decide_eq_false_iff_not, decide_eq_true_eq] at h2 h3
     unfold Rc.has; omega⟩
    rw [this]
   ·unfold Rc.has at h
    simp only [decide_eq_false_iff_not] at h3
    omega
 ·have hil : i = l.length := by simp at hge; omega
  subst hil
  rw [List.take_length] at hno
  have hbf : b = false := by
   rw [Bool.eq_false_iff]
   intro h2
   obtain ⟨q, hq, h3⟩ := hb.1 h2
   exact hno q hq h3
  rw [hbf]

theorem jI6 {r : Rc} : TSp 132 [rD r] (.tup [.int .i64 r.y, .int .i64 r.h]) := by
 refine yW (by rfl) ?_
 dsimp only [c_region_rule_join_1, xl, rD, jn,jH,jO,jq,jF,jJ,jo,jG,jI,iteR,regK,jh,jc,jk,jj,jb,ji,blkK,kp,kd,jd,ja,jx,fpOk,foot,km,allN,memN,jK,jl,jr,jv,jt,ju,jf,jg,je,newN,jw,jN,jP,jY,jQ,jM,jS,jz,jA,jC,jD,jE,jm,jB,evX,evL,evB,rd,get,subG,memG,jT,jV,hyps,gob,impP,allP,j1,jX,j3,kj,nth,j8,kh,jU,lenB,kg,jR,entN,setE,jZ,addE,setL,setN,putE,env0,eqCs,j6,eqC,bA,bO,bN,bE,negB,kEq,ke,j5,lend,frz,frzL,zRow,j9,j7,closed,jy,jW,binI,remP,remI,retK,retG,ko,retD,ki,resL,resD,oneD,renD,renL,renE,j0,rho,jL,j4,zla,zlb,zlc,zld,zca,zcb,o1,o0,og,Nat.reduceBEq,Nat.reduceAdd,Nat.beq]
theorem jI5 {r : Rc} : TSp 134 [rD r] (.tup [.int .i64 r.x, .int .i64 r.w]) := by
 refine yV (by rfl) ?_
 dsimp only [c_region_rule_join_2, xk, rD, jn,jH,jO,jq,jF,jJ,jo,jG,jI,iteR,regK,jh,jc,jk,jj,jb,ji,blkK,kp,kd,jd,ja,jx,fpOk,foot,km,allN,memN,jK,jl,jr,jv,jt,ju,jf,jg,je,newN,jw,jN,jP,jY,jQ,jM,jS,jz,jA,jC,jD,jE,jm,jB,evX,evL,evB,rd,get,subG,memG,jT,jV,hyps,gob,impP,allP,j1,jX,j3,kj,nth,j8,kh,jU,lenB,kg,jR,entN,setE,jZ,addE,setL,setN,putE,env0,eqCs,j6,eqC,bA,bO,bN,bE,negB,kEq,ke,j5,lend,frz,frzL,zRow,j9,j7,closed,jy,jW,binI,remP,remI,retK,retG,ko,retD,ki,resL,resD,oneD,renD,renL,renE,j0,rho,jL,j4,zla,zlb,zlc,zld,zca,zcb,o1,o0,og,Nat.reduceBEq,Nat.reduceAdd,Nat.beq]
def eT (tl : Rc -> Int × Int) (l : List Rc) : List Int := l.flatMap fun r => [(tl r).1, (tl r).1 + (tl r).2]
theorem Y5 (tl : Rc -> Int × Int) : ∀ l : List Rc, (eT tl l).length = 2 * l.length
 | [] => rfl
 | r :: l => by
   have := Y5 tl l
   unfold eT at this |-
   simp only [List.flatMap_cons, List.length_append, List.length_cons, List.length_nil, this]; omega
theorem eT_y : ∀ l : List Rc, eT (fun r => (r.y, r.h)) l = edsL l
 | [] => rfl
 | r :: l => by
   have := eT_y l
   unfold eT at this |-
   simp only [List.flatMap_cons, edsL, this]; rfl
theorem eT_x : ∀ l : List Rc, eT (fun r => (r.x, r.w)) l = edX l
 | [] => rfl
 | r :: l => by
   have := eT_x l
   unfold eT at this |-
   simp only [List.flatMap_cons, edX, this]; rfl
theorem eT_snoc (tl : Rc -> Int × Int) (l : List Rc) (r : Rc) : eT tl (l ++ [r]) = eT tl l ++ [(tl r).1, (tl r).1 + (tl r).2] := by simp [eT]
def lls (LL : List (List Rc)) : List D := LL.map fun l => .ls 4 (rcs l)
theorem lls_get {LL : List (List Rc)} {i : Nat} {l : List Rc} (h : LL[i]? = some l) : (lls LL)[i]? = some (.ls 4 (rcs l)) := by simp [lls, h]
theorem jG0 (LL : List (List Rc)) : (lls LL).length = LL.length := by simp [lls]
theorem jD7 {g : Nat} {tl : Rc -> Int × Int} (ht : ∀ r, TSp g [rD r] (.tup [.int .i64 (tl r).1, .int .i64 (tl r).2])) {LL : List (List Rc)} (hb : ∀ l ∈ LL, ∀ r ∈ l, -1048576 <= (tl r).1 /\ 0 <= (tl r).2 /\ (tl r).1 + (tl r).2 <= 1048576)
  (hL : LL.length <= 1048576) (hN : (LL.flatMap (eT tl)).length <= 4194304) : TSp 131 [.fn g [], .ls 1 (lls LL)] (.ls 1 (iI (Lib.compact (srtI (LL.flatMap (eT tl)))))) := by
 refine XF (by rfl) ?_
 dsimp only [c_region_cuts, qG, jn,jH,jO,jq,jF,jJ,jo,jG,jI,iteR,regK,jh,jc,jk,jj,jb,ji,blkK,kp,kd,jd,ja,jx,fpOk,foot,km,allN,memN,jK,jl,jr,jv,jt,ju,jf,jg,je,newN,jw,jN,jP,jY,jQ,jM,jS,jz,jA,jC,jD,jE,jm,jB,evX,evL,evB,rd,get,subG,memG,jT,jV,hyps,gob,impP,allP,j1,jX,j3,kj,nth,j8,kh,jU,lenB,kg,jR,entN,setE,jZ,addE,setL,setN,putE,env0,eqCs,j6,eqC,bA,bO,bN,bE,negB,kEq,ke,j5,lend,frz,frzL,zRow,j9,j7,closed,jy,jW,binI,remP,remI,retK,retG,ko,retD,ki,resL,resD,oneD,renD,renL,renE,j0,rho,jL,j4,zla,zlb,zlc,zld,zca,zcb,o1,o0,og,Nat.reduceBEq,Nat.reduceAdd,Nat.beq]
 rw [jG0]
 refine kG (α := {p : Nat × Nat // p.1 <= LL.length})
  (fun p => ⟨[(0, [], .fn g []), (5, [], .own 1 p.1.2), (12, [], .ls 1 (lls LL)), (13, [], .int .i64 LL.length), (14, [], .int .i64 p.1.1)], [.arr 3 1 0 [], .arr 3 1 p.1.2 (iI ((LL.take p.1.1).flatMap (eT tl)))]⟩)
  (fun p => LL.length - p.1.1) ?_ ⟨(0, 0), Nat.zero_le _⟩ (by simp [iI])
 rintro ⟨⟨j, ver⟩, hj⟩ I ih
 dsimp only at hj |-
 dsimp only [c_region_cuts, qG, jn,jH,jO,jq,jF,jJ,jo,jG,jI,iteR,regK,jh,jc,jk,jj,jb,ji,blkK,kp,kd,jd,ja,jx,fpOk,foot,km,allN,memN,jK,jl,jr,jv,jt,ju,jf,jg,je,newN,jw,jN,jP,jY,jQ,jM,jS,jz,jA,jC,jD,jE,jm,jB,evX,evL,evB,rd,get,subG,memG,jT,jV,hyps,gob,impP,allP,j1,jX,j3,kj,nth,j8,kh,jU,lenB,kg,jR,entN,setE,jZ,addE,setL,setN,putE,env0,eqCs,j6,eqC,bA,bO,bN,bE,negB,kEq,ke,j5,lend,frz,frzL,zRow,j9,j7,closed,jy,jW,binI,remP,remI,retK,retG,ko,retD,ki,resL,resD,oneD,renD,renL,renE,j0,rho,jL,j4,zla,zlb,zlc,zld,zca,zcb,o1,o0,og,Nat.reduceBEq,Nat.reduceAdd,Nat.beq]
 refine ⟨fun hlt => ?_, fun hge => ?_⟩
 ·have hjl : j < LL.length := by simpa using hlt
  obtain ⟨l, hl⟩ : ∃ l, LL[j]? = some l := ⟨_, List.getElem?_eq_getElem hjl⟩
  have hbl := hb l (List.mem_of_getElem? hl)
  have hpre : ((LL.take j).flatMap (eT tl)).length + 2 * l.length <= 4194304 := by
   obtain ⟨h1, h2⟩ := List.getElem?_eq_some_iff.1 hl
   have e : LL.flatMap (eT tl) = (LL.take j).flatMap (eT tl) ++ (eT tl l ++ (LL.drop (j + 1)).flatMap (eT tl)) := by
    conv => lhs; rw [<- List.take_append_drop j LL, List.drop_eq_getElem_cons h1, h2]
    simp
   rw [e, List.length_append, List.length_append, Y5] at hN
   omega
  refine ⟨⟨rfl, by omega, by rw [jG0]; omega⟩, ky (.ls 4 (rcs l)) (.ls 4 (rcs l)) (lls_get (by simpa using hl)) rfl ?_⟩
  dsimp only [c_region_cuts, qG, jn,jH,jO,jq,jF,jJ,jo,jG,jI,iteR,regK,jh,jc,jk,jj,jb,ji,blkK,kp,kd,jd,ja,jx,fpOk,foot,km,allN,memN,jK,jl,jr,jv,jt,ju,jf,jg,je,newN,jw,jN,jP,jY,jQ,jM,jS,jz,jA,jC,jD,jE,jm,jB,evX,evL,evB,rd,get,subG,memG,jT,jV,hyps,gob,impP,allP,j1,jX,j3,kj,nth,j8,kh,jU,lenB,kg,jR,entN,setE,jZ,addE,setL,setN,putE,env0,eqCs,j6,eqC,bA,bO,bN,bE,negB,kEq,ke,j5,lend,frz,frzL,zRow,j9,j7,closed,jy,jW,binI,remP,remI,retK,retG,ko,retD,ki,resL,resD,oneD,renD,renL,renE,j0,rho,jL,j4,zla,zlb,zlc,zld,zca,zcb,o1,o0,og,Nat.reduceBEq,Nat.reduceAdd,Nat.beq]
  rw [ku]
  generalize hPd : (LL.take j).flatMap (eT tl) = P at *
  refine kG (α := {p : Nat × Nat // p.1 <= l.length})
   (fun p => ⟨[(0, [], .fn g []), (5, [], .own 1 p.1.2), (12, [], .ls 1 (lls LL)), (13, [], .int .i64 LL.length), (14, [], .int .i64 j), (18, [], .ls 4 (rcs l)), (19, [], .int .i64 l.length), (20, [], .int .i64 p.1.1)], [.arr 3 1 0 [], .arr 3 1 p.1.2 (iI (P ++ eT tl (l.take p.1.1)))]⟩)
   (fun p => l.length - p.1.1) ?_ ⟨(0, ver), Nat.zero_le _⟩ (by simp [eT])
  rintro ⟨⟨i, v2⟩, hi⟩ I2 ih2
  dsimp only at hi |-
  dsimp only [c_region_cuts, qG, jn,jH,jO,jq,jF,jJ,jo,jG,jI,iteR,regK,jh,jc,jk,jj,jb,ji,blkK,kp,kd,jd,ja,jx,fpOk,foot,km,allN,memN,jK,jl,jr,jv,jt,ju,jf,jg,je,newN,jw,jN,jP,jY,jQ,jM,jS,jz,jA,jC,jD,jE,jm,jB,evX,evL,evB,rd,get,subG,memG,jT,jV,hyps,gob,impP,allP,j1,jX,j3,kj,nth,j8,kh,jU,lenB,kg,jR,entN,setE,jZ,addE,setL,setN,putE,env0,eqCs,j6,eqC,bA,bO,bN,bE,negB,kEq,ke,j5,lend,frz,frzL,zRow,j9,j7,closed,jy,jW,binI,remP,remI,retK,retG,ko,retD,ki,resL,resD,oneD,renD,renL,renE,j0,rho,jL,j4,zla,zlb,zlc,zld,zca,zcb,o1,o0,og,Nat.reduceBEq,Nat.reduceAdd,Nat.beq]
  refine ⟨fun hlt2 => ?_, fun hge2 => ?_⟩
  ·have hil : i < l.length := by simpa using hlt2
   obtain ⟨r, hr⟩ : ∃ r, l[i]? = some r := ⟨_, List.getElem?_eq_getElem hil⟩
   have hbr := hbl r (List.mem_of_getElem? hr)
   refine ⟨⟨rfl, by omega, by rw [ku]; omega⟩, ky (rD r) (rD r) (qx (by simpa using hr)) rfl ?_⟩
   dsimp only [c_region_cuts, qG, rD, jn,jH,jO,jq,jF,jJ,jo,jG,jI,iteR,regK,jh,jc,jk,jj,jb,ji,blkK,kp,kd,jd,ja,jx,fpOk,foot,km,allN,memN,jK,jl,jr,jv,jt,ju,jf,jg,je,newN,jw,jN,jP,jY,jQ,jM,jS,jz,jA,jC,jD,jE,jm,jB,evX,evL,evB,rd,get,subG,memG,jT,jV,hyps,gob,impP,allP,j1,jX,j3,kj,nth,j8,kh,jU,lenB,kg,jR,entN,setE,jZ,addE,setL,setN,putE,env0,eqCs,j6,eqC,bA,bO,bN,bE,negB,kEq,ke,j5,lend,frz,frzL,zRow,j9,j7,closed,jy,jW,binI,remP,remI,retK,retG,ko,retD,ki,resL,resD,oneD,renD,renL,renE,j0,rho,jL,j4,zla,zlb,zlc,zld,zca,zcb,o1,o0,og,Nat.reduceBEq,Nat.reduceAdd,Nat.beq]
   refine kq (ht r) ?_
   dsimp only [c_region_cuts, qG, jn,jH,jO,jq,jF,jJ,jo,jG,jI,iteR,regK,jh,jc,jk,jj,jb,ji,blkK,kp,kd,jd,ja,jx,fpOk,foot,km,allN,memN,jK,jl,jr,jv,jt,ju,jf,jg,je,newN,jw,jN,jP,jY,jQ,jM,jS,jz,jA,jC,jD,jE,jm,jB,evX,evL,evB,rd,get,subG,memG,jT,jV,hyps,gob,impP,allP,j1,jX,j3,kj,nth,j8,kh,jU,lenB,kg,jR,entN,setE,jZ,addE,setL,setN,putE,env0,eqCs,j6,eqC,bA,bO,bN,bE,negB,kEq,ke,j5,lend,frz,frzL,zRow,j9,j7,closed,jy,jW,binI,remP,remI,retK,retG,ko,retD,ki,resL,resD,oneD,renD,renL,renE,j0,rho,jL,j4,zla,zlb,zlc,zld,zca,zcb,o1,o0,og,Nat.reduceBEq,Nat.reduceAdd,Nat.beq]
   have hll : (iI (P ++ eT tl (l.take i))).length <= 4194304 := by rw [qZ, List.length_append, Y5, List.length_take]; omega
   refine ⟨by simp only [fits]; omega, ⟨rfl, rfl, rfl, rfl, by simp only [List.length_cons, List.length_nil]; omega, by simp only [List.length_cons, List.length_nil]; omega⟩, by simp only [fits]; omega, ?_⟩
   refine qa (ih2 ⟨(i + 1, v2 + 1), by omega⟩ (by dsimp only; omega)) ⟨rfl, rfl, rfl, rfl, rfl, rfl, rfl, rfl, trivial⟩ ⟨rfl, ?_, trivial⟩ rfl rfl
   rw [List.take_add_one, hr, Option.toList, eT_snoc, <- List.append_assoc]
   simp [iI]
  ·have hil : i = l.length := by simp at hge2; omega
   subst hil
   rw [List.take_length]
   refine ⟨by simp only [fits]; omega, ?_⟩
   refine qa (ih ⟨(j + 1, v2), hjl⟩ (by dsimp only; omega)) ⟨rfl, rfl, rfl, rfl, by simp [get], trivial⟩ ⟨rfl, ?_, trivial⟩ rfl rfl
   dsimp only
   rw [List.take_add_one, hl, Option.toList, List.flatMap_append, hPd]
   simp
 ·have hjl : j = LL.length := by simp at hge; omega
  subst hjl
  rw [List.take_length]
  refine kX [1] (jq7 (ver := ver) (by omega)) rfl rfl ?_
  dsimp only [c_region_cuts, qG, jn,jH,jO,jq,jF,jJ,jo,jG,jI,iteR,regK,jh,jc,jk,jj,jb,ji,blkK,kp,kd,jd,ja,jx,fpOk,foot,km,allN,memN,jK,jl,jr,jv,jt,ju,jf,jg,je,newN,jw,jN,jP,jY,jQ,jM,jS,jz,jA,jC,jD,jE,jm,jB,evX,evL,evB,rd,get,subG,memG,jT,jV,hyps,gob,impP,allP,j1,jX,j3,kj,nth,j8,kh,jU,lenB,kg,jR,entN,setE,jZ,addE,setL,setN,putE,env0,eqCs,j6,eqC,bA,bO,bN,bE,negB,kEq,ke,j5,lend,frz,frzL,zRow,j9,j7,closed,jy,jW,binI,remP,remI,retK,retG,ko,retD,ki,resL,resD,oneD,renD,renL,renE,j0,rho,jL,j4,zla,zlb,zlc,zld,zca,zcb,o1,o0,og,Nat.reduceBEq,Nat.reduceAdd,Nat.beq]
  refine kX [1] (Xk (ver := ver) (by rw [Zl]; omega)) rfl rfl ?_
  dsimp only [c_region_cuts, qG, jn,jH,jO,jq,jF,jJ,jo,jG,jI,iteR,regK,jh,jc,jk,jj,jb,ji,blkK,kp,kd,jd,ja,jx,fpOk,foot,km,allN,memN,jK,jl,jr,jv,jt,ju,jf,jg,je,newN,jw,jN,jP,jY,jQ,jM,jS,jz,jA,jC,jD,jE,jm,jB,evX,evL,evB,rd,get,subG,memG,jT,jV,hyps,gob,impP,allP,j1,jX,j3,kj,nth,j8,kh,jU,lenB,kg,jR,entN,setE,jZ,addE,setL,setN,putE,env0,eqCs,j6,eqC,bA,bO,bN,bE,negB,kEq,ke,j5,lend,frz,frzL,zRow,j9,j7,closed,jy,jW,binI,remP,remI,retK,retG,ko,retD,ki,resL,resD,oneD,renD,renL,renE,j0,rho,jL,j4,zla,zlb,zlc,zld,zca,zcb,o1,o0,og,Nat.reduceBEq,Nat.reduceAdd,Nat.beq]
  exact ⟨rfl, rfl⟩
theorem sp_cutY {a b : List Rc} (ha : ∀ r ∈ a, Vr r) (hb : ∀ r ∈ b, Vr r) (hl : a.length + b.length <= 1048576) : TSp 131 [.fn 132 [], .ls 1 [.ls 4 (rcs a), .ls 4 (rcs b)]] (.ls 1 (iI (cutY a b))) := by
 have := jD7 (tl := fun r => (r.y, r.h)) (fun r => jI6) (LL := [a, b]) (fun l hl r hr => by
  have hv : Vr r := by
   simp only [List.mem_cons, List.not_mem_nil, or_false] at hl
   rcases hl with rfl | rfl
   ·exact ha r hr
   ·exact hb r hr
  unfold Vr at hv; dsimp only; omega) (by simp) (by simp only [List.flatMap_cons, List.flatMap_nil, List.append_nil, List.length_append, Y5]; omega)
 simp only [List.flatMap_cons, List.flatMap_nil, List.append_nil, eT_y] at this
 exact this
theorem sp_cutX {a b : List Rc} (ha : ∀ r ∈ a, Vr r) (hb : ∀ r ∈ b, Vr r) (hl : a.length + b.length <= 1048576) : TSp 131 [.fn 134 [], .ls 1 [.ls 4 (rcs a), .ls 4 (rcs b)]] (.ls 1 (iI (cutX a b))) := by
 have := jD7 (tl := fun r => (r.x, r.w)) (fun r => jI5) (LL := [a, b]) (fun l hl r hr => by
  have hv : Vr r := by
   simp only [List.mem_cons, List.not_mem_nil, or_false] at hl
   rcases hl with rfl | rfl
   ·exact ha r hr
   ·exact hb r hr
  unfold Vr at hv; dsimp only; omega) (by simp) (by simp only [List.flatMap_cons, List.flatMap_nil, List.append_nil, List.length_append, Y5]; omega)
 simp only [List.flatMap_cons, List.flatMap_nil, List.append_nil, eT_x] at this
 exact this
theorem hd_of (c : List Rc) : ∃ r0, 0 < c.length -> c[0]? = some r0 := by
 cases c with
 | nil => exact ⟨.o, fun h => by simp at h⟩
 | cons r c => exact ⟨r, fun _ => rfl⟩
theorem jv7 {p : Rc -> Bool} {c : List Rc} {r0 : Rc} (h0 : 0 < c.length -> c[0]? = some r0) (hb : (decide ((0 : Int) < c.length) && p r0) = true) : c.dropWhile p = (c.drop 1).dropWhile p /\ 0 < c.length := by
 simp only [Bool.and_eq_true, decide_eq_true_eq] at hb
 cases c with
 | nil => simp at hb
 | cons r c =>
   have : r = r0 := by simpa using h0 (by simp)
   subst this
   rw [List.dropWhile_cons, if_pos hb.2]
   exact ⟨rfl, by simp⟩
theorem jv6 {p : Rc -> Bool} {c : List Rc} {r0 : Rc} (h0 : 0 < c.length -> c[0]? = some r0) (hb : (decide ((0 : Int) < c.length) && p r0) = false) : c.dropWhile p = c := by
 cases c with
 | nil => rfl
 | cons r c =>
   have : r = r0 := by simpa using h0 (by simp)
   subst this
   simp only [List.length_cons, Bool.and_eq_false_iff, decide_eq_false_iff_not] at hb
   rw [List.dropWhile_cons, if_neg]
   rcases hb with hb | hb
   ·omega
   ·rw [hb]; simp
theorem jp0 {p : Rc -> Bool} : ∀ {d : List Rc} {n : Nat}, (∀ r ∈ d.take n, p r = true) -> n <= d.length -> (∀ r, d[n]? = some r -> p r = false) -> d.takeWhile p = d.take n
 | [], n, _, hn, _ => by simp at hn; subst hn; rfl
 | r :: d, 0, _, _, h => by
   have := h r rfl
   rw [List.takeWhile_cons, if_neg (by rw [this]; simp)]; rfl
 | r :: d, n + 1, h, hn, h2 => by
   rw [List.takeWhile_cons, if_pos (h r (by simp)), List.take_succ_cons, jp0 (d := d) (n := n) (fun q hq => h q (by simp [hq])) (by simpa using hn) (fun q hq => h2 q (by simpa using hq))]
theorem js5 (c : List Rc) : ((rcs c).take ((c.length : Int)).toNat).drop (1 : Int).toNat = rcs (c.drop 1) := by
 rw [Int.toNat_natCast, Kc, List.take_length, Yw]; rfl
theorem jO4 {l : List Rc} {y : Int} (hv : ∀ r ∈ l, Vr r) (hl : l.length <= 1073741824) : TSpM 133 [.box 0 0, .int .i64 y] [.cells [.ls 4 (rcs l)]] (.ls 4 (rcs (rowT y (rowD y l)))) [.cells [.ls 4 (rcs (rowD y l))]] := by
 refine Qc (by rfl) ?_
 dsimp only [c_region_walk_row, qy, jn,jH,jO,jq,jF,jJ,jo,jG,jI,iteR,regK,jh,jc,jk,jj,jb,ji,blkK,kp,kd,jd,ja,jx,fpOk,foot,km,allN,memN,jK,jl,jr,jv,jt,ju,jf,jg,je,newN,jw,jN,jP,jY,jQ,jM,jS,jz,jA,jC,jD,jE,jm,jB,evX,evL,evB,rd,get,subG,memG,jT,jV,hyps,gob,impP,allP,j1,jX,j3,kj,nth,j8,kh,jU,lenB,kg,jR,entN,setE,jZ,addE,setL,setN,putE,env0,eqCs,j6,eqC,bA,bO,bN,bE,negB,kEq,ke,j5,lend,frz,frzL,zRow,j9,j7,closed,jy,jW,binI,remP,remI,retK,retG,ko,retD,ki,resL,resD,oneD,renD,renL,renE,j0,rho,jL,j4,zla,zlb,zlc,zld,zca,zcb,o1,o0,og,Nat.reduceBEq,Nat.reduceAdd,Nat.beq]
 refine kG (α := {c : List Rc // c.dropWhile (qv y) = rowD y l /\ ∀ r ∈ c, Vr r})
  (fun c => ⟨[(0, [], .box 0 0), (1, [], .int .i64 y)], [.cells [.ls 4 (rcs c.1)], .arr 45 4 0 []]⟩)
  (fun c => c.1.length) ?_ ⟨l, rfl, hv⟩ rfl
 rintro ⟨c, hc, hcv⟩ I ih
 dsimp only at hc hcv |-
 dsimp only [c_region_walk_row, qy, jn,jH,jO,jq,jF,jJ,jo,jG,jI,iteR,regK,jh,jc,jk,jj,jb,ji,blkK,kp,kd,jd,ja,jx,fpOk,foot,km,allN,memN,jK,jl,jr,jv,jt,ju,jf,jg,je,newN,jw,jN,jP,jY,jQ,jM,jS,jz,jA,jC,jD,jE,jm,jB,evX,evL,evB,rd,get,subG,memG,jT,jV,hyps,gob,impP,allP,j1,jX,j3,kj,nth,j8,kh,jU,lenB,kg,jR,entN,setE,jZ,addE,setL,setN,putE,env0,eqCs,j6,eqC,bA,bO,bN,bE,negB,kEq,ke,j5,lend,frz,frzL,zRow,j9,j7,closed,jy,jW,binI,remP,remI,retK,retG,ko,retD,ki,resL,resD,oneD,renD,renL,renE,j0,rho,jL,j4,zla,zlb,zlc,zld,zca,zcb,o1,o0,og,Nat.reduceBEq,Nat.reduceAdd,Nat.beq]
 rw [ku]
 obtain ⟨r0, hr0⟩ := hd_of c
 have hg : (decide ((0 : Int) < c.length) = true) -> (rcs c)[(0 : Int).toNat]? = some (rD r0) := fun h => qx (hr0 (by simp only [decide_eq_true_eq] at h; omega))
 have hgi : (decide ((0 : Int) < c.length) = true) -> 4 = 4 /\ (0 : Int) <= 0 /\ (0 : Int) < ((rcs c).length : Int) := fun h => ⟨rfl, Int.le_refl _, by rw [ku]; simpa using h⟩
 have hgv : (decide ((0 : Int) < c.length) = true) -> Vr r0 := fun h => hcv r0 (List.mem_of_getElem? (hr0 (by simp only [decide_eq_true_eq] at h; omega)))
 have hgc : (decide ((0 : Int) < c.length) = true) -> 4 = 4 /\ (0 : Int) <= 0 /\ (0 : Int) < (c.length : Int) := fun h => ⟨rfl, Int.le_refl _, by simpa using h⟩
 refine ⟨hgc, ky (rD r0) (.int .i64 r0.y) hg rfl ?_⟩
 dsimp only [c_region_walk_row, qy, jn,jH,jO,jq,jF,jJ,jo,jG,jI,iteR,regK,jh,jc,jk,jj,jb,ji,blkK,kp,kd,jd,ja,jx,fpOk,foot,km,allN,memN,jK,jl,jr,jv,jt,ju,jf,jg,je,newN,jw,jN,jP,jY,jQ,jM,jS,jz,jA,jC,jD,jE,jm,jB,evX,evL,evB,rd,get,subG,memG,jT,jV,hyps,gob,impP,allP,j1,jX,j3,kj,nth,j8,kh,jU,lenB,kg,jR,entN,setE,jZ,addE,setL,setN,putE,env0,eqCs,j6,eqC,bA,bO,bN,bE,negB,kEq,ke,j5,lend,frz,frzL,zRow,j9,j7,closed,jy,jW,binI,remP,remI,retK,retG,ko,retD,ki,resL,resD,oneD,renD,renL,renE,j0,rho,jL,j4,zla,zlb,zlc,zld,zca,zcb,o1,o0,og,Nat.reduceBEq,Nat.reduceAdd,Nat.beq]
 refine ⟨hgi, ky (rD r0) (.int .i64 r0.h) hg rfl ?_⟩
 dsimp only [c_region_walk_row, qy, jn,jH,jO,jq,jF,jJ,jo,jG,jI,iteR,regK,jh,jc,jk,jj,jb,ji,blkK,kp,kd,jd,ja,jx,fpOk,foot,km,allN,memN,jK,jl,jr,jv,jt,ju,jf,jg,je,newN,jw,jN,jP,jY,jQ,jM,jS,jz,jA,jC,jD,jE,jm,jB,evX,evL,evB,rd,get,subG,memG,jT,jV,hyps,gob,impP,allP,j1,jX,j3,kj,nth,j8,kh,jU,lenB,kg,jR,entN,setE,jZ,addE,setL,setN,putE,env0,eqCs,j6,eqC,bA,bO,bN,bE,negB,kEq,ke,j5,lend,frz,frzL,zRow,j9,j7,closed,jy,jW,binI,remP,remI,retK,retG,ko,retD,ki,resL,resD,oneD,renD,renL,renE,j0,rho,jL,j4,zla,zlb,zlc,zld,zca,zcb,o1,o0,og,Nat.reduceBEq,Nat.reduceAdd,Nat.beq]
 refine ⟨fun h => by have := hgv h; unfold Vr at this; simp only [fits]; omega, fun hb => ?_, fun hb => ?_⟩
 ·have hb' : (decide ((0 : Int) < c.length) && qv y r0) = true := hb
  obtain ⟨e1, e2⟩ := jv7 hr0 hb'
  rw [ku]
  refine ⟨⟨rfl, by omega, by omega, by omega⟩, ?_⟩
  rw [js5]
  exact qa (ih ⟨c.drop 1, e1.symm.trans hc, fun r hr => hcv r (List.mem_of_mem_drop hr)⟩ (by simp; omega)) ⟨rfl, rfl, trivial⟩ ⟨rfl, rfl, trivial⟩ rfl rfl
 ·have hb' : (decide ((0 : Int) < c.length) && qv y r0) = false := hb
  have hce : c = rowD y l := (jv6 hr0 hb').symm.trans hc
  have hdl : (rowD y l).length <= 1073741824 := Nat.le_trans (List.dropWhile_sublist _).length_le hl
  clear ih hb hb' hgv hgi hg hr0 hgc hc
  subst hce
  generalize rowD y l = d at *
  refine kG (α := {n : Nat // n <= d.length /\ ∀ r ∈ d.take n, decide (r.y <= y) = true})
   (fun n => ⟨[(0, [], .box 0 0), (1, [], .int .i64 y), (5, [], .int .i64 n.1)], [.cells [.ls 4 (rcs d)], .arr 45 4 0 []]⟩)
   (fun n => d.length - n.1) ?_ ⟨0, Nat.zero_le _, by simp⟩ (by simp)
  rintro ⟨n, hn, hnp⟩ I2 ih2
  dsimp only at hn hnp |-
  dsimp only [c_region_walk_row, qy, jn,jH,jO,jq,jF,jJ,jo,jG,jI,iteR,regK,jh,jc,jk,jj,jb,ji,blkK,kp,kd,jd,ja,jx,fpOk,foot,km,allN,memN,jK,jl,jr,jv,jt,ju,jf,jg,je,newN,jw,jN,jP,jY,jQ,jM,jS,jz,jA,jC,jD,jE,jm,jB,evX,evL,evB,rd,get,subG,memG,jT,jV,hyps,gob,impP,allP,j1,jX,j3,kj,nth,j8,kh,jU,lenB,kg,jR,entN,setE,jZ,addE,setL,setN,putE,env0,eqCs,j6,eqC,bA,bO,bN,bE,negB,kEq,ke,j5,lend,frz,frzL,zRow,j9,j7,closed,jy,jW,binI,remP,remI,retK,retG,ko,retD,ki,resL,resD,oneD,renD,renL,renE,j0,rho,jL,j4,zla,zlb,zlc,zld,zca,zcb,o1,o0,og,Nat.reduceBEq,Nat.reduceAdd,Nat.beq]
  rw [ku]
  obtain ⟨q, hq⟩ : ∃ q, n < d.length -> d[n]? = some q := by
   by_cases h : n < d.length
   ·exact ⟨_, fun _ => List.getElem?_eq_getElem h⟩
   ·exact ⟨.o, fun h' => absurd h' h⟩
  refine ⟨fun h => ⟨rfl, by omega, by simpa using h⟩, ky (rD q) (.int .i64 q.y) (fun h => qx (by rw [Int.toNat_natCast]; exact hq (by simp only [decide_eq_true_eq] at h; omega))) rfl ?_⟩
  dsimp only [c_region_walk_row, qy, jn,jH,jO,jq,jF,jJ,jo,jG,jI,iteR,regK,jh,jc,jk,jj,jb,ji,blkK,kp,kd,jd,ja,jx,fpOk,foot,km,allN,memN,jK,jl,jr,jv,jt,ju,jf,jg,je,newN,jw,jN,jP,jY,jQ,jM,jS,jz,jA,jC,jD,jE,jm,jB,evX,evL,evB,rd,get,subG,memG,jT,jV,hyps,gob,impP,allP,j1,jX,j3,kj,nth,j8,kh,jU,lenB,kg,jR,entN,setE,jZ,addE,setL,setN,putE,env0,eqCs,j6,eqC,bA,bO,bN,bE,negB,kEq,ke,j5,lend,frz,frzL,zRow,j9,j7,closed,jy,jW,binI,remP,remI,retK,retG,ko,retD,ki,resL,resD,oneD,renD,renL,renE,j0,rho,jL,j4,zla,zlb,zlc,zld,zca,zcb,o1,o0,og,Nat.reduceBEq,Nat.reduceAdd,Nat.beq]
  refine ⟨fun hb2 => ?_, fun hb2 => ?_⟩
  ·simp only [Bool.and_eq_true, decide_eq_true_eq] at hb2
   have hnl : n < d.length := by omega
   refine ⟨by simp only [fits]; omega, ?_⟩
   refine qa (ih2 ⟨n + 1, hnl, fun r hr => ?_⟩ (by dsimp only; omega)) ⟨rfl, rfl, rfl, trivial⟩ ⟨rfl, rfl, trivial⟩ rfl rfl
   rw [List.take_add_one, hq hnl] at hr
   rcases List.mem_append.1 hr with hr | hr
   ·exact hnp r hr
   ·simp at hr; subst hr; simpa using hb2.2
  ·have ht : rowT y d = d.take n := jp0 hnp hn fun r hr => by
    have hnl := (List.getElem?_eq_some_iff.1 hr).1
    have e := hq hnl
    rw [hr] at e
    injection e with e
    subst e
    simp only [Bool.and_eq_false_iff, decide_eq_false_iff_not] at hb2
    rw [decide_eq_false_iff_not]
    rcases hb2 with hb2 | hb2
    ·omega
    ·exact hb2
   refine ⟨⟨rfl, by omega, by omega, by rw [ku]; omega⟩, ?_⟩
   have e : ((rcs d).take ((n : Int)).toNat).drop (0 : Int).toNat = rcs (rowT y d) := by rw [ht, Int.toNat_natCast, Kc]; rfl
   rw [e]
   exact Rt.cut (Nat.le_refl _) ⟨rfl, trivial⟩ rfl rfl
theorem je3 {l : List Rc} {x : Int} (hv : ∀ r ∈ l, Vr r) : TSpM 135 [.box 0 0, .int .i64 x] [.cells [.ls 4 (rcs l)]] (.bool (acrB x (colD x l))) [.cells [.ls 4 (rcs (colD x l))]] := by
 refine Zx (by rfl) ?_
 dsimp only [c_region_across, zb, jn,jH,jO,jq,jF,jJ,jo,jG,jI,iteR,regK,jh,jc,jk,jj,jb,ji,blkK,kp,kd,jd,ja,jx,fpOk,foot,km,allN,memN,jK,jl,jr,jv,jt,ju,jf,jg,je,newN,jw,jN,jP,jY,jQ,jM,jS,jz,jA,jC,jD,jE,jm,jB,evX,evL,evB,rd,get,subG,memG,jT,jV,hyps,gob,impP,allP,j1,jX,j3,kj,nth,j8,kh,jU,lenB,kg,jR,entN,setE,jZ,addE,setL,setN,putE,env0,eqCs,j6,eqC,bA,bO,bN,bE,negB,kEq,ke,j5,lend,frz,frzL,zRow,j9,j7,closed,jy,jW,binI,remP,remI,retK,retG,ko,retD,ki,resL,resD,oneD,renD,renL,renE,j0,rho,jL,j4,zla,zlb,zlc,zld,zca,zcb,o1,o0,og,Nat.reduceBEq,Nat.reduceAdd,Nat.beq]
 refine kG (α := {c : List Rc // c.dropWhile (xD x) = colD x l /\ ∀ r ∈ c, Vr r})
  (fun c => ⟨[(0, [], .box 0 0), (1, [], .int .i64 x)], [.cells [.ls 4 (rcs c.1)]]⟩)
  (fun c => c.1.length) ?_ ⟨l, rfl, hv⟩ rfl
 rintro ⟨c, hc, hcv⟩ I ih
 dsimp only at hc hcv |-
 dsimp only [c_region_across, zb, jn,jH,jO,jq,jF,jJ,jo,jG,jI,iteR,regK,jh,jc,jk,jj,jb,ji,blkK,kp,kd,jd,ja,jx,fpOk,foot,km,allN,memN,jK,jl,jr,jv,jt,ju,jf,jg,je,newN,jw,jN,jP,jY,jQ,jM,jS,jz,jA,jC,jD,jE,jm,jB,evX,evL,evB,rd,get,subG,memG,jT,jV,hyps,gob,impP,allP,j1,jX,j3,kj,nth,j8,kh,jU,lenB,kg,jR,entN,setE,jZ,addE,setL,setN,putE,env0,eqCs,j6,eqC,bA,bO,bN,bE,negB,kEq,ke,j5,lend,frz,frzL,zRow,j9,j7,closed,jy,jW,binI,remP,remI,retK,retG,ko,retD,ki,resL,resD,oneD,renD,renL,renE,j0,rho,jL,j4,zla,zlb,zlc,zld,zca,zcb,o1,o0,og,Nat.reduceBEq,Nat.reduceAdd,Nat.beq]
 rw [ku]
 obtain ⟨r0, hr0⟩ := hd_of c
 have hg : (decide ((0 : Int) < c.length) = true) -> (rcs c)[(0 : Int).toNat]? = some (rD r0) := fun h => qx (hr0 (by simp only [decide_eq_true_eq] at h; omega))
 have hgi : (decide ((0 : Int) < c.length) = true) -> 4 = 4 /\ (0 : Int) <= 0 /\ (0 : Int) < ((rcs c).length : Int) := fun h => ⟨rfl, Int.le_refl _, by rw [ku]; simpa using h⟩
 have hgv : (decide ((0 : Int) < c.length) = true) -> Vr r0 := fun h => hcv r0 (List.mem_of_getElem? (hr0 (by simp only [decide_eq_true_eq] at h; omega)))
 have hgc : (decide ((0 : Int) < c.length) = true) -> 4 = 4 /\ (0 : Int) <= 0 /\ (0 : Int) < (c.length : Int) := fun h => ⟨rfl, Int.le_refl _, by simpa using h⟩
 refine ⟨hgc, ky (rD r0) (.int .i64 r0.x) hg rfl ?_⟩
 dsimp only [c_region_across, zb, jn,jH,jO,jq,jF,jJ,jo,jG,jI,iteR,regK,jh,jc,jk,jj,jb,ji,blkK,kp,kd,jd,ja,jx,fpOk,foot,km,allN,memN,jK,jl,jr,jv,jt,ju,jf,jg,je,newN,jw,jN,jP,jY,jQ,jM,jS,jz,jA,jC,jD,jE,jm,jB,evX,evL,evB,rd,get,subG,memG,jT,jV,hyps,gob,impP,allP,j1,jX,j3,kj,nth,j8,kh,jU,lenB,kg,jR,entN,setE,jZ,addE,setL,setN,putE,env0,eqCs,j6,eqC,bA,bO,bN,bE,negB,kEq,ke,j5,lend,frz,frzL,zRow,j9,j7,closed,jy,jW,binI,remP,remI,retK,retG,ko,retD,ki,resL,resD,oneD,renD,renL,renE,j0,rho,jL,j4,zla,zlb,zlc,zld,zca,zcb,o1,o0,og,Nat.reduceBEq,Nat.reduceAdd,Nat.beq]
 refine ⟨hgi, ky (rD r0) (.int .i64 r0.w) hg rfl ?_⟩
 dsimp only [c_region_across, zb, jn,jH,jO,jq,jF,jJ,jo,jG,jI,iteR,regK,jh,jc,jk,jj,jb,ji,blkK,kp,kd,jd,ja,jx,fpOk,foot,km,allN,memN,jK,jl,jr,jv,jt,ju,jf,jg,je,newN,jw,jN,jP,jY,jQ,jM,jS,jz,jA,jC,jD,jE,jm,jB,evX,evL,evB,rd,get,subG,memG,jT,jV,hyps,gob,impP,allP,j1,jX,j3,kj,nth,j8,kh,jU,lenB,kg,jR,entN,setE,jZ,addE,setL,setN,putE,env0,eqCs,j6,eqC,bA,bO,bN,bE,negB,kEq,ke,j5,lend,frz,frzL,zRow,j9,j7,closed,jy,jW,binI,remP,remI,retK,retG,ko,retD,ki,resL,resD,oneD,renD,renL,renE,j0,rho,jL,j4,zla,zlb,zlc,zld,zca,zcb,o1,o0,og,Nat.reduceBEq,Nat.reduceAdd,Nat.beq]
 refine ⟨fun h => by have := hgv h; unfold Vr at this; simp only [fits]; omega, fun hb => ?_, fun hb => ?_⟩
 ·have hb' : (decide ((0 : Int) < c.length) && xD x r0) = true := hb
  obtain ⟨e1, e2⟩ := jv7 hr0 hb'
  rw [ku]
  refine ⟨⟨rfl, by omega, by omega, by omega⟩, ?_⟩
  rw [js5]
  exact qa (ih ⟨c.drop 1, e1.symm.trans hc, fun r hr => hcv r (List.mem_of_mem_drop hr)⟩ (by simp; omega)) ⟨rfl, rfl, trivial⟩ ⟨rfl, trivial⟩ rfl rfl
 ·have hb' : (decide ((0 : Int) < c.length) && xD x r0) = false := hb
  have hce : c = colD x l := (jv6 hr0 hb').symm.trans hc
  rw [ku]
  refine ⟨hgc, ky (rD r0) (.int .i64 r0.x) hg rfl ?_⟩
  dsimp only [c_region_across, zb, jn,jH,jO,jq,jF,jJ,jo,jG,jI,iteR,regK,jh,jc,jk,jj,jb,ji,blkK,kp,kd,jd,ja,jx,fpOk,foot,km,allN,memN,jK,jl,jr,jv,jt,ju,jf,jg,je,newN,jw,jN,jP,jY,jQ,jM,jS,jz,jA,jC,jD,jE,jm,jB,evX,evL,evB,rd,get,subG,memG,jT,jV,hyps,gob,impP,allP,j1,jX,j3,kj,nth,j8,kh,jU,lenB,kg,jR,entN,setE,jZ,addE,setL,setN,putE,env0,eqCs,j6,eqC,bA,bO,bN,bE,negB,kEq,ke,j5,lend,frz,frzL,zRow,j9,j7,closed,jy,jW,binI,remP,remI,retK,retG,ko,retD,ki,resL,resD,oneD,renD,renL,renE,j0,rho,jL,j4,zla,zlb,zlc,zld,zca,zcb,o1,o0,og,Nat.reduceBEq,Nat.reduceAdd,Nat.beq]
  rw [<- hce]
  have ha : acrB x c = (decide ((0 : Int) < c.length) && decide (r0.x <= x)) := by
   cases c with
   | nil => rfl
   | cons r c =>
     have : r = r0 := by simpa using hr0 (by simp)
     subst this
     simp [acrB]
  rw [ha]
  exact Rt.id
end Go.AM
