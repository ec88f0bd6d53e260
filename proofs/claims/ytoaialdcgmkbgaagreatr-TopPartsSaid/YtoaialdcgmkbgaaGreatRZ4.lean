import Derived.Test.YtoaialdcgmkbgaaGreatRZ3

set_option linter.all false
namespace Go.AM
open Go Go.Proofs
theorem jO3 {l : List D} {ver : Nat} : TSpM 67 [.own 0 ver] [.arr 45 4 ver l] (.fn 128 [.box 1 0]) [.arr 45 4 ver l, .cells [.own 0 ver]] := by
 refine Yg (by rfl) ?_
 dsimp only [c_band_spans, ZN, jn,jH,jO,jq,jF,jJ,jo,jG,jI,iteR,regK,jh,jc,jk,jj,jb,ji,blkK,kp,kd,jd,ja,jx,fpOk,foot,km,allN,memN,jK,jl,jr,jv,jt,ju,jf,jg,je,newN,jw,jN,jP,jY,jQ,jM,jS,jz,jA,jC,jD,jE,jm,jB,evX,evL,evB,rd,get,subG,memG,jT,jV,hyps,gob,impP,allP,j1,jX,j3,kj,nth,j8,kh,jU,lenB,kg,jR,entN,setE,jZ,addE,setL,setN,putE,env0,eqCs,j6,eqC,bA,bO,bN,bE,negB,kEq,ke,j5,lend,frz,frzL,zRow,j9,j7,closed,jy,jW,binI,remP,remI,retK,retG,ko,retD,ki,resL,resD,oneD,renD,renL,renE,j0,rho,jL,j4,zla,zlb,zlc,zld,zca,zcb,o1,o0,og,Nat.reduceBEq,Nat.reduceAdd,Nat.beq]
 exact Rt.id
def edsL : List Rc -> List Int
 | [] => []
 | r :: l => r.y :: (r.y + r.h) :: edsL l
theorem Y4 : ∀ l : List Rc, (edsL l).length = 2 * l.length
 | [] => rfl
 | r :: l => by simp only [edsL, List.length_cons, Y4 l]; omega
theorem jh6 : ∀ (l : List Rc) (r : Rc), edsL (l ++ [r]) = edsL l ++ [r.y, r.y + r.h]
 | [], r => rfl
 | s :: l, r => by simp only [List.cons_append, edsL, jh6 l r]
def kQ (l : List Rc) : List Int := Lib.compact (srtI (edsL l))
theorem jO5 {l : List Rc} {ver : Nat} (hin : ∀ r ∈ l, Vr r) (hlen : l.length <= 1073741824) :
  TSpM 63 [.own 0 ver] [.arr 45 4 ver (rcs l)] (.ls 1 (iI (kQ l))) [.arr 45 4 ver (rcs l)] := by
 refine Yh (by rfl) ?_
 dsimp only [c_band_edges, zT, jn,jH,jO,jq,jF,jJ,jo,jG,jI,iteR,regK,jh,jc,jk,jj,jb,ji,blkK,kp,kd,jd,ja,jx,fpOk,foot,km,allN,memN,jK,jl,jr,jv,jt,ju,jf,jg,je,newN,jw,jN,jP,jY,jQ,jM,jS,jz,jA,jC,jD,jE,jm,jB,evX,evL,evB,rd,get,subG,memG,jT,jV,hyps,gob,impP,allP,j1,jX,j3,kj,nth,j8,kh,jU,lenB,kg,jR,entN,setE,jZ,addE,setL,setN,putE,env0,eqCs,j6,eqC,bA,bO,bN,bE,negB,kEq,ke,j5,lend,frz,frzL,zRow,j9,j7,closed,jy,jW,binI,remP,remI,retK,retG,ko,retD,ki,resL,resD,oneD,renD,renL,renE,j0,rho,jL,j4,zla,zlb,zlc,zld,zca,zcb,o1,o0,og,Nat.reduceBEq,Nat.reduceAdd,Nat.beq]
 rw [ku]
 refine ⟨rfl, by simp only [fits]; omega, by omega, rfl, ?_⟩
 refine kG (α := {i : Nat // i <= l.length})
  (fun i => ⟨[(3, [], .own 2 (i.1 + 1)), (10, [], .own 0 ver), (11, [], .int .i64 l.length), (12, [], .int .i64 i.1)], [.arr 45 4 ver (rcs l), .arr 3 1 0 [], .arr 3 1 (i.1 + 1) (iI (edsL (l.take i.1)))]⟩)
  (fun i => l.length - i.1) ?_ ⟨0, Nat.zero_le _⟩ (by simp [edsL, iI])
 rintro ⟨i, hi⟩ I ih
 dsimp only at hi |-
 dsimp only [c_band_edges, zT, jn,jH,jO,jq,jF,jJ,jo,jG,jI,iteR,regK,jh,jc,jk,jj,jb,ji,blkK,kp,kd,jd,ja,jx,fpOk,foot,km,allN,memN,jK,jl,jr,jv,jt,ju,jf,jg,je,newN,jw,jN,jP,jY,jQ,jM,jS,jz,jA,jC,jD,jE,jm,jB,evX,evL,evB,rd,get,subG,memG,jT,jV,hyps,gob,impP,allP,j1,jX,j3,kj,nth,j8,kh,jU,lenB,kg,jR,entN,setE,jZ,addE,setL,setN,putE,env0,eqCs,j6,eqC,bA,bO,bN,bE,negB,kEq,ke,j5,lend,frz,frzL,zRow,j9,j7,closed,jy,jW,binI,remP,remI,retK,retG,ko,retD,ki,resL,resD,oneD,renD,renL,renE,j0,rho,jL,j4,zla,zlb,zlc,zld,zca,zcb,o1,o0,og,Nat.reduceBEq,Nat.reduceAdd,Nat.beq]
 refine ⟨fun hlt => ?_, fun hge => ?_⟩
 ·have hl : i < l.length := by simpa using hlt
  obtain ⟨r, hr⟩ : ∃ r, l[i]? = some r := ⟨_, List.getElem?_eq_getElem hl⟩
  have hV := hin r (List.mem_of_getElem? hr)
  have hV' := hV
  simp only [Vr] at hV'
  refine ⟨⟨rfl, rfl, by omega, by rw [ku]; omega⟩, ⟨rfl, rfl⟩, ky (rD r) (rD r) (qx (by simpa using hr)) rfl ?_⟩
  dsimp only [c_band_edges, zT, rD, jn,jH,jO,jq,jF,jJ,jo,jG,jI,iteR,regK,jh,jc,jk,jj,jb,ji,blkK,kp,kd,jd,ja,jx,fpOk,foot,km,allN,memN,jK,jl,jr,jv,jt,ju,jf,jg,je,newN,jw,jN,jP,jY,jQ,jM,jS,jz,jA,jC,jD,jE,jm,jB,evX,evL,evB,rd,get,subG,memG,jT,jV,hyps,gob,impP,allP,j1,jX,j3,kj,nth,j8,kh,jU,lenB,kg,jR,entN,setE,jZ,addE,setL,setN,putE,env0,eqCs,j6,eqC,bA,bO,bN,bE,negB,kEq,ke,j5,lend,frz,frzL,zRow,j9,j7,closed,jy,jW,binI,remP,remI,retK,retG,ko,retD,ki,resL,resD,oneD,renD,renL,renE,j0,rho,jL,j4,zla,zlb,zlc,zld,zca,zcb,o1,o0,og,Nat.reduceBEq,Nat.reduceAdd,Nat.beq]
  have hlen2 : (iI (edsL (l.take i))).length <= 2 * l.length := by rw [qZ, Y4, List.length_take]; omega
  refine ⟨by simp only [fits]; omega, ⟨rfl, rfl, rfl, rfl, by simp only [List.length_cons, List.length_nil]; omega, by simp only [List.length_cons, List.length_nil]; omega⟩, by simp only [fits]; omega, ?_⟩
  refine qa (ih ⟨i + 1, by omega⟩ (by dsimp only; omega)) ⟨rfl, rfl, rfl, rfl, trivial⟩ ⟨rfl, rfl, ?_, trivial⟩ rfl rfl
  have ht : l.take (i + 1) = l.take i ++ [r] := by rw [List.take_add_one, hr]; rfl
  simp only [ht, jh6, iI, List.map_append]
  rfl
 ·have hil : i = l.length := by simp at hge; omega
  subst hil
  rw [List.take_length]
  have hel : (edsL l).length < 4611686018427387904 := by rw [Y4]; omega
  refine kX [2] (jq7 (ver := l.length + 1) hel) rfl rfl ?_
  dsimp only [c_band_edges, zT, jn,jH,jO,jq,jF,jJ,jo,jG,jI,iteR,regK,jh,jc,jk,jj,jb,ji,blkK,kp,kd,jd,ja,jx,fpOk,foot,km,allN,memN,jK,jl,jr,jv,jt,ju,jf,jg,je,newN,jw,jN,jP,jY,jQ,jM,jS,jz,jA,jC,jD,jE,jm,jB,evX,evL,evB,rd,get,subG,memG,jT,jV,hyps,gob,impP,allP,j1,jX,j3,kj,nth,j8,kh,jU,lenB,kg,jR,entN,setE,jZ,addE,setL,setN,putE,env0,eqCs,j6,eqC,bA,bO,bN,bE,negB,kEq,ke,j5,lend,frz,frzL,zRow,j9,j7,closed,jy,jW,binI,remP,remI,retK,retG,ko,retD,ki,resL,resD,oneD,renD,renL,renE,j0,rho,jL,j4,zla,zlb,zlc,zld,zca,zcb,o1,o0,og,Nat.reduceBEq,Nat.reduceAdd,Nat.beq]
  refine kX [2] (Xk (ver := l.length + 1) (by rw [Zl]; exact hel)) rfl rfl ?_
  dsimp only [c_band_edges, zT, jn,jH,jO,jq,jF,jJ,jo,jG,jI,iteR,regK,jh,jc,jk,jj,jb,ji,blkK,kp,kd,jd,ja,jx,fpOk,foot,km,allN,memN,jK,jl,jr,jv,jt,ju,jf,jg,je,newN,jw,jN,jP,jY,jQ,jM,jS,jz,jA,jC,jD,jE,jm,jB,evX,evL,evB,rd,get,subG,memG,jT,jV,hyps,gob,impP,allP,j1,jX,j3,kj,nth,j8,kh,jU,lenB,kg,jR,entN,setE,jZ,addE,setL,setN,putE,env0,eqCs,j6,eqC,bA,bO,bN,bE,negB,kEq,ke,j5,lend,frz,frzL,zRow,j9,j7,closed,jy,jW,binI,remP,remI,retK,retG,ko,retD,ki,resL,resD,oneD,renD,renL,renE,j0,rho,jL,j4,zla,zlb,zlc,zld,zca,zcb,o1,o0,og,Nat.reduceBEq,Nat.reduceAdd,Nat.beq]
  refine Rt.trans (bx2 := [.arr 45 4 ver (rcs l), .arr 3 1 0 [], .gone]) (Rt.frz rfl (by simp)) (Rt.cut (Nat.le_refl _) ⟨rfl, trivial⟩ rfl rfl)
end Go.AM
