import Derived.Test.YtoaialdcgmkbgaaGreatRZ3

set_option linter.all false
namespace Go.AM
open Go Go.Proofs
theorem sm_spans {l : List D} {ver : Nat} : TSpM 67 [.own 0 ver] [.arr 45 4 ver l] (.fn 128 [.box 1 0]) [.arr 45 4 ver l, .cells [.own 0 ver]] := by
 refine Vo (by rfl) ?_
 dsimp only [c_band_spans, yK, jo,jK,jT,jr,jI,jM,jq,jJ,jL,iteR,regK,ji,jc,jl,jk,jb,jj,blkK,kt,kh,jd,ja,jy,fpOk,foot,kq,allN,memN,jN,jm,js,jw,jv,jt,ju,jg,jh,jf,je,newN,jx,jS,jU,jX,jO,jP,jQ,jz,jA,jE,jB,jC,jn,jD,jF,jG,j7,evX,evL,evB,rd,get,subG,memG,jY,jW,hyps,gob,impP,allP,j5,j2,j4,kp,nth,ke,km,jZ,lenB,kj,jV,entN,setE,j0,addE,setL,setN,putE,env0,eqCs,j9,eqC,bA,bO,bN,bE,negB,kEq,ki,j8,lend,frz,frzL,zRow,kg,kd,closed,jH,j1,binI,remP,remI,retK,retG,kr,retD,ko,resL,resD,oneD,renD,renL,renE,j3,rho,jR,j6,List.append,List.nil_append,List.cons_append,List.append_nil,cond,Nat.reduceBEq,Nat.reduceAdd,Nat.beq]
 exact Rt.id
def edsL : List Rc → List Int
 | [] => []
 | r :: l => r.y :: (r.y + r.h) :: edsL l
theorem V3 : ∀ l : List Rc, (edsL l).length = 2 * l.length
 | [] => rfl
 | r :: l => by simp only [edsL, List.length_cons, V3 l]; omega
theorem Ym : ∀ (l : List Rc) (r : Rc), edsL (l ++ [r]) = edsL l ++ [r.y, r.y + r.h]
 | [], r => rfl
 | s :: l, r => by simp only [List.cons_append, edsL, Ym l r]
def kT (l : List Rc) : List Int := Lib.compact (srtI (edsL l))
theorem sm_edges {l : List Rc} {ver : Nat} (hin : ∀ r ∈ l, Vr r) (hlen : l.length ≤ 1073741824) :
  TSpM 63 [.own 0 ver] [.arr 45 4 ver (rcs l)] (.ls 1 (iI (kT l))) [.arr 45 4 ver (rcs l)] := by
 refine Vp (by rfl) ?_
 dsimp only [c_band_edges, zu, jo,jK,jT,jr,jI,jM,jq,jJ,jL,iteR,regK,ji,jc,jl,jk,jb,jj,blkK,kt,kh,jd,ja,jy,fpOk,foot,kq,allN,memN,jN,jm,js,jw,jv,jt,ju,jg,jh,jf,je,newN,jx,jS,jU,jX,jO,jP,jQ,jz,jA,jE,jB,jC,jn,jD,jF,jG,j7,evX,evL,evB,rd,get,subG,memG,jY,jW,hyps,gob,impP,allP,j5,j2,j4,kp,nth,ke,km,jZ,lenB,kj,jV,entN,setE,j0,addE,setL,setN,putE,env0,eqCs,j9,eqC,bA,bO,bN,bE,negB,kEq,ki,j8,lend,frz,frzL,zRow,kg,kd,closed,jH,j1,binI,remP,remI,retK,retG,kr,retD,ko,resL,resD,oneD,renD,renL,renE,j3,rho,jR,j6,List.append,List.nil_append,List.cons_append,List.append_nil,cond,Nat.reduceBEq,Nat.reduceAdd,Nat.beq]
 rw [ky]
 refine ⟨rfl, by simp only [fits]; omega, by omega, rfl, ?_⟩
 refine kH (α := {i : Nat // i ≤ l.length})
  (fun i => ⟨[(3, [], .own 2 (i.1 + 1)), (10, [], .own 0 ver), (11, [], .int .i64 l.length), (12, [], .int .i64 i.1)], [.arr 45 4 ver (rcs l), .arr 3 1 0 [], .arr 3 1 (i.1 + 1) (iI (edsL (l.take i.1)))]⟩)
  (fun i => l.length - i.1) ?_ ⟨0, Nat.zero_le _⟩ (by simp [edsL, iI])
 rintro ⟨i, hi⟩ I ih
 dsimp only at hi ⊢
 dsimp only [c_band_edges, zu, jo,jK,jT,jr,jI,jM,jq,jJ,jL,iteR,regK,ji,jc,jl,jk,jb,jj,blkK,kt,kh,jd,ja,jy,fpOk,foot,kq,allN,memN,jN,jm,js,jw,jv,jt,ju,jg,jh,jf,je,newN,jx,jS,jU,jX,jO,jP,jQ,jz,jA,jE,jB,jC,jn,jD,jF,jG,j7,evX,evL,evB,rd,get,subG,memG,jY,jW,hyps,gob,impP,allP,j5,j2,j4,kp,nth,ke,km,jZ,lenB,kj,jV,entN,setE,j0,addE,setL,setN,putE,env0,eqCs,j9,eqC,bA,bO,bN,bE,negB,kEq,ki,j8,lend,frz,frzL,zRow,kg,kd,closed,jH,j1,binI,remP,remI,retK,retG,kr,retD,ko,resL,resD,oneD,renD,renL,renE,j3,rho,jR,j6,List.append,List.nil_append,List.cons_append,List.append_nil,cond,Nat.reduceBEq,Nat.reduceAdd,Nat.beq]
 refine ⟨fun hlt => ?_, fun hge => ?_⟩
 ·have hl : i < l.length := by simpa using hlt
  obtain ⟨r, hr⟩ : ∃ r, l[i]? = some r := ⟨_, List.getElem?_eq_getElem hl⟩
  have hV := hin r (List.mem_of_getElem? hr)
  have hV' := hV
  simp only [Vr] at hV'
  refine ⟨⟨rfl, rfl, by omega, by rw [ky]; omega⟩, ⟨rfl, rfl⟩, kB (rD r) (rD r) (qo (by simpa using hr)) rfl ?_⟩
  dsimp only [c_band_edges, zu, rD, jo,jK,jT,jr,jI,jM,jq,jJ,jL,iteR,regK,ji,jc,jl,jk,jb,jj,blkK,kt,kh,jd,ja,jy,fpOk,foot,kq,allN,memN,jN,jm,js,jw,jv,jt,ju,jg,jh,jf,je,newN,jx,jS,jU,jX,jO,jP,jQ,jz,jA,jE,jB,jC,jn,jD,jF,jG,j7,evX,evL,evB,rd,get,subG,memG,jY,jW,hyps,gob,impP,allP,j5,j2,j4,kp,nth,ke,km,jZ,lenB,kj,jV,entN,setE,j0,addE,setL,setN,putE,env0,eqCs,j9,eqC,bA,bO,bN,bE,negB,kEq,ki,j8,lend,frz,frzL,zRow,kg,kd,closed,jH,j1,binI,remP,remI,retK,retG,kr,retD,ko,resL,resD,oneD,renD,renL,renE,j3,rho,jR,j6,List.append,List.nil_append,List.cons_append,List.append_nil,cond,Nat.reduceBEq,Nat.reduceAdd,Nat.beq]
  have hlen2 : (iI (edsL (l.take i))).length ≤ 2 * l.length := by rw [qV, V3, List.length_take]; omega
  refine ⟨by simp only [fits]; omega, ⟨rfl, rfl, rfl, rfl, by simp only [List.length_cons, List.length_nil]; omega, by simp only [List.length_cons, List.length_nil]; omega⟩, by simp only [fits]; omega, ?_⟩
  refine k9 (ih ⟨i + 1, by omega⟩ (by dsimp only; omega)) ⟨rfl, rfl, rfl, rfl, trivial⟩ ⟨rfl, rfl, ?_, trivial⟩ rfl rfl
  have ht : l.take (i + 1) = l.take i ++ [r] := by rw [List.take_add_one, hr]; rfl
  simp only [ht, Ym, iI, List.map_append]
  rfl
 ·have hil : i = l.length := by simp at hge; omega
  subst hil
  rw [List.take_length]
  have hel : (edsL l).length < 4611686018427387904 := by rw [V3]; omega
  refine qm [2] (sm_SortI (ver := l.length + 1) hel) rfl rfl ?_
  dsimp only [c_band_edges, zu, jo,jK,jT,jr,jI,jM,jq,jJ,jL,iteR,regK,ji,jc,jl,jk,jb,jj,blkK,kt,kh,jd,ja,jy,fpOk,foot,kq,allN,memN,jN,jm,js,jw,jv,jt,ju,jg,jh,jf,je,newN,jx,jS,jU,jX,jO,jP,jQ,jz,jA,jE,jB,jC,jn,jD,jF,jG,j7,evX,evL,evB,rd,get,subG,memG,jY,jW,hyps,gob,impP,allP,j5,j2,j4,kp,nth,ke,km,jZ,lenB,kj,jV,entN,setE,j0,addE,setL,setN,putE,env0,eqCs,j9,eqC,bA,bO,bN,bE,negB,kEq,ki,j8,lend,frz,frzL,zRow,kg,kd,closed,jH,j1,binI,remP,remI,retK,retG,kr,retD,ko,resL,resD,oneD,renD,renL,renE,j3,rho,jR,j6,List.append,List.nil_append,List.cons_append,List.append_nil,cond,Nat.reduceBEq,Nat.reduceAdd,Nat.beq]
  refine qm [2] (Zu (ver := l.length + 1) (by rw [KT]; exact hel)) rfl rfl ?_
  dsimp only [c_band_edges, zu, jo,jK,jT,jr,jI,jM,jq,jJ,jL,iteR,regK,ji,jc,jl,jk,jb,jj,blkK,kt,kh,jd,ja,jy,fpOk,foot,kq,allN,memN,jN,jm,js,jw,jv,jt,ju,jg,jh,jf,je,newN,jx,jS,jU,jX,jO,jP,jQ,jz,jA,jE,jB,jC,jn,jD,jF,jG,j7,evX,evL,evB,rd,get,subG,memG,jY,jW,hyps,gob,impP,allP,j5,j2,j4,kp,nth,ke,km,jZ,lenB,kj,jV,entN,setE,j0,addE,setL,setN,putE,env0,eqCs,j9,eqC,bA,bO,bN,bE,negB,kEq,ki,j8,lend,frz,frzL,zRow,kg,kd,closed,jH,j1,binI,remP,remI,retK,retG,kr,retD,ko,resL,resD,oneD,renD,renL,renE,j3,rho,jR,j6,List.append,List.nil_append,List.cons_append,List.append_nil,cond,Nat.reduceBEq,Nat.reduceAdd,Nat.beq]
  refine Rt.trans (bx2 := [.arr 45 4 ver (rcs l), .arr 3 1 0 [], .gone]) (Rt.frz rfl (by simp)) (Rt.cut (Nat.le_refl _) ⟨rfl, trivial⟩ rfl rfl)
end Go.AM

