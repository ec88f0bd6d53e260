import Derived.Test.YtoaialdcgmkbgaaGreatRZ6
import Derived.Test.YtoaialdcgmkbgaaGreatRP6
import Derived.Test.YtoaialdcgmkbgaaGreatRA31
import Derived.Test.YtoaialdcgmkbgaaGreatRY1

set_option linter.all false
namespace Go.AM
open Go Go.Proofs
theorem Qa {l : List D} (hl : l.length ≤ 4294967296) : TSp 76 [.agg [.ls 4 l]] (.ls 4 l) := by
 refine yY (by rfl) ?_
 dsimp only [c_band_Region_Rects, zk, jo,jK,jT,jr,jI,jM,jq,jJ,jL,iteR,regK,ji,jc,jl,jk,jb,jj,blkK,kt,kh,jd,ja,jy,fpOk,foot,kq,allN,memN,jN,jm,js,jw,jv,jt,ju,jg,jh,jf,je,newN,jx,jS,jU,jX,jO,jP,jQ,jz,jA,jE,jB,jC,jn,jD,jF,jG,j7,evX,evL,evB,rd,get,subG,memG,jY,jW,hyps,gob,impP,allP,j5,j2,j4,kp,nth,ke,km,jZ,lenB,kj,jV,entN,setE,j0,addE,setL,setN,putE,env0,eqCs,j9,eqC,bA,bO,bN,bE,negB,kEq,ki,j8,lend,frz,frzL,zRow,kg,kd,closed,jH,j1,binI,remP,remI,retK,retG,kr,retD,ko,resL,resD,oneD,renD,renL,renE,j3,rho,jR,j6,List.append,List.nil_append,List.cons_append,List.append_nil,cond,Nat.reduceBEq,Nat.reduceAdd,Nat.beq]
 refine kx (sp_Clone hl) ?_
 dsimp only [c_band_Region_Rects, zk, jo,jK,jT,jr,jI,jM,jq,jJ,jL,iteR,regK,ji,jc,jl,jk,jb,jj,blkK,kt,kh,jd,ja,jy,fpOk,foot,kq,allN,memN,jN,jm,js,jw,jv,jt,ju,jg,jh,jf,je,newN,jx,jS,jU,jX,jO,jP,jQ,jz,jA,jE,jB,jC,jn,jD,jF,jG,j7,evX,evL,evB,rd,get,subG,memG,jY,jW,hyps,gob,impP,allP,j5,j2,j4,kp,nth,ke,km,jZ,lenB,kj,jV,entN,setE,j0,addE,setL,setN,putE,env0,eqCs,j9,eqC,bA,bO,bN,bE,negB,kEq,ki,j8,lend,frz,frzL,zRow,kg,kd,closed,jH,j1,binI,remP,remI,retK,retG,kr,retD,ko,resL,resD,oneD,renD,renL,renE,j3,rho,jR,j6,List.append,List.nil_append,List.cons_append,List.append_nil,cond,Nat.reduceBEq,Nat.reduceAdd,Nat.beq]
theorem Qb {l : List D} : TSp 30 [.agg [.ls 4 l]] (.bool (decide ((l.length : Int) = 0))) := by
 refine yZ (by rfl) ?_
 dsimp only [c_band_Region_Empty, zX, jo,jK,jT,jr,jI,jM,jq,jJ,jL,iteR,regK,ji,jc,jl,jk,jb,jj,blkK,kt,kh,jd,ja,jy,fpOk,foot,kq,allN,memN,jN,jm,js,jw,jv,jt,ju,jg,jh,jf,je,newN,jx,jS,jU,jX,jO,jP,jQ,jz,jA,jE,jB,jC,jn,jD,jF,jG,j7,evX,evL,evB,rd,get,subG,memG,jY,jW,hyps,gob,impP,allP,j5,j2,j4,kp,nth,ke,km,jZ,lenB,kj,jV,entN,setE,j0,addE,setL,setN,putE,env0,eqCs,j9,eqC,bA,bO,bN,bE,negB,kEq,ki,j8,lend,frz,frzL,zRow,kg,kd,closed,jH,j1,binI,remP,remI,retK,retG,kr,retD,ko,resL,resD,oneD,renD,renL,renE,j3,rho,jR,j6,List.append,List.nil_append,List.cons_append,List.append_nil,cond,Nat.reduceBEq,Nat.reduceAdd,Nat.beq]
theorem Yz {a b : List Rc} (hl : a.length ≤ 4611686018427387904) : TSp 22 [.agg [.ls 4 (rcs a)], .agg [.ls 4 (rcs b)]] (.bool (decide (a = b))) := by
 refine Xv (by rfl) ?_
 dsimp only [c_band_Same, xV, jo,jK,jT,jr,jI,jM,jq,jJ,jL,iteR,regK,ji,jc,jl,jk,jb,jj,blkK,kt,kh,jd,ja,jy,fpOk,foot,kq,allN,memN,jN,jm,js,jw,jv,jt,ju,jg,jh,jf,je,newN,jx,jS,jU,jX,jO,jP,jQ,jz,jA,jE,jB,jC,jn,jD,jF,jG,j7,evX,evL,evB,rd,get,subG,memG,jY,jW,hyps,gob,impP,allP,j5,j2,j4,kp,nth,ke,km,jZ,lenB,kj,jV,entN,setE,j0,addE,setL,setN,putE,env0,eqCs,j9,eqC,bA,bO,bN,bE,negB,kEq,ki,j8,lend,frz,frzL,zRow,kg,kd,closed,jH,j1,binI,remP,remI,retK,retG,kr,retD,ko,resL,resD,oneD,renD,renL,renE,j3,rho,jR,j6,List.append,List.nil_append,List.cons_append,List.append_nil,cond,Nat.reduceBEq,Nat.reduceAdd,Nat.beq]
 refine kx (sp_Equal hl) ?_
 dsimp only [c_band_Same, xV, jo,jK,jT,jr,jI,jM,jq,jJ,jL,iteR,regK,ji,jc,jl,jk,jb,jj,blkK,kt,kh,jd,ja,jy,fpOk,foot,kq,allN,memN,jN,jm,js,jw,jv,jt,ju,jg,jh,jf,je,newN,jx,jS,jU,jX,jO,jP,jQ,jz,jA,jE,jB,jC,jn,jD,jF,jG,j7,evX,evL,evB,rd,get,subG,memG,jY,jW,hyps,gob,impP,allP,j5,j2,j4,kp,nth,ke,km,jZ,lenB,kj,jV,entN,setE,j0,addE,setL,setN,putE,env0,eqCs,j9,eqC,bA,bO,bN,bE,negB,kEq,ki,j8,lend,frz,frzL,zRow,kg,kd,closed,jH,j1,binI,remP,remI,retK,retG,kr,retD,ko,resL,resD,oneD,renD,renL,renE,j3,rho,jR,j6,List.append,List.nil_append,List.cons_append,List.append_nil,cond,Nat.reduceBEq,Nat.reduceAdd,Nat.beq]
theorem area_snoc (l : List Rc) (r : Rc) : area (l ++ [r]) = area l + r.w * r.h := by rw [area_app]; simp [area]
theorem vZ : ∀ {l : List Rc}, (∀ r ∈ l, Vr r) → 0 ≤ area l ∧ area l ≤ l.length * 4398046511104
 | [], _ => by simp [area]
 | r :: l, h => by
   have ih := vZ (l := l) fun q hq => h q (by simp [hq])
   have hr := h r (by simp)
   unfold Vr at hr
   have e : area (r :: l) = r.w * r.h + area l := by simp [area]
   have h1 : 0 ≤ r.w * r.h := Int.mul_nonneg (by omega) (by omega)
   have h2 : r.w * r.h ≤ 2097152 * 2097152 := Int.mul_le_mul (by omega) (by omega) (by omega) (by omega)
   rw [e, List.length_cons]
   omega
theorem JW {l : List Rc} (hv : ∀ r ∈ l, Vr r) (hl : l.length ≤ 1048576) : TSp 31 [.agg [.ls 4 (rcs l)]] (.int .i64 (area l)) := by
 refine Jg (by rfl) ?_
 dsimp only [c_band_Region_Area, qU, jo,jK,jT,jr,jI,jM,jq,jJ,jL,iteR,regK,ji,jc,jl,jk,jb,jj,blkK,kt,kh,jd,ja,jy,fpOk,foot,kq,allN,memN,jN,jm,js,jw,jv,jt,ju,jg,jh,jf,je,newN,jx,jS,jU,jX,jO,jP,jQ,jz,jA,jE,jB,jC,jn,jD,jF,jG,j7,evX,evL,evB,rd,get,subG,memG,jY,jW,hyps,gob,impP,allP,j5,j2,j4,kp,nth,ke,km,jZ,lenB,kj,jV,entN,setE,j0,addE,setL,setN,putE,env0,eqCs,j9,eqC,bA,bO,bN,bE,negB,kEq,ki,j8,lend,frz,frzL,zRow,kg,kd,closed,jH,j1,binI,remP,remI,retK,retG,kr,retD,ko,resL,resD,oneD,renD,renL,renE,j3,rho,jR,j6,List.append,List.nil_append,List.cons_append,List.append_nil,cond,Nat.reduceBEq,Nat.reduceAdd,Nat.beq]
 rw [ky]
 refine kH (α := {i : Nat // i ≤ l.length})
  (fun i => ⟨[(3, [], .int .i64 (area (l.take i.1))), (7, [], .ls 4 (rcs l)), (8, [], .int .i64 l.length), (9, [], .int .i64 i.1)], [.cells [.ls 4 (rcs l)]]⟩)
  (fun i => l.length - i.1) ?_ ⟨0, Nat.zero_le _⟩ (by simp [area])
 rintro ⟨i, hi⟩ I ih
 dsimp only at hi ⊢
 dsimp only [c_band_Region_Area, qU, jo,jK,jT,jr,jI,jM,jq,jJ,jL,iteR,regK,ji,jc,jl,jk,jb,jj,blkK,kt,kh,jd,ja,jy,fpOk,foot,kq,allN,memN,jN,jm,js,jw,jv,jt,ju,jg,jh,jf,je,newN,jx,jS,jU,jX,jO,jP,jQ,jz,jA,jE,jB,jC,jn,jD,jF,jG,j7,evX,evL,evB,rd,get,subG,memG,jY,jW,hyps,gob,impP,allP,j5,j2,j4,kp,nth,ke,km,jZ,lenB,kj,jV,entN,setE,j0,addE,setL,setN,putE,env0,eqCs,j9,eqC,bA,bO,bN,bE,negB,kEq,ki,j8,lend,frz,frzL,zRow,kg,kd,closed,jH,j1,binI,remP,remI,retK,retG,kr,retD,ko,resL,resD,oneD,renD,renL,renE,j3,rho,jR,j6,List.append,List.nil_append,List.cons_append,List.append_nil,cond,Nat.reduceBEq,Nat.reduceAdd,Nat.beq]
 refine ⟨fun hlt => ?_, fun hge => ?_⟩
 ·have hil : i < l.length := by simpa using hlt
  obtain ⟨r, hr⟩ : ∃ r, l[i]? = some r := ⟨_, List.getElem?_eq_getElem hil⟩
  refine ⟨⟨rfl, by omega, by rw [ky]; omega⟩, kB (rD r) (rD r) (qo (by simpa using hr)) rfl ?_⟩
  dsimp only [c_band_Region_Area, qU, rD, jo,jK,jT,jr,jI,jM,jq,jJ,jL,iteR,regK,ji,jc,jl,jk,jb,jj,blkK,kt,kh,jd,ja,jy,fpOk,foot,kq,allN,memN,jN,jm,js,jw,jv,jt,ju,jg,jh,jf,je,newN,jx,jS,jU,jX,jO,jP,jQ,jz,jA,jE,jB,jC,jn,jD,jF,jG,j7,evX,evL,evB,rd,get,subG,memG,jY,jW,hyps,gob,impP,allP,j5,j2,j4,kp,nth,ke,km,jZ,lenB,kj,jV,entN,setE,j0,addE,setL,setN,putE,env0,eqCs,j9,eqC,bA,bO,bN,bE,negB,kEq,ki,j8,lend,frz,frzL,zRow,kg,kd,closed,jH,j1,binI,remP,remI,retK,retG,kr,retD,ko,resL,resD,oneD,renD,renL,renE,j3,rho,jR,j6,List.append,List.nil_append,List.cons_append,List.append_nil,cond,Nat.reduceBEq,Nat.reduceAdd,Nat.beq]
  have hV := hv r (List.mem_of_getElem? hr)
  unfold Vr at hV
  have h1 : 0 ≤ r.w * r.h := Int.mul_nonneg (by omega) (by omega)
  have h2 : r.w * r.h ≤ 2097152 * 2097152 := Int.mul_le_mul (by omega) (by omega) (by omega) (by omega)
  have hb := vZ (l := l.take i) fun q hq => hv q (List.mem_of_mem_take hq)
  have hlt : (l.take i).length ≤ 1048576 := by rw [List.length_take]; omega
  refine ⟨by simp only [fits]; omega, by simp only [fits]; omega, by simp only [fits]; omega, ?_⟩
  refine k9 (ih ⟨i + 1, by omega⟩ (by dsimp only; omega)) ⟨?_, rfl, rfl, rfl, trivial⟩ ⟨rfl, trivial⟩ rfl rfl
  rw [List.take_add_one, hr, Option.toList, area_snoc]
  rfl
 ·have hil : i = l.length := by simp at hge; omega
  subst hil
  rw [List.take_length]
end Go.AM


set_option linter.all false
namespace Go.AM
open Go Go.Proofs
theorem sm_spans3 {w h : Nat} {l : List Rc} {F : Nat} {R : (Int → Int → Prop) → List D} {p : Int} (hw : w ≤ 128) (hh : h ≤ 128) (hv : ∀ r ∈ l, Vr r) (hl : l.length ≤ 1048576)
  (hcb : ∀ (Q : Int → Int → Prop) (y a b : Int), 0 ≤ y ∧ y < h → 0 ≤ a ∧ a < b ∧ b ≤ w → TSpM F [.int .i64 y, .int .i64 a, .int .i64 b, .box 0 0, .box 2 0] [.cells [.int .u8 p], .arr 51 1 1 (R Q), .cells [.int .i64 w, .int .i64 h, .own 1 1]] (.tup []) [.cells [.int .u8 p], .arr 51 1 1 (R (fun X Y => Q X Y ∨ (Y = y ∧ a ≤ X ∧ X < b))), .cells [.int .i64 w, .int .i64 h, .own 1 1]]) :
  TSpM 79 [.agg [.int .i64 w, .int .i64 h, .own 1 1], .agg [.ls 4 (rcs l)], .fn F [.box 0 0, .box 2 0]] [.cells [.int .u8 p], .arr 51 1 1 (R (fun _ _ => False)), .cells [.int .i64 w, .int .i64 h, .own 1 1]] (.tup []) [.cells [.int .u8 p], .arr 51 1 1 (R (fun X Y => pts l X Y ∧ inP w h X Y)), .cells [.int .i64 w, .int .i64 h, .own 1 1]] := by
 refine Kb (by rfl) ?_
 dsimp only [c_grid_Grid_spans, qt, jo,jK,jT,jr,jI,jM,jq,jJ,jL,iteR,regK,ji,jc,jl,jk,jb,jj,blkK,kt,kh,jd,ja,jy,fpOk,foot,kq,allN,memN,jN,jm,js,jw,jv,jt,ju,jg,jh,jf,je,newN,jx,jS,jU,jX,jO,jP,jQ,jz,jA,jE,jB,jC,jn,jD,jF,jG,j7,evX,evL,evB,rd,get,subG,memG,jY,jW,hyps,gob,impP,allP,j5,j2,j4,kp,nth,ke,km,jZ,lenB,kj,jV,entN,setE,j0,addE,setL,setN,putE,env0,eqCs,j9,eqC,bA,bO,bN,bE,negB,kEq,ki,j8,lend,frz,frzL,zRow,kg,kd,closed,jH,j1,binI,remP,remI,retK,retG,kr,retD,ko,resL,resD,oneD,renD,renL,renE,j3,rho,jR,j6,List.append,List.nil_append,List.cons_append,List.append_nil,cond,Nat.reduceBEq,Nat.reduceAdd,Nat.beq]
 refine kx (Qa (l := rcs l) (by rw [ky]; omega)) ?_
 dsimp only [c_grid_Grid_spans, qt, jo,jK,jT,jr,jI,jM,jq,jJ,jL,iteR,regK,ji,jc,jl,jk,jb,jj,blkK,kt,kh,jd,ja,jy,fpOk,foot,kq,allN,memN,jN,jm,js,jw,jv,jt,ju,jg,jh,jf,je,newN,jx,jS,jU,jX,jO,jP,jQ,jz,jA,jE,jB,jC,jn,jD,jF,jG,j7,evX,evL,evB,rd,get,subG,memG,jY,jW,hyps,gob,impP,allP,j5,j2,j4,kp,nth,ke,km,jZ,lenB,kj,jV,entN,setE,j0,addE,setL,setN,putE,env0,eqCs,j9,eqC,bA,bO,bN,bE,negB,kEq,ki,j8,lend,frz,frzL,zRow,kg,kd,closed,jH,j1,binI,remP,remI,retK,retG,kr,retD,ko,resL,resD,oneD,renD,renL,renE,j3,rho,jR,j6,List.append,List.nil_append,List.cons_append,List.append_nil,cond,Nat.reduceBEq,Nat.reduceAdd,Nat.beq]
 rw [ky]
 have e0 : (fun _ _ => False : Int → Int → Prop) = fun X Y => pts (l.take 0) X Y ∧ inP w h X Y := zb fun x y => by simp [pts]
 rw [e0]
 refine kH (α := {i : Nat // i ≤ l.length})
  (fun i => ⟨[(2, [], .fn F [.box 0 0, .box 2 0]), (3, [], .box 3 0), (12, [], .ls 4 (rcs l)), (13, [], .int .i64 l.length), (14, [], .int .i64 i.1)],
    [.cells [.int .u8 p], .arr 51 1 1 (R (fun X Y => pts (l.take i.1) X Y ∧ inP w h X Y)), .cells [.int .i64 w, .int .i64 h, .own 1 1], .cells [.int .i64 w, .int .i64 h, .own 1 1], .cells [.ls 4 (rcs l)]]⟩)
  (fun i => l.length - i.1) ?_ ⟨0, Nat.zero_le _⟩ rfl
 rintro ⟨i, hi⟩ I ih
 dsimp only at hi ⊢
 dsimp only [c_grid_Grid_spans, qt, jo,jK,jT,jr,jI,jM,jq,jJ,jL,iteR,regK,ji,jc,jl,jk,jb,jj,blkK,kt,kh,jd,ja,jy,fpOk,foot,kq,allN,memN,jN,jm,js,jw,jv,jt,ju,jg,jh,jf,je,newN,jx,jS,jU,jX,jO,jP,jQ,jz,jA,jE,jB,jC,jn,jD,jF,jG,j7,evX,evL,evB,rd,get,subG,memG,jY,jW,hyps,gob,impP,allP,j5,j2,j4,kp,nth,ke,km,jZ,lenB,kj,jV,entN,setE,j0,addE,setL,setN,putE,env0,eqCs,j9,eqC,bA,bO,bN,bE,negB,kEq,ki,j8,lend,frz,frzL,zRow,kg,kd,closed,jH,j1,binI,remP,remI,retK,retG,kr,retD,ko,resL,resD,oneD,renD,renL,renE,j3,rho,jR,j6,List.append,List.nil_append,List.cons_append,List.append_nil,cond,Nat.reduceBEq,Nat.reduceAdd,Nat.beq]
 refine ⟨fun hlt => ?_, fun hge => ?_⟩
 ·have hil : i < l.length := by simpa using hlt
  obtain ⟨r, hr⟩ : ∃ r, l[i]? = some r := ⟨_, List.getElem?_eq_getElem hil⟩
  have hV := hv r (List.mem_of_getElem? hr)
  unfold Vr at hV
  have htk : ∀ X Y, pts (l.take (i + 1)) X Y ↔ pts (l.take i) X Y ∨ r.has X Y := fun X Y => by rw [List.take_add_one, hr, Option.toList, ptsA, ptsO]
  have hnext : ∀ Q : Int → Int → Prop, (∀ X Y, Q X Y ↔ pts (l.take (i + 1)) X Y ∧ inP w h X Y) → Zt 3 I ⟨[(2, [], .fn F [.box 0 0, .box 2 0]), (3, [], .box 3 0), (12, [], .ls 4 (rcs l)), (13, [], .int .i64 l.length), (14, [], .int .i64 ((i : Int) + 1))], [.cells [.int .u8 p], .arr 51 1 1 (R Q), .cells [.int .i64 w, .int .i64 h, .own 1 1], .cells [.int .i64 w, .int .i64 h, .own 1 1], .cells [.ls 4 (rcs l)], .cells [.int .i64 r.x, .int .i64 r.y, .int .i64 r.w, .int .i64 r.h]]⟩ := fun Q hQ => by
   rw [zb hQ]
   exact k9 (ih ⟨i + 1, hil⟩ (by dsimp only; omega)) ⟨rfl, rfl, rfl, rfl, by simp [get], trivial⟩ ⟨rfl, rfl, rfl, rfl, rfl, trivial⟩ rfl rfl
  refine ⟨⟨rfl, by omega, by rw [ky]; omega⟩, kB (rD r) (rD r) (qo (by simpa using hr)) rfl ?_⟩
  dsimp only [c_grid_Grid_spans, qt, rD, jo,jK,jT,jr,jI,jM,jq,jJ,jL,iteR,regK,ji,jc,jl,jk,jb,jj,blkK,kt,kh,jd,ja,jy,fpOk,foot,kq,allN,memN,jN,jm,js,jw,jv,jt,ju,jg,jh,jf,je,newN,jx,jS,jU,jX,jO,jP,jQ,jz,jA,jE,jB,jC,jn,jD,jF,jG,j7,evX,evL,evB,rd,get,subG,memG,jY,jW,hyps,gob,impP,allP,j5,j2,j4,kp,nth,ke,km,jZ,lenB,kj,jV,entN,setE,j0,addE,setL,setN,putE,env0,eqCs,j9,eqC,bA,bO,bN,bE,negB,kEq,ki,j8,lend,frz,frzL,zRow,kg,kd,closed,jH,j1,binI,remP,remI,retK,retG,kr,retD,ko,resL,resD,oneD,renD,renL,renE,j3,rho,jR,j6,List.append,List.nil_append,List.cons_append,List.append_nil,cond,Nat.reduceBEq,Nat.reduceAdd,Nat.beq]
  refine ⟨by simp only [fits]; omega, fun hge => ⟨by simp only [fits]; omega, hnext _ fun X Y => ?_⟩, fun hlt => ?_⟩
  ·simp only [decide_eq_true_eq] at hge
   rw [htk]; unfold Rc.has inP
   constructor
   ·rintro ⟨h1, h2⟩; exact ⟨.inl h1, h2⟩
   ·rintro ⟨h1 | h1, h2⟩
    ·exact ⟨h1, h2⟩
    ·omega
  have hab : max r.x 0 < min (r.x + r.w) w := by simp only [decide_eq_false_iff_not] at hlt; omega
  have e1 : (fun X Y => pts (l.take i) X Y ∧ inP w h X Y) = fun X Y => (pts (l.take i) X Y ∨ (r.has X Y ∧ Y < max r.y 0)) ∧ inP w h X Y := zb fun X Y => by
   unfold Rc.has inP
   constructor
   ·rintro ⟨h1, h2⟩; exact ⟨.inl h1, h2⟩
   ·rintro ⟨h1 | h1, h2⟩
    ·exact ⟨h1, h2⟩
    ·omega
  rw [e1]
  refine kH (α := {y : Int // max r.y 0 ≤ y})
   (fun y => ⟨[(2, [], .fn F [.box 0 0, .box 2 0]), (3, [], .box 3 0), (7, [], .box 5 0), (8, [], .int .i64 (max r.x 0)), (9, [], .int .i64 (min (r.x + r.w) w)), (10, [], .int .i64 y.1), (12, [], .ls 4 (rcs l)), (13, [], .int .i64 l.length), (14, [], .int .i64 i)],
     [.cells [.int .u8 p], .arr 51 1 1 (R (fun X Y => (pts (l.take i) X Y ∨ (r.has X Y ∧ Y < y.1)) ∧ inP w h X Y)), .cells [.int .i64 w, .int .i64 h, .own 1 1], .cells [.int .i64 w, .int .i64 h, .own 1 1], .cells [.ls 4 (rcs l)], .cells [.int .i64 r.x, .int .i64 r.y, .int .i64 r.w, .int .i64 r.h]]⟩)
   (fun y => (r.y + r.h - y.1).toNat) ?_ ⟨max r.y 0, Int.le_refl _⟩ rfl
  rintro ⟨y, hy⟩ I2 ih2
  dsimp only at hy ⊢
  dsimp only [c_grid_Grid_spans, qt, jo,jK,jT,jr,jI,jM,jq,jJ,jL,iteR,regK,ji,jc,jl,jk,jb,jj,blkK,kt,kh,jd,ja,jy,fpOk,foot,kq,allN,memN,jN,jm,js,jw,jv,jt,ju,jg,jh,jf,je,newN,jx,jS,jU,jX,jO,jP,jQ,jz,jA,jE,jB,jC,jn,jD,jF,jG,j7,evX,evL,evB,rd,get,subG,memG,jY,jW,hyps,gob,impP,allP,j5,j2,j4,kp,nth,ke,km,jZ,lenB,kj,jV,entN,setE,j0,addE,setL,setN,putE,env0,eqCs,j9,eqC,bA,bO,bN,bE,negB,kEq,ki,j8,lend,frz,frzL,zRow,kg,kd,closed,jH,j1,binI,remP,remI,retK,retG,kr,retD,ko,resL,resD,oneD,renD,renL,renE,j3,rho,jR,j6,List.append,List.nil_append,List.cons_append,List.append_nil,cond,Nat.reduceBEq,Nat.reduceAdd,Nat.beq]
  refine ⟨by simp only [fits]; omega, fun hlt => ⟨fun hge => ⟨by simp only [fits]; omega, hnext _ fun X Y => ?_⟩, fun hlt2 => ?_⟩, fun hge => ⟨by simp only [fits]; omega, hnext _ fun X Y => ?_⟩⟩
  ·simp only [decide_eq_true_eq] at hge
   rw [htk]; unfold Rc.has inP
   constructor
   ·rintro ⟨h1 | h1, h2⟩
    ·exact ⟨.inl h1, h2⟩
    ·exact ⟨.inr h1.1, h2⟩
   ·rintro ⟨h1 | h1, h2⟩
    ·exact ⟨.inl h1, h2⟩
    ·exact ⟨.inr ⟨h1, by omega⟩, h2⟩
  ·simp only [decide_eq_true_eq, decide_eq_false_iff_not] at hlt hlt2
   refine qm [0, 1, 2] (hcb _ y _ _ ⟨by omega, by omega⟩ ⟨by omega, hab, by omega⟩) rfl rfl ?_
   dsimp only [c_grid_Grid_spans, qt, jo,jK,jT,jr,jI,jM,jq,jJ,jL,iteR,regK,ji,jc,jl,jk,jb,jj,blkK,kt,kh,jd,ja,jy,fpOk,foot,kq,allN,memN,jN,jm,js,jw,jv,jt,ju,jg,jh,jf,je,newN,jx,jS,jU,jX,jO,jP,jQ,jz,jA,jE,jB,jC,jn,jD,jF,jG,j7,evX,evL,evB,rd,get,subG,memG,jY,jW,hyps,gob,impP,allP,j5,j2,j4,kp,nth,ke,km,jZ,lenB,kj,jV,entN,setE,j0,addE,setL,setN,putE,env0,eqCs,j9,eqC,bA,bO,bN,bE,negB,kEq,ki,j8,lend,frz,frzL,zRow,kg,kd,closed,jH,j1,binI,remP,remI,retK,retG,kr,retD,ko,resL,resD,oneD,renD,renL,renE,j3,rho,jR,j6,List.append,List.nil_append,List.cons_append,List.append_nil,cond,Nat.reduceBEq,Nat.reduceAdd,Nat.beq]
   refine ⟨by simp only [fits]; omega, ?_⟩
   have e2 : (fun X Y => ((pts (l.take i) X Y ∨ (r.has X Y ∧ Y < y)) ∧ inP w h X Y) ∨ (Y = y ∧ max r.x 0 ≤ X ∧ X < min (r.x + r.w) w)) = fun X Y => (pts (l.take i) X Y ∨ (r.has X Y ∧ Y < y + 1)) ∧ inP w h X Y := zb fun X Y => by
    unfold Rc.has inP
    constructor
    ·rintro (⟨h1 | h1, h2⟩ | h1)
     ·exact ⟨.inl h1, h2⟩
     ·exact ⟨.inr ⟨h1.1, by omega⟩, h2⟩
     ·exact ⟨.inr ⟨by omega, by omega⟩, by omega⟩
    ·rintro ⟨h1 | h1, h2⟩
     ·exact .inl ⟨.inl h1, h2⟩
     ·by_cases hY : Y = y
      ·exact .inr ⟨hY, by omega⟩
      ·exact .inl ⟨.inr ⟨h1.1, by omega⟩, h2⟩
   rw [e2]
   exact k9 (ih2 ⟨y + 1, by omega⟩ (by dsimp only; omega)) ⟨rfl, rfl, rfl, rfl, rfl, by simp [get], rfl, rfl, rfl, trivial⟩ ⟨rfl, rfl, rfl, rfl, rfl, rfl, trivial⟩ rfl rfl
  ·simp only [decide_eq_false_iff_not] at hge
   rw [htk]; unfold Rc.has inP
   constructor
   ·rintro ⟨h1 | h1, h2⟩
    ·exact ⟨.inl h1, h2⟩
    ·exact ⟨.inr h1.1, h2⟩
   ·rintro ⟨h1 | h1, h2⟩
    ·exact ⟨.inl h1, h2⟩
    ·exact ⟨.inr ⟨h1, by omega⟩, h2⟩
 ·have hil : i = l.length := by have : ¬ i < l.length := by simpa using hge
                                omega
  subst hil
  rw [List.take_length]
  exact Rt.cut (Nat.le_refl _) (qK [.cells [.int .u8 p], .arr 51 1 1 (R (fun X Y => pts l X Y ∧ inP w h X Y)), .cells [.int .i64 w, .int .i64 h, .own 1 1]] _) rfl rfl
end Go.AM

