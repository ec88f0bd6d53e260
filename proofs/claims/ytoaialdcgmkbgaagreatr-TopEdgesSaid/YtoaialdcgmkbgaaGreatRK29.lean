import Derived.Test.YtoaialdcgmkbgaaGreatRK28

set_option linter.all false
namespace Go.AM
open Go Go.Proofs
theorem YU {l : List Pt} (h : ∀ q ∈ l, Pok2 q) : Bdd (Ins l) := fun x y hi => by
 have := ins_in (M := 64) (fun q hq => h q hq) hi
 omega
theorem ins_few {l : List Pt} (h : l.length < 3) (X Y : Int) : ¬ Ins l X Y := by
 unfold Ins insB
 match l, h with
 | [], _ => simp [cyX_nil]
 | [a], _ => rw [zh]; simp [vM, x9, Y5]
 | [a, b], _ => rw [zh]; simp [vM, x9, eB_sym (a := b) (b := a)]
theorem VR {l : List Pt} (hp : ∀ q ∈ l, Pok2 q) (h : l.length < 3) : reg (Ins l) = [] := (Qg (YU hp)).2 fun x y => ins_few h x y
theorem ins_y {l : List Pt} {X Y c d : Int} (hl : ∀ q ∈ l, c ≤ q.2 ∧ q.2 ≤ d) (h : Ins l X Y) : c ≤ Y ∧ Y < d := by
 unfold Ins insB cyX at h
 rw [xH, decide_eq_true_iff, ← Q3] at h
 have hne : 0 < ((psL (edgL l) Y).filter fun p => decide (p.1 ≤ X)).length := by omega
 obtain ⟨p, hp⟩ := List.exists_mem_of_length_pos hne
 obtain ⟨hp1, hp2⟩ := List.mem_filter.1 hp
 obtain ⟨e, he, hpe⟩ := List.mem_filterMap.1 hp1
 obtain ⟨i, hi, rfl⟩ := List.mem_map.1 he
 have hi := List.mem_range.1 hi
 have hm : (i + 1) % l.length < l.length := Nat.mod_lt _ (by omega)
 have h1 := hl _ (List.mem_of_getElem? (kX hi))
 have h2 := hl _ (List.mem_of_getElem? (kX hm))
 have hsm := Ky (a := l.getD i (0, 0)) (b := l.getD ((i + 1) % l.length) (0, 0)) (y := Y)
 rw [show ze (l.getD i (0, 0)) (l.getD ((i + 1) % l.length) (0, 0)) Y = some p from hpe] at hsm
 simp only [Option.isSome_some] at hsm
 by_cases c1 : (l.getD i (0, 0)).2 ≤ Y <;> by_cases c2 : (l.getD ((i + 1) % l.length) (0, 0)).2 ≤ Y <;> simp only [c1, c2, decide_true, decide_false] at hsm <;> first | (simp at hsm; done) | omega
def loF (l : List Pt) : Nat → Pt
 | 0 => l.getD 0 (0, 0)
 | i + 1 => (min (loF l i).1 (l.getD i (0, 0)).1, min (loF l i).2 (l.getD i (0, 0)).2)
def hiF (l : List Pt) : Nat → Pt
 | 0 => l.getD 0 (0, 0)
 | i + 1 => (max (hiF l i).1 (l.getD i (0, 0)).1, max (hiF l i).2 (l.getD i (0, 0)).2)
theorem lo_ok {l : List Pt} (hp : ∀ q ∈ l, Pok2 q) (h0 : 0 < l.length) : ∀ i, i ≤ l.length → Pok2 (loF l i) ∧ Pok2 (hiF l i) ∧ (loF l i).1 ≤ (hiF l i).1 ∧ (loF l i).2 ≤ (hiF l i).2 ∧ ∀ j, j < i → (loF l i).2 ≤ (l.getD j (0, 0)).2 ∧ (l.getD j (0, 0)).2 ≤ (hiF l i).2
 | 0, _ => by
   have := hp _ (List.mem_of_getElem? (kX h0))
   exact ⟨this, this, Int.le_refl _, Int.le_refl _, fun j hj => by omega⟩
 | i + 1, hi => by
   obtain ⟨h1, h2, h3, h4, h5⟩ := lo_ok hp h0 i (by omega)
   have hq := hp _ (List.mem_of_getElem? (kX (show i < l.length by omega)))
   unfold Pok2 at *
   simp only [loF, hiF]
   refine ⟨by omega, by omega, by omega, by omega, fun j hj => ?_⟩
   by_cases hji : j = i
   ·subst hji; omega
   ·have := h5 j (by omega); omega
theorem Xx {l : List Pt} (hl : l.length ≤ 64) (hp : ∀ q ∈ l, Pok2 q) : TSp 90 [.int .i64 0, .ls 2 (pds l)] (.tup [.agg [.ls 4 (rcs (reg (Ins l)))], .int .i64 0]) := by
 refine ZK (by rfl) ?_
 dsimp only [c_poly_Region, k8, jo,jK,jT,jr,jI,jM,jq,jJ,jL,iteR,regK,ji,jc,jl,jk,jb,jj,blkK,kt,kh,jd,ja,jy,fpOk,foot,kq,allN,memN,jN,jm,js,jw,jv,jt,ju,jg,jh,jf,je,newN,jx,jS,jU,jX,jO,jP,jQ,jz,jA,jE,jB,jC,jn,jD,jF,jG,j7,evX,evL,evB,rd,get,subG,memG,jY,jW,hyps,gob,impP,allP,j5,j2,j4,kp,nth,ke,km,jZ,lenB,kj,jV,entN,setE,j0,addE,setL,setN,putE,env0,eqCs,j9,eqC,bA,bO,bN,bE,negB,kEq,ki,j8,lend,frz,frzL,zRow,kg,kd,closed,jH,j1,binI,remP,remI,retK,retG,kr,retD,ko,resL,resD,oneD,renD,renL,renE,j3,rho,jR,j6,List.append,List.nil_append,List.cons_append,List.append_nil,cond,Nat.reduceBEq,Nat.reduceAdd,Nat.beq]
 refine kx sp_pknown ?_
 dsimp only [c_poly_Region, k8, jo,jK,jT,jr,jI,jM,jq,jJ,jL,iteR,regK,ji,jc,jl,jk,jb,jj,blkK,kt,kh,jd,ja,jy,fpOk,foot,kq,allN,memN,jN,jm,js,jw,jv,jt,ju,jg,jh,jf,je,newN,jx,jS,jU,jX,jO,jP,jQ,jz,jA,jE,jB,jC,jn,jD,jF,jG,j7,evX,evL,evB,rd,get,subG,memG,jY,jW,hyps,gob,impP,allP,j5,j2,j4,kp,nth,ke,km,jZ,lenB,kj,jV,entN,setE,j0,addE,setL,setN,putE,env0,eqCs,j9,eqC,bA,bO,bN,bE,negB,kEq,ki,j8,lend,frz,frzL,zRow,kg,kd,closed,jH,j1,binI,remP,remI,retK,retG,kr,retD,ko,resL,resD,oneD,renD,renL,renE,j3,rho,jR,j6,List.append,List.nil_append,List.cons_append,List.append_nil,cond,Nat.reduceBEq,Nat.reduceAdd,Nat.beq]
 refine ⟨fun h => absurd h (by simp), fun _ => ?_⟩
 rw [kV]
 refine ⟨fun h => ?_, fun _ => ?_⟩
 ·simp only [decide_eq_true_eq] at h; omega
 refine kH (α := {i : Nat // i ≤ l.length})
  (fun i => ⟨[(2, [], .box 0 0), (3, [], .box 1 0), (4, [], .box 2 0), (20, [], .ls 2 (pds l)), (21, [], .int .i64 l.length), (22, [], .int .i64 i.1)], [.cells [.int .i64 0], .cells [.ls 2 (pds l)], .cells [.ls 4 []]]⟩)
  (fun i => l.length - i.1) ?_ ⟨0, Nat.zero_le _⟩ rfl
 rintro ⟨i, hi⟩ I ih
 dsimp only at hi ⊢
 dsimp only [c_poly_Region, k8, jo,jK,jT,jr,jI,jM,jq,jJ,jL,iteR,regK,ji,jc,jl,jk,jb,jj,blkK,kt,kh,jd,ja,jy,fpOk,foot,kq,allN,memN,jN,jm,js,jw,jv,jt,ju,jg,jh,jf,je,newN,jx,jS,jU,jX,jO,jP,jQ,jz,jA,jE,jB,jC,jn,jD,jF,jG,j7,evX,evL,evB,rd,get,subG,memG,jY,jW,hyps,gob,impP,allP,j5,j2,j4,kp,nth,ke,km,jZ,lenB,kj,jV,entN,setE,j0,addE,setL,setN,putE,env0,eqCs,j9,eqC,bA,bO,bN,bE,negB,kEq,ki,j8,lend,frz,frzL,zRow,kg,kd,closed,jH,j1,binI,remP,remI,retK,retG,kr,retD,ko,resL,resD,oneD,renD,renL,renE,j3,rho,jR,j6,List.append,List.nil_append,List.cons_append,List.append_nil,cond,Nat.reduceBEq,Nat.reduceAdd,Nat.beq]
 refine ⟨fun hlt => ?_, fun hge => ?_⟩
 ·have hil : i < l.length := by simpa using hlt
  have hq := hp _ (List.mem_of_getElem? (kX hil))
  unfold Pok2 at hq
  refine ⟨⟨rfl, by omega, by rw [kV]; omega⟩, kB (pD (l.getD i (0, 0))) (pD (l.getD i (0, 0))) (vL (by simpa using kX hil)) rfl ?_⟩
  dsimp only [c_poly_Region, k8, pD, jo,jK,jT,jr,jI,jM,jq,jJ,jL,iteR,regK,ji,jc,jl,jk,jb,jj,blkK,kt,kh,jd,ja,jy,fpOk,foot,kq,allN,memN,jN,jm,js,jw,jv,jt,ju,jg,jh,jf,je,newN,jx,jS,jU,jX,jO,jP,jQ,jz,jA,jE,jB,jC,jn,jD,jF,jG,j7,evX,evL,evB,rd,get,subG,memG,jY,jW,hyps,gob,impP,allP,j5,j2,j4,kp,nth,ke,km,jZ,lenB,kj,jV,entN,setE,j0,addE,setL,setN,putE,env0,eqCs,j9,eqC,bA,bO,bN,bE,negB,kEq,ki,j8,lend,frz,frzL,zRow,kg,kd,closed,jH,j1,binI,remP,remI,retK,retG,kr,retD,ko,resL,resD,oneD,renD,renL,renE,j3,rho,jR,j6,List.append,List.nil_append,List.cons_append,List.append_nil,cond,Nat.reduceBEq,Nat.reduceAdd,Nat.beq]
  refine kx XN ?_
  dsimp only [c_poly_Region, k8, pD, jo,jK,jT,jr,jI,jM,jq,jJ,jL,iteR,regK,ji,jc,jl,jk,jb,jj,blkK,kt,kh,jd,ja,jy,fpOk,foot,kq,allN,memN,jN,jm,js,jw,jv,jt,ju,jg,jh,jf,je,newN,jx,jS,jU,jX,jO,jP,jQ,jz,jA,jE,jB,jC,jn,jD,jF,jG,j7,evX,evL,evB,rd,get,subG,memG,jY,jW,hyps,gob,impP,allP,j5,j2,j4,kp,nth,ke,km,jZ,lenB,kj,jV,entN,setE,j0,addE,setL,setN,putE,env0,eqCs,j9,eqC,bA,bO,bN,bE,negB,kEq,ki,j8,lend,frz,frzL,zRow,kg,kd,closed,jH,j1,binI,remP,remI,retK,retG,kr,retD,ko,resL,resD,oneD,renD,renL,renE,j3,rho,jR,j6,List.append,List.nil_append,List.cons_append,List.append_nil,cond,Nat.reduceBEq,Nat.reduceAdd,Nat.beq]
  refine kx (fun _ => XN) ?_
  dsimp only [c_poly_Region, k8, pD, jo,jK,jT,jr,jI,jM,jq,jJ,jL,iteR,regK,ji,jc,jl,jk,jb,jj,blkK,kt,kh,jd,ja,jy,fpOk,foot,kq,allN,memN,jN,jm,js,jw,jv,jt,ju,jg,jh,jf,je,newN,jx,jS,jU,jX,jO,jP,jQ,jz,jA,jE,jB,jC,jn,jD,jF,jG,j7,evX,evL,evB,rd,get,subG,memG,jY,jW,hyps,gob,impP,allP,j5,j2,j4,kp,nth,ke,km,jZ,lenB,kj,jV,entN,setE,j0,addE,setL,setN,putE,env0,eqCs,j9,eqC,bA,bO,bN,bE,negB,kEq,ki,j8,lend,frz,frzL,zRow,kg,kd,closed,jH,j1,binI,remP,remI,retK,retG,kr,retD,ko,resL,resD,oneD,renD,renL,renE,j3,rho,jR,j6,List.append,List.nil_append,List.cons_append,List.append_nil,cond,Nat.reduceBEq,Nat.reduceAdd,Nat.beq]
  refine ⟨fun h => ?_, fun _ => ⟨by simp only [fits]; omega, ?_⟩⟩
  ·simp only [Bool.or_eq_true, Bool.not_eq_true', Bool.and_eq_false_iff, decide_eq_false_iff_not] at h; omega
  ·exact k9 (ih ⟨i + 1, hil⟩ (by dsimp only; omega)) ⟨rfl, rfl, rfl, rfl, rfl, by simp [get], trivial⟩ ⟨rfl, rfl, rfl, trivial⟩ rfl rfl
 ·clear ih I hge hi i
  rw [kV]
  refine ⟨fun h => ?_, fun h => ?_⟩
  ·simp only [decide_eq_true_eq] at h
   rw [VR hp (by omega)]
   rfl
  have h0 : 0 < l.length := by simp only [decide_eq_false_iff_not] at h; omega
  clear h
  have hg0 : (pds l)[(Int.toNat 0)]? = some (pD (loF l 0)) := vL (kX h0)
  refine ⟨⟨rfl, by omega, by omega⟩, kB (pD (loF l 0)) (pD (loF l 0)) hg0 rfl ?_⟩
  dsimp only [c_poly_Region, k8, pD, jo,jK,jT,jr,jI,jM,jq,jJ,jL,iteR,regK,ji,jc,jl,jk,jb,jj,blkK,kt,kh,jd,ja,jy,fpOk,foot,kq,allN,memN,jN,jm,js,jw,jv,jt,ju,jg,jh,jf,je,newN,jx,jS,jU,jX,jO,jP,jQ,jz,jA,jE,jB,jC,jn,jD,jF,jG,j7,evX,evL,evB,rd,get,subG,memG,jY,jW,hyps,gob,impP,allP,j5,j2,j4,kp,nth,ke,km,jZ,lenB,kj,jV,entN,setE,j0,addE,setL,setN,putE,env0,eqCs,j9,eqC,bA,bO,bN,bE,negB,kEq,ki,j8,lend,frz,frzL,zRow,kg,kd,closed,jH,j1,binI,remP,remI,retK,retG,kr,retD,ko,resL,resD,oneD,renD,renL,renE,j3,rho,jR,j6,List.append,List.nil_append,List.cons_append,List.append_nil,cond,Nat.reduceBEq,Nat.reduceAdd,Nat.beq]
  rw [kV]
  refine ⟨⟨rfl, by omega, by omega⟩, kB (pD (loF l 0)) (pD (loF l 0)) hg0 rfl ?_⟩
  dsimp only [c_poly_Region, k8, pD, jo,jK,jT,jr,jI,jM,jq,jJ,jL,iteR,regK,ji,jc,jl,jk,jb,jj,blkK,kt,kh,jd,ja,jy,fpOk,foot,kq,allN,memN,jN,jm,js,jw,jv,jt,ju,jg,jh,jf,je,newN,jx,jS,jU,jX,jO,jP,jQ,jz,jA,jE,jB,jC,jn,jD,jF,jG,j7,evX,evL,evB,rd,get,subG,memG,jY,jW,hyps,gob,impP,allP,j5,j2,j4,kp,nth,ke,km,jZ,lenB,kj,jV,entN,setE,j0,addE,setL,setN,putE,env0,eqCs,j9,eqC,bA,bO,bN,bE,negB,kEq,ki,j8,lend,frz,frzL,zRow,kg,kd,closed,jH,j1,binI,remP,remI,retK,retG,kr,retD,ko,resL,resD,oneD,renD,renL,renE,j3,rho,jR,j6,List.append,List.nil_append,List.cons_append,List.append_nil,cond,Nat.reduceBEq,Nat.reduceAdd,Nat.beq]
  rw [kV]
  refine kH (α := {i : Nat // i ≤ l.length})
   (fun i => ⟨[(2, [], .box 0 0), (3, [], .box 1 0), (4, [], .box 2 0), (8, [], .box 3 0), (9, [], .box 4 0), (48, [], .ls 2 (pds l)), (49, [], .int .i64 l.length), (50, [], .int .i64 i.1)],
     [.cells [.int .i64 0], .cells [.ls 2 (pds l)], .cells [.ls 4 []], .cells [.int .i64 (loF l i.1).1, .int .i64 (loF l i.1).2], .cells [.int .i64 (hiF l i.1).1, .int .i64 (hiF l i.1).2]]⟩)
   (fun i => l.length - i.1) ?_ ⟨0, Nat.zero_le _⟩ rfl
  rintro ⟨i, hi⟩ I ih
  dsimp only at hi ⊢
  dsimp only [c_poly_Region, k8, jo,jK,jT,jr,jI,jM,jq,jJ,jL,iteR,regK,ji,jc,jl,jk,jb,jj,blkK,kt,kh,jd,ja,jy,fpOk,foot,kq,allN,memN,jN,jm,js,jw,jv,jt,ju,jg,jh,jf,je,newN,jx,jS,jU,jX,jO,jP,jQ,jz,jA,jE,jB,jC,jn,jD,jF,jG,j7,evX,evL,evB,rd,get,subG,memG,jY,jW,hyps,gob,impP,allP,j5,j2,j4,kp,nth,ke,km,jZ,lenB,kj,jV,entN,setE,j0,addE,setL,setN,putE,env0,eqCs,j9,eqC,bA,bO,bN,bE,negB,kEq,ki,j8,lend,frz,frzL,zRow,kg,kd,closed,jH,j1,binI,remP,remI,retK,retG,kr,retD,ko,resL,resD,oneD,renD,renL,renE,j3,rho,jR,j6,List.append,List.nil_append,List.cons_append,List.append_nil,cond,Nat.reduceBEq,Nat.reduceAdd,Nat.beq]
  refine ⟨fun hlt => ?_, fun hge => ?_⟩
  ·have hil : i < l.length := by simpa using hlt
   refine ⟨⟨rfl, by omega, by rw [kV]; omega⟩, kB (pD (l.getD i (0, 0))) (pD (l.getD i (0, 0))) (vL (by simpa using kX hil)) rfl ?_⟩
   dsimp only [c_poly_Region, k8, pD, jo,jK,jT,jr,jI,jM,jq,jJ,jL,iteR,regK,ji,jc,jl,jk,jb,jj,blkK,kt,kh,jd,ja,jy,fpOk,foot,kq,allN,memN,jN,jm,js,jw,jv,jt,ju,jg,jh,jf,je,newN,jx,jS,jU,jX,jO,jP,jQ,jz,jA,jE,jB,jC,jn,jD,jF,jG,j7,evX,evL,evB,rd,get,subG,memG,jY,jW,hyps,gob,impP,allP,j5,j2,j4,kp,nth,ke,km,jZ,lenB,kj,jV,entN,setE,j0,addE,setL,setN,putE,env0,eqCs,j9,eqC,bA,bO,bN,bE,negB,kEq,ki,j8,lend,frz,frzL,zRow,kg,kd,closed,jH,j1,binI,remP,remI,retK,retG,kr,retD,ko,resL,resD,oneD,renD,renL,renE,j3,rho,jR,j6,List.append,List.nil_append,List.cons_append,List.append_nil,cond,Nat.reduceBEq,Nat.reduceAdd,Nat.beq]
   refine ⟨by simp only [fits]; omega, ?_⟩
   exact k9 (ih ⟨i + 1, hil⟩ (by dsimp only; omega)) ⟨rfl, rfl, rfl, rfl, rfl, rfl, rfl, by simp [get], trivial⟩ ⟨rfl, rfl, rfl, rfl, rfl, trivial⟩ rfl rfl
  ·have hil : i = l.length := by have : ¬ i < l.length := by simpa using hge
                                 omega
   subst hil
   obtain ⟨k1, k2, k3, k4, k5⟩ := lo_ok hp h0 l.length (Nat.le_refl _)
   have k1' := k1
   have k2' := k2
   unfold Pok2 at k1' k2'
   generalize loF l l.length = lo at *
   generalize hiF l l.length = hh at *
   obtain ⟨lx, ly⟩ := lo
   obtain ⟨hx, hy⟩ := hh
   dsimp only at k1' k2' k3 k4 k5 ⊢
   rw [kV]
   refine ⟨by simp only [fits]; omega, fun _ => by simp only [fits]; omega, fun h => ?_, fun _ => ⟨fun h => ?_, fun h3 => ?_⟩⟩
   ·simp only [Bool.or_eq_true, decide_eq_true_eq] at h; omega
   ·simp only [decide_eq_true_eq] at h
    rw [VR hp (by omega)]
    rfl
   obtain ⟨n, hn⟩ : ∃ n : Nat, hy = ly + n := ⟨(hy - ly).toNat, by omega⟩
   have hrc := rc_ok (y0 := ly) hp hl n
   refine qm [0, 1] (sm_rects (n := n) hl hp (by omega) hn (by omega)) rfl rfl ?_
   dsimp only [c_poly_Region, k8, pD, jo,jK,jT,jr,jI,jM,jq,jJ,jL,iteR,regK,ji,jc,jl,jk,jb,jj,blkK,kt,kh,jd,ja,jy,fpOk,foot,kq,allN,memN,jN,jm,js,jw,jv,jt,ju,jg,jh,jf,je,newN,jx,jS,jU,jX,jO,jP,jQ,jz,jA,jE,jB,jC,jn,jD,jF,jG,j7,evX,evL,evB,rd,get,subG,memG,jY,jW,hyps,gob,impP,allP,j5,j2,j4,kp,nth,ke,km,jZ,lenB,kj,jV,entN,setE,j0,addE,setL,setN,putE,env0,eqCs,j9,eqC,bA,bO,bN,bE,negB,kEq,ki,j8,lend,frz,frzL,zRow,kg,kd,closed,jH,j1,binI,remP,remI,retK,retG,kr,retD,ko,resL,resD,oneD,renD,renL,renE,j3,rho,jR,j6,List.append,List.nil_append,List.cons_append,List.append_nil,cond,Nat.reduceBEq,Nat.reduceAdd,Nat.beq]
   generalize rcS l ly n = s at *
   obtain ⟨out, last⟩ := s
   obtain ⟨r1, r2, r3, r4⟩ := hrc
   dsimp only at r1 r2 r3 r4 ⊢
   have hV : ∀ r ∈ out ++ last, Vr r := fun r hr => by
    have := r2 r hr
    unfold Vr; omega
   refine kx (yB (fun r hr => (hV r hr).in) (by rw [List.length_append]; omega)) ?_
   dsimp only [c_poly_Region, k8, pD, jo,jK,jT,jr,jI,jM,jq,jJ,jL,iteR,regK,ji,jc,jl,jk,jb,jj,blkK,kt,kh,jd,ja,jy,fpOk,foot,kq,allN,memN,jN,jm,js,jw,jv,jt,ju,jg,jh,jf,je,newN,jx,jS,jU,jX,jO,jP,jQ,jz,jA,jE,jB,jC,jn,jD,jF,jG,j7,evX,evL,evB,rd,get,subG,memG,jY,jW,hyps,gob,impP,allP,j5,j2,j4,kp,nth,ke,km,jZ,lenB,kj,jV,entN,setE,j0,addE,setL,setN,putE,env0,eqCs,j9,eqC,bA,bO,bN,bE,negB,kEq,ki,j8,lend,frz,frzL,zRow,kg,kd,closed,jH,j1,binI,remP,remI,retK,retG,kr,retD,ko,resL,resD,oneD,renD,renL,renE,j3,rho,jR,j6,List.append,List.nil_append,List.cons_append,List.append_nil,cond,Nat.reduceBEq,Nat.reduceAdd,Nat.beq]
   have hres : reg (pts (allL (out ++ last))) = reg (Ins l) := Qh fun x y => by
    unfold allL
    rw [Xo (fun r hr _ => hV r hr), r4]
    refine ⟨fun h => h.2, fun h => ⟨?_, h⟩⟩
    rw [← hn]
    refine ins_y (fun q hq => ?_) h
    obtain ⟨j, hj⟩ := List.getElem?_of_mem hq
    have hjl := (List.getElem?_eq_some_iff.1 hj).1
    have := k5 j hjl
    rw [kX hjl] at hj
    cases hj
    exact this
   rw [hres]
end Go.AM

