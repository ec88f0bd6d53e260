import Derived.Test.YtoaialdcgmkbgaaGreatRQ4

set_option linter.all false
namespace Go.AM
open Go Go.Proofs
def xu (f : Rc → Rc) (l : List Rc) (i : Nat) : List Rc := (l.take i).map f ++ l.drop i
theorem mapTo_get {f : Rc → Rc} {l : List Rc} {i : Nat} {r : Rc} (h : l[i]? = some r) : (xu f l i)[i]? = some r := by
  obtain ⟨hk, h2⟩ := List.getElem?_eq_some_iff.1 h
  unfold xu
  rw [List.getElem?_append_right (by simp; omega), List.getElem?_drop]
  have : i + (i - (List.map f (List.take i l)).length) = i := by simp; omega
  rw [this]; exact h
theorem mapTo_set {f : Rc → Rc} {l : List Rc} {i : Nat} {r : Rc} (h : l[i]? = some r) : (xu f l i).set i (f r) = xu f l (i + 1) := by
  obtain ⟨hk, h2⟩ := List.getElem?_eq_some_iff.1 h
  unfold xu
  rw [List.set_append_right _ _ (by simp; omega)]
  have e1 : i - (List.map f (List.take i l)).length = 0 := by simp; omega
  rw [e1, List.drop_eq_getElem_cons hk, h2, List.set_cons_zero, List.take_add_one, h, List.map_append]
  simp
theorem mapTo_len {f : Rc → Rc} {l : List Rc} {i : Nat} : (xu f l i).length = l.length := by
  unfold xu
  simp only [List.length_append, List.length_map, List.length_take, List.length_drop]; omega
theorem mapTo_zero {f : Rc → Rc} {l : List Rc} : xu f l 0 = l := by simp [xu]
theorem mapTo_all {f : Rc → Rc} {l : List Rc} : xu f l l.length = l.map f := by simp [xu]
def mvX (a d : Int) : Int := max (a + d) (-1048576)
def mvN (a n d : Int) : Int := min (a + d + n) 1048576 - max (a + d) (-1048576)
theorem sp_moved {a n d : Int} (ha : -1048576 ≤ a ∧ a ≤ 1048576) (hn : 0 ≤ n ∧ n ≤ 2097152) (hd : -2097152 ≤ d ∧ d ≤ 2097152) : TSp 77 [.int .i64 a, .int .i64 n, .int .i64 d] (.tup [.int .i64 (mvX a d), .int .i64 (mvN a n d)]) := by
  refine spo_region_moved (by rfl) ?_
  dsimp only [c_region_moved, xC, jo,jK,jT,jr,jI,jM,jq,jJ,jL,iteR,regK,ji,jc,jl,jk,jb,jj,blkK,kr,kh,jd,ja,jy,fpOk,foot,kp,allN,memN,jN,jm,js,jw,jv,jt,ju,jg,jh,jf,je,newN,jx,jS,jU,j2,jO,jP,jQ,jz,jA,jE,jB,jC,jn,jD,jF,jG,j7,evX,evL,evB,rd,get,subG,memG,jW,jY,hyps,gob,impP,allP,j6,j1,j4,ko,nth,ke,km,jX,lenB,kj,jV,entN,setE,jZ,addE,setL,setN,putE,env0,eqCs,j9,eqC,bA,bO,bN,bE,negB,kEq,ki,j8,lend,frz,frzL,zRow,kg,kd,closed,jH,j0,binI,remP,remI,retK,retG,kq,retD,kn,resL,resD,oneD,renD,renL,renE,j3,rho,jR,j5,List.append,List.nil_append,List.cons_append,List.append_nil,cond,Nat.reduceBEq,Nat.reduceAdd,Nat.beq]
  exact ⟨by simp only [fits]; omega, by simp only [fits]; omega, by simp only [fits]; omega, by simp only [fits]; omega, rfl⟩
def mvR (dx dy : Int) (r : Rc) : Rc := ⟨mvX r.x dx, mvX r.y dy, mvN r.x r.w dx, mvN r.y r.h dy⟩
def mvR1 (dx : Int) (r : Rc) : Rc := ⟨mvX r.x dx, r.y, mvN r.x r.w dx, r.h⟩
def mvP (dx dy : Int) (P : Int → Int → Prop) : Int → Int → Prop := fun x y => P (x - dx) (y - dy) ∧ (-1048576 ≤ x ∧ x < 1048576) ∧ -1048576 ≤ y ∧ y < 1048576
theorem mv_bdd {dx dy : Int} {P : Int → Int → Prop} : Bdd (mvP dx dy P) := fun x y h => h.2
theorem sp_Shift {P : Int → Int → Prop} (hP : Bdd P) {dx dy : Int} (hx : -2097152 ≤ dx ∧ dx ≤ 2097152) (hy : -2097152 ≤ dy ∧ dy ≤ 2097152) (hl : (reg P).length ≤ 1073741824) :
    TSp 18 [.agg [.ls 4 (rcs (reg P))], .int .i64 dx, .int .i64 dy] (.agg [.ls 4 (rcs (reg (mvP dx dy P)))]) := by
  have hv := reg_Vr hP
  have hres : reg (pts (allL ((reg P).map (mvR dx dy)))) = reg (mvP dx dy P) := xI fun x y => by
    unfold allL
    rw [allL_pts (fun r hr hp => by
      obtain ⟨q, hq, rfl⟩ := List.mem_map.1 hr
      have := hv q hq
      unfold Vr mvR mvX mvN at *
      unfold Pos at hp
      dsimp only at hp ⊢
      omega)]
    unfold mvP
    rw [← z8 hP]
    unfold pts
    constructor
    · rintro ⟨q, hq, hh⟩
      obtain ⟨r, hr, rfl⟩ := List.mem_map.1 hq
      have := hv r hr
      unfold Vr at this
      unfold Rc.has mvR mvX mvN at hh
      dsimp only at hh
      exact ⟨⟨r, hr, by unfold Rc.has; omega⟩, by omega⟩
    · rintro ⟨⟨r, hr, hh⟩, hb⟩
      refine ⟨_, List.mem_map.2 ⟨r, hr, rfl⟩, ?_⟩
      have := hv r hr
      unfold Vr at this
      unfold Rc.has at hh
      unfold Rc.has mvR mvX mvN
      dsimp only
      omega
  generalize reg (mvP dx dy P) = rs at *
  generalize reg P = l at *
  refine spo_region_Shift (by rfl) ?_
  dsimp only [c_region_Shift, kS, jo,jK,jT,jr,jI,jM,jq,jJ,jL,iteR,regK,ji,jc,jl,jk,jb,jj,blkK,kr,kh,jd,ja,jy,fpOk,foot,kp,allN,memN,jN,jm,js,jw,jv,jt,ju,jg,jh,jf,je,newN,jx,jS,jU,j2,jO,jP,jQ,jz,jA,jE,jB,jC,jn,jD,jF,jG,j7,evX,evL,evB,rd,get,subG,memG,jW,jY,hyps,gob,impP,allP,j6,j1,j4,ko,nth,ke,km,jX,lenB,kj,jV,entN,setE,jZ,addE,setL,setN,putE,env0,eqCs,j9,eqC,bA,bO,bN,bE,negB,kEq,ki,j8,lend,frz,frzL,zRow,kg,kd,closed,jH,j0,binI,remP,remI,retK,retG,kq,retD,kn,resL,resD,oneD,renD,renL,renE,j3,rho,jR,j5,List.append,List.nil_append,List.cons_append,List.append_nil,cond,Nat.reduceBEq,Nat.reduceAdd,Nat.beq]
  refine ⟨fun h => ?_, fun _ => ?_⟩
  · simp only [Bool.or_eq_true, decide_eq_true_eq] at h; omega
  refine qe [] (sm_Rects (l := rcs l) (by rw [ky]; omega)) rfl rfl ?_
  dsimp only [c_region_Shift, kS, jo,jK,jT,jr,jI,jM,jq,jJ,jL,iteR,regK,ji,jc,jl,jk,jb,jj,blkK,kr,kh,jd,ja,jy,fpOk,foot,kp,allN,memN,jN,jm,js,jw,jv,jt,ju,jg,jh,jf,je,newN,jx,jS,jU,j2,jO,jP,jQ,jz,jA,jE,jB,jC,jn,jD,jF,jG,j7,evX,evL,evB,rd,get,subG,memG,jW,jY,hyps,gob,impP,allP,j6,j1,j4,ko,nth,ke,km,jX,lenB,kj,jV,entN,setE,jZ,addE,setL,setN,putE,env0,eqCs,j9,eqC,bA,bO,bN,bE,negB,kEq,ki,j8,lend,frz,frzL,zRow,kg,kd,closed,jH,j0,binI,remP,remI,retK,retG,kq,retD,kn,resL,resD,oneD,renD,renL,renE,j3,rho,jR,j5,List.append,List.nil_append,List.cons_append,List.append_nil,cond,Nat.reduceBEq,Nat.reduceAdd,Nat.beq]
  rw [ky]
  refine ⟨rfl, ?_⟩
  refine kE (α := {i : Nat // i ≤ l.length})
    (fun i => ⟨[(1, [], .int .i64 dx), (2, [], .int .i64 dy), (6, [], .box 1 0), (7, [], .own 5 2), (27, [], .int .i64 l.length), (28, [], .int .i64 i.1)],
      [.cells [.ls 4 (rcs l)], .cells [.ls 4 []], .cells [.ls 4 (rcs l)], .arr 45 4 0 [], .arr 45 4 0 [], .arr 45 4 2 (rcs (xu (mvR dx dy) l i.1))]⟩)
    (fun i => l.length - i.1) ?_ ⟨0, Nat.zero_le _⟩ (by simp [mapTo_zero])
  rintro ⟨i, hi⟩ I ih
  dsimp only at hi ⊢
  dsimp only [c_region_Shift, kS, jo,jK,jT,jr,jI,jM,jq,jJ,jL,iteR,regK,ji,jc,jl,jk,jb,jj,blkK,kr,kh,jd,ja,jy,fpOk,foot,kp,allN,memN,jN,jm,js,jw,jv,jt,ju,jg,jh,jf,je,newN,jx,jS,jU,j2,jO,jP,jQ,jz,jA,jE,jB,jC,jn,jD,jF,jG,j7,evX,evL,evB,rd,get,subG,memG,jW,jY,hyps,gob,impP,allP,j6,j1,j4,ko,nth,ke,km,jX,lenB,kj,jV,entN,setE,jZ,addE,setL,setN,putE,env0,eqCs,j9,eqC,bA,bO,bN,bE,negB,kEq,ki,j8,lend,frz,frzL,zRow,kg,kd,closed,jH,j0,binI,remP,remI,retK,retG,kq,retD,kn,resL,resD,oneD,renD,renL,renE,j3,rho,jR,j5,List.append,List.nil_append,List.cons_append,List.append_nil,cond,Nat.reduceBEq,Nat.reduceAdd,Nat.beq]
  refine ⟨fun hlt => ?_, fun hge => ?_⟩
  · have hil : i < l.length := by simpa using hlt
    obtain ⟨r, hr⟩ : ∃ r, l[i]? = some r := ⟨_, List.getElem?_eq_getElem hil⟩
    have hV := hv r (List.mem_of_getElem? hr)
    unfold Vr at hV
    have hix : ∀ L : List Rc, L.length = l.length → (0 : Int) ≤ i ∧ (i : Int) < ((rcs L).length : Int) := fun L hL => by rw [ky, hL]; omega
    have hset : ∀ (L : List Rc) (q : Rc), ((rcs L).set ((i : Nat) : Int).toNat (rD q)) = rcs (L.set i q) := fun L q => by rw [rcs_set', Int.toNat_natCast]
    have hml : (xu (mvR dx dy) l i).length = l.length := mapTo_len
    have hrq : (rcs (xu (mvR dx dy) l i))[((i : Nat) : Int).toNat]? = some (rD r) := qv (by rw [Int.toNat_natCast]; exact mapTo_get hr)
    have hgs : ∀ (q : Rc), (rcs ((xu (mvR dx dy) l i).set i q))[((i : Nat) : Int).toNat]? = some (rD q) := fun q => qv (by
      rw [Int.toNat_natCast, List.getElem?_set_self (by rw [mapTo_len]; exact hil)])
    refine ⟨⟨rfl, rfl, hix _ hml⟩, ⟨rfl, rfl⟩, kA (rD r) (.int .i64 r.x) hrq rfl ?_⟩
    dsimp only [c_region_Shift, kS, jo,jK,jT,jr,jI,jM,jq,jJ,jL,iteR,regK,ji,jc,jl,jk,jb,jj,blkK,kr,kh,jd,ja,jy,fpOk,foot,kp,allN,memN,jN,jm,js,jw,jv,jt,ju,jg,jh,jf,je,newN,jx,jS,jU,j2,jO,jP,jQ,jz,jA,jE,jB,jC,jn,jD,jF,jG,j7,evX,evL,evB,rd,get,subG,memG,jW,jY,hyps,gob,impP,allP,j6,j1,j4,ko,nth,ke,km,jX,lenB,kj,jV,entN,setE,jZ,addE,setL,setN,putE,env0,eqCs,j9,eqC,bA,bO,bN,bE,negB,kEq,ki,j8,lend,frz,frzL,zRow,kg,kd,closed,jH,j0,binI,remP,remI,retK,retG,kq,retD,kn,resL,resD,oneD,renD,renL,renE,j3,rho,jR,j5,List.append,List.nil_append,List.cons_append,List.append_nil,cond,Nat.reduceBEq,Nat.reduceAdd,Nat.beq]
    refine ⟨⟨rfl, rfl, hix _ hml⟩, ⟨rfl, rfl⟩, kA (rD r) (.int .i64 r.w) hrq rfl ?_⟩
    dsimp only [c_region_Shift, kS, jo,jK,jT,jr,jI,jM,jq,jJ,jL,iteR,regK,ji,jc,jl,jk,jb,jj,blkK,kr,kh,jd,ja,jy,fpOk,foot,kp,allN,memN,jN,jm,js,jw,jv,jt,ju,jg,jh,jf,je,newN,jx,jS,jU,j2,jO,jP,jQ,jz,jA,jE,jB,jC,jn,jD,jF,jG,j7,evX,evL,evB,rd,get,subG,memG,jW,jY,hyps,gob,impP,allP,j6,j1,j4,ko,nth,ke,km,jX,lenB,kj,jV,entN,setE,jZ,addE,setL,setN,putE,env0,eqCs,j9,eqC,bA,bO,bN,bE,negB,kEq,ki,j8,lend,frz,frzL,zRow,kg,kd,closed,jH,j0,binI,remP,remI,retK,retG,kq,retD,kn,resL,resD,oneD,renD,renL,renE,j3,rho,jR,j5,List.append,List.nil_append,List.cons_append,List.append_nil,cond,Nat.reduceBEq,Nat.reduceAdd,Nat.beq]
    refine kt (sp_moved (by omega) (by omega) hx) ?_
    dsimp only [c_region_Shift, kS, jo,jK,jT,jr,jI,jM,jq,jJ,jL,iteR,regK,ji,jc,jl,jk,jb,jj,blkK,kr,kh,jd,ja,jy,fpOk,foot,kp,allN,memN,jN,jm,js,jw,jv,jt,ju,jg,jh,jf,je,newN,jx,jS,jU,j2,jO,jP,jQ,jz,jA,jE,jB,jC,jn,jD,jF,jG,j7,evX,evL,evB,rd,get,subG,memG,jW,jY,hyps,gob,impP,allP,j6,j1,j4,ko,nth,ke,km,jX,lenB,kj,jV,entN,setE,jZ,addE,setL,setN,putE,env0,eqCs,j9,eqC,bA,bO,bN,bE,negB,kEq,ki,j8,lend,frz,frzL,zRow,kg,kd,closed,jH,j0,binI,remP,remI,retK,retG,kq,retD,kn,resL,resD,oneD,renD,renL,renE,j3,rho,jR,j5,List.append,List.nil_append,List.cons_append,List.append_nil,cond,Nat.reduceBEq,Nat.reduceAdd,Nat.beq]
    refine ⟨⟨rfl, rfl, hix _ hml⟩, ⟨rfl, rfl⟩, qD (hs := []) (rD r) (rD ⟨mvX r.x dx, r.y, r.w, r.h⟩) hrq rfl ?_⟩
    dsimp only [c_region_Shift, kS, jo,jK,jT,jr,jI,jM,jq,jJ,jL,iteR,regK,ji,jc,jl,jk,jb,jj,blkK,kr,kh,jd,ja,jy,fpOk,foot,kp,allN,memN,jN,jm,js,jw,jv,jt,ju,jg,jh,jf,je,newN,jx,jS,jU,j2,jO,jP,jQ,jz,jA,jE,jB,jC,jn,jD,jF,jG,j7,evX,evL,evB,rd,get,subG,memG,jW,jY,hyps,gob,impP,allP,j6,j1,j4,ko,nth,ke,km,jX,lenB,kj,jV,entN,setE,jZ,addE,setL,setN,putE,env0,eqCs,j9,eqC,bA,bO,bN,bE,negB,kEq,ki,j8,lend,frz,frzL,zRow,kg,kd,closed,jH,j0,binI,remP,remI,retK,retG,kq,retD,kn,resL,resD,oneD,renD,renL,renE,j3,rho,jR,j5,List.append,List.nil_append,List.cons_append,List.append_nil,cond,Nat.reduceBEq,Nat.reduceAdd,Nat.beq]
    rw [hset]
    have hml2 : ∀ q, ((xu (mvR dx dy) l i).set i q).length = l.length := fun q => by rw [List.length_set, mapTo_len]
    refine ⟨⟨rfl, rfl, hix _ (hml2 _)⟩, ⟨rfl, rfl⟩, qD (hs := []) (rD ⟨mvX r.x dx, r.y, r.w, r.h⟩) (rD (mvR1 dx r)) (hgs _) rfl ?_⟩
    dsimp only [c_region_Shift, kS, jo,jK,jT,jr,jI,jM,jq,jJ,jL,iteR,regK,ji,jc,jl,jk,jb,jj,blkK,kr,kh,jd,ja,jy,fpOk,foot,kp,allN,memN,jN,jm,js,jw,jv,jt,ju,jg,jh,jf,je,newN,jx,jS,jU,j2,jO,jP,jQ,jz,jA,jE,jB,jC,jn,jD,jF,jG,j7,evX,evL,evB,rd,get,subG,memG,jW,jY,hyps,gob,impP,allP,j6,j1,j4,ko,nth,ke,km,jX,lenB,kj,jV,entN,setE,jZ,addE,setL,setN,putE,env0,eqCs,j9,eqC,bA,bO,bN,bE,negB,kEq,ki,j8,lend,frz,frzL,zRow,kg,kd,closed,jH,j0,binI,remP,remI,retK,retG,kq,retD,kn,resL,resD,oneD,renD,renL,renE,j3,rho,jR,j5,List.append,List.nil_append,List.cons_append,List.append_nil,cond,Nat.reduceBEq,Nat.reduceAdd,Nat.beq]
    rw [hset, List.set_set]
    refine ⟨⟨rfl, rfl, hix _ (hml2 _)⟩, ⟨rfl, rfl⟩, kA (rD (mvR1 dx r)) (.int .i64 r.y) (hgs _) rfl ?_⟩
    dsimp only [c_region_Shift, kS, jo,jK,jT,jr,jI,jM,jq,jJ,jL,iteR,regK,ji,jc,jl,jk,jb,jj,blkK,kr,kh,jd,ja,jy,fpOk,foot,kp,allN,memN,jN,jm,js,jw,jv,jt,ju,jg,jh,jf,je,newN,jx,jS,jU,j2,jO,jP,jQ,jz,jA,jE,jB,jC,jn,jD,jF,jG,j7,evX,evL,evB,rd,get,subG,memG,jW,jY,hyps,gob,impP,allP,j6,j1,j4,ko,nth,ke,km,jX,lenB,kj,jV,entN,setE,jZ,addE,setL,setN,putE,env0,eqCs,j9,eqC,bA,bO,bN,bE,negB,kEq,ki,j8,lend,frz,frzL,zRow,kg,kd,closed,jH,j0,binI,remP,remI,retK,retG,kq,retD,kn,resL,resD,oneD,renD,renL,renE,j3,rho,jR,j5,List.append,List.nil_append,List.cons_append,List.append_nil,cond,Nat.reduceBEq,Nat.reduceAdd,Nat.beq]
    refine ⟨⟨rfl, rfl, hix _ (hml2 _)⟩, ⟨rfl, rfl⟩, kA (rD (mvR1 dx r)) (.int .i64 r.h) (hgs _) rfl ?_⟩
    dsimp only [c_region_Shift, kS, jo,jK,jT,jr,jI,jM,jq,jJ,jL,iteR,regK,ji,jc,jl,jk,jb,jj,blkK,kr,kh,jd,ja,jy,fpOk,foot,kp,allN,memN,jN,jm,js,jw,jv,jt,ju,jg,jh,jf,je,newN,jx,jS,jU,j2,jO,jP,jQ,jz,jA,jE,jB,jC,jn,jD,jF,jG,j7,evX,evL,evB,rd,get,subG,memG,jW,jY,hyps,gob,impP,allP,j6,j1,j4,ko,nth,ke,km,jX,lenB,kj,jV,entN,setE,jZ,addE,setL,setN,putE,env0,eqCs,j9,eqC,bA,bO,bN,bE,negB,kEq,ki,j8,lend,frz,frzL,zRow,kg,kd,closed,jH,j0,binI,remP,remI,retK,retG,kq,retD,kn,resL,resD,oneD,renD,renL,renE,j3,rho,jR,j5,List.append,List.nil_append,List.cons_append,List.append_nil,cond,Nat.reduceBEq,Nat.reduceAdd,Nat.beq]
    refine kt (sp_moved (by omega) (by omega) hy) ?_
    dsimp only [c_region_Shift, kS, jo,jK,jT,jr,jI,jM,jq,jJ,jL,iteR,regK,ji,jc,jl,jk,jb,jj,blkK,kr,kh,jd,ja,jy,fpOk,foot,kp,allN,memN,jN,jm,js,jw,jv,jt,ju,jg,jh,jf,je,newN,jx,jS,jU,j2,jO,jP,jQ,jz,jA,jE,jB,jC,jn,jD,jF,jG,j7,evX,evL,evB,rd,get,subG,memG,jW,jY,hyps,gob,impP,allP,j6,j1,j4,ko,nth,ke,km,jX,lenB,kj,jV,entN,setE,jZ,addE,setL,setN,putE,env0,eqCs,j9,eqC,bA,bO,bN,bE,negB,kEq,ki,j8,lend,frz,frzL,zRow,kg,kd,closed,jH,j0,binI,remP,remI,retK,retG,kq,retD,kn,resL,resD,oneD,renD,renL,renE,j3,rho,jR,j5,List.append,List.nil_append,List.cons_append,List.append_nil,cond,Nat.reduceBEq,Nat.reduceAdd,Nat.beq]
    refine ⟨⟨rfl, rfl, hix _ (hml2 _)⟩, ⟨rfl, rfl⟩, qD (hs := []) (rD (mvR1 dx r)) (rD ⟨mvX r.x dx, mvX r.y dy, mvN r.x r.w dx, r.h⟩) (hgs _) rfl ?_⟩
    dsimp only [c_region_Shift, kS, jo,jK,jT,jr,jI,jM,jq,jJ,jL,iteR,regK,ji,jc,jl,jk,jb,jj,blkK,kr,kh,jd,ja,jy,fpOk,foot,kp,allN,memN,jN,jm,js,jw,jv,jt,ju,jg,jh,jf,je,newN,jx,jS,jU,j2,jO,jP,jQ,jz,jA,jE,jB,jC,jn,jD,jF,jG,j7,evX,evL,evB,rd,get,subG,memG,jW,jY,hyps,gob,impP,allP,j6,j1,j4,ko,nth,ke,km,jX,lenB,kj,jV,entN,setE,jZ,addE,setL,setN,putE,env0,eqCs,j9,eqC,bA,bO,bN,bE,negB,kEq,ki,j8,lend,frz,frzL,zRow,kg,kd,closed,jH,j0,binI,remP,remI,retK,retG,kq,retD,kn,resL,resD,oneD,renD,renL,renE,j3,rho,jR,j5,List.append,List.nil_append,List.cons_append,List.append_nil,cond,Nat.reduceBEq,Nat.reduceAdd,Nat.beq]
    rw [hset, List.set_set]
    refine ⟨⟨rfl, rfl, hix _ (hml2 _)⟩, ⟨rfl, rfl⟩, qD (hs := []) (rD ⟨mvX r.x dx, mvX r.y dy, mvN r.x r.w dx, r.h⟩) (rD (mvR dx dy r)) (hgs _) rfl ?_⟩
    dsimp only [c_region_Shift, kS, jo,jK,jT,jr,jI,jM,jq,jJ,jL,iteR,regK,ji,jc,jl,jk,jb,jj,blkK,kr,kh,jd,ja,jy,fpOk,foot,kp,allN,memN,jN,jm,js,jw,jv,jt,ju,jg,jh,jf,je,newN,jx,jS,jU,j2,jO,jP,jQ,jz,jA,jE,jB,jC,jn,jD,jF,jG,j7,evX,evL,evB,rd,get,subG,memG,jW,jY,hyps,gob,impP,allP,j6,j1,j4,ko,nth,ke,km,jX,lenB,kj,jV,entN,setE,jZ,addE,setL,setN,putE,env0,eqCs,j9,eqC,bA,bO,bN,bE,negB,kEq,ki,j8,lend,frz,frzL,zRow,kg,kd,closed,jH,j0,binI,remP,remI,retK,retG,kq,retD,kn,resL,resD,oneD,renD,renL,renE,j3,rho,jR,j5,List.append,List.nil_append,List.cons_append,List.append_nil,cond,Nat.reduceBEq,Nat.reduceAdd,Nat.beq]
    rw [hset, List.set_set, mapTo_set hr]
    exact ⟨by simp only [fits]; omega, qj (ih ⟨i + 1, by omega⟩ (by dsimp only; omega)) ⟨rfl, rfl, rfl, rfl, rfl, by simp [get], trivial⟩ ⟨rfl, rfl, rfl, rfl, rfl, rfl, trivial⟩ rfl rfl⟩
  · have hil : i = l.length := by simp at hge; omega
    subst hil
    rw [mapTo_all]
    refine call_frz rfl ⟨rfl, trivial⟩ (Sp.lift (vE (fun r hr => ?_) (by rw [List.length_map]; exact hl)) rfl) ?_
    · obtain ⟨q, hq, rfl⟩ := List.mem_map.1 hr
      have := hv q hq
      unfold Vr at this
      unfold mvR mvX mvN Rc.In fits; dsimp only; omega
    dsimp only [c_region_Shift, kS, jo,jK,jT,jr,jI,jM,jq,jJ,jL,iteR,regK,ji,jc,jl,jk,jb,jj,blkK,kr,kh,jd,ja,jy,fpOk,foot,kp,allN,memN,jN,jm,js,jw,jv,jt,ju,jg,jh,jf,je,newN,jx,jS,jU,j2,jO,jP,jQ,jz,jA,jE,jB,jC,jn,jD,jF,jG,j7,evX,evL,evB,rd,get,subG,memG,jW,jY,hyps,gob,impP,allP,j6,j1,j4,ko,nth,ke,km,jX,lenB,kj,jV,entN,setE,jZ,addE,setL,setN,putE,env0,eqCs,j9,eqC,bA,bO,bN,bE,negB,kEq,ki,j8,lend,frz,frzL,zRow,kg,kd,closed,jH,j0,binI,remP,remI,retK,retG,kq,retD,kn,resL,resD,oneD,renD,renL,renE,j3,rho,jR,j5,List.append,List.nil_append,List.cons_append,List.append_nil,cond,Nat.reduceBEq,Nat.reduceAdd,Nat.beq]
    rw [hres]
end Go.AM

