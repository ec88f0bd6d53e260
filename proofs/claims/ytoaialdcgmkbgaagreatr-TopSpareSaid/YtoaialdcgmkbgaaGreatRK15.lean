import Derived.Test.YtoaialdcgmkbgaaGreatRK11

set_option linter.all false
namespace Go.AM
open Go Go.Proofs
abbrev Q4 := Int × Int × Int × Int
def q4D (q : Q4) : D := .agg [.int .i8 q.1, .int .i8 q.2.1, .int .u8 q.2.2.1, .int .u8 q.2.2.2]
def q4ok (q : Q4) : Prop := (-128 ≤ q.1 ∧ q.1 ≤ 127) ∧ (-128 ≤ q.2.1 ∧ q.2.1 ≤ 127) ∧ (0 ≤ q.2.2.1 ∧ q.2.2.1 ≤ 255) ∧ 0 ≤ q.2.2.2 ∧ q.2.2.2 ≤ 255
def q4R (q : Q4) : Rc := ⟨q.1, q.2.1, q.2.2.1 % 32, q.2.2.2 % 32⟩
theorem sp_smRect {q : Q4} (hq : q4ok q) : TSp 14 [q4D q] (rD (q4R q)) := by
  unfold q4ok at hq
  refine spo_law17_Small_Rect (by rfl) ?_
  dsimp only [c_law17_Small_Rect, vb, rD, q4D, q4R, jo,jK,jT,jr,jI,jM,jq,jJ,jL,iteR,regK,ji,jc,jl,jk,jb,jj,blkK,kr,kh,jd,ja,jy,fpOk,foot,kp,allN,memN,jN,jm,js,jw,jv,jt,ju,jg,jh,jf,je,newN,jx,jS,jU,j2,jO,jP,jQ,jz,jA,jE,jB,jC,jn,jD,jF,jG,j7,evX,evL,evB,rd,get,subG,memG,jW,jY,hyps,gob,impP,allP,j6,j1,j4,ko,nth,ke,km,jX,lenB,kj,jV,entN,setE,jZ,addE,setL,setN,putE,env0,eqCs,j9,eqC,bA,bO,bN,bE,negB,kEq,ki,j8,lend,frz,frzL,zRow,kg,kd,closed,jH,j0,binI,remP,remI,retK,retG,kq,retD,kn,resL,resD,oneD,renD,renL,renE,j3,rho,jR,j5,List.append,List.nil_append,List.cons_append,List.append_nil,cond,Nat.reduceBEq,Nat.reduceAdd,Nat.beq]
  exact ⟨by simp only [fits]; omega, by simp only [fits]; omega, ⟨by omega, by omega⟩, by simp only [fits]; omega, ⟨by omega, by omega⟩, by simp only [fits]; omega, rfl⟩
theorem sp_Rects17 {qs : List Q4} (hq : ∀ q ∈ qs, q4ok q) (hl : qs.length ≤ 1048576) : TSp 12 [.ls 4 (qs.map q4D)] (.ls 4 (rcs (qs.map q4R))) := by
  refine spo_law17_Rects (by rfl) ?_
  dsimp only [c_law17_Rects, zt, jo,jK,jT,jr,jI,jM,jq,jJ,jL,iteR,regK,ji,jc,jl,jk,jb,jj,blkK,kr,kh,jd,ja,jy,fpOk,foot,kp,allN,memN,jN,jm,js,jw,jv,jt,ju,jg,jh,jf,je,newN,jx,jS,jU,j2,jO,jP,jQ,jz,jA,jE,jB,jC,jn,jD,jF,jG,j7,evX,evL,evB,rd,get,subG,memG,jW,jY,hyps,gob,impP,allP,j6,j1,j4,ko,nth,ke,km,jX,lenB,kj,jV,entN,setE,jZ,addE,setL,setN,putE,env0,eqCs,j9,eqC,bA,bO,bN,bE,negB,kEq,ki,j8,lend,frz,frzL,zRow,kg,kd,closed,jH,j0,binI,remP,remI,retK,retG,kq,retD,kn,resL,resD,oneD,renD,renL,renE,j3,rho,jR,j5,List.append,List.nil_append,List.cons_append,List.append_nil,cond,Nat.reduceBEq,Nat.reduceAdd,Nat.beq]
  rw [List.length_map]
  refine kE (α := {i : Nat // i ≤ qs.length})
    (fun i => ⟨[(3, [], .own 1 i.1), (6, [], .ls 4 (qs.map q4D)), (7, [], .int .i64 qs.length), (8, [], .int .i64 i.1)], [.arr 45 4 0 [], .arr 45 4 i.1 (rcs ((qs.take i.1).map q4R))]⟩)
    (fun i => qs.length - i.1) ?_ ⟨0, Nat.zero_le _⟩ rfl
  rintro ⟨i, hi⟩ I ih
  dsimp only at hi ⊢
  dsimp only [c_law17_Rects, zt, jo,jK,jT,jr,jI,jM,jq,jJ,jL,iteR,regK,ji,jc,jl,jk,jb,jj,blkK,kr,kh,jd,ja,jy,fpOk,foot,kp,allN,memN,jN,jm,js,jw,jv,jt,ju,jg,jh,jf,je,newN,jx,jS,jU,j2,jO,jP,jQ,jz,jA,jE,jB,jC,jn,jD,jF,jG,j7,evX,evL,evB,rd,get,subG,memG,jW,jY,hyps,gob,impP,allP,j6,j1,j4,ko,nth,ke,km,jX,lenB,kj,jV,entN,setE,jZ,addE,setL,setN,putE,env0,eqCs,j9,eqC,bA,bO,bN,bE,negB,kEq,ki,j8,lend,frz,frzL,zRow,kg,kd,closed,jH,j0,binI,remP,remI,retK,retG,kq,retD,kn,resL,resD,oneD,renD,renL,renE,j3,rho,jR,j5,List.append,List.nil_append,List.cons_append,List.append_nil,cond,Nat.reduceBEq,Nat.reduceAdd,Nat.beq]
  refine ⟨fun hlt => ?_, fun hge => ?_⟩
  · have hil : i < qs.length := by simpa using hlt
    obtain ⟨q, hqq⟩ : ∃ q, qs[i]? = some q := ⟨_, List.getElem?_eq_getElem hil⟩
    have hrow : (qs.map q4D)[((i : Nat) : Int).toNat]? = some (q4D q) := by rw [Int.toNat_natCast, List.getElem?_map, hqq]; rfl
    have hlen : (rcs ((qs.take i).map q4R)).length = i := by simp [rcs]; omega
    refine ⟨⟨rfl, by omega, by rw [List.length_map]; omega⟩, kA (q4D q) (q4D q) hrow rfl ?_⟩
    dsimp only [c_law17_Rects, zt, q4D, jo,jK,jT,jr,jI,jM,jq,jJ,jL,iteR,regK,ji,jc,jl,jk,jb,jj,blkK,kr,kh,jd,ja,jy,fpOk,foot,kp,allN,memN,jN,jm,js,jw,jv,jt,ju,jg,jh,jf,je,newN,jx,jS,jU,j2,jO,jP,jQ,jz,jA,jE,jB,jC,jn,jD,jF,jG,j7,evX,evL,evB,rd,get,subG,memG,jW,jY,hyps,gob,impP,allP,j6,j1,j4,ko,nth,ke,km,jX,lenB,kj,jV,entN,setE,jZ,addE,setL,setN,putE,env0,eqCs,j9,eqC,bA,bO,bN,bE,negB,kEq,ki,j8,lend,frz,frzL,zRow,kg,kd,closed,jH,j0,binI,remP,remI,retK,retG,kq,retD,kn,resL,resD,oneD,renD,renL,renE,j3,rho,jR,j5,List.append,List.nil_append,List.cons_append,List.append_nil,cond,Nat.reduceBEq,Nat.reduceAdd,Nat.beq]
    refine kt (sp_smRect (hq q (List.mem_of_getElem? hqq))) ?_
    dsimp only [c_law17_Rects, zt, rD, jo,jK,jT,jr,jI,jM,jq,jJ,jL,iteR,regK,ji,jc,jl,jk,jb,jj,blkK,kr,kh,jd,ja,jy,fpOk,foot,kp,allN,memN,jN,jm,js,jw,jv,jt,ju,jg,jh,jf,je,newN,jx,jS,jU,j2,jO,jP,jQ,jz,jA,jE,jB,jC,jn,jD,jF,jG,j7,evX,evL,evB,rd,get,subG,memG,jW,jY,hyps,gob,impP,allP,j6,j1,j4,ko,nth,ke,km,jX,lenB,kj,jV,entN,setE,jZ,addE,setL,setN,putE,env0,eqCs,j9,eqC,bA,bO,bN,bE,negB,kEq,ki,j8,lend,frz,frzL,zRow,kg,kd,closed,jH,j0,binI,remP,remI,retK,retG,kq,retD,kn,resL,resD,oneD,renD,renL,renE,j3,rho,jR,j5,List.append,List.nil_append,List.cons_append,List.append_nil,cond,Nat.reduceBEq,Nat.reduceAdd,Nat.beq]
    rw [hlen]
    refine ⟨⟨rfl, rfl, rfl, rfl, by simp only [List.length_cons, List.length_nil]; omega, by simp only [List.length_cons, List.length_nil]; omega⟩, by simp only [fits]; omega, ?_⟩
    have e : rcs ((qs.take (i + 1)).map q4R) = rcs ((qs.take i).map q4R) ++ [rD (q4R q)] := by rw [List.take_add_one, hqq]; simp [rcs]
    have hG := ih ⟨i + 1, hil⟩ (by dsimp only; omega)
    rw [e] at hG
    exact qj hG ⟨rfl, rfl, rfl, by simp [get], trivial⟩ ⟨rfl, rfl, trivial⟩ rfl rfl
  · have hil : i = qs.length := by have : ¬ i < qs.length := by simpa using hge
                                   omega
    subst hil
    rw [List.take_length]
    exact ⟨rfl, rfl⟩
def mkX (w : Nat) (ps : List Int) (i : Nat) : Px := fun X Y => if (Y * w + X).toNat < i then ps.getD (Y * w + X).toNat 0 else 0
theorem mkX_ok {w : Nat} {ps : List Int} {i : Nat} (h : ∀ p ∈ ps, 0 ≤ p ∧ p ≤ 255) : Pok (mkX w ps i) := fun X Y => by
  unfold mkX
  split
  · rw [List.getD_eq_getElem?_getD]
    cases hg : ps[(Y * w + X).toNat]? with
    | none => simp
    | some p => exact h p (List.mem_of_getElem? hg)
  · omega
theorem sp_Make {W H : Int} {w h : Nat} {ps : List Int} (hW : 0 ≤ W ∧ W ≤ 255) (hH : 0 ≤ H ∧ H ≤ 255) (hw : (w : Int) = W % 16 + 1) (hh : (h : Int) = H % 16 + 1) (hp : ∀ p ∈ ps, 0 ≤ p ∧ p ≤ 255) (hl : ps.length ≤ 1048576) :
    TSp 9 [.agg [.int .u8 W, .int .u8 H, .ls 1 (ps.map (.int .u8 ·))]] (gD w h (mkX w ps ps.length)) := by
  have hw1 : 1 ≤ w ∧ w ≤ 16 := by omega
  have hh1 : 1 ≤ h ∧ h ≤ 16 := by omega
  have hm := kW (w := w) (h := h) (by omega) (by omega)
  refine spo_law17_Plane_Make (by rfl) ?_
  dsimp only [c_law17_Plane_Make, qz, jo,jK,jT,jr,jI,jM,jq,jJ,jL,iteR,regK,ji,jc,jl,jk,jb,jj,blkK,kr,kh,jd,ja,jy,fpOk,foot,kp,allN,memN,jN,jm,js,jw,jv,jt,ju,jg,jh,jf,je,newN,jx,jS,jU,j2,jO,jP,jQ,jz,jA,jE,jB,jC,jn,jD,jF,jG,j7,evX,evL,evB,rd,get,subG,memG,jW,jY,hyps,gob,impP,allP,j6,j1,j4,ko,nth,ke,km,jX,lenB,kj,jV,entN,setE,jZ,addE,setL,setN,putE,env0,eqCs,j9,eqC,bA,bO,bN,bE,negB,kEq,ki,j8,lend,frz,frzL,zRow,kg,kd,closed,jH,j0,binI,remP,remI,retK,retG,kq,retD,kn,resL,resD,oneD,renD,renL,renE,j3,rho,jR,j5,List.append,List.nil_append,List.cons_append,List.append_nil,cond,Nat.reduceBEq,Nat.reduceAdd,Nat.beq]
  rw [← hw, ← hh]
  refine ⟨⟨by omega, by omega⟩, by simp only [fits]; omega, by simp only [fits]; omega, ⟨by omega, by omega⟩, by simp only [fits]; omega, by simp only [fits]; omega, kt (sp_New (by omega) (by omega)) ?_⟩
  dsimp only [c_law17_Plane_Make, qz, jo,jK,jT,jr,jI,jM,jq,jJ,jL,iteR,regK,ji,jc,jl,jk,jb,jj,blkK,kr,kh,jd,ja,jy,fpOk,foot,kp,allN,memN,jN,jm,js,jw,jv,jt,ju,jg,jh,jf,je,newN,jx,jS,jU,j2,jO,jP,jQ,jz,jA,jE,jB,jC,jn,jD,jF,jG,j7,evX,evL,evB,rd,get,subG,memG,jW,jY,hyps,gob,impP,allP,j6,j1,j4,ko,nth,ke,km,jX,lenB,kj,jV,entN,setE,jZ,addE,setL,setN,putE,env0,eqCs,j9,eqC,bA,bO,bN,bE,negB,kEq,ki,j8,lend,frz,frzL,zRow,kg,kd,closed,jH,j0,binI,remP,remI,retK,retG,kq,retD,kn,resL,resD,oneD,renD,renL,renE,j3,rho,jR,j5,List.append,List.nil_append,List.cons_append,List.append_nil,cond,Nat.reduceBEq,Nat.reduceAdd,Nat.beq]
  rw [List.length_map]
  have e0 : gl w h (fun _ _ => 0) = gl w h (mkX w ps 0) := xT fun x y _ => by unfold mkX; simp
  refine kE (α := {i : Nat // i ≤ ps.length})
    (fun i => ⟨[(2, [], .box 1 0), (3, [], .int .i64 w), (4, [], .int .i64 h), (5, [], .box 2 0), (26, [], .ls 1 (ps.map (.int .u8 ·))), (27, [], .int .i64 ps.length), (28, [], .int .i64 i.1)],
      [.cells [.int .u8 W, .int .u8 H, .ls 1 (ps.map (.int .u8 ·))], .cells [.int .i64 0, .int .i64 0, .ls 1 []], .cells [.int .i64 w, .int .i64 h, .ls 1 (gl w h (mkX w ps i.1))]]⟩)
    (fun i => ps.length - i.1) ?_ ⟨0, Nat.zero_le _⟩ (by dsimp only; rw [← e0]; rfl)
  rintro ⟨i, hi⟩ I ih
  dsimp only at hi ⊢
  dsimp only [c_law17_Plane_Make, qz, jo,jK,jT,jr,jI,jM,jq,jJ,jL,iteR,regK,ji,jc,jl,jk,jb,jj,blkK,kr,kh,jd,ja,jy,fpOk,foot,kp,allN,memN,jN,jm,js,jw,jv,jt,ju,jg,jh,jf,je,newN,jx,jS,jU,j2,jO,jP,jQ,jz,jA,jE,jB,jC,jn,jD,jF,jG,j7,evX,evL,evB,rd,get,subG,memG,jW,jY,hyps,gob,impP,allP,j6,j1,j4,ko,nth,ke,km,jX,lenB,kj,jV,entN,setE,jZ,addE,setL,setN,putE,env0,eqCs,j9,eqC,bA,bO,bN,bE,negB,kEq,ki,j8,lend,frz,frzL,zRow,kg,kd,closed,jH,j0,binI,remP,remI,retK,retG,kq,retD,kn,resL,resD,oneD,renD,renL,renE,j3,rho,jR,j5,List.append,List.nil_append,List.cons_append,List.append_nil,cond,Nat.reduceBEq,Nat.reduceAdd,Nat.beq]
  refine ⟨fun hlt => ?_, fun hge => ?_⟩
  · have hil : i < ps.length := by simpa using hlt
    obtain ⟨p, hpp⟩ : ∃ p, ps[i]? = some p := ⟨_, List.getElem?_eq_getElem hil⟩
    have hrow : (ps.map (D.int .u8 ·))[((i : Nat) : Int).toNat]? = some (.int .u8 p) := by rw [Int.toNat_natCast, List.getElem?_map, hpp]; rfl
    refine ⟨⟨rfl, by omega, by rw [List.length_map]; omega⟩, kA _ _ hrow rfl ?_⟩
    dsimp only [c_law17_Plane_Make, qz, jo,jK,jT,jr,jI,jM,jq,jJ,jL,iteR,regK,ji,jc,jl,jk,jb,jj,blkK,kr,kh,jd,ja,jy,fpOk,foot,kp,allN,memN,jN,jm,js,jw,jv,jt,ju,jg,jh,jf,je,newN,jx,jS,jU,j2,jO,jP,jQ,jz,jA,jE,jB,jC,jn,jD,jF,jG,j7,evX,evL,evB,rd,get,subG,memG,jW,jY,hyps,gob,impP,allP,j6,j1,j4,ko,nth,ke,km,jX,lenB,kj,jV,entN,setE,jZ,addE,setL,setN,putE,env0,eqCs,j9,eqC,bA,bO,bN,bE,negB,kEq,ki,j8,lend,frz,frzL,zRow,kg,kd,closed,jH,j0,binI,remP,remI,retK,retG,kq,retD,kn,resL,resD,oneD,renD,renL,renE,j3,rho,jR,j5,List.append,List.nil_append,List.cons_append,List.append_nil,cond,Nat.reduceBEq,Nat.reduceAdd,Nat.beq]
    rw [natMul]
    refine ⟨by simp only [fits]; omega, fun hin => ?_, fun hout => ?_⟩
    · have hiwh : i < w * h := by simp only [decide_eq_true_eq] at hin; omega
      have hmod : i % w < w := Nat.mod_lt _ (by omega)
      have hdiv : i / w < h := Nat.div_lt_of_lt_mul hiwh
      have hdm := Nat.div_add_mod i w
      have e1 : ((i : Int) % (w : Int)) = ((i % w : Nat) : Int) := (Int.natCast_emod _ _).symm
      have e2 : ((i : Int) / (w : Int)) = ((i / w : Nat) : Int) := (Int.natCast_ediv _ _).symm
      rw [e1, e2]
      clear e1 e2
      generalize hA : i % w = A at *
      generalize hB : i / w = B at *
      have hinp : inP w h (A : Int) (B : Int) := ⟨by omega, by omega⟩
      have hnext : gl w h (updX (mkX w ps i) (A : Int) (B : Int) p) = gl w h (mkX w ps (i + 1)) := xT fun X Y hXY => by
        obtain ⟨a, b, rfl, rfl, ha, hb⟩ := inP_nat hXY
        have hidx : (((b : Int) * (w : Int)) + a).toNat = b * w + a := by
          have : ((b : Int) * (w : Int)) + a = ((b * w + a : Nat) : Int) := by simp
          rw [this, Int.toNat_natCast]
        unfold updX mkX
        rw [hidx]
        by_cases hE : b * w + a = i
        · have h1 : i % w = a := by rw [← hE, Nat.add_comm, Nat.add_mul_mod_self_right]; exact Nat.mod_eq_of_lt ha
          have h2 : i / w = b := by rw [← hE, Nat.add_comm, Nat.add_mul_div_right _ _ (by omega), Nat.div_eq_of_lt ha]; simp
          rw [if_pos ⟨by rw [← hA, h1], by rw [← hB, h2]⟩, if_pos (by omega), hE, List.getD_eq_getElem?_getD, hpp]; rfl
        · rw [if_neg]
          · by_cases hlt : b * w + a < i
            · rw [if_pos hlt, if_pos (by omega)]
            · rw [if_neg hlt, if_neg (by omega)]
          · rintro ⟨h3, h4⟩
            have h3 : a = A := by omega
            have h4 : b = B := by omega
            apply hE
            rw [h3, h4, Nat.mul_comm]; exact hdm
      refine ⟨⟨by omega, by omega⟩, ⟨by omega, by omega, by simp only [fits]; omega⟩, kt (sp_Set (by omega) (by omega) hinp) ?_⟩
      dsimp only [c_law17_Plane_Make, qz, jo,jK,jT,jr,jI,jM,jq,jJ,jL,iteR,regK,ji,jc,jl,jk,jb,jj,blkK,kr,kh,jd,ja,jy,fpOk,foot,kp,allN,memN,jN,jm,js,jw,jv,jt,ju,jg,jh,jf,je,newN,jx,jS,jU,j2,jO,jP,jQ,jz,jA,jE,jB,jC,jn,jD,jF,jG,j7,evX,evL,evB,rd,get,subG,memG,jW,jY,hyps,gob,impP,allP,j6,j1,j4,ko,nth,ke,km,jX,lenB,kj,jV,entN,setE,jZ,addE,setL,setN,putE,env0,eqCs,j9,eqC,bA,bO,bN,bE,negB,kEq,ki,j8,lend,frz,frzL,zRow,kg,kd,closed,jH,j0,binI,remP,remI,retK,retG,kq,retD,kn,resL,resD,oneD,renD,renL,renE,j3,rho,jR,j5,List.append,List.nil_append,List.cons_append,List.append_nil,cond,Nat.reduceBEq,Nat.reduceAdd,Nat.beq]
      rw [hnext]
      exact ⟨by simp only [fits]; omega, qj (ih ⟨i + 1, hil⟩ (by dsimp only; omega)) ⟨rfl, rfl, rfl, rfl, rfl, rfl, by simp [get], trivial⟩ ⟨rfl, rfl, rfl, trivial⟩ rfl rfl⟩
    · have hiwh : ¬ i < w * h := by simp only [decide_eq_false_iff_not] at hout; omega
      have hnext : gl w h (mkX w ps i) = gl w h (mkX w ps (i + 1)) := xT fun X Y hXY => by
        obtain ⟨a, b, rfl, rfl, ha, hb⟩ := inP_nat hXY
        have hidx : (((b : Int) * (w : Int)) + a).toNat = b * w + a := by
          have : ((b : Int) * (w : Int)) + a = ((b * w + a : Nat) : Int) := by simp
          rw [this, Int.toNat_natCast]
        have := idx_lt ha hb
        unfold mkX
        rw [hidx, if_pos (by omega), if_pos (by omega)]
      rw [hnext]
      exact ⟨by simp only [fits]; omega, qj (ih ⟨i + 1, hil⟩ (by dsimp only; omega)) ⟨rfl, rfl, rfl, rfl, rfl, rfl, by simp [get], trivial⟩ ⟨rfl, rfl, rfl, trivial⟩ rfl rfl⟩
  · have hil : i = ps.length := by have : ¬ i < ps.length := by simpa using hge
                                   omega
    subst hil
    exact rfl
abbrev allC (sw sh : Int) (sp : List D) (dw dh : Int) (dp fr cl : List D) (sx sy sW sH x y pf pp px py : Int) (pc : Bool) (pl : List D) : List D :=
  [.int .u8 sw, .int .u8 sh, .ls 1 sp, .int .u8 dw, .int .u8 dh, .ls 1 dp, .ls 4 fr, .ls 4 cl, .int .i8 sx, .int .i8 sy, .int .u8 sW, .int .u8 sH, .int .i8 x, .int .i8 y, .int .u8 pf, .int .u8 pp, .int .i8 px, .int .i8 py, .bool pc, .ls 4 pl]
theorem sp_Few {sw sh : Int} {sp : List D} {dw dh : Int} {dp fr cl : List D} {sx sy sW sH x y pf pp px py : Int} {pc : Bool} {pl : List D} :
    TSp 8 [.agg (allC sw sh sp dw dh dp fr cl sx sy sW sH x y pf pp px py pc pl)] (.bool (decide ((sp.length : Int) ≤ 300) && decide ((dp.length : Int) ≤ 300) && decide ((fr.length : Int) ≤ 10) && decide ((cl.length : Int) ≤ 10) && decide ((pl.length : Int) ≤ 10))) := by
  refine spo_law24_All_Few (by rfl) ?_
  dsimp only [c_law24_All_Few, xm, jo,jK,jT,jr,jI,jM,jq,jJ,jL,iteR,regK,ji,jc,jl,jk,jb,jj,blkK,kr,kh,jd,ja,jy,fpOk,foot,kp,allN,memN,jN,jm,js,jw,jv,jt,ju,jg,jh,jf,je,newN,jx,jS,jU,j2,jO,jP,jQ,jz,jA,jE,jB,jC,jn,jD,jF,jG,j7,evX,evL,evB,rd,get,subG,memG,jW,jY,hyps,gob,impP,allP,j6,j1,j4,ko,nth,ke,km,jX,lenB,kj,jV,entN,setE,jZ,addE,setL,setN,putE,env0,eqCs,j9,eqC,bA,bO,bN,bE,negB,kEq,ki,j8,lend,frz,frzL,zRow,kg,kd,closed,jH,j0,binI,remP,remI,retK,retG,kq,retD,kn,resL,resD,oneD,renD,renL,renE,j3,rho,jR,j5,List.append,List.nil_append,List.cons_append,List.append_nil,cond,Nat.reduceBEq,Nat.reduceAdd,Nat.beq]
end Go.AM


set_option linter.all false
namespace Go.AM
open Go Go.Proofs
theorem sp_spareAwake : TSp 7 [] (.bool true) := by
  have v3 : Vr ⟨0, 0, 3, 1⟩ := by unfold Vr; decide
  have bP : Bdd (fun x y => Rc.has ⟨0, 0, 3, 1⟩ x y) := (reg_one v3).2.2
  have hf1 : Pok (updX (fun _ _ => 0) 0 0 5) := updX_ok (fun _ _ => by omega) (by omega)
  have lP : (reg (fun x y => Rc.has ⟨0, 0, 3, 1⟩ x y)).length ≤ 4096 := vx bP (a := 0) (b := 0) fun x y h => by unfold Rc.has at h; dsimp only at h; omega
  refine spo_top_spareAwake (by rfl) ?_
  dsimp only [c_top_spareAwake, qp, rD, jo,jK,jT,jr,jI,jM,jq,jJ,jL,iteR,regK,ji,jc,jl,jk,jb,jj,blkK,kr,kh,jd,ja,jy,fpOk,foot,kp,allN,memN,jN,jm,js,jw,jv,jt,ju,jg,jh,jf,je,newN,jx,jS,jU,j2,jO,jP,jQ,jz,jA,jE,jB,jC,jn,jD,jF,jG,j7,evX,evL,evB,rd,get,subG,memG,jW,jY,hyps,gob,impP,allP,j6,j1,j4,ko,nth,ke,km,jX,lenB,kj,jV,entN,setE,jZ,addE,setL,setN,putE,env0,eqCs,j9,eqC,bA,bO,bN,bE,negB,kEq,ki,j8,lend,frz,frzL,zRow,kg,kd,closed,jH,j0,binI,remP,remI,retK,retG,kq,retD,kn,resL,resD,oneD,renD,renL,renE,j3,rho,jR,j5,List.append,List.nil_append,List.cons_append,List.append_nil,cond,Nat.reduceBEq,Nat.reduceAdd,Nat.beq]
  refine kt (sp_New (w := 3) (h := 1) (by omega) (by omega)) ?_
  dsimp only [c_top_spareAwake, qp, rD, jo,jK,jT,jr,jI,jM,jq,jJ,jL,iteR,regK,ji,jc,jl,jk,jb,jj,blkK,kr,kh,jd,ja,jy,fpOk,foot,kp,allN,memN,jN,jm,js,jw,jv,jt,ju,jg,jh,jf,je,newN,jx,jS,jU,j2,jO,jP,jQ,jz,jA,jE,jB,jC,jn,jD,jF,jG,j7,evX,evL,evB,rd,get,subG,memG,jW,jY,hyps,gob,impP,allP,j6,j1,j4,ko,nth,ke,km,jX,lenB,kj,jV,entN,setE,jZ,addE,setL,setN,putE,env0,eqCs,j9,eqC,bA,bO,bN,bE,negB,kEq,ki,j8,lend,frz,frzL,zRow,kg,kd,closed,jH,j0,binI,remP,remI,retK,retG,kq,retD,kn,resL,resD,oneD,renD,renL,renE,j3,rho,jR,j5,List.append,List.nil_append,List.cons_append,List.append_nil,cond,Nat.reduceBEq,Nat.reduceAdd,Nat.beq]
  refine kt (sp_Set (w := 3) (h := 1) (by omega) (by omega) ⟨by decide, by decide⟩) ?_
  dsimp only [c_top_spareAwake, qp, rD, jo,jK,jT,jr,jI,jM,jq,jJ,jL,iteR,regK,ji,jc,jl,jk,jb,jj,blkK,kr,kh,jd,ja,jy,fpOk,foot,kp,allN,memN,jN,jm,js,jw,jv,jt,ju,jg,jh,jf,je,newN,jx,jS,jU,j2,jO,jP,jQ,jz,jA,jE,jB,jC,jn,jD,jF,jG,j7,evX,evL,evB,rd,get,subG,memG,jW,jY,hyps,gob,impP,allP,j6,j1,j4,ko,nth,ke,km,jX,lenB,kj,jV,entN,setE,jZ,addE,setL,setN,putE,env0,eqCs,j9,eqC,bA,bO,bN,bE,negB,kEq,ki,j8,lend,frz,frzL,zRow,kg,kd,closed,jH,j0,binI,remP,remI,retK,retG,kq,retD,kn,resL,resD,oneD,renD,renL,renE,j3,rho,jR,j5,List.append,List.nil_append,List.cons_append,List.append_nil,cond,Nat.reduceBEq,Nat.reduceAdd,Nat.beq]
  refine kt (sp_Of_one v3) ?_
  dsimp only [c_top_spareAwake, qp, rD, jo,jK,jT,jr,jI,jM,jq,jJ,jL,iteR,regK,ji,jc,jl,jk,jb,jj,blkK,kr,kh,jd,ja,jy,fpOk,foot,kp,allN,memN,jN,jm,js,jw,jv,jt,ju,jg,jh,jf,je,newN,jx,jS,jU,j2,jO,jP,jQ,jz,jA,jE,jB,jC,jn,jD,jF,jG,j7,evX,evL,evB,rd,get,subG,memG,jW,jY,hyps,gob,impP,allP,j6,j1,j4,ko,nth,ke,km,jX,lenB,kj,jV,entN,setE,jZ,addE,setL,setN,putE,env0,eqCs,j9,eqC,bA,bO,bN,bE,negB,kEq,ki,j8,lend,frz,frzL,zRow,kg,kd,closed,jH,j0,binI,remP,remI,retK,retG,kq,retD,kn,resL,resD,oneD,renD,renL,renE,j3,rho,jR,j5,List.append,List.nil_append,List.cons_append,List.append_nil,cond,Nat.reduceBEq,Nat.reduceAdd,Nat.beq]
  refine qE sp_penNew ?_
  dsimp only [c_top_spareAwake, qp, rD, jo,jK,jT,jr,jI,jM,jq,jJ,jL,iteR,regK,ji,jc,jl,jk,jb,jj,blkK,kr,kh,jd,ja,jy,fpOk,foot,kp,allN,memN,jN,jm,js,jw,jv,jt,ju,jg,jh,jf,je,newN,jx,jS,jU,j2,jO,jP,jQ,jz,jA,jE,jB,jC,jn,jD,jF,jG,j7,evX,evL,evB,rd,get,subG,memG,jW,jY,hyps,gob,impP,allP,j6,j1,j4,ko,nth,ke,km,jX,lenB,kj,jV,entN,setE,jZ,addE,setL,setN,putE,env0,eqCs,j9,eqC,bA,bO,bN,bE,negB,kEq,ki,j8,lend,frz,frzL,zRow,kg,kd,closed,jH,j0,binI,remP,remI,retK,retG,kq,retD,kn,resL,resD,oneD,renD,renL,renE,j3,rho,jR,j5,List.append,List.nil_append,List.cons_append,List.append_nil,cond,Nat.reduceBEq,Nat.reduceAdd,Nat.beq]
  obtain ⟨f1, hf1e⟩ : ∃ f1, f1 = updX (fun _ _ => 0) 0 0 5 := ⟨_, rfl⟩
  rw [← hf1e] at hf1 ⊢
  refine qE (xP (w := 3) (h := 1) (s := ⟨0, 0, 2, 1⟩) (by omega) (by omega) hf1 bP bP lP lP (by decide) (by decide) (by decide) (by decide) (by omega) (by omega)) ?_
  dsimp only [c_top_spareAwake, qp, rD, jo,jK,jT,jr,jI,jM,jq,jJ,jL,iteR,regK,ji,jc,jl,jk,jb,jj,blkK,kr,kh,jd,ja,jy,fpOk,foot,kp,allN,memN,jN,jm,js,jw,jv,jt,ju,jg,jh,jf,je,newN,jx,jS,jU,j2,jO,jP,jQ,jz,jA,jE,jB,jC,jn,jD,jF,jG,j7,evX,evL,evB,rd,get,subG,memG,jW,jY,hyps,gob,impP,allP,j6,j1,j4,ko,nth,ke,km,jX,lenB,kj,jV,entN,setE,jZ,addE,setL,setN,putE,env0,eqCs,j9,eqC,bA,bO,bN,bE,negB,kEq,ki,j8,lend,frz,frzL,zRow,kg,kd,closed,jH,j0,binI,remP,remI,retK,retG,kq,retD,kn,resL,resD,oneD,renD,renL,renE,j3,rho,jR,j5,List.append,List.nil_append,List.cons_append,List.append_nil,cond,Nat.reduceBEq,Nat.reduceAdd,Nat.beq]
  obtain ⟨f2, hf2e⟩ : ∃ f2, f2 = onX (fun X Y => cpW (3 : Nat) (1 : Nat) ⟨0, 0, 2, 1⟩ 1 0 (fun x y => Rc.has ⟨0, 0, 3, 1⟩ x y) X Y ∧ cpT (3 : Nat) (1 : Nat) ⟨0, 0, 2, 1⟩ 1 0 (fun x y => Rc.has ⟨0, 0, 3, 1⟩ x y) X Y) (cpS f1 ⟨0, 0, 2, 1⟩ 1 0) f1 := ⟨_, rfl⟩
  rw [← hf2e]
  have hf2 : Pok f2 := by rw [hf2e]; exact onX_ok (fun X Y => hf1 _ _) hf1
  refine kt (fun _ => sp_Row (w := 3) (h := 1) (y := 0) (by omega) (by omega) (by omega) hf2) ?_
  dsimp only [c_top_spareAwake, qp, rD, jo,jK,jT,jr,jI,jM,jq,jJ,jL,iteR,regK,ji,jc,jl,jk,jb,jj,blkK,kr,kh,jd,ja,jy,fpOk,foot,kp,allN,memN,jN,jm,js,jw,jv,jt,ju,jg,jh,jf,je,newN,jx,jS,jU,j2,jO,jP,jQ,jz,jA,jE,jB,jC,jn,jD,jF,jG,j7,evX,evL,evB,rd,get,subG,memG,jW,jY,hyps,gob,impP,allP,j6,j1,j4,ko,nth,ke,km,jX,lenB,kj,jV,entN,setE,jZ,addE,setL,setN,putE,env0,eqCs,j9,eqC,bA,bO,bN,bE,negB,kEq,ki,j8,lend,frz,frzL,zRow,kg,kd,closed,jH,j0,binI,remP,remI,retK,retG,kq,retD,kn,resL,resD,oneD,renD,renL,renE,j3,rho,jR,j5,List.append,List.nil_append,List.cons_append,List.append_nil,cond,Nat.reduceBEq,Nat.reduceAdd,Nat.beq]
  have g0 : f2 ((0 : Nat) : Int) ((0 : Nat) : Int) = 5 := by
    rw [hf2e, zk, hf1e]
    · rfl
    · rintro ⟨h1, _⟩
      have := h1.1.2
      unfold Rc.has at this
      revert this; decide
  have gx : ∀ X : Int, 1 ≤ X → X ≤ 2 → f2 X ((0 : Nat) : Int) = f1 (X - 1) 0 := fun X h1 h2 => by
    rw [hf2e, zy]
    · unfold cpS
      show f1 (X - 1 + 0) (0 - 0 + 0) = f1 (X - 1) 0
      rw [Int.add_zero]; rfl
    · unfold cpW cpT mvP Rc.has
      dsimp only
      omega
  have hrow : rowS 3 f2 ((0 : Nat) : Int) = [5, 5, 0] := by
    have e : rowS 3 f2 ((0 : Nat) : Int) = [UInt8.ofNat (f2 ((0 : Nat) : Int) ((0 : Nat) : Int)).toNat, UInt8.ofNat (f2 ((1 : Nat) : Int) ((0 : Nat) : Int)).toNat, UInt8.ofNat (f2 ((2 : Nat) : Int) ((0 : Nat) : Int)).toNat] := rfl
    rw [e, g0, gx ((1 : Nat) : Int) (by decide) (by decide), gx ((2 : Nat) : Int) (by decide) (by decide), hf1e]
    rfl
  rw [hrow]
  rfl
end Go.AM


set_option linter.all false
namespace Go.AM
open Go Go.Proofs
theorem all_few {qs : List Q4} (hq : ∀ q ∈ qs, q4ok q) (hl : qs.length ≤ 10) : (∀ r ∈ qs.map q4R, r.In) ∧ Bdd (pts (allL (qs.map q4R))) ∧ (reg (pts (allL (qs.map q4R)))).length ≤ 200 := by
  have hV : ∀ r ∈ allL (qs.map q4R), Vr r := fun r hr => cntB_iff.1 (List.mem_filter.1 hr).2
  have hlen : (allL (qs.map q4R)).length ≤ 10 := Nat.le_trans (List.length_filter_le _ _) (by simpa using hl)
  refine ⟨fun r hr => ?_, vr_bdd hV, Nat.le_trans (reg_of hV).2 ?_⟩
  · obtain ⟨q, hq', rfl⟩ := List.mem_map.1 hr
    have := hq q hq'
    unfold q4ok at this
    unfold q4R Rc.In fits
    dsimp only
    omega
  · have := Nat.mul_le_mul (Nat.mul_le_mul_left 2 hlen) hlen
    omega
theorem spare_same {w h sw sh : Nat} {g : Px} {F CL : Int → Int → Prop} {sx sy x y : Int} {X Y : Int} (hp : inP w h X Y) :
    onX (fun X Y => cpW w h ⟨sx, sy, sw, sh⟩ x y (fun X Y => Rc.has ⟨0, 0, w, h⟩ X Y ∧ CL X Y) X Y ∧ cpT w h ⟨sx, sy, sw, sh⟩ x y F X Y) (cpS g ⟨sx, sy, sw, sh⟩ x y) g X Y =
      layX sw sh (cropX w h g sx sy 0) x y (fun X Y => ((Rc.has ⟨0, 0, w, h⟩ X Y ∧ CL X Y) ∧ Rc.has ⟨x, y, sw, sh⟩ X Y) ∧ mvP (x - sx) (y - sy) (fun X Y => (F X Y ∧ Rc.has ⟨0, 0, w, h⟩ X Y) ∧ Rc.has ⟨sx, sy, sw, sh⟩ X Y) X Y) g X Y := by
  unfold layX
  by_cases hc : cpW w h ⟨sx, sy, sw, sh⟩ x y (fun X Y => Rc.has ⟨0, 0, w, h⟩ X Y ∧ CL X Y) X Y ∧ cpT w h ⟨sx, sy, sw, sh⟩ x y F X Y
  · rw [zy hc]
    obtain ⟨⟨⟨⟨c1, c2⟩, c3⟩, c4⟩, ⟨⟨c5, c6⟩, c7⟩, c8⟩ := hc
    have hin : inP w h (sx + (X - x)) (sy + (Y - y)) := by unfold Rc.has at c7; unfold inP; dsimp only at c7; omega
    rw [zy (show _ ∧ inP sw sh (X - x) (Y - y) from ⟨⟨⟨⟨c1, c2⟩, c3⟩, ⟨⟨c5, c7⟩, c6⟩, c8⟩, by unfold Rc.has at c3; unfold inP; dsimp only at c3; omega⟩)]
    unfold cropX cpS
    rw [zy (Q := fun a b => inP w h (sx + a) (sy + b)) hin]
    dsimp only
    rw [Int.add_comm (X - x), Int.add_comm (Y - y)]
  · rw [zk hc, zk]
    rintro ⟨⟨⟨⟨c1, c2⟩, c3⟩, ⟨⟨c5, c7⟩, c6⟩, c8⟩, _⟩
    exact hc ⟨⟨⟨⟨c1, c2⟩, c3⟩, c1⟩, ⟨⟨c5, c6⟩, c7⟩, c8⟩
theorem spare_gone {w h sw sh : Nat} {F CL : Int → Int → Prop} {sx sy x y : Int} :
    (reg fun X Y => cpW w h ⟨sx, sy, sw, sh⟩ x y (fun X Y => Rc.has ⟨0, 0, w, h⟩ X Y ∧ CL X Y) X Y ∧ ¬ cpT w h ⟨sx, sy, sw, sh⟩ x y F X Y) =
      reg fun X Y => ((Rc.has ⟨0, 0, w, h⟩ X Y ∧ CL X Y) ∧ Rc.has ⟨x, y, sw, sh⟩ X Y) ∧ ¬ mvP (x - sx) (y - sy) (fun X Y => (F X Y ∧ Rc.has ⟨0, 0, w, h⟩ X Y) ∧ Rc.has ⟨sx, sy, sw, sh⟩ X Y) X Y :=
  xI fun X Y => by
    constructor
    · rintro ⟨⟨⟨⟨c1, c2⟩, c3⟩, c4⟩, c5⟩
      exact ⟨⟨⟨c1, c2⟩, c3⟩, fun ⟨⟨⟨d1, d2⟩, d3⟩, d4⟩ => c5 ⟨⟨⟨d1, d3⟩, d2⟩, d4⟩⟩
    · rintro ⟨⟨⟨c1, c2⟩, c3⟩, c5⟩
      exact ⟨⟨⟨⟨c1, c2⟩, c3⟩, c1⟩, fun ⟨⟨⟨d1, d3⟩, d2⟩, d4⟩ => c5 ⟨⟨⟨d1, d2⟩, d3⟩, d4⟩⟩
theorem roll_in {w h : Nat} {CL : Int → Int → Prop} {i j : Int} (hw : w ≤ 16) (hh : h ≤ 16) (hi : -19 ≤ i ∧ i ≤ 19) (hj : -19 ≤ j ∧ j ≤ 19) (X Y : Int) :
    (scA w h (fun X Y => Rc.has ⟨0, 0, w, h⟩ X Y ∧ CL X Y) X Y ↔ cpW w h ⟨-20, -20, 60, 60⟩ (-20 + i) (-20 + j) (fun X Y => Rc.has ⟨0, 0, w, h⟩ X Y ∧ CL X Y) X Y) ∧
      (mvP i j (scA w h (fun X Y => Rc.has ⟨0, 0, w, h⟩ X Y ∧ CL X Y)) X Y ↔ cpT w h ⟨-20, -20, 60, 60⟩ (-20 + i) (-20 + j) (fun X Y => Rc.has ⟨0, 0, w, h⟩ X Y ∧ CL X Y) X Y) := by
  have key : ∀ X Y : Int, Rc.has ⟨0, 0, w, h⟩ X Y → Rc.has ⟨-20 + i, -20 + j, 60, 60⟩ X Y ∧ Rc.has ⟨-20, -20, 60, 60⟩ X Y := fun X Y h => by
    unfold Rc.has at h ⊢; dsimp only at h ⊢; omega
  have e1 : X - (-20 + i - -20) = X - i := by omega
  have e2 : Y - (-20 + j - -20) = Y - j := by omega
  unfold scA cpW cpT mvP
  dsimp only
  rw [e1, e2]
  constructor
  · constructor
    · rintro ⟨⟨c1, c2⟩, c3⟩; exact ⟨⟨⟨c1, c2⟩, (key _ _ c1).1⟩, c1⟩
    · rintro ⟨⟨⟨c1, c2⟩, _⟩, c3⟩; exact ⟨⟨c1, c2⟩, c3⟩
  · constructor
    · rintro ⟨⟨⟨c1, c2⟩, c3⟩, c4⟩; exact ⟨⟨⟨⟨c1, c2⟩, (key _ _ c1).2⟩, c3⟩, c4⟩
    · rintro ⟨⟨⟨⟨c1, c2⟩, _⟩, c3⟩, c4⟩; exact ⟨⟨⟨c1, c2⟩, c3⟩, c4⟩
theorem tmod20 {n : Int} : -19 ≤ Int.tmod n 20 ∧ Int.tmod n 20 ≤ 19 := by
  have h1 := Int.tmod_lt_of_pos n (b := 20) (by omega)
  have h2 := Int.tmod_lt_of_pos (-n) (b := 20) (by omega)
  rw [Int.neg_tmod] at h2
  omega
theorem roll_same {w h : Nat} {g : Px} {CL : Int → Int → Prop} {i j : Int} (hw : w ≤ 16) (hh : h ≤ 16) (hi : -19 ≤ i ∧ i ≤ 19) (hj : -19 ≤ j ∧ j ≤ 19) (X Y : Int) :
    onX (fun X Y => scA w h (fun X Y => Rc.has ⟨0, 0, w, h⟩ X Y ∧ CL X Y) X Y ∧ mvP i j (scA w h (fun X Y => Rc.has ⟨0, 0, w, h⟩ X Y ∧ CL X Y)) X Y) (fun X Y => g (X - i) (Y - j)) g X Y =
      onX (fun X Y => cpW w h ⟨-20, -20, 60, 60⟩ (-20 + i) (-20 + j) (fun X Y => Rc.has ⟨0, 0, w, h⟩ X Y ∧ CL X Y) X Y ∧ cpT w h ⟨-20, -20, 60, 60⟩ (-20 + i) (-20 + j) (fun X Y => Rc.has ⟨0, 0, w, h⟩ X Y ∧ CL X Y) X Y) (cpS g ⟨-20, -20, 60, 60⟩ (-20 + i) (-20 + j)) g X Y := by
  obtain ⟨e1, e2⟩ := roll_in (CL := CL) hw hh hi hj X Y
  have e3 : cpS g ⟨-20, -20, 60, 60⟩ (-20 + i) (-20 + j) X Y = g (X - i) (Y - j) := by
    unfold cpS
    dsimp only
    rw [show X - (-20 + i) + -20 = X - i by omega, show Y - (-20 + j) + -20 = Y - j by omega]
  by_cases hq : scA w h (fun X Y => Rc.has ⟨0, 0, w, h⟩ X Y ∧ CL X Y) X Y ∧ mvP i j (scA w h (fun X Y => Rc.has ⟨0, 0, w, h⟩ X Y ∧ CL X Y)) X Y
  · rw [zy hq, zy ⟨e1.1 hq.1, e2.1 hq.2⟩, e3]
  · rw [zk hq, zk fun h2 => hq ⟨e1.2 h2.1, e2.2 h2.2⟩]
theorem roll_gone {w h : Nat} {CL : Int → Int → Prop} {i j : Int} (hw : w ≤ 16) (hh : h ≤ 16) (hi : -19 ≤ i ∧ i ≤ 19) (hj : -19 ≤ j ∧ j ≤ 19) :
    (reg fun X Y => cpW w h ⟨-20, -20, 60, 60⟩ (-20 + i) (-20 + j) (fun X Y => Rc.has ⟨0, 0, w, h⟩ X Y ∧ CL X Y) X Y ∧ ¬ cpT w h ⟨-20, -20, 60, 60⟩ (-20 + i) (-20 + j) (fun X Y => Rc.has ⟨0, 0, w, h⟩ X Y ∧ CL X Y) X Y) =
      reg fun X Y => scA w h (fun X Y => Rc.has ⟨0, 0, w, h⟩ X Y ∧ CL X Y) X Y ∧ ¬ mvP i j (scA w h (fun X Y => Rc.has ⟨0, 0, w, h⟩ X Y ∧ CL X Y)) X Y :=
  xI fun X Y => by
    obtain ⟨e1, e2⟩ := roll_in (CL := CL) hw hh hi hj X Y
    rw [e1, e2]
theorem sp_TopSpare {sw sh : Int} {sp : List D} {dw dh : Int} {ps : List Int} {fq cq : List Q4} {sx sy sW sH x y pf pp px py : Int} {pc : Bool} {pl : List D} {dx dy : Int}
    (hdw : 0 ≤ dw ∧ dw ≤ 255) (hdh : 0 ≤ dh ∧ dh ≤ 255) (hps : ∀ p ∈ ps, 0 ≤ p ∧ p ≤ 255) (hfq : ∀ q ∈ fq, q4ok q) (hcq : ∀ q ∈ cq, q4ok q) (hs : q4ok (sx, sy, sW, sH)) (hx : -128 ≤ x ∧ x ≤ 127) (hy : -128 ≤ y ∧ y ≤ 127) :
    TSp 3 [.agg (allC sw sh sp dw dh (ps.map (.int .u8 ·)) (fq.map q4D) (cq.map q4D) sx sy sW sH x y pf pp px py pc pl), .int .i8 dx, .int .i8 dy] (.bool true) := by
  have hs' := hs
  unfold q4ok at hs'
  dsimp only at hs'
  refine spo_top_TopSpare (by rfl) ?_
  dsimp only [c_top_TopSpare, kz, jo,jK,jT,jr,jI,jM,jq,jJ,jL,iteR,regK,ji,jc,jl,jk,jb,jj,blkK,kr,kh,jd,ja,jy,fpOk,foot,kp,allN,memN,jN,jm,js,jw,jv,jt,ju,jg,jh,jf,je,newN,jx,jS,jU,j2,jO,jP,jQ,jz,jA,jE,jB,jC,jn,jD,jF,jG,j7,evX,evL,evB,rd,get,subG,memG,jW,jY,hyps,gob,impP,allP,j6,j1,j4,ko,nth,ke,km,jX,lenB,kj,jV,entN,setE,jZ,addE,setL,setN,putE,env0,eqCs,j9,eqC,bA,bO,bN,bE,negB,kEq,ki,j8,lend,frz,frzL,zRow,kg,kd,closed,jH,j0,binI,remP,remI,retK,retG,kq,retD,kn,resL,resD,oneD,renD,renL,renE,j3,rho,jR,j5,List.append,List.nil_append,List.cons_append,List.append_nil,cond,Nat.reduceBEq,Nat.reduceAdd,Nat.beq]
  refine kt sp_spareAwake ?_
  dsimp only [c_top_TopSpare, kz, jo,jK,jT,jr,jI,jM,jq,jJ,jL,iteR,regK,ji,jc,jl,jk,jb,jj,blkK,kr,kh,jd,ja,jy,fpOk,foot,kp,allN,memN,jN,jm,js,jw,jv,jt,ju,jg,jh,jf,je,newN,jx,jS,jU,j2,jO,jP,jQ,jz,jA,jE,jB,jC,jn,jD,jF,jG,j7,evX,evL,evB,rd,get,subG,memG,jW,jY,hyps,gob,impP,allP,j6,j1,j4,ko,nth,ke,km,jX,lenB,kj,jV,entN,setE,jZ,addE,setL,setN,putE,env0,eqCs,j9,eqC,bA,bO,bN,bE,negB,kEq,ki,j8,lend,frz,frzL,zRow,kg,kd,closed,jH,j0,binI,remP,remI,retK,retG,kq,retD,kn,resL,resD,oneD,renD,renL,renE,j3,rho,jR,j5,List.append,List.nil_append,List.cons_append,List.append_nil,cond,Nat.reduceBEq,Nat.reduceAdd,Nat.beq]
  refine ⟨fun h => absurd h (by simp), fun _ => ?_⟩
  refine kt sp_Few ?_
  dsimp only [c_top_TopSpare, kz, jo,jK,jT,jr,jI,jM,jq,jJ,jL,iteR,regK,ji,jc,jl,jk,jb,jj,blkK,kr,kh,jd,ja,jy,fpOk,foot,kp,allN,memN,jN,jm,js,jw,jv,jt,ju,jg,jh,jf,je,newN,jx,jS,jU,j2,jO,jP,jQ,jz,jA,jE,jB,jC,jn,jD,jF,jG,j7,evX,evL,evB,rd,get,subG,memG,jW,jY,hyps,gob,impP,allP,j6,j1,j4,ko,nth,ke,km,jX,lenB,kj,jV,entN,setE,jZ,addE,setL,setN,putE,env0,eqCs,j9,eqC,bA,bO,bN,bE,negB,kEq,ki,j8,lend,frz,frzL,zRow,kg,kd,closed,jH,j0,binI,remP,remI,retK,retG,kq,retD,kn,resL,resD,oneD,renD,renL,renE,j3,rho,jR,j5,List.append,List.nil_append,List.cons_append,List.append_nil,cond,Nat.reduceBEq,Nat.reduceAdd,Nat.beq]
  refine ⟨fun _ => ⟨by omega, by omega⟩, fun _ => ⟨by omega, by omega⟩, fun _ => rfl, fun hno => ?_⟩
  simp only [Bool.or_eq_false_iff, Bool.not_eq_false', Bool.and_eq_true, decide_eq_true_eq, decide_eq_false_iff_not, List.length_map] at hno
  obtain ⟨⟨⟨⟨⟨⟨_, n1⟩, n2⟩, n3⟩, _⟩, n4⟩, n5⟩ := hno
  obtain ⟨w, hw⟩ : ∃ w : Nat, (w : Int) = dw % 16 + 1 := ⟨(dw % 16 + 1).toNat, by omega⟩
  obtain ⟨h, hh⟩ : ∃ h : Nat, (h : Int) = dh % 16 + 1 := ⟨(dh % 16 + 1).toNat, by omega⟩
  have hw1 : 1 ≤ w ∧ w ≤ 16 := by omega
  have hh1 : 1 ≤ h ∧ h ≤ 16 := by omega
  obtain ⟨tw, htw⟩ : ∃ n : Nat, sW % 32 = n := ⟨(sW % 32).toNat, by omega⟩
  obtain ⟨th, hth⟩ : ∃ n : Nat, sH % 32 = n := ⟨(sH % 32).toNat, by omega⟩
  have htw1 : 1 ≤ tw ∧ tw ≤ 31 := by omega
  have hth1 : 1 ≤ th ∧ th ≤ 31 := by omega
  obtain ⟨f1, f2, f3⟩ := all_few hfq (by omega)
  obtain ⟨k1, k2, k3⟩ := all_few hcq (by omega)
  obtain ⟨F, hF⟩ : ∃ F, F = pts (allL (fq.map q4R)) := ⟨_, rfl⟩
  obtain ⟨CL, hCL⟩ : ∃ CL, CL = pts (allL (cq.map q4R)) := ⟨_, rfl⟩
  have oF := vE f1 (by rw [List.length_map]; omega)
  have oC := vE k1 (by rw [List.length_map]; omega)
  rw [← hF] at f2 f3 oF
  rw [← hCL] at k2 k3 oC
  clear hF hCL f1 k1
  have hgo := mkX_ok (w := w) (i := ps.length) hps
  have oM := sp_Make hdw hdh hw hh hps (by omega)
  generalize mkX w ps ps.length = g at hgo oM
  have vA : Vr ⟨0, 0, w, h⟩ := by unfold Vr; dsimp only; omega
  have bAll : Bdd (fun X Y => Rc.has ⟨0, 0, w, h⟩ X Y) := (reg_one vA).2.2
  have lA : (reg (fun X Y => Rc.has ⟨0, 0, w, h⟩ X Y)).length ≤ 4096 := vx bAll (a := 0) (b := 0) fun X Y hp => by unfold Rc.has at hp; dsimp only at hp; omega
  have bC : Bdd (fun X Y => Rc.has ⟨0, 0, w, h⟩ X Y ∧ CL X Y) := fun X Y hp => bAll X Y hp.1
  have lC : (reg (fun X Y => Rc.has ⟨0, 0, w, h⟩ X Y ∧ CL X Y)).length ≤ 4096 := vx bC (a := 0) (b := 0) fun X Y hp => by have := hp.1; unfold Rc.has at this; dsimp only at this; omega
  have vs : Vr ⟨sx, sy, tw, th⟩ := by unfold Vr; dsimp only; omega
  have vt : Vr ⟨x, y, tw, th⟩ := by unfold Vr; dsimp only; omega
  have bFA : Bdd (fun X Y => F X Y ∧ Rc.has ⟨0, 0, w, h⟩ X Y) := fun X Y hp => f2 X Y hp.1
  have lFA : (reg (fun X Y => F X Y ∧ Rc.has ⟨0, 0, w, h⟩ X Y)).length ≤ 4096 := vx bFA (a := 0) (b := 0) fun X Y hp => by have := hp.2; unfold Rc.has at this; dsimp only at this; omega
  have bFS : Bdd (fun X Y => (F X Y ∧ Rc.has ⟨0, 0, w, h⟩ X Y) ∧ Rc.has ⟨sx, sy, tw, th⟩ X Y) := fun X Y hp => f2 X Y hp.1.1
  have lFS : (reg (fun X Y => (F X Y ∧ Rc.has ⟨0, 0, w, h⟩ X Y) ∧ Rc.has ⟨sx, sy, tw, th⟩ X Y)).length ≤ 4096 := vx bFS (a := 0) (b := 0) fun X Y hp => by have := hp.1.2; unfold Rc.has at this; dsimp only at this; omega
  obtain ⟨T, hT⟩ : ∃ T, T = mvP (x - sx) (y - sy) (fun X Y => (F X Y ∧ Rc.has ⟨0, 0, w, h⟩ X Y) ∧ Rc.has ⟨sx, sy, tw, th⟩ X Y) := ⟨_, rfl⟩
  have bT : Bdd T := by rw [hT]; exact mv_bdd
  have lT : (reg T).length ≤ 4096 := vx bT (a := x) (b := y) fun X Y hp => by rw [hT] at hp; have := hp.1.2; unfold Rc.has at this; dsimp only at this; omega
  have oT := sp_Shift bFS (dx := x - sx) (dy := y - sy) (by omega) (by omega) (by omega)
  rw [← hT] at oT
  have bOut : Bdd (fun X Y => (Rc.has ⟨0, 0, w, h⟩ X Y ∧ CL X Y) ∧ Rc.has ⟨x, y, tw, th⟩ X Y) := fun X Y hp => bC X Y hp.1
  have lO : (reg (fun X Y => (Rc.has ⟨0, 0, w, h⟩ X Y ∧ CL X Y) ∧ Rc.has ⟨x, y, tw, th⟩ X Y)).length ≤ 4096 := vx bOut (a := 0) (b := 0) fun X Y hp => by have := hp.1.1; unfold Rc.has at this; dsimp only at this; omega
  refine kt oM ?_
  dsimp only [c_top_TopSpare, kz, rD, jo,jK,jT,jr,jI,jM,jq,jJ,jL,iteR,regK,ji,jc,jl,jk,jb,jj,blkK,kr,kh,jd,ja,jy,fpOk,foot,kp,allN,memN,jN,jm,js,jw,jv,jt,ju,jg,jh,jf,je,newN,jx,jS,jU,j2,jO,jP,jQ,jz,jA,jE,jB,jC,jn,jD,jF,jG,j7,evX,evL,evB,rd,get,subG,memG,jW,jY,hyps,gob,impP,allP,j6,j1,j4,ko,nth,ke,km,jX,lenB,kj,jV,entN,setE,jZ,addE,setL,setN,putE,env0,eqCs,j9,eqC,bA,bO,bN,bE,negB,kEq,ki,j8,lend,frz,frzL,zRow,kg,kd,closed,jH,j0,binI,remP,remI,retK,retG,kq,retD,kn,resL,resD,oneD,renD,renL,renE,j3,rho,jR,j5,List.append,List.nil_append,List.cons_append,List.append_nil,cond,Nat.reduceBEq,Nat.reduceAdd,Nat.beq]
  refine kt sp_Size ?_
  dsimp only [c_top_TopSpare, kz, rD, jo,jK,jT,jr,jI,jM,jq,jJ,jL,iteR,regK,ji,jc,jl,jk,jb,jj,blkK,kr,kh,jd,ja,jy,fpOk,foot,kp,allN,memN,jN,jm,js,jw,jv,jt,ju,jg,jh,jf,je,newN,jx,jS,jU,j2,jO,jP,jQ,jz,jA,jE,jB,jC,jn,jD,jF,jG,j7,evX,evL,evB,rd,get,subG,memG,jW,jY,hyps,gob,impP,allP,j6,j1,j4,ko,nth,ke,km,jX,lenB,kj,jV,entN,setE,jZ,addE,setL,setN,putE,env0,eqCs,j9,eqC,bA,bO,bN,bE,negB,kEq,ki,j8,lend,frz,frzL,zRow,kg,kd,closed,jH,j0,binI,remP,remI,retK,retG,kq,retD,kn,resL,resD,oneD,renD,renL,renE,j3,rho,jR,j5,List.append,List.nil_append,List.cons_append,List.append_nil,cond,Nat.reduceBEq,Nat.reduceAdd,Nat.beq]
  refine kt (sp_Of_one vA) ?_
  dsimp only [c_top_TopSpare, kz, rD, jo,jK,jT,jr,jI,jM,jq,jJ,jL,iteR,regK,ji,jc,jl,jk,jb,jj,blkK,kr,kh,jd,ja,jy,fpOk,foot,kp,allN,memN,jN,jm,js,jw,jv,jt,ju,jg,jh,jf,je,newN,jx,jS,jU,j2,jO,jP,jQ,jz,jA,jE,jB,jC,jn,jD,jF,jG,j7,evX,evL,evB,rd,get,subG,memG,jW,jY,hyps,gob,impP,allP,j6,j1,j4,ko,nth,ke,km,jX,lenB,kj,jV,entN,setE,jZ,addE,setL,setN,putE,env0,eqCs,j9,eqC,bA,bO,bN,bE,negB,kEq,ki,j8,lend,frz,frzL,zRow,kg,kd,closed,jH,j0,binI,remP,remI,retK,retG,kq,retD,kn,resL,resD,oneD,renD,renL,renE,j3,rho,jR,j5,List.append,List.nil_append,List.cons_append,List.append_nil,cond,Nat.reduceBEq,Nat.reduceAdd,Nat.beq]
  refine qE (sp_Rects17 hfq (by omega)) ?_
  dsimp only [c_top_TopSpare, kz, rD, jo,jK,jT,jr,jI,jM,jq,jJ,jL,iteR,regK,ji,jc,jl,jk,jb,jj,blkK,kr,kh,jd,ja,jy,fpOk,foot,kp,allN,memN,jN,jm,js,jw,jv,jt,ju,jg,jh,jf,je,newN,jx,jS,jU,j2,jO,jP,jQ,jz,jA,jE,jB,jC,jn,jD,jF,jG,j7,evX,evL,evB,rd,get,subG,memG,jW,jY,hyps,gob,impP,allP,j6,j1,j4,ko,nth,ke,km,jX,lenB,kj,jV,entN,setE,jZ,addE,setL,setN,putE,env0,eqCs,j9,eqC,bA,bO,bN,bE,negB,kEq,ki,j8,lend,frz,frzL,zRow,kg,kd,closed,jH,j0,binI,remP,remI,retK,retG,kq,retD,kn,resL,resD,oneD,renD,renL,renE,j3,rho,jR,j5,List.append,List.nil_append,List.cons_append,List.append_nil,cond,Nat.reduceBEq,Nat.reduceAdd,Nat.beq]
  refine qE oF ?_
  dsimp only [c_top_TopSpare, kz, rD, jo,jK,jT,jr,jI,jM,jq,jJ,jL,iteR,regK,ji,jc,jl,jk,jb,jj,blkK,kr,kh,jd,ja,jy,fpOk,foot,kp,allN,memN,jN,jm,js,jw,jv,jt,ju,jg,jh,jf,je,newN,jx,jS,jU,j2,jO,jP,jQ,jz,jA,jE,jB,jC,jn,jD,jF,jG,j7,evX,evL,evB,rd,get,subG,memG,jW,jY,hyps,gob,impP,allP,j6,j1,j4,ko,nth,ke,km,jX,lenB,kj,jV,entN,setE,jZ,addE,setL,setN,putE,env0,eqCs,j9,eqC,bA,bO,bN,bE,negB,kEq,ki,j8,lend,frz,frzL,zRow,kg,kd,closed,jH,j0,binI,remP,remI,retK,retG,kq,retD,kn,resL,resD,oneD,renD,renL,renE,j3,rho,jR,j5,List.append,List.nil_append,List.cons_append,List.append_nil,cond,Nat.reduceBEq,Nat.reduceAdd,Nat.beq]
  refine qE (sp_Rects17 hcq (by omega)) ?_
  dsimp only [c_top_TopSpare, kz, rD, jo,jK,jT,jr,jI,jM,jq,jJ,jL,iteR,regK,ji,jc,jl,jk,jb,jj,blkK,kr,kh,jd,ja,jy,fpOk,foot,kp,allN,memN,jN,jm,js,jw,jv,jt,ju,jg,jh,jf,je,newN,jx,jS,jU,j2,jO,jP,jQ,jz,jA,jE,jB,jC,jn,jD,jF,jG,j7,evX,evL,evB,rd,get,subG,memG,jW,jY,hyps,gob,impP,allP,j6,j1,j4,ko,nth,ke,km,jX,lenB,kj,jV,entN,setE,jZ,addE,setL,setN,putE,env0,eqCs,j9,eqC,bA,bO,bN,bE,negB,kEq,ki,j8,lend,frz,frzL,zRow,kg,kd,closed,jH,j0,binI,remP,remI,retK,retG,kq,retD,kn,resL,resD,oneD,renD,renL,renE,j3,rho,jR,j5,List.append,List.nil_append,List.cons_append,List.append_nil,cond,Nat.reduceBEq,Nat.reduceAdd,Nat.beq]
  refine qE oC ?_
  dsimp only [c_top_TopSpare, kz, rD, jo,jK,jT,jr,jI,jM,jq,jJ,jL,iteR,regK,ji,jc,jl,jk,jb,jj,blkK,kr,kh,jd,ja,jy,fpOk,foot,kp,allN,memN,jN,jm,js,jw,jv,jt,ju,jg,jh,jf,je,newN,jx,jS,jU,j2,jO,jP,jQ,jz,jA,jE,jB,jC,jn,jD,jF,jG,j7,evX,evL,evB,rd,get,subG,memG,jW,jY,hyps,gob,impP,allP,j6,j1,j4,ko,nth,ke,km,jX,lenB,kj,jV,entN,setE,jZ,addE,setL,setN,putE,env0,eqCs,j9,eqC,bA,bO,bN,bE,negB,kEq,ki,j8,lend,frz,frzL,zRow,kg,kd,closed,jH,j0,binI,remP,remI,retK,retG,kq,retD,kn,resL,resD,oneD,renD,renL,renE,j3,rho,jR,j5,List.append,List.nil_append,List.cons_append,List.append_nil,cond,Nat.reduceBEq,Nat.reduceAdd,Nat.beq]
  refine qE (sp_Meet bAll k2 (Nat.le_trans (Nat.add_le_add lA k3) (by omega))) ?_
  dsimp only [c_top_TopSpare, kz, rD, jo,jK,jT,jr,jI,jM,jq,jJ,jL,iteR,regK,ji,jc,jl,jk,jb,jj,blkK,kr,kh,jd,ja,jy,fpOk,foot,kp,allN,memN,jN,jm,js,jw,jv,jt,ju,jg,jh,jf,je,newN,jx,jS,jU,j2,jO,jP,jQ,jz,jA,jE,jB,jC,jn,jD,jF,jG,j7,evX,evL,evB,rd,get,subG,memG,jW,jY,hyps,gob,impP,allP,j6,j1,j4,ko,nth,ke,km,jX,lenB,kj,jV,entN,setE,jZ,addE,setL,setN,putE,env0,eqCs,j9,eqC,bA,bO,bN,bE,negB,kEq,ki,j8,lend,frz,frzL,zRow,kg,kd,closed,jH,j0,binI,remP,remI,retK,retG,kq,retD,kn,resL,resD,oneD,renD,renL,renE,j3,rho,jR,j5,List.append,List.nil_append,List.cons_append,List.append_nil,cond,Nat.reduceBEq,Nat.reduceAdd,Nat.beq]
  refine qE (sp_smRect hs) ?_
  dsimp only [c_top_TopSpare, kz, rD, q4R, jo,jK,jT,jr,jI,jM,jq,jJ,jL,iteR,regK,ji,jc,jl,jk,jb,jj,blkK,kr,kh,jd,ja,jy,fpOk,foot,kp,allN,memN,jN,jm,js,jw,jv,jt,ju,jg,jh,jf,je,newN,jx,jS,jU,j2,jO,jP,jQ,jz,jA,jE,jB,jC,jn,jD,jF,jG,j7,evX,evL,evB,rd,get,subG,memG,jW,jY,hyps,gob,impP,allP,j6,j1,j4,ko,nth,ke,km,jX,lenB,kj,jV,entN,setE,jZ,addE,setL,setN,putE,env0,eqCs,j9,eqC,bA,bO,bN,bE,negB,kEq,ki,j8,lend,frz,frzL,zRow,kg,kd,closed,jH,j0,binI,remP,remI,retK,retG,kq,retD,kn,resL,resD,oneD,renD,renL,renE,j3,rho,jR,j5,List.append,List.nil_append,List.cons_append,List.append_nil,cond,Nat.reduceBEq,Nat.reduceAdd,Nat.beq]
  rw [htw, hth]
  refine ⟨by simp only [fits]; omega, by simp only [fits]; omega, qE sp_penNew ?_⟩
  dsimp only [c_top_TopSpare, kz, rD, jo,jK,jT,jr,jI,jM,jq,jJ,jL,iteR,regK,ji,jc,jl,jk,jb,jj,blkK,kr,kh,jd,ja,jy,fpOk,foot,kp,allN,memN,jN,jm,js,jw,jv,jt,ju,jg,jh,jf,je,newN,jx,jS,jU,j2,jO,jP,jQ,jz,jA,jE,jB,jC,jn,jD,jF,jG,j7,evX,evL,evB,rd,get,subG,memG,jW,jY,hyps,gob,impP,allP,j6,j1,j4,ko,nth,ke,km,jX,lenB,kj,jV,entN,setE,jZ,addE,setL,setN,putE,env0,eqCs,j9,eqC,bA,bO,bN,bE,negB,kEq,ki,j8,lend,frz,frzL,zRow,kg,kd,closed,jH,j0,binI,remP,remI,retK,retG,kq,retD,kn,resL,resD,oneD,renD,renL,renE,j3,rho,jR,j5,List.append,List.nil_append,List.cons_append,List.append_nil,cond,Nat.reduceBEq,Nat.reduceAdd,Nat.beq]
  refine qE (xP (s := ⟨sx, sy, tw, th⟩) (by omega) (by omega) hgo f2 bC (by omega) lC (by dsimp only; omega) (by dsimp only; omega) (by dsimp only; omega) (by dsimp only; omega) (by omega) (by omega)) ?_
  dsimp only [c_top_TopSpare, kz, rD, jo,jK,jT,jr,jI,jM,jq,jJ,jL,iteR,regK,ji,jc,jl,jk,jb,jj,blkK,kr,kh,jd,ja,jy,fpOk,foot,kp,allN,memN,jN,jm,js,jw,jv,jt,ju,jg,jh,jf,je,newN,jx,jS,jU,j2,jO,jP,jQ,jz,jA,jE,jB,jC,jn,jD,jF,jG,j7,evX,evL,evB,rd,get,subG,memG,jW,jY,hyps,gob,impP,allP,j6,j1,j4,ko,nth,ke,km,jX,lenB,kj,jV,entN,setE,jZ,addE,setL,setN,putE,env0,eqCs,j9,eqC,bA,bO,bN,bE,negB,kEq,ki,j8,lend,frz,frzL,zRow,kg,kd,closed,jH,j0,binI,remP,remI,retK,retG,kq,retD,kn,resL,resD,oneD,renD,renL,renE,j3,rho,jR,j5,List.append,List.nil_append,List.cons_append,List.append_nil,cond,Nat.reduceBEq,Nat.reduceAdd,Nat.beq]
  refine kt (sp_Crop (by omega) (by omega) (by omega) (by omega) (by omega) (by omega)) ?_
  dsimp only [c_top_TopSpare, kz, rD, jo,jK,jT,jr,jI,jM,jq,jJ,jL,iteR,regK,ji,jc,jl,jk,jb,jj,blkK,kr,kh,jd,ja,jy,fpOk,foot,kp,allN,memN,jN,jm,js,jw,jv,jt,ju,jg,jh,jf,je,newN,jx,jS,jU,j2,jO,jP,jQ,jz,jA,jE,jB,jC,jn,jD,jF,jG,j7,evX,evL,evB,rd,get,subG,memG,jW,jY,hyps,gob,impP,allP,j6,j1,j4,ko,nth,ke,km,jX,lenB,kj,jV,entN,setE,jZ,addE,setL,setN,putE,env0,eqCs,j9,eqC,bA,bO,bN,bE,negB,kEq,ki,j8,lend,frz,frzL,zRow,kg,kd,closed,jH,j0,binI,remP,remI,retK,retG,kq,retD,kn,resL,resD,oneD,renD,renL,renE,j3,rho,jR,j5,List.append,List.nil_append,List.cons_append,List.append_nil,cond,Nat.reduceBEq,Nat.reduceAdd,Nat.beq]
  refine qE (sp_Meet f2 bAll (Nat.le_trans (Nat.add_le_add f3 lA) (by omega))) ?_
  dsimp only [c_top_TopSpare, kz, rD, jo,jK,jT,jr,jI,jM,jq,jJ,jL,iteR,regK,ji,jc,jl,jk,jb,jj,blkK,kr,kh,jd,ja,jy,fpOk,foot,kp,allN,memN,jN,jm,js,jw,jv,jt,ju,jg,jh,jf,je,newN,jx,jS,jU,j2,jO,jP,jQ,jz,jA,jE,jB,jC,jn,jD,jF,jG,j7,evX,evL,evB,rd,get,subG,memG,jW,jY,hyps,gob,impP,allP,j6,j1,j4,ko,nth,ke,km,jX,lenB,kj,jV,entN,setE,jZ,addE,setL,setN,putE,env0,eqCs,j9,eqC,bA,bO,bN,bE,negB,kEq,ki,j8,lend,frz,frzL,zRow,kg,kd,closed,jH,j0,binI,remP,remI,retK,retG,kq,retD,kn,resL,resD,oneD,renD,renL,renE,j3,rho,jR,j5,List.append,List.nil_append,List.cons_append,List.append_nil,cond,Nat.reduceBEq,Nat.reduceAdd,Nat.beq]
  refine qE (vF (c := ⟨sx, sy, tw, th⟩) bFA vs (by omega)) ?_
  dsimp only [c_top_TopSpare, kz, rD, jo,jK,jT,jr,jI,jM,jq,jJ,jL,iteR,regK,ji,jc,jl,jk,jb,jj,blkK,kr,kh,jd,ja,jy,fpOk,foot,kp,allN,memN,jN,jm,js,jw,jv,jt,ju,jg,jh,jf,je,newN,jx,jS,jU,j2,jO,jP,jQ,jz,jA,jE,jB,jC,jn,jD,jF,jG,j7,evX,evL,evB,rd,get,subG,memG,jW,jY,hyps,gob,impP,allP,j6,j1,j4,ko,nth,ke,km,jX,lenB,kj,jV,entN,setE,jZ,addE,setL,setN,putE,env0,eqCs,j9,eqC,bA,bO,bN,bE,negB,kEq,ki,j8,lend,frz,frzL,zRow,kg,kd,closed,jH,j0,binI,remP,remI,retK,retG,kq,retD,kn,resL,resD,oneD,renD,renL,renE,j3,rho,jR,j5,List.append,List.nil_append,List.cons_append,List.append_nil,cond,Nat.reduceBEq,Nat.reduceAdd,Nat.beq]
  refine ⟨by simp only [fits]; omega, by simp only [fits]; omega, qE oT ?_⟩
  dsimp only [c_top_TopSpare, kz, rD, jo,jK,jT,jr,jI,jM,jq,jJ,jL,iteR,regK,ji,jc,jl,jk,jb,jj,blkK,kr,kh,jd,ja,jy,fpOk,foot,kp,allN,memN,jN,jm,js,jw,jv,jt,ju,jg,jh,jf,je,newN,jx,jS,jU,j2,jO,jP,jQ,jz,jA,jE,jB,jC,jn,jD,jF,jG,j7,evX,evL,evB,rd,get,subG,memG,jW,jY,hyps,gob,impP,allP,j6,j1,j4,ko,nth,ke,km,jX,lenB,kj,jV,entN,setE,jZ,addE,setL,setN,putE,env0,eqCs,j9,eqC,bA,bO,bN,bE,negB,kEq,ki,j8,lend,frz,frzL,zRow,kg,kd,closed,jH,j0,binI,remP,remI,retK,retG,kq,retD,kn,resL,resD,oneD,renD,renL,renE,j3,rho,jR,j5,List.append,List.nil_append,List.cons_append,List.append_nil,cond,Nat.reduceBEq,Nat.reduceAdd,Nat.beq]
  refine kt (vF (c := ⟨x, y, tw, th⟩) bC vt (by omega)) ?_
  dsimp only [c_top_TopSpare, kz, rD, jo,jK,jT,jr,jI,jM,jq,jJ,jL,iteR,regK,ji,jc,jl,jk,jb,jj,blkK,kr,kh,jd,ja,jy,fpOk,foot,kp,allN,memN,jN,jm,js,jw,jv,jt,ju,jg,jh,jf,je,newN,jx,jS,jU,j2,jO,jP,jQ,jz,jA,jE,jB,jC,jn,jD,jF,jG,j7,evX,evL,evB,rd,get,subG,memG,jW,jY,hyps,gob,impP,allP,j6,j1,j4,ko,nth,ke,km,jX,lenB,kj,jV,entN,setE,jZ,addE,setL,setN,putE,env0,eqCs,j9,eqC,bA,bO,bN,bE,negB,kEq,ki,j8,lend,frz,frzL,zRow,kg,kd,closed,jH,j0,binI,remP,remI,retK,retG,kq,retD,kn,resL,resD,oneD,renD,renL,renE,j3,rho,jR,j5,List.append,List.nil_append,List.cons_append,List.append_nil,cond,Nat.reduceBEq,Nat.reduceAdd,Nat.beq]
  refine qE (fun _ => sp_Meet bOut bT (Nat.add_le_add lO lT)) ?_
  dsimp only [c_top_TopSpare, kz, rD, jo,jK,jT,jr,jI,jM,jq,jJ,jL,iteR,regK,ji,jc,jl,jk,jb,jj,blkK,kr,kh,jd,ja,jy,fpOk,foot,kp,allN,memN,jN,jm,js,jw,jv,jt,ju,jg,jh,jf,je,newN,jx,jS,jU,j2,jO,jP,jQ,jz,jA,jE,jB,jC,jn,jD,jF,jG,j7,evX,evL,evB,rd,get,subG,memG,jW,jY,hyps,gob,impP,allP,j6,j1,j4,ko,nth,ke,km,jX,lenB,kj,jV,entN,setE,jZ,addE,setL,setN,putE,env0,eqCs,j9,eqC,bA,bO,bN,bE,negB,kEq,ki,j8,lend,frz,frzL,zRow,kg,kd,closed,jH,j0,binI,remP,remI,retK,retG,kq,retD,kn,resL,resD,oneD,renD,renL,renE,j3,rho,jR,j5,List.append,List.nil_append,List.cons_append,List.append_nil,cond,Nat.reduceBEq,Nat.reduceAdd,Nat.beq]
  refine qE (fun _ => sp_Lay (by omega) (by omega) (by omega) (by omega) (by omega) (by omega) (P := fun X Y => ((Rc.has ⟨0, 0, w, h⟩ X Y ∧ CL X Y) ∧ Rc.has ⟨x, y, tw, th⟩ X Y) ∧ T X Y) (fun X Y hp => bOut X Y hp.1) (Nat.le_trans (vx (fun X Y hp => bOut X Y hp.1) (a := 0) (b := 0) fun X Y hp => by have := hp.1.1.1; unfold Rc.has at this; dsimp only at this; omega) (by omega))) ?_
  dsimp only [c_top_TopSpare, kz, rD, jo,jK,jT,jr,jI,jM,jq,jJ,jL,iteR,regK,ji,jc,jl,jk,jb,jj,blkK,kr,kh,jd,ja,jy,fpOk,foot,kp,allN,memN,jN,jm,js,jw,jv,jt,ju,jg,jh,jf,je,newN,jx,jS,jU,j2,jO,jP,jQ,jz,jA,jE,jB,jC,jn,jD,jF,jG,j7,evX,evL,evB,rd,get,subG,memG,jW,jY,hyps,gob,impP,allP,j6,j1,j4,ko,nth,ke,km,jX,lenB,kj,jV,entN,setE,jZ,addE,setL,setN,putE,env0,eqCs,j9,eqC,bA,bO,bN,bE,negB,kEq,ki,j8,lend,frz,frzL,zRow,kg,kd,closed,jH,j0,binI,remP,remI,retK,retG,kq,retD,kn,resL,resD,oneD,renD,renL,renE,j3,rho,jR,j5,List.append,List.nil_append,List.cons_append,List.append_nil,cond,Nat.reduceBEq,Nat.reduceAdd,Nat.beq]
  refine qE (fun _ => sp_gSame (by omega) (by omega) fun X Y hp => by rw [hT]; exact spare_same hp) ?_
  dsimp only [c_top_TopSpare, kz, rD, jo,jK,jT,jr,jI,jM,jq,jJ,jL,iteR,regK,ji,jc,jl,jk,jb,jj,blkK,kr,kh,jd,ja,jy,fpOk,foot,kp,allN,memN,jN,jm,js,jw,jv,jt,ju,jg,jh,jf,je,newN,jx,jS,jU,j2,jO,jP,jQ,jz,jA,jE,jB,jC,jn,jD,jF,jG,j7,evX,evL,evB,rd,get,subG,memG,jW,jY,hyps,gob,impP,allP,j6,j1,j4,ko,nth,ke,km,jX,lenB,kj,jV,entN,setE,jZ,addE,setL,setN,putE,env0,eqCs,j9,eqC,bA,bO,bN,bE,negB,kEq,ki,j8,lend,frz,frzL,zRow,kg,kd,closed,jH,j0,binI,remP,remI,retK,retG,kq,retD,kn,resL,resD,oneD,renD,renL,renE,j3,rho,jR,j5,List.append,List.nil_append,List.cons_append,List.append_nil,cond,Nat.reduceBEq,Nat.reduceAdd,Nat.beq]
  refine qE (fun _ => sp_Minus bOut bT (Nat.add_le_add lO lT)) ?_
  dsimp only [c_top_TopSpare, kz, rD, jo,jK,jT,jr,jI,jM,jq,jJ,jL,iteR,regK,ji,jc,jl,jk,jb,jj,blkK,kr,kh,jd,ja,jy,fpOk,foot,kp,allN,memN,jN,jm,js,jw,jv,jt,ju,jg,jh,jf,je,newN,jx,jS,jU,j2,jO,jP,jQ,jz,jA,jE,jB,jC,jn,jD,jF,jG,j7,evX,evL,evB,rd,get,subG,memG,jW,jY,hyps,gob,impP,allP,j6,j1,j4,ko,nth,ke,km,jX,lenB,kj,jV,entN,setE,jZ,addE,setL,setN,putE,env0,eqCs,j9,eqC,bA,bO,bN,bE,negB,kEq,ki,j8,lend,frz,frzL,zRow,kg,kd,closed,jH,j0,binI,remP,remI,retK,retG,kq,retD,kn,resL,resD,oneD,renD,renL,renE,j3,rho,jR,j5,List.append,List.nil_append,List.cons_append,List.append_nil,cond,Nat.reduceBEq,Nat.reduceAdd,Nat.beq]
  have hgone := spare_gone (w := w) (h := h) (sw := tw) (sh := th) (F := F) (CL := CL) (sx := sx) (sy := sy) (x := x) (y := y)
  rw [← hT] at hgone
  rw [hgone]
  refine qE (fun _ => sp_Same (Nat.le_trans (vx (fun X Y hp => bOut X Y hp.1) (a := 0) (b := 0) fun X Y hp => by have := hp.1.1.1; unfold Rc.has at this; dsimp only at this; omega) (by omega))) ?_
  dsimp only [c_top_TopSpare, kz, rD, jo,jK,jT,jr,jI,jM,jq,jJ,jL,iteR,regK,ji,jc,jl,jk,jb,jj,blkK,kr,kh,jd,ja,jy,fpOk,foot,kp,allN,memN,jN,jm,js,jw,jv,jt,ju,jg,jh,jf,je,newN,jx,jS,jU,j2,jO,jP,jQ,jz,jA,jE,jB,jC,jn,jD,jF,jG,j7,evX,evL,evB,rd,get,subG,memG,jW,jY,hyps,gob,impP,allP,j6,j1,j4,ko,nth,ke,km,jX,lenB,kj,jV,entN,setE,jZ,addE,setL,setN,putE,env0,eqCs,j9,eqC,bA,bO,bN,bE,negB,kEq,ki,j8,lend,frz,frzL,zRow,kg,kd,closed,jH,j0,binI,remP,remI,retK,retG,kq,retD,kn,resL,resD,oneD,renD,renL,renE,j3,rho,jR,j5,List.append,List.nil_append,List.cons_append,List.append_nil,cond,Nat.reduceBEq,Nat.reduceAdd,Nat.beq]
  refine ⟨fun hc => absurd hc (by simp), fun _ => ?_⟩
  have ti := tmod20 (n := dx)
  have tj := tmod20 (n := dy)
  generalize Int.tmod dx 20 = i at ti ⊢
  generalize Int.tmod dy 20 = j at tj ⊢
  refine ⟨by omega, by simp only [fits]; omega, by omega, by simp only [fits]; omega, qE sp_penNew ?_⟩
  dsimp only [c_top_TopSpare, kz, rD, jo,jK,jT,jr,jI,jM,jq,jJ,jL,iteR,regK,ji,jc,jl,jk,jb,jj,blkK,kr,kh,jd,ja,jy,fpOk,foot,kp,allN,memN,jN,jm,js,jw,jv,jt,ju,jg,jh,jf,je,newN,jx,jS,jU,j2,jO,jP,jQ,jz,jA,jE,jB,jC,jn,jD,jF,jG,j7,evX,evL,evB,rd,get,subG,memG,jW,jY,hyps,gob,impP,allP,j6,j1,j4,ko,nth,ke,km,jX,lenB,kj,jV,entN,setE,jZ,addE,setL,setN,putE,env0,eqCs,j9,eqC,bA,bO,bN,bE,negB,kEq,ki,j8,lend,frz,frzL,zRow,kg,kd,closed,jH,j0,binI,remP,remI,retK,retG,kq,retD,kn,resL,resD,oneD,renD,renL,renE,j3,rho,jR,j5,List.append,List.nil_append,List.cons_append,List.append_nil,cond,Nat.reduceBEq,Nat.reduceAdd,Nat.beq]
  refine qE (sp_Scroll (by omega) (by omega) hgo bC lC (by omega) (by omega)) ?_
  dsimp only [c_top_TopSpare, kz, rD, jo,jK,jT,jr,jI,jM,jq,jJ,jL,iteR,regK,ji,jc,jl,jk,jb,jj,blkK,kr,kh,jd,ja,jy,fpOk,foot,kp,allN,memN,jN,jm,js,jw,jv,jt,ju,jg,jh,jf,je,newN,jx,jS,jU,j2,jO,jP,jQ,jz,jA,jE,jB,jC,jn,jD,jF,jG,j7,evX,evL,evB,rd,get,subG,memG,jW,jY,hyps,gob,impP,allP,j6,j1,j4,ko,nth,ke,km,jX,lenB,kj,jV,entN,setE,jZ,addE,setL,setN,putE,env0,eqCs,j9,eqC,bA,bO,bN,bE,negB,kEq,ki,j8,lend,frz,frzL,zRow,kg,kd,closed,jH,j0,binI,remP,remI,retK,retG,kq,retD,kn,resL,resD,oneD,renD,renL,renE,j3,rho,jR,j5,List.append,List.nil_append,List.cons_append,List.append_nil,cond,Nat.reduceBEq,Nat.reduceAdd,Nat.beq]
  refine ⟨by simp only [fits]; omega, by simp only [fits]; omega, qE sp_penNew ?_⟩
  dsimp only [c_top_TopSpare, kz, rD, jo,jK,jT,jr,jI,jM,jq,jJ,jL,iteR,regK,ji,jc,jl,jk,jb,jj,blkK,kr,kh,jd,ja,jy,fpOk,foot,kp,allN,memN,jN,jm,js,jw,jv,jt,ju,jg,jh,jf,je,newN,jx,jS,jU,j2,jO,jP,jQ,jz,jA,jE,jB,jC,jn,jD,jF,jG,j7,evX,evL,evB,rd,get,subG,memG,jW,jY,hyps,gob,impP,allP,j6,j1,j4,ko,nth,ke,km,jX,lenB,kj,jV,entN,setE,jZ,addE,setL,setN,putE,env0,eqCs,j9,eqC,bA,bO,bN,bE,negB,kEq,ki,j8,lend,frz,frzL,zRow,kg,kd,closed,jH,j0,binI,remP,remI,retK,retG,kq,retD,kn,resL,resD,oneD,renD,renL,renE,j3,rho,jR,j5,List.append,List.nil_append,List.cons_append,List.append_nil,cond,Nat.reduceBEq,Nat.reduceAdd,Nat.beq]
  refine qE (xP (s := ⟨-20, -20, 60, 60⟩) (by omega) (by omega) hgo bC bC lC lC (by decide) (by decide) (by decide) (by decide) (by omega) (by omega)) ?_
  dsimp only [c_top_TopSpare, kz, rD, jo,jK,jT,jr,jI,jM,jq,jJ,jL,iteR,regK,ji,jc,jl,jk,jb,jj,blkK,kr,kh,jd,ja,jy,fpOk,foot,kp,allN,memN,jN,jm,js,jw,jv,jt,ju,jg,jh,jf,je,newN,jx,jS,jU,j2,jO,jP,jQ,jz,jA,jE,jB,jC,jn,jD,jF,jG,j7,evX,evL,evB,rd,get,subG,memG,jW,jY,hyps,gob,impP,allP,j6,j1,j4,ko,nth,ke,km,jX,lenB,kj,jV,entN,setE,jZ,addE,setL,setN,putE,env0,eqCs,j9,eqC,bA,bO,bN,bE,negB,kEq,ki,j8,lend,frz,frzL,zRow,kg,kd,closed,jH,j0,binI,remP,remI,retK,retG,kq,retD,kn,resL,resD,oneD,renD,renL,renE,j3,rho,jR,j5,List.append,List.nil_append,List.cons_append,List.append_nil,cond,Nat.reduceBEq,Nat.reduceAdd,Nat.beq]
  refine kt (sp_gSame (by omega) (by omega) fun X Y _ => roll_same (by omega) (by omega) ti tj X Y) ?_
  dsimp only [c_top_TopSpare, kz, rD, jo,jK,jT,jr,jI,jM,jq,jJ,jL,iteR,regK,ji,jc,jl,jk,jb,jj,blkK,kr,kh,jd,ja,jy,fpOk,foot,kp,allN,memN,jN,jm,js,jw,jv,jt,ju,jg,jh,jf,je,newN,jx,jS,jU,j2,jO,jP,jQ,jz,jA,jE,jB,jC,jn,jD,jF,jG,j7,evX,evL,evB,rd,get,subG,memG,jW,jY,hyps,gob,impP,allP,j6,j1,j4,ko,nth,ke,km,jX,lenB,kj,jV,entN,setE,jZ,addE,setL,setN,putE,env0,eqCs,j9,eqC,bA,bO,bN,bE,negB,kEq,ki,j8,lend,frz,frzL,zRow,kg,kd,closed,jH,j0,binI,remP,remI,retK,retG,kq,retD,kn,resL,resD,oneD,renD,renL,renE,j3,rho,jR,j5,List.append,List.nil_append,List.cons_append,List.append_nil,cond,Nat.reduceBEq,Nat.reduceAdd,Nat.beq]
  rw [roll_gone (by omega) (by omega) ti tj]
  refine kt (fun _ => sp_Same (Nat.le_trans (vx (fun X Y hp => bC X Y hp.1.1) (a := 0) (b := 0) fun X Y hp => by have := hp.1.2; unfold Rc.has at this; dsimp only at this; omega) (by omega))) ?_
  dsimp only [c_top_TopSpare, kz, rD, jo,jK,jT,jr,jI,jM,jq,jJ,jL,iteR,regK,ji,jc,jl,jk,jb,jj,blkK,kr,kh,jd,ja,jy,fpOk,foot,kp,allN,memN,jN,jm,js,jw,jv,jt,ju,jg,jh,jf,je,newN,jx,jS,jU,j2,jO,jP,jQ,jz,jA,jE,jB,jC,jn,jD,jF,jG,j7,evX,evL,evB,rd,get,subG,memG,jW,jY,hyps,gob,impP,allP,j6,j1,j4,ko,nth,ke,km,jX,lenB,kj,jV,entN,setE,jZ,addE,setL,setN,putE,env0,eqCs,j9,eqC,bA,bO,bN,bE,negB,kEq,ki,j8,lend,frz,frzL,zRow,kg,kd,closed,jH,j0,binI,remP,remI,retK,retG,kq,retD,kn,resL,resD,oneD,renD,renL,renE,j3,rho,jR,j5,List.append,List.nil_append,List.cons_append,List.append_nil,cond,Nat.reduceBEq,Nat.reduceAdd,Nat.beq]
  simp
end Go.AM

