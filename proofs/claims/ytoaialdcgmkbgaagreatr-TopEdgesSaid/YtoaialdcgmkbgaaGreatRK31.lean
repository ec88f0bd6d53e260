import Derived.Test.YtoaialdcgmkbgaaGreatRK30

set_option linter.all false
set_option maxHeartbeats 4000000
namespace Go.AM
open Go Go.Proofs
theorem xorI_twice {s d : Int} (hs : 0 ≤ s ∧ s ≤ 255) (hd : 0 ≤ d ∧ d ≤ 255) : xorI s (xorI s d) = d := by
 unfold xorI
 rw [Int.toNat_natCast, ← Nat.xor_assoc, Nat.xor_self, Nat.zero_xor]
 omega
theorem XF {s d : Int} (hs : 0 ≤ s ∧ s ≤ 255) (hd : 0 ≤ d ∧ d ≤ 255) (h : xorI s d = d) : s = 0 := by
 unfold xorI at h
 have h1 : s.toNat ^^^ d.toNat = d.toNat := by omega
 have h2 : s.toNat ^^^ d.toNat ^^^ d.toNat = 0 := by rw [h1, Nat.xor_self]
 rw [Nat.xor_assoc, Nat.xor_self, Nat.xor_zero] at h2
 omega
theorem sp_TopEdges {l : List (Int × Int)} {c0 c1 fore : Int} (hb : ∀ q ∈ l, (0 ≤ q.1 ∧ q.1 ≤ 255) ∧ 0 ≤ q.2 ∧ q.2 ≤ 255) (hc0 : 0 ≤ c0 ∧ c0 ≤ 255) (hc1 : 0 ≤ c1 ∧ c1 ≤ 255) (hf : 0 ≤ fore ∧ fore ≤ 255) :
  TSp 4 [.ls 2 (l.map u2D), .agg [.int .u8 c0, .int .u8 c1], .int .u8 fore] (.bool true) := by
 refine QP (by rfl) ?_
 dsimp only [c_top_TopEdges, kw, jo,jK,jT,jr,jI,jM,jq,jJ,jL,iteR,regK,ji,jc,jl,jk,jb,jj,blkK,kt,kh,jd,ja,jy,fpOk,foot,kq,allN,memN,jN,jm,js,jw,jv,jt,ju,jg,jh,jf,je,newN,jx,jS,jU,jX,jO,jP,jQ,jz,jA,jE,jB,jC,jn,jD,jF,jG,j7,evX,evL,evB,rd,get,subG,memG,jY,jW,hyps,gob,impP,allP,j5,j2,j4,kp,nth,ke,km,jZ,lenB,kj,jV,entN,setE,j0,addE,setL,setN,putE,env0,eqCs,j9,eqC,bA,bO,bN,bE,negB,kEq,ki,j8,lend,frz,frzL,zRow,kg,kd,closed,jH,j1,binI,remP,remI,retK,retG,kr,retD,ko,resL,resD,oneD,renD,renL,renE,j3,rho,jR,j6,List.append,List.nil_append,List.cons_append,List.append_nil,cond,Nat.reduceBEq,Nat.reduceAdd,Nat.beq]
 rw [List.length_map]
 refine ⟨fun _ => rfl, fun hno => ?_⟩
 simp only [Bool.or_eq_false_iff, decide_eq_false_iff_not] at hno
 obtain ⟨n1, n2⟩ := hno
 have hpl : (ptsE l).length = l.length := by simp [ptsE]
 have hpM : ∀ q ∈ ptsE l, (0 ≤ q.1 ∧ q.1 ≤ 16) ∧ 0 ≤ q.2 ∧ q.2 ≤ 16 := fun q hq => by
  obtain ⟨r, hr, rfl⟩ := List.mem_map.1 hq
  have := hb r hr
  dsimp only
  omega
 refine kx (Vt (by omega) hb) ?_
 dsimp only [c_top_TopEdges, kw, jo,jK,jT,jr,jI,jM,jq,jJ,jL,iteR,regK,ji,jc,jl,jk,jb,jj,blkK,kt,kh,jd,ja,jy,fpOk,foot,kq,allN,memN,jN,jm,js,jw,jv,jt,ju,jg,jh,jf,je,newN,jx,jS,jU,jX,jO,jP,jQ,jz,jA,jE,jB,jC,jn,jD,jF,jG,j7,evX,evL,evB,rd,get,subG,memG,jY,jW,hyps,gob,impP,allP,j5,j2,j4,kp,nth,ke,km,jZ,lenB,kj,jV,entN,setE,j0,addE,setL,setN,putE,env0,eqCs,j9,eqC,bA,bO,bN,bE,negB,kEq,ki,j8,lend,frz,frzL,zRow,kg,kd,closed,jH,j1,binI,remP,remI,retK,retG,kr,retD,ko,resL,resD,oneD,renD,renL,renE,j3,rho,jR,j6,List.append,List.nil_append,List.cons_append,List.append_nil,cond,Nat.reduceBEq,Nat.reduceAdd,Nat.beq]
 generalize ptsE l = p at *
 have hpp : ∀ q ∈ p, Pok2 q := fun q hq => by have := hpM q hq; unfold Pok2; omega
 refine kx (vy (by omega) hpp) ?_
 dsimp only [c_top_TopEdges, kw, jo,jK,jT,jr,jI,jM,jq,jJ,jL,iteR,regK,ji,jc,jl,jk,jb,jj,blkK,kt,kh,jd,ja,jy,fpOk,foot,kq,allN,memN,jN,jm,js,jw,jv,jt,ju,jg,jh,jf,je,newN,jx,jS,jU,jX,jO,jP,jQ,jz,jA,jE,jB,jC,jn,jD,jF,jG,j7,evX,evL,evB,rd,get,subG,memG,jY,jW,hyps,gob,impP,allP,j5,j2,j4,kp,nth,ke,km,jZ,lenB,kj,jV,entN,setE,j0,addE,setL,setN,putE,env0,eqCs,j9,eqC,bA,bO,bN,bE,negB,kEq,ki,j8,lend,frz,frzL,zRow,kg,kd,closed,jH,j1,binI,remP,remI,retK,retG,kr,retD,ko,resL,resD,oneD,renD,renL,renE,j3,rho,jR,j6,List.append,List.nil_append,List.cons_append,List.append_nil,cond,Nat.reduceBEq,Nat.reduceAdd,Nat.beq]
 refine ⟨fun h => absurd h (by simp), fun _ => ?_⟩
 refine kx (sp_New (w := 17) (h := 17) (v := 5) (by omega) (by omega)) ?_
 dsimp only [c_top_TopEdges, kw, jo,jK,jT,jr,jI,jM,jq,jJ,jL,iteR,regK,ji,jc,jl,jk,jb,jj,blkK,kt,kh,jd,ja,jy,fpOk,foot,kq,allN,memN,jN,jm,js,jw,jv,jt,ju,jg,jh,jf,je,newN,jx,jS,jU,jX,jO,jP,jQ,jz,jA,jE,jB,jC,jn,jD,jF,jG,j7,evX,evL,evB,rd,get,subG,memG,jY,jW,hyps,gob,impP,allP,j5,j2,j4,kp,nth,ke,km,jZ,lenB,kj,jV,entN,setE,j0,addE,setL,setN,putE,env0,eqCs,j9,eqC,bA,bO,bN,bE,negB,kEq,ki,j8,lend,frz,frzL,zRow,kg,kd,closed,jH,j1,binI,remP,remI,retK,retG,kr,retD,ko,resL,resD,oneD,renD,renL,renE,j3,rho,jR,j6,List.append,List.nil_append,List.cons_append,List.append_nil,cond,Nat.reduceBEq,Nat.reduceAdd,Nat.beq]
 refine ⟨fun h => absurd h (by simp), fun _ => ?_⟩
 refine kx sp_penNew ?_
 dsimp only [c_top_TopEdges, kw, jo,jK,jT,jr,jI,jM,jq,jJ,jL,iteR,regK,ji,jc,jl,jk,jb,jj,blkK,kt,kh,jd,ja,jy,fpOk,foot,kq,allN,memN,jN,jm,js,jw,jv,jt,ju,jg,jh,jf,je,newN,jx,jS,jU,jX,jO,jP,jQ,jz,jA,jE,jB,jC,jn,jD,jF,jG,j7,evX,evL,evB,rd,get,subG,memG,jY,jW,hyps,gob,impP,allP,j5,j2,j4,kp,nth,ke,km,jZ,lenB,kj,jV,entN,setE,j0,addE,setL,setN,putE,env0,eqCs,j9,eqC,bA,bO,bN,bE,negB,kEq,ki,j8,lend,frz,frzL,zRow,kg,kd,closed,jH,j1,binI,remP,remI,retK,retG,kr,retD,ko,resL,resD,oneD,renD,renL,renE,j3,rho,jR,j6,List.append,List.nil_append,List.cons_append,List.append_nil,cond,Nat.reduceBEq,Nat.reduceAdd,Nat.beq]
 have vA : Vr ⟨0, 0, 17, 17⟩ := by unfold Vr; dsimp only; omega
 refine kx (XQ vA) ?_
 dsimp only [c_top_TopEdges, kw, jo,jK,jT,jr,jI,jM,jq,jJ,jL,iteR,regK,ji,jc,jl,jk,jb,jj,blkK,kt,kh,jd,ja,jy,fpOk,foot,kq,allN,memN,jN,jm,js,jw,jv,jt,ju,jg,jh,jf,je,newN,jx,jS,jU,jX,jO,jP,jQ,jz,jA,jE,jB,jC,jn,jD,jF,jG,j7,evX,evL,evB,rd,get,subG,memG,jY,jW,hyps,gob,impP,allP,j5,j2,j4,kp,nth,ke,km,jZ,lenB,kj,jV,entN,setE,j0,addE,setL,setN,putE,env0,eqCs,j9,eqC,bA,bO,bN,bE,negB,kEq,ki,j8,lend,frz,frzL,zRow,kg,kd,closed,jH,j1,binI,remP,remI,retK,retG,kr,retD,ko,resL,resD,oneD,renD,renL,renE,j3,rho,jR,j6,List.append,List.nil_append,List.cons_append,List.append_nil,cond,Nat.reduceBEq,Nat.reduceAdd,Nat.beq]
 have hgo : Pok fun _ _ => 5 := fun _ _ => ⟨by show (0 : Int) ≤ 5; decide, by show (5 : Int) ≤ 255; decide⟩
 generalize (fun _ _ => 5 : Px) = g at hgo ⊢
 have bAll : Bdd (fun X Y => Rc.has ⟨0, 0, 17, 17⟩ X Y) := (JX vA).2.2
 have lA : (reg (fun X Y => Rc.has ⟨0, 0, 17, 17⟩ X Y)).length ≤ 1 := by rw [(JX vA).2.1]; exact Nat.le_refl _
 have insM : ∀ q : List Pt, (∀ r ∈ q, r ∈ p) → (∀ r ∈ q, Pok2 r) ∧ Bdd (Ins q) ∧ (reg (Ins q)).length ≤ 4096 ∧ ∀ X Y, Ins q X Y → (0 ≤ X ∧ X < 16) ∧ 0 ≤ Y ∧ Y < 16 := fun q hq => by
  have h1 : ∀ r ∈ q, Pok2 r := fun r hr => hpp r (hq r hr)
  have h2 : ∀ X Y, Ins q X Y → (0 ≤ X ∧ X < 16) ∧ 0 ≤ Y ∧ Y < 16 := fun X Y h => ins_in (fun r hr => hpM r (hq r hr)) h
  exact ⟨h1, YU h1, few64 (YU h1) (a := 0) (b := 0) fun X Y h => by have := h2 X Y h; omega, h2⟩
 have insT : ∀ i, (∀ r ∈ p.take i, r ∈ p) := fun i r hr => List.mem_of_mem_take hr
 have fanT : ∀ (S T : Int → Int → Prop), gl 17 17 (pxX fore (fun X Y => Rc.has ⟨0, 0, 17, 17⟩ X Y ∧ T X Y) (pxX fore S g)) = gl 17 17 (pxX fore (XorP S T) g) := fun S T => JE fun x y hp => by
  have hA : Rc.has ⟨0, 0, 17, 17⟩ x y := by unfold inP at hp; unfold Rc.has; dsimp only; omega
  by_cases hS : S x y <;> by_cases hT : T x y
  ·rw [pxX, zf (Q := fun X Y => Rc.has ⟨0, 0, 17, 17⟩ X Y ∧ T X Y) ⟨hA, hT⟩, pxX, zf hS, pxX, qX (Q := XorP S T) (by unfold XorP; simp [hS, hT]), xorI_twice hf (hgo x y)]
  ·rw [pxX, qX (Q := fun X Y => Rc.has ⟨0, 0, 17, 17⟩ X Y ∧ T X Y) (fun h => hT h.2), pxX, zf hS, pxX, zf (Q := XorP S T) (.inl ⟨hS, hT⟩)]
  ·rw [pxX, zf (Q := fun X Y => Rc.has ⟨0, 0, 17, 17⟩ X Y ∧ T X Y) ⟨hA, hT⟩, pxX, qX hS, pxX, zf (Q := XorP S T) (.inr ⟨hT, hS⟩)]
  ·rw [pxX, qX (Q := fun X Y => Rc.has ⟨0, 0, 17, 17⟩ X Y ∧ T X Y) (fun h => hT h.2), pxX, qX hS, pxX, qX (Q := XorP S T) (by unfold XorP; simp [hS, hT])]
 refine kH (α := {i : Nat // 1 ≤ i ∧ i + 1 ≤ p.length})
  (fun i => ⟨[(2, [], .int .u8 fore), (4, [], .box 0 0), (7, [], .ls 2 (pds p)), (8, [], .box 1 0), (10, [], .box 2 0), (12, [], .box 3 0), (13, [], .box 4 0), (14, [], .box 5 0), (15, [], .box 6 0), (16, [], .int .i64 i.1)],
    [.cells [.int .u8 c0, .int .u8 c1], .cells [.ls 4 (rcs (reg (Ins p)))], .cells [.int .i64 (17 : Nat), .int .i64 (17 : Nat), .ls 1 (gl 17 17 g)], .cells (penX fore), .cells [.ls 4 (rcs (reg fun X Y => Rc.has ⟨0, 0, 17, 17⟩ X Y))],
     .cells [.int .i64 (17 : Nat), .int .i64 (17 : Nat), .ls 1 (gl 17 17 (pxX fore (Ins (p.take (i.1 + 1))) g))], .cells [.ls 4 (rcs (reg (Ins (p.take (i.1 + 1)))))]]⟩)
  (fun i => p.length - i.1) ?_ ⟨1, by omega, by omega⟩ ?_
 rotate_left
 ·have h0 : ∀ X Y, ¬ Ins (p.take 2) X Y := ins_few (by rw [List.length_take]; omega)
  have e1 : pxX fore (Ins (p.take 2)) g = g := by funext X Y; exact qX (h0 X Y)
  dsimp only
  rw [e1, VR (insM _ (insT 2)).1 (by rw [List.length_take]; omega)]
  rfl
 rintro ⟨i, hi1, hi2⟩ I ih
 dsimp only at hi1 hi2 ⊢
 dsimp only [c_top_TopEdges, kw, jo,jK,jT,jr,jI,jM,jq,jJ,jL,iteR,regK,ji,jc,jl,jk,jb,jj,blkK,kt,kh,jd,ja,jy,fpOk,foot,kq,allN,memN,jN,jm,js,jw,jv,jt,ju,jg,jh,jf,je,newN,jx,jS,jU,jX,jO,jP,jQ,jz,jA,jE,jB,jC,jn,jD,jF,jG,j7,evX,evL,evB,rd,get,subG,memG,jY,jW,hyps,gob,impP,allP,j5,j2,j4,kp,nth,ke,km,jZ,lenB,kj,jV,entN,setE,j0,addE,setL,setN,putE,env0,eqCs,j9,eqC,bA,bO,bN,bE,negB,kEq,ki,j8,lend,frz,frzL,zRow,kg,kd,closed,jH,j1,binI,remP,remI,retK,retG,kr,retD,ko,resL,resD,oneD,renD,renL,renE,j3,rho,jR,j6,List.append,List.nil_append,List.cons_append,List.append_nil,cond,Nat.reduceBEq,Nat.reduceAdd,Nat.beq]
 rw [kV]
 refine ⟨by simp only [fits]; omega, fun hlt => ?_, fun hge => ?_⟩
 ·have hil : i + 1 < p.length := by simp only [decide_eq_true_eq] at hlt; omega
  have r0 : (pds p)[(Int.toNat 0)]? = some (pD (p.getD 0 (0, 0))) := vL (kX (by omega))
  have r1 : (pds p)[((i : Nat) : Int).toNat]? = some (pD (p.getD i (0, 0))) := vL (by rw [Int.toNat_natCast]; exact kX (by omega))
  have r2 : (pds p)[((i : Int) + 1).toNat]? = some (pD (p.getD (i + 1) (0, 0))) := vL (by rw [show ((i : Int) + 1).toNat = i + 1 by omega]; exact kX hil)
  refine ⟨⟨rfl, by omega, by omega⟩, kB _ _ r0 rfl ?_⟩
  dsimp only [c_top_TopEdges, kw, pD, jo,jK,jT,jr,jI,jM,jq,jJ,jL,iteR,regK,ji,jc,jl,jk,jb,jj,blkK,kt,kh,jd,ja,jy,fpOk,foot,kq,allN,memN,jN,jm,js,jw,jv,jt,ju,jg,jh,jf,je,newN,jx,jS,jU,jX,jO,jP,jQ,jz,jA,jE,jB,jC,jn,jD,jF,jG,j7,evX,evL,evB,rd,get,subG,memG,jY,jW,hyps,gob,impP,allP,j5,j2,j4,kp,nth,ke,km,jZ,lenB,kj,jV,entN,setE,j0,addE,setL,setN,putE,env0,eqCs,j9,eqC,bA,bO,bN,bE,negB,kEq,ki,j8,lend,frz,frzL,zRow,kg,kd,closed,jH,j1,binI,remP,remI,retK,retG,kr,retD,ko,resL,resD,oneD,renD,renL,renE,j3,rho,jR,j6,List.append,List.nil_append,List.cons_append,List.append_nil,cond,Nat.reduceBEq,Nat.reduceAdd,Nat.beq]
  refine ⟨⟨rfl, by omega, by rw [kV]; omega⟩, kB _ _ r1 rfl ?_⟩
  dsimp only [c_top_TopEdges, kw, pD, jo,jK,jT,jr,jI,jM,jq,jJ,jL,iteR,regK,ji,jc,jl,jk,jb,jj,blkK,kt,kh,jd,ja,jy,fpOk,foot,kq,allN,memN,jN,jm,js,jw,jv,jt,ju,jg,jh,jf,je,newN,jx,jS,jU,jX,jO,jP,jQ,jz,jA,jE,jB,jC,jn,jD,jF,jG,j7,evX,evL,evB,rd,get,subG,memG,jY,jW,hyps,gob,impP,allP,j5,j2,j4,kp,nth,ke,km,jZ,lenB,kj,jV,entN,setE,j0,addE,setL,setN,putE,env0,eqCs,j9,eqC,bA,bO,bN,bE,negB,kEq,ki,j8,lend,frz,frzL,zRow,kg,kd,closed,jH,j1,binI,remP,remI,retK,retG,kr,retD,ko,resL,resD,oneD,renD,renL,renE,j3,rho,jR,j6,List.append,List.nil_append,List.cons_append,List.append_nil,cond,Nat.reduceBEq,Nat.reduceAdd,Nat.beq]
  refine ⟨by simp only [fits]; omega, ⟨rfl, by omega, by rw [kV]; omega⟩, kB _ _ r2 rfl ?_⟩
  dsimp only [c_top_TopEdges, kw, pD, jo,jK,jT,jr,jI,jM,jq,jJ,jL,iteR,regK,ji,jc,jl,jk,jb,jj,blkK,kt,kh,jd,ja,jy,fpOk,foot,kq,allN,memN,jN,jm,js,jw,jv,jt,ju,jg,jh,jf,je,newN,jx,jS,jU,jX,jO,jP,jQ,jz,jA,jE,jB,jC,jn,jD,jF,jG,j7,evX,evL,evB,rd,get,subG,memG,jY,jW,hyps,gob,impP,allP,j5,j2,j4,kp,nth,ke,km,jZ,lenB,kj,jV,entN,setE,j0,addE,setL,setN,putE,env0,eqCs,j9,eqC,bA,bO,bN,bE,negB,kEq,ki,j8,lend,frz,frzL,zRow,kg,kd,closed,jH,j1,binI,remP,remI,retK,retG,kr,retD,ko,resL,resD,oneD,renD,renL,renE,j3,rho,jR,j6,List.append,List.nil_append,List.cons_append,List.append_nil,cond,Nat.reduceBEq,Nat.reduceAdd,Nat.beq]
  obtain ⟨T, hT⟩ : ∃ T, T = [p.getD 0 (0, 0), p.getD i (0, 0), p.getD (i + 1) (0, 0)] := ⟨_, rfl⟩
  obtain ⟨t1, t2, t3, t4⟩ := insM T fun r hr => by
   rw [hT] at hr
   simp only [List.mem_cons, List.not_mem_nil, or_false] at hr
   rcases hr with rfl | rfl | rfl
   ·exact List.mem_of_getElem? (kX (by omega))
   ·exact List.mem_of_getElem? (kX (by omega))
   ·exact List.mem_of_getElem? (kX hil)
  have oT := vy (by rw [hT]; simp) t1
  have hins := ins_take (p := p) hi1 hil
  rw [← hT] at hins
  rw [hT] at oT
  refine call_c oT ?_
  rw [← hT]
  dsimp only [c_top_TopEdges, kw, pD, jo,jK,jT,jr,jI,jM,jq,jJ,jL,iteR,regK,ji,jc,jl,jk,jb,jj,blkK,kt,kh,jd,ja,jy,fpOk,foot,kq,allN,memN,jN,jm,js,jw,jv,jt,ju,jg,jh,jf,je,newN,jx,jS,jU,jX,jO,jP,jQ,jz,jA,jE,jB,jC,jn,jD,jF,jG,j7,evX,evL,evB,rd,get,subG,memG,jY,jW,hyps,gob,impP,allP,j5,j2,j4,kp,nth,ke,km,jZ,lenB,kj,jV,entN,setE,j0,addE,setL,setN,putE,env0,eqCs,j9,eqC,bA,bO,bN,bE,negB,kEq,ki,j8,lend,frz,frzL,zRow,kg,kd,closed,jH,j1,binI,remP,remI,retK,retG,kr,retD,ko,resL,resD,oneD,renD,renL,renE,j3,rho,jR,j6,List.append,List.nil_append,List.cons_append,List.append_nil,cond,Nat.reduceBEq,Nat.reduceAdd,Nat.beq]
  refine ⟨fun h => absurd h (by simp), fun _ => ?_⟩
  obtain ⟨s1, s2, s3, s4⟩ := insM _ (insT (i + 1))
  refine kx (XO (w := 17) (h := 17) (f := pxX fore (Ins (p.take (i + 1))) g) (by omega) (by omega) hf (pxX_ok hf hgo) bAll t2 (by omega) (Nat.le_trans (few64 (fun X Y h => t2 X Y h.2) (a := 0) (b := 0) fun X Y h => by have := t4 X Y h.2; omega) (by omega))) ?_
  dsimp only [c_top_TopEdges, kw, pD, jo,jK,jT,jr,jI,jM,jq,jJ,jL,iteR,regK,ji,jc,jl,jk,jb,jj,blkK,kt,kh,jd,ja,jy,fpOk,foot,kq,allN,memN,jN,jm,js,jw,jv,jt,ju,jg,jh,jf,je,newN,jx,jS,jU,jX,jO,jP,jQ,jz,jA,jE,jB,jC,jn,jD,jF,jG,j7,evX,evL,evB,rd,get,subG,memG,jY,jW,hyps,gob,impP,allP,j5,j2,j4,kp,nth,ke,km,jZ,lenB,kj,jV,entN,setE,j0,addE,setL,setN,putE,env0,eqCs,j9,eqC,bA,bO,bN,bE,negB,kEq,ki,j8,lend,frz,frzL,zRow,kg,kd,closed,jH,j1,binI,remP,remI,retK,retG,kr,retD,ko,resL,resD,oneD,renD,renL,renE,j3,rho,jR,j6,List.append,List.nil_append,List.cons_append,List.append_nil,cond,Nat.reduceBEq,Nat.reduceAdd,Nat.beq]
  refine kx (sp_Xor s2 t2 (by omega)) ?_
  dsimp only [c_top_TopEdges, kw, pD, jo,jK,jT,jr,jI,jM,jq,jJ,jL,iteR,regK,ji,jc,jl,jk,jb,jj,blkK,kt,kh,jd,ja,jy,fpOk,foot,kq,allN,memN,jN,jm,js,jw,jv,jt,ju,jg,jh,jf,je,newN,jx,jS,jU,jX,jO,jP,jQ,jz,jA,jE,jB,jC,jn,jD,jF,jG,j7,evX,evL,evB,rd,get,subG,memG,jY,jW,hyps,gob,impP,allP,j5,j2,j4,kp,nth,ke,km,jZ,lenB,kj,jV,entN,setE,j0,addE,setL,setN,putE,env0,eqCs,j9,eqC,bA,bO,bN,bE,negB,kEq,ki,j8,lend,frz,frzL,zRow,kg,kd,closed,jH,j1,binI,remP,remI,retK,retG,kr,retD,ko,resL,resD,oneD,renD,renL,renE,j3,rho,jR,j6,List.append,List.nil_append,List.cons_append,List.append_nil,cond,Nat.reduceBEq,Nat.reduceAdd,Nat.beq]
  have hX : XorP (Ins (p.take (i + 1))) (Ins T) = Ins (p.take (i + 2)) := zb fun X Y => (Yr (hins X Y)).symm
  rw [fanT, hX]
  exact ⟨by simp only [fits]; omega, k9 (ih ⟨i + 1, by omega, hil⟩ (by dsimp only; omega)) ⟨rfl, rfl, rfl, rfl, rfl, rfl, rfl, rfl, rfl, by simp [get], trivial⟩ ⟨rfl, rfl, rfl, rfl, rfl, rfl, rfl, trivial⟩ rfl rfl⟩
 ·have hil : i + 1 = p.length := by simp only [decide_eq_false_iff_not] at hge; omega
  rw [hil, List.take_length]
  clear ih I hge
  obtain ⟨p1, p2, p3, p4⟩ := insM p fun r hr => hr
  refine kx (Yz (a := reg (Ins p)) (b := reg (Ins p)) (by omega)) ?_
  dsimp only [c_top_TopEdges, kw, pD, jo,jK,jT,jr,jI,jM,jq,jJ,jL,iteR,regK,ji,jc,jl,jk,jb,jj,blkK,kt,kh,jd,ja,jy,fpOk,foot,kq,allN,memN,jN,jm,js,jw,jv,jt,ju,jg,jh,jf,je,newN,jx,jS,jU,jX,jO,jP,jQ,jz,jA,jE,jB,jC,jn,jD,jF,jG,j7,evX,evL,evB,rd,get,subG,memG,jY,jW,hyps,gob,impP,allP,j5,j2,j4,kp,nth,ke,km,jZ,lenB,kj,jV,entN,setE,j0,addE,setL,setN,putE,env0,eqCs,j9,eqC,bA,bO,bN,bE,negB,kEq,ki,j8,lend,frz,frzL,zRow,kg,kd,closed,jH,j1,binI,remP,remI,retK,retG,kr,retD,ko,resL,resD,oneD,renD,renL,renE,j3,rho,jR,j6,List.append,List.nil_append,List.cons_append,List.append_nil,cond,Nat.reduceBEq,Nat.reduceAdd,Nat.beq]
  have oP := XO (w := 17) (h := 17) (f := g) (fore := fore) (by omega) (by omega) hf hgo bAll p2 (by omega) (Nat.le_trans (few64 (fun X Y h => p2 X Y h.2) (a := 0) (b := 0) fun X Y h => by have := p4 X Y h.2; omega) (by omega))
  refine kx (fun _ => oP) ?_
  dsimp only [c_top_TopEdges, kw, pD, jo,jK,jT,jr,jI,jM,jq,jJ,jL,iteR,regK,ji,jc,jl,jk,jb,jj,blkK,kt,kh,jd,ja,jy,fpOk,foot,kq,allN,memN,jN,jm,js,jw,jv,jt,ju,jg,jh,jf,je,newN,jx,jS,jU,jX,jO,jP,jQ,jz,jA,jE,jB,jC,jn,jD,jF,jG,j7,evX,evL,evB,rd,get,subG,memG,jY,jW,hyps,gob,impP,allP,j5,j2,j4,kp,nth,ke,km,jZ,lenB,kj,jV,entN,setE,j0,addE,setL,setN,putE,env0,eqCs,j9,eqC,bA,bO,bN,bE,negB,kEq,ki,j8,lend,frz,frzL,zRow,kg,kd,closed,jH,j1,binI,remP,remI,retK,retG,kr,retD,ko,resL,resD,oneD,renD,renL,renE,j3,rho,jR,j6,List.append,List.nil_append,List.cons_append,List.append_nil,cond,Nat.reduceBEq,Nat.reduceAdd,Nat.beq]
  refine kx (fun _ => sp_gSame (w := 17) (h := 17) (by omega) (by omega) fun X Y hp => ?_) ?_
  ·have hA : Rc.has ⟨0, 0, 17, 17⟩ X Y := by unfold inP at hp; unfold Rc.has; dsimp only; omega
   by_cases hI : Ins p X Y
   ·rw [pxX, zf hI, pxX, zf (Q := fun X Y => Rc.has ⟨0, 0, 17, 17⟩ X Y ∧ Ins p X Y) ⟨hA, hI⟩]
   ·rw [pxX, qX hI, pxX, qX (Q := fun X Y => Rc.has ⟨0, 0, 17, 17⟩ X Y ∧ Ins p X Y) (fun h => hI h.2)]
  dsimp only [c_top_TopEdges, kw, pD, jo,jK,jT,jr,jI,jM,jq,jJ,jL,iteR,regK,ji,jc,jl,jk,jb,jj,blkK,kt,kh,jd,ja,jy,fpOk,foot,kq,allN,memN,jN,jm,js,jw,jv,jt,ju,jg,jh,jf,je,newN,jx,jS,jU,jX,jO,jP,jQ,jz,jA,jE,jB,jC,jn,jD,jF,jG,j7,evX,evL,evB,rd,get,subG,memG,jY,jW,hyps,gob,impP,allP,j5,j2,j4,kp,nth,ke,km,jZ,lenB,kj,jV,entN,setE,j0,addE,setL,setN,putE,env0,eqCs,j9,eqC,bA,bO,bN,bE,negB,kEq,ki,j8,lend,frz,frzL,zRow,kg,kd,closed,jH,j1,binI,remP,remI,retK,retG,kr,retD,ko,resL,resD,oneD,renD,renL,renE,j3,rho,jR,j6,List.append,List.nil_append,List.cons_append,List.append_nil,cond,Nat.reduceBEq,Nat.reduceAdd,Nat.beq]
  refine ⟨fun h => absurd h (by simp), fun _ => ?_⟩
  refine ⟨⟨by omega, by decide⟩, yw (.int .u8 c0) rfl ?_⟩
  dsimp only [c_top_TopEdges, kw, pD, jo,jK,jT,jr,jI,jM,jq,jJ,jL,iteR,regK,ji,jc,jl,jk,jb,jj,blkK,kt,kh,jd,ja,jy,fpOk,foot,kq,allN,memN,jN,jm,js,jw,jv,jt,ju,jg,jh,jf,je,newN,jx,jS,jU,jX,jO,jP,jQ,jz,jA,jE,jB,jC,jn,jD,jF,jG,j7,evX,evL,evB,rd,get,subG,memG,jY,jW,hyps,gob,impP,allP,j5,j2,j4,kp,nth,ke,km,jZ,lenB,kj,jV,entN,setE,j0,addE,setL,setN,putE,env0,eqCs,j9,eqC,bA,bO,bN,bE,negB,kEq,ki,j8,lend,frz,frzL,zRow,kg,kd,closed,jH,j1,binI,remP,remI,retK,retG,kr,retD,ko,resL,resD,oneD,renD,renL,renE,j3,rho,jR,j6,List.append,List.nil_append,List.cons_append,List.append_nil,cond,Nat.reduceBEq,Nat.reduceAdd,Nat.beq]
  rw [kV]
  have hn0 : (0 : Int) < p.length := by omega
  obtain ⟨i0, hi0⟩ : ∃ n : Nat, c0 % (p.length : Int) = n := ⟨(c0 % (p.length : Int)).toNat, by have := Int.emod_nonneg c0 (show (p.length : Int) ≠ 0 by omega); omega⟩
  obtain ⟨k0, hk0⟩ : ∃ n : Nat, c1 % (p.length : Int) = n := ⟨(c1 % (p.length : Int)).toNat, by have := Int.emod_nonneg c1 (show (p.length : Int) ≠ 0 by omega); omega⟩
  have hi0l : i0 < p.length := by have := Int.emod_lt_of_pos c0 hn0; omega
  have hk0l : k0 < p.length := by have := Int.emod_lt_of_pos c1 hn0; omega
  rw [hi0]
  refine ⟨by simp only [fits]; omega, ⟨by omega, by omega⟩, ⟨by omega, by decide⟩, yw (.int .u8 c1) rfl ?_⟩
  dsimp only [c_top_TopEdges, kw, pD, jo,jK,jT,jr,jI,jM,jq,jJ,jL,iteR,regK,ji,jc,jl,jk,jb,jj,blkK,kt,kh,jd,ja,jy,fpOk,foot,kq,allN,memN,jN,jm,js,jw,jv,jt,ju,jg,jh,jf,je,newN,jx,jS,jU,jX,jO,jP,jQ,jz,jA,jE,jB,jC,jn,jD,jF,jG,j7,evX,evL,evB,rd,get,subG,memG,jY,jW,hyps,gob,impP,allP,j5,j2,j4,kp,nth,ke,km,jZ,lenB,kj,jV,entN,setE,j0,addE,setL,setN,putE,env0,eqCs,j9,eqC,bA,bO,bN,bE,negB,kEq,ki,j8,lend,frz,frzL,zRow,kg,kd,closed,jH,j1,binI,remP,remI,retK,retG,kr,retD,ko,resL,resD,oneD,renD,renL,renE,j3,rho,jR,j6,List.append,List.nil_append,List.cons_append,List.append_nil,cond,Nat.reduceBEq,Nat.reduceAdd,Nat.beq]
  rw [kV, hk0]
  refine ⟨by simp only [fits]; omega, ⟨by omega, by omega⟩, fun h => ?_, fun h => ?_⟩
  ·simp only [decide_eq_true_eq] at h
   have hIK : k0 ≤ i0 := by omega
   have hKn : i0 < p.length := by omega
   obtain ⟨A, hA⟩ : ∃ A, A = (p.take (i0 + 1)).drop k0 := ⟨_, rfl⟩
   obtain ⟨B, hB⟩ : ∃ B, B = p.drop i0 ++ p.take (k0 + 1) := ⟨_, rfl⟩
   have hcut : ∀ X Y, insB p X Y = (insB A X Y != insB B X Y) := fun X Y => by rw [hA, hB]; exact ins_cut hIK hKn X Y
   have hXor : XorP (Ins A) (Ins B) = Ins p := zb fun X Y => (Yr (hcut X Y)).symm
   obtain ⟨a1, a2, a3, a4⟩ := insM A fun r hr => by rw [hA] at hr; exact List.mem_of_mem_take (List.mem_of_mem_drop hr)
   obtain ⟨b1, b2, b3, b4⟩ := insM B fun r hr => by
    rw [hB] at hr
    rcases List.mem_append.1 hr with hr | hr
    ·exact List.mem_of_mem_drop hr
    ·exact List.mem_of_mem_take hr
   have hAl : A.length ≤ 64 := by rw [hA, List.length_drop, List.length_take]; omega
   have hBl : B.length ≤ 64 := by rw [hB, List.length_append, List.length_drop, List.length_take]; omega
   have oA := vy hAl a1
   have oB := vy hBl b1
   have eA : List.drop (((k0 : Nat) : Int)).toNat (List.take (((i0 : Nat) : Int) + 1).toNat (pds p)) = pds A := by
    rw [hA, Int.toNat_natCast, show (((i0 : Nat) : Int) + 1).toNat = i0 + 1 by omega]
    simp [pds, List.map_take, List.map_drop]
   refine ⟨by simp only [fits]; omega, ⟨rfl, by omega, by omega, by omega⟩, ?_⟩
   rw [eA]
   refine kx oA ?_
   dsimp only [c_top_TopEdges, kw, pD, jo,jK,jT,jr,jI,jM,jq,jJ,jL,iteR,regK,ji,jc,jl,jk,jb,jj,blkK,kt,kh,jd,ja,jy,fpOk,foot,kq,allN,memN,jN,jm,js,jw,jv,jt,ju,jg,jh,jf,je,newN,jx,jS,jU,jX,jO,jP,jQ,jz,jA,jE,jB,jC,jn,jD,jF,jG,j7,evX,evL,evB,rd,get,subG,memG,jY,jW,hyps,gob,impP,allP,j5,j2,j4,kp,nth,ke,km,jZ,lenB,kj,jV,entN,setE,j0,addE,setL,setN,putE,env0,eqCs,j9,eqC,bA,bO,bN,bE,negB,kEq,ki,j8,lend,frz,frzL,zRow,kg,kd,closed,jH,j1,binI,remP,remI,retK,retG,kr,retD,ko,resL,resD,oneD,renD,renL,renE,j3,rho,jR,j6,List.append,List.nil_append,List.cons_append,List.append_nil,cond,Nat.reduceBEq,Nat.reduceAdd,Nat.beq]
   have eK : List.drop (((i0 : Nat) : Int)).toNat (List.take (((pds p).length : Nat) : Int).toNat (pds p)) = pds (p.drop i0) := by
    rw [Int.toNat_natCast, Int.toNat_natCast, List.take_length]
    simp [pds, List.map_drop]
   have eI : List.drop (Int.toNat 0) (List.take (((k0 : Nat) : Int) + 1).toNat (pds p)) = pds (p.take (k0 + 1)) := by
    rw [show (((k0 : Nat) : Int) + 1).toNat = k0 + 1 by omega]
    simp [pds, List.map_take]
   have eB : pds (p.drop i0) ++ pds (p.take (k0 + 1)) = pds B := by rw [hB]; simp [pds]
   rw [eK, eI, eB]
   have hl1 : (pds (p.drop i0)).length ≤ 64 := by rw [kV, List.length_drop]; omega
   have hl2 : (pds (p.take (k0 + 1))).length ≤ 64 := by rw [kV, List.length_take]; omega
   refine ⟨⟨rfl, by omega, by rw [kV]; omega, Int.le_refl _⟩, ⟨rfl, rfl, rfl, rfl, by simp only [List.length_nil]; omega, by simp only [List.length_nil]; omega⟩, by simp only [fits]; omega, ⟨rfl, by omega, by omega, by rw [kV]; omega⟩, ⟨rfl, rfl, rfl, rfl, by omega, by omega⟩, ?_⟩
   refine QI rfl ⟨rfl, trivial⟩ (Sp.lift oB rfl) ?_
   dsimp only [c_top_TopEdges, kw, pD, jo,jK,jT,jr,jI,jM,jq,jJ,jL,iteR,regK,ji,jc,jl,jk,jb,jj,blkK,kt,kh,jd,ja,jy,fpOk,foot,kq,allN,memN,jN,jm,js,jw,jv,jt,ju,jg,jh,jf,je,newN,jx,jS,jU,jX,jO,jP,jQ,jz,jA,jE,jB,jC,jn,jD,jF,jG,j7,evX,evL,evB,rd,get,subG,memG,jY,jW,hyps,gob,impP,allP,j5,j2,j4,kp,nth,ke,km,jZ,lenB,kj,jV,entN,setE,j0,addE,setL,setN,putE,env0,eqCs,j9,eqC,bA,bO,bN,bE,negB,kEq,ki,j8,lend,frz,frzL,zRow,kg,kd,closed,jH,j1,binI,remP,remI,retK,retG,kr,retD,ko,resL,resD,oneD,renD,renL,renE,j3,rho,jR,j6,List.append,List.nil_append,List.cons_append,List.append_nil,cond,Nat.reduceBEq,Nat.reduceAdd,Nat.beq]
   refine ⟨fun h => absurd h (by simp), fun _ => ?_⟩
   refine kx (ZZ a2 b2 (by omega)) ?_
   dsimp only [c_top_TopEdges, kw, pD, jo,jK,jT,jr,jI,jM,jq,jJ,jL,iteR,regK,ji,jc,jl,jk,jb,jj,blkK,kt,kh,jd,ja,jy,fpOk,foot,kq,allN,memN,jN,jm,js,jw,jv,jt,ju,jg,jh,jf,je,newN,jx,jS,jU,jX,jO,jP,jQ,jz,jA,jE,jB,jC,jn,jD,jF,jG,j7,evX,evL,evB,rd,get,subG,memG,jY,jW,hyps,gob,impP,allP,j5,j2,j4,kp,nth,ke,km,jZ,lenB,kj,jV,entN,setE,j0,addE,setL,setN,putE,env0,eqCs,j9,eqC,bA,bO,bN,bE,negB,kEq,ki,j8,lend,frz,frzL,zRow,kg,kd,closed,jH,j1,binI,remP,remI,retK,retG,kr,retD,ko,resL,resD,oneD,renD,renL,renE,j3,rho,jR,j6,List.append,List.nil_append,List.cons_append,List.append_nil,cond,Nat.reduceBEq,Nat.reduceAdd,Nat.beq]
   refine kx Qb ?_
   dsimp only [c_top_TopEdges, kw, pD, jo,jK,jT,jr,jI,jM,jq,jJ,jL,iteR,regK,ji,jc,jl,jk,jb,jj,blkK,kt,kh,jd,ja,jy,fpOk,foot,kq,allN,memN,jN,jm,js,jw,jv,jt,ju,jg,jh,jf,je,newN,jx,jS,jU,jX,jO,jP,jQ,jz,jA,jE,jB,jC,jn,jD,jF,jG,j7,evX,evL,evB,rd,get,subG,memG,jY,jW,hyps,gob,impP,allP,j5,j2,j4,kp,nth,ke,km,jZ,lenB,kj,jV,entN,setE,j0,addE,setL,setN,putE,env0,eqCs,j9,eqC,bA,bO,bN,bE,negB,kEq,ki,j8,lend,frz,frzL,zRow,kg,kd,closed,jH,j1,binI,remP,remI,retK,retG,kr,retD,ko,resL,resD,oneD,renD,renL,renE,j3,rho,jR,j6,List.append,List.nil_append,List.cons_append,List.append_nil,cond,Nat.reduceBEq,Nat.reduceAdd,Nat.beq]
   rw [ky]
   refine kx (fun _ => JW (vm a2) (by omega)) ?_
   dsimp only [c_top_TopEdges, kw, pD, jo,jK,jT,jr,jI,jM,jq,jJ,jL,iteR,regK,ji,jc,jl,jk,jb,jj,blkK,kt,kh,jd,ja,jy,fpOk,foot,kq,allN,memN,jN,jm,js,jw,jv,jt,ju,jg,jh,jf,je,newN,jx,jS,jU,jX,jO,jP,jQ,jz,jA,jE,jB,jC,jn,jD,jF,jG,j7,evX,evL,evB,rd,get,subG,memG,jY,jW,hyps,gob,impP,allP,j5,j2,j4,kp,nth,ke,km,jZ,lenB,kj,jV,entN,setE,j0,addE,setL,setN,putE,env0,eqCs,j9,eqC,bA,bO,bN,bE,negB,kEq,ki,j8,lend,frz,frzL,zRow,kg,kd,closed,jH,j1,binI,remP,remI,retK,retG,kr,retD,ko,resL,resD,oneD,renD,renL,renE,j3,rho,jR,j6,List.append,List.nil_append,List.cons_append,List.append_nil,cond,Nat.reduceBEq,Nat.reduceAdd,Nat.beq]
   refine kx (fun _ => JW (vm b2) (by omega)) ?_
   dsimp only [c_top_TopEdges, kw, pD, jo,jK,jT,jr,jI,jM,jq,jJ,jL,iteR,regK,ji,jc,jl,jk,jb,jj,blkK,kt,kh,jd,ja,jy,fpOk,foot,kq,allN,memN,jN,jm,js,jw,jv,jt,ju,jg,jh,jf,je,newN,jx,jS,jU,jX,jO,jP,jQ,jz,jA,jE,jB,jC,jn,jD,jF,jG,j7,evX,evL,evB,rd,get,subG,memG,jY,jW,hyps,gob,impP,allP,j5,j2,j4,kp,nth,ke,km,jZ,lenB,kj,jV,entN,setE,j0,addE,setL,setN,putE,env0,eqCs,j9,eqC,bA,bO,bN,bE,negB,kEq,ki,j8,lend,frz,frzL,zRow,kg,kd,closed,jH,j1,binI,remP,remI,retK,retG,kr,retD,ko,resL,resD,oneD,renD,renL,renE,j3,rho,jR,j6,List.append,List.nil_append,List.cons_append,List.append_nil,cond,Nat.reduceBEq,Nat.reduceAdd,Nat.beq]
   have ba := vZ (vm a2)
   have bb := vZ (vm b2)
   refine ⟨fun _ => by simp only [fits]; omega, kx (fun _ => JW (vm p2) (by omega)) ?_⟩
   dsimp only [c_top_TopEdges, kw, pD, jo,jK,jT,jr,jI,jM,jq,jJ,jL,iteR,regK,ji,jc,jl,jk,jb,jj,blkK,kt,kh,jd,ja,jy,fpOk,foot,kq,allN,memN,jN,jm,js,jw,jv,jt,ju,jg,jh,jf,je,newN,jx,jS,jU,jX,jO,jP,jQ,jz,jA,jE,jB,jC,jn,jD,jF,jG,j7,evX,evL,evB,rd,get,subG,memG,jY,jW,hyps,gob,impP,allP,j5,j2,j4,kp,nth,ke,km,jZ,lenB,kj,jV,entN,setE,j0,addE,setL,setN,putE,env0,eqCs,j9,eqC,bA,bO,bN,bE,negB,kEq,ki,j8,lend,frz,frzL,zRow,kg,kd,closed,jH,j1,binI,remP,remI,retK,retG,kr,retD,ko,resL,resD,oneD,renD,renL,renE,j3,rho,jR,j6,List.append,List.nil_append,List.cons_append,List.append_nil,cond,Nat.reduceBEq,Nat.reduceAdd,Nat.beq]
   refine ⟨fun h => ?_, fun _ => ?_⟩
   ·exfalso
    simp only [Bool.and_eq_true, decide_eq_true_eq, Bool.not_eq_true', decide_eq_false_iff_not] at h
    have hno := (Qg (P := fun x y => Ins A x y ∧ Ins B x y) fun x y h => a2 x y h.1).1 (List.eq_nil_of_length_eq_zero (by omega))
    refine h.2 ?_
    have := area_two (A := Ins A) (B := Ins B) (fun x y h => by have := a4 x y h; omega) (fun x y h => by have := b4 x y h; omega) hno
    rw [hXor] at this
    exact this
   refine kx Yy ?_
   dsimp only [c_top_TopEdges, kw, pD, jo,jK,jT,jr,jI,jM,jq,jJ,jL,iteR,regK,ji,jc,jl,jk,jb,jj,blkK,kt,kh,jd,ja,jy,fpOk,foot,kq,allN,memN,jN,jm,js,jw,jv,jt,ju,jg,jh,jf,je,newN,jx,jS,jU,jX,jO,jP,jQ,jz,jA,jE,jB,jC,jn,jD,jF,jG,j7,evX,evL,evB,rd,get,subG,memG,jY,jW,hyps,gob,impP,allP,j5,j2,j4,kp,nth,ke,km,jZ,lenB,kj,jV,entN,setE,j0,addE,setL,setN,putE,env0,eqCs,j9,eqC,bA,bO,bN,bE,negB,kEq,ki,j8,lend,frz,frzL,zRow,kg,kd,closed,jH,j1,binI,remP,remI,retK,retG,kr,retD,ko,resL,resD,oneD,renD,renL,renE,j3,rho,jR,j6,List.append,List.nil_append,List.cons_append,List.append_nil,cond,Nat.reduceBEq,Nat.reduceAdd,Nat.beq]
   refine kx (sp_Xor a2 b2 (by omega)) ?_
   dsimp only [c_top_TopEdges, kw, pD, jo,jK,jT,jr,jI,jM,jq,jJ,jL,iteR,regK,ji,jc,jl,jk,jb,jj,blkK,kt,kh,jd,ja,jy,fpOk,foot,kq,allN,memN,jN,jm,js,jw,jv,jt,ju,jg,jh,jf,je,newN,jx,jS,jU,jX,jO,jP,jQ,jz,jA,jE,jB,jC,jn,jD,jF,jG,j7,evX,evL,evB,rd,get,subG,memG,jY,jW,hyps,gob,impP,allP,j5,j2,j4,kp,nth,ke,km,jZ,lenB,kj,jV,entN,setE,j0,addE,setL,setN,putE,env0,eqCs,j9,eqC,bA,bO,bN,bE,negB,kEq,ki,j8,lend,frz,frzL,zRow,kg,kd,closed,jH,j1,binI,remP,remI,retK,retG,kr,retD,ko,resL,resD,oneD,renD,renL,renE,j3,rho,jR,j6,List.append,List.nil_append,List.cons_append,List.append_nil,cond,Nat.reduceBEq,Nat.reduceAdd,Nat.beq]
   rw [hXor]
   refine kx (Yz (a := reg (Ins p)) (b := reg (Ins p)) (by omega)) ?_
   dsimp only [c_top_TopEdges, kw, pD, jo,jK,jT,jr,jI,jM,jq,jJ,jL,iteR,regK,ji,jc,jl,jk,jb,jj,blkK,kt,kh,jd,ja,jy,fpOk,foot,kq,allN,memN,jN,jm,js,jw,jv,jt,ju,jg,jh,jf,je,newN,jx,jS,jU,jX,jO,jP,jQ,jz,jA,jE,jB,jC,jn,jD,jF,jG,j7,evX,evL,evB,rd,get,subG,memG,jY,jW,hyps,gob,impP,allP,j5,j2,j4,kp,nth,ke,km,jZ,lenB,kj,jV,entN,setE,j0,addE,setL,setN,putE,env0,eqCs,j9,eqC,bA,bO,bN,bE,negB,kEq,ki,j8,lend,frz,frzL,zRow,kg,kd,closed,jH,j1,binI,remP,remI,retK,retG,kr,retD,ko,resL,resD,oneD,renD,renL,renE,j3,rho,jR,j6,List.append,List.nil_append,List.cons_append,List.append_nil,cond,Nat.reduceBEq,Nat.reduceAdd,Nat.beq]
   refine kx (fun _ _ => Qb) ?_
   dsimp only [c_top_TopEdges, kw, pD, jo,jK,jT,jr,jI,jM,jq,jJ,jL,iteR,regK,ji,jc,jl,jk,jb,jj,blkK,kt,kh,jd,ja,jy,fpOk,foot,kq,allN,memN,jN,jm,js,jw,jv,jt,ju,jg,jh,jf,je,newN,jx,jS,jU,jX,jO,jP,jQ,jz,jA,jE,jB,jC,jn,jD,jF,jG,j7,evX,evL,evB,rd,get,subG,memG,jY,jW,hyps,gob,impP,allP,j5,j2,j4,kp,nth,ke,km,jZ,lenB,kj,jV,entN,setE,j0,addE,setL,setN,putE,env0,eqCs,j9,eqC,bA,bO,bN,bE,negB,kEq,ki,j8,lend,frz,frzL,zRow,kg,kd,closed,jH,j1,binI,remP,remI,retK,retG,kr,retD,ko,resL,resD,oneD,renD,renL,renE,j3,rho,jR,j6,List.append,List.nil_append,List.cons_append,List.append_nil,cond,Nat.reduceBEq,Nat.reduceAdd,Nat.beq]
   obtain ⟨bs, hbs, oS⟩ := XP (w := 17) (h := 17) (f := pxX fore (Ins p) g) (g := g) (by omega) (by omega)
   refine kx (fun _ _ => oS) ?_
   dsimp only [c_top_TopEdges, kw, pD, jo,jK,jT,jr,jI,jM,jq,jJ,jL,iteR,regK,ji,jc,jl,jk,jb,jj,blkK,kt,kh,jd,ja,jy,fpOk,foot,kq,allN,memN,jN,jm,js,jw,jv,jt,ju,jg,jh,jf,je,newN,jx,jS,jU,jX,jO,jP,jQ,jz,jA,jE,jB,jC,jn,jD,jF,jG,j7,evX,evL,evB,rd,get,subG,memG,jY,jW,hyps,gob,impP,allP,j5,j2,j4,kp,nth,ke,km,jZ,lenB,kj,jV,entN,setE,j0,addE,setL,setN,putE,env0,eqCs,j9,eqC,bA,bO,bN,bE,negB,kEq,ki,j8,lend,frz,frzL,zRow,kg,kd,closed,jH,j1,binI,remP,remI,retK,retG,kr,retD,ko,resL,resD,oneD,renD,renL,renE,j3,rho,jR,j6,List.append,List.nil_append,List.cons_append,List.append_nil,cond,Nat.reduceBEq,Nat.reduceAdd,Nat.beq]
   have hfin : (decide (fore = 0) || decide (((rcs (reg (Ins p))).length : Int) = 0) || !bs) = true := by
    by_cases hz : fore = 0
    ·simp [hz]
    by_cases he : reg (Ins p) = []
    ·simp [he, rcs]
    obtain ⟨x, y, hI⟩ : ∃ x y, Ins p x y := Classical.byContradiction fun hn => he ((Qg p2).2 fun x y h => hn ⟨x, y, h⟩)
    have hin := p4 x y hI
    have hb0 : bs = false := by
     cases bs with
     | false => rfl
     | true =>
       exfalso
       have h1 := hbs.1 rfl x y (by unfold inP; omega)
       rw [pxX, zf hI] at h1
       exact hz (XF hf (hgo x y) h1)
    simp [hb0]
   rw [hfin]
   simp
  ·simp only [decide_eq_false_iff_not] at h
   have hIK : i0 ≤ k0 := by omega
   have hKn : k0 < p.length := by omega
   obtain ⟨A, hA⟩ : ∃ A, A = (p.take (k0 + 1)).drop i0 := ⟨_, rfl⟩
   obtain ⟨B, hB⟩ : ∃ B, B = p.drop k0 ++ p.take (i0 + 1) := ⟨_, rfl⟩
   have hcut : ∀ X Y, insB p X Y = (insB A X Y != insB B X Y) := fun X Y => by rw [hA, hB]; exact ins_cut hIK hKn X Y
   have hXor : XorP (Ins A) (Ins B) = Ins p := zb fun X Y => (Yr (hcut X Y)).symm
   obtain ⟨a1, a2, a3, a4⟩ := insM A fun r hr => by rw [hA] at hr; exact List.mem_of_mem_take (List.mem_of_mem_drop hr)
   obtain ⟨b1, b2, b3, b4⟩ := insM B fun r hr => by
    rw [hB] at hr
    rcases List.mem_append.1 hr with hr | hr
    ·exact List.mem_of_mem_drop hr
    ·exact List.mem_of_mem_take hr
   have hAl : A.length ≤ 64 := by rw [hA, List.length_drop, List.length_take]; omega
   have hBl : B.length ≤ 64 := by rw [hB, List.length_append, List.length_drop, List.length_take]; omega
   have oA := vy hAl a1
   have oB := vy hBl b1
   have eA : List.drop (((i0 : Nat) : Int)).toNat (List.take (((k0 : Nat) : Int) + 1).toNat (pds p)) = pds A := by
    rw [hA, Int.toNat_natCast, show (((k0 : Nat) : Int) + 1).toNat = k0 + 1 by omega]
    simp [pds, List.map_take, List.map_drop]
   refine ⟨by simp only [fits]; omega, ⟨rfl, by omega, by omega, by omega⟩, ?_⟩
   rw [eA]
   refine kx oA ?_
   dsimp only [c_top_TopEdges, kw, pD, jo,jK,jT,jr,jI,jM,jq,jJ,jL,iteR,regK,ji,jc,jl,jk,jb,jj,blkK,kt,kh,jd,ja,jy,fpOk,foot,kq,allN,memN,jN,jm,js,jw,jv,jt,ju,jg,jh,jf,je,newN,jx,jS,jU,jX,jO,jP,jQ,jz,jA,jE,jB,jC,jn,jD,jF,jG,j7,evX,evL,evB,rd,get,subG,memG,jY,jW,hyps,gob,impP,allP,j5,j2,j4,kp,nth,ke,km,jZ,lenB,kj,jV,entN,setE,j0,addE,setL,setN,putE,env0,eqCs,j9,eqC,bA,bO,bN,bE,negB,kEq,ki,j8,lend,frz,frzL,zRow,kg,kd,closed,jH,j1,binI,remP,remI,retK,retG,kr,retD,ko,resL,resD,oneD,renD,renL,renE,j3,rho,jR,j6,List.append,List.nil_append,List.cons_append,List.append_nil,cond,Nat.reduceBEq,Nat.reduceAdd,Nat.beq]
   have eK : List.drop (((k0 : Nat) : Int)).toNat (List.take (((pds p).length : Nat) : Int).toNat (pds p)) = pds (p.drop k0) := by
    rw [Int.toNat_natCast, Int.toNat_natCast, List.take_length]
    simp [pds, List.map_drop]
   have eI : List.drop (Int.toNat 0) (List.take (((i0 : Nat) : Int) + 1).toNat (pds p)) = pds (p.take (i0 + 1)) := by
    rw [show (((i0 : Nat) : Int) + 1).toNat = i0 + 1 by omega]
    simp [pds, List.map_take]
   have eB : pds (p.drop k0) ++ pds (p.take (i0 + 1)) = pds B := by rw [hB]; simp [pds]
   rw [eK, eI, eB]
   have hl1 : (pds (p.drop k0)).length ≤ 64 := by rw [kV, List.length_drop]; omega
   have hl2 : (pds (p.take (i0 + 1))).length ≤ 64 := by rw [kV, List.length_take]; omega
   refine ⟨⟨rfl, by omega, by rw [kV]; omega, Int.le_refl _⟩, ⟨rfl, rfl, rfl, rfl, by simp only [List.length_nil]; omega, by simp only [List.length_nil]; omega⟩, by simp only [fits]; omega, ⟨rfl, by omega, by omega, by rw [kV]; omega⟩, ⟨rfl, rfl, rfl, rfl, by omega, by omega⟩, ?_⟩
   refine QI rfl ⟨rfl, trivial⟩ (Sp.lift oB rfl) ?_
   dsimp only [c_top_TopEdges, kw, pD, jo,jK,jT,jr,jI,jM,jq,jJ,jL,iteR,regK,ji,jc,jl,jk,jb,jj,blkK,kt,kh,jd,ja,jy,fpOk,foot,kq,allN,memN,jN,jm,js,jw,jv,jt,ju,jg,jh,jf,je,newN,jx,jS,jU,jX,jO,jP,jQ,jz,jA,jE,jB,jC,jn,jD,jF,jG,j7,evX,evL,evB,rd,get,subG,memG,jY,jW,hyps,gob,impP,allP,j5,j2,j4,kp,nth,ke,km,jZ,lenB,kj,jV,entN,setE,j0,addE,setL,setN,putE,env0,eqCs,j9,eqC,bA,bO,bN,bE,negB,kEq,ki,j8,lend,frz,frzL,zRow,kg,kd,closed,jH,j1,binI,remP,remI,retK,retG,kr,retD,ko,resL,resD,oneD,renD,renL,renE,j3,rho,jR,j6,List.append,List.nil_append,List.cons_append,List.append_nil,cond,Nat.reduceBEq,Nat.reduceAdd,Nat.beq]
   refine ⟨fun h => absurd h (by simp), fun _ => ?_⟩
   refine kx (ZZ a2 b2 (by omega)) ?_
   dsimp only [c_top_TopEdges, kw, pD, jo,jK,jT,jr,jI,jM,jq,jJ,jL,iteR,regK,ji,jc,jl,jk,jb,jj,blkK,kt,kh,jd,ja,jy,fpOk,foot,kq,allN,memN,jN,jm,js,jw,jv,jt,ju,jg,jh,jf,je,newN,jx,jS,jU,jX,jO,jP,jQ,jz,jA,jE,jB,jC,jn,jD,jF,jG,j7,evX,evL,evB,rd,get,subG,memG,jY,jW,hyps,gob,impP,allP,j5,j2,j4,kp,nth,ke,km,jZ,lenB,kj,jV,entN,setE,j0,addE,setL,setN,putE,env0,eqCs,j9,eqC,bA,bO,bN,bE,negB,kEq,ki,j8,lend,frz,frzL,zRow,kg,kd,closed,jH,j1,binI,remP,remI,retK,retG,kr,retD,ko,resL,resD,oneD,renD,renL,renE,j3,rho,jR,j6,List.append,List.nil_append,List.cons_append,List.append_nil,cond,Nat.reduceBEq,Nat.reduceAdd,Nat.beq]
   refine kx Qb ?_
   dsimp only [c_top_TopEdges, kw, pD, jo,jK,jT,jr,jI,jM,jq,jJ,jL,iteR,regK,ji,jc,jl,jk,jb,jj,blkK,kt,kh,jd,ja,jy,fpOk,foot,kq,allN,memN,jN,jm,js,jw,jv,jt,ju,jg,jh,jf,je,newN,jx,jS,jU,jX,jO,jP,jQ,jz,jA,jE,jB,jC,jn,jD,jF,jG,j7,evX,evL,evB,rd,get,subG,memG,jY,jW,hyps,gob,impP,allP,j5,j2,j4,kp,nth,ke,km,jZ,lenB,kj,jV,entN,setE,j0,addE,setL,setN,putE,env0,eqCs,j9,eqC,bA,bO,bN,bE,negB,kEq,ki,j8,lend,frz,frzL,zRow,kg,kd,closed,jH,j1,binI,remP,remI,retK,retG,kr,retD,ko,resL,resD,oneD,renD,renL,renE,j3,rho,jR,j6,List.append,List.nil_append,List.cons_append,List.append_nil,cond,Nat.reduceBEq,Nat.reduceAdd,Nat.beq]
   rw [ky]
   refine kx (fun _ => JW (vm a2) (by omega)) ?_
   dsimp only [c_top_TopEdges, kw, pD, jo,jK,jT,jr,jI,jM,jq,jJ,jL,iteR,regK,ji,jc,jl,jk,jb,jj,blkK,kt,kh,jd,ja,jy,fpOk,foot,kq,allN,memN,jN,jm,js,jw,jv,jt,ju,jg,jh,jf,je,newN,jx,jS,jU,jX,jO,jP,jQ,jz,jA,jE,jB,jC,jn,jD,jF,jG,j7,evX,evL,evB,rd,get,subG,memG,jY,jW,hyps,gob,impP,allP,j5,j2,j4,kp,nth,ke,km,jZ,lenB,kj,jV,entN,setE,j0,addE,setL,setN,putE,env0,eqCs,j9,eqC,bA,bO,bN,bE,negB,kEq,ki,j8,lend,frz,frzL,zRow,kg,kd,closed,jH,j1,binI,remP,remI,retK,retG,kr,retD,ko,resL,resD,oneD,renD,renL,renE,j3,rho,jR,j6,List.append,List.nil_append,List.cons_append,List.append_nil,cond,Nat.reduceBEq,Nat.reduceAdd,Nat.beq]
   refine kx (fun _ => JW (vm b2) (by omega)) ?_
   dsimp only [c_top_TopEdges, kw, pD, jo,jK,jT,jr,jI,jM,jq,jJ,jL,iteR,regK,ji,jc,jl,jk,jb,jj,blkK,kt,kh,jd,ja,jy,fpOk,foot,kq,allN,memN,jN,jm,js,jw,jv,jt,ju,jg,jh,jf,je,newN,jx,jS,jU,jX,jO,jP,jQ,jz,jA,jE,jB,jC,jn,jD,jF,jG,j7,evX,evL,evB,rd,get,subG,memG,jY,jW,hyps,gob,impP,allP,j5,j2,j4,kp,nth,ke,km,jZ,lenB,kj,jV,entN,setE,j0,addE,setL,setN,putE,env0,eqCs,j9,eqC,bA,bO,bN,bE,negB,kEq,ki,j8,lend,frz,frzL,zRow,kg,kd,closed,jH,j1,binI,remP,remI,retK,retG,kr,retD,ko,resL,resD,oneD,renD,renL,renE,j3,rho,jR,j6,List.append,List.nil_append,List.cons_append,List.append_nil,cond,Nat.reduceBEq,Nat.reduceAdd,Nat.beq]
   have ba := vZ (vm a2)
   have bb := vZ (vm b2)
   refine ⟨fun _ => by simp only [fits]; omega, kx (fun _ => JW (vm p2) (by omega)) ?_⟩
   dsimp only [c_top_TopEdges, kw, pD, jo,jK,jT,jr,jI,jM,jq,jJ,jL,iteR,regK,ji,jc,jl,jk,jb,jj,blkK,kt,kh,jd,ja,jy,fpOk,foot,kq,allN,memN,jN,jm,js,jw,jv,jt,ju,jg,jh,jf,je,newN,jx,jS,jU,jX,jO,jP,jQ,jz,jA,jE,jB,jC,jn,jD,jF,jG,j7,evX,evL,evB,rd,get,subG,memG,jY,jW,hyps,gob,impP,allP,j5,j2,j4,kp,nth,ke,km,jZ,lenB,kj,jV,entN,setE,j0,addE,setL,setN,putE,env0,eqCs,j9,eqC,bA,bO,bN,bE,negB,kEq,ki,j8,lend,frz,frzL,zRow,kg,kd,closed,jH,j1,binI,remP,remI,retK,retG,kr,retD,ko,resL,resD,oneD,renD,renL,renE,j3,rho,jR,j6,List.append,List.nil_append,List.cons_append,List.append_nil,cond,Nat.reduceBEq,Nat.reduceAdd,Nat.beq]
   refine ⟨fun h => ?_, fun _ => ?_⟩
   ·exfalso
    simp only [Bool.and_eq_true, decide_eq_true_eq, Bool.not_eq_true', decide_eq_false_iff_not] at h
    have hno := (Qg (P := fun x y => Ins A x y ∧ Ins B x y) fun x y h => a2 x y h.1).1 (List.eq_nil_of_length_eq_zero (by omega))
    refine h.2 ?_
    have := area_two (A := Ins A) (B := Ins B) (fun x y h => by have := a4 x y h; omega) (fun x y h => by have := b4 x y h; omega) hno
    rw [hXor] at this
    exact this
   refine kx Yy ?_
   dsimp only [c_top_TopEdges, kw, pD, jo,jK,jT,jr,jI,jM,jq,jJ,jL,iteR,regK,ji,jc,jl,jk,jb,jj,blkK,kt,kh,jd,ja,jy,fpOk,foot,kq,allN,memN,jN,jm,js,jw,jv,jt,ju,jg,jh,jf,je,newN,jx,jS,jU,jX,jO,jP,jQ,jz,jA,jE,jB,jC,jn,jD,jF,jG,j7,evX,evL,evB,rd,get,subG,memG,jY,jW,hyps,gob,impP,allP,j5,j2,j4,kp,nth,ke,km,jZ,lenB,kj,jV,entN,setE,j0,addE,setL,setN,putE,env0,eqCs,j9,eqC,bA,bO,bN,bE,negB,kEq,ki,j8,lend,frz,frzL,zRow,kg,kd,closed,jH,j1,binI,remP,remI,retK,retG,kr,retD,ko,resL,resD,oneD,renD,renL,renE,j3,rho,jR,j6,List.append,List.nil_append,List.cons_append,List.append_nil,cond,Nat.reduceBEq,Nat.reduceAdd,Nat.beq]
   refine kx (sp_Xor a2 b2 (by omega)) ?_
   dsimp only [c_top_TopEdges, kw, pD, jo,jK,jT,jr,jI,jM,jq,jJ,jL,iteR,regK,ji,jc,jl,jk,jb,jj,blkK,kt,kh,jd,ja,jy,fpOk,foot,kq,allN,memN,jN,jm,js,jw,jv,jt,ju,jg,jh,jf,je,newN,jx,jS,jU,jX,jO,jP,jQ,jz,jA,jE,jB,jC,jn,jD,jF,jG,j7,evX,evL,evB,rd,get,subG,memG,jY,jW,hyps,gob,impP,allP,j5,j2,j4,kp,nth,ke,km,jZ,lenB,kj,jV,entN,setE,j0,addE,setL,setN,putE,env0,eqCs,j9,eqC,bA,bO,bN,bE,negB,kEq,ki,j8,lend,frz,frzL,zRow,kg,kd,closed,jH,j1,binI,remP,remI,retK,retG,kr,retD,ko,resL,resD,oneD,renD,renL,renE,j3,rho,jR,j6,List.append,List.nil_append,List.cons_append,List.append_nil,cond,Nat.reduceBEq,Nat.reduceAdd,Nat.beq]
   rw [hXor]
   refine kx (Yz (a := reg (Ins p)) (b := reg (Ins p)) (by omega)) ?_
   dsimp only [c_top_TopEdges, kw, pD, jo,jK,jT,jr,jI,jM,jq,jJ,jL,iteR,regK,ji,jc,jl,jk,jb,jj,blkK,kt,kh,jd,ja,jy,fpOk,foot,kq,allN,memN,jN,jm,js,jw,jv,jt,ju,jg,jh,jf,je,newN,jx,jS,jU,jX,jO,jP,jQ,jz,jA,jE,jB,jC,jn,jD,jF,jG,j7,evX,evL,evB,rd,get,subG,memG,jY,jW,hyps,gob,impP,allP,j5,j2,j4,kp,nth,ke,km,jZ,lenB,kj,jV,entN,setE,j0,addE,setL,setN,putE,env0,eqCs,j9,eqC,bA,bO,bN,bE,negB,kEq,ki,j8,lend,frz,frzL,zRow,kg,kd,closed,jH,j1,binI,remP,remI,retK,retG,kr,retD,ko,resL,resD,oneD,renD,renL,renE,j3,rho,jR,j6,List.append,List.nil_append,List.cons_append,List.append_nil,cond,Nat.reduceBEq,Nat.reduceAdd,Nat.beq]
   refine kx (fun _ _ => Qb) ?_
   dsimp only [c_top_TopEdges, kw, pD, jo,jK,jT,jr,jI,jM,jq,jJ,jL,iteR,regK,ji,jc,jl,jk,jb,jj,blkK,kt,kh,jd,ja,jy,fpOk,foot,kq,allN,memN,jN,jm,js,jw,jv,jt,ju,jg,jh,jf,je,newN,jx,jS,jU,jX,jO,jP,jQ,jz,jA,jE,jB,jC,jn,jD,jF,jG,j7,evX,evL,evB,rd,get,subG,memG,jY,jW,hyps,gob,impP,allP,j5,j2,j4,kp,nth,ke,km,jZ,lenB,kj,jV,entN,setE,j0,addE,setL,setN,putE,env0,eqCs,j9,eqC,bA,bO,bN,bE,negB,kEq,ki,j8,lend,frz,frzL,zRow,kg,kd,closed,jH,j1,binI,remP,remI,retK,retG,kr,retD,ko,resL,resD,oneD,renD,renL,renE,j3,rho,jR,j6,List.append,List.nil_append,List.cons_append,List.append_nil,cond,Nat.reduceBEq,Nat.reduceAdd,Nat.beq]
   obtain ⟨bs, hbs, oS⟩ := XP (w := 17) (h := 17) (f := pxX fore (Ins p) g) (g := g) (by omega) (by omega)
   refine kx (fun _ _ => oS) ?_
   dsimp only [c_top_TopEdges, kw, pD, jo,jK,jT,jr,jI,jM,jq,jJ,jL,iteR,regK,ji,jc,jl,jk,jb,jj,blkK,kt,kh,jd,ja,jy,fpOk,foot,kq,allN,memN,jN,jm,js,jw,jv,jt,ju,jg,jh,jf,je,newN,jx,jS,jU,jX,jO,jP,jQ,jz,jA,jE,jB,jC,jn,jD,jF,jG,j7,evX,evL,evB,rd,get,subG,memG,jY,jW,hyps,gob,impP,allP,j5,j2,j4,kp,nth,ke,km,jZ,lenB,kj,jV,entN,setE,j0,addE,setL,setN,putE,env0,eqCs,j9,eqC,bA,bO,bN,bE,negB,kEq,ki,j8,lend,frz,frzL,zRow,kg,kd,closed,jH,j1,binI,remP,remI,retK,retG,kr,retD,ko,resL,resD,oneD,renD,renL,renE,j3,rho,jR,j6,List.append,List.nil_append,List.cons_append,List.append_nil,cond,Nat.reduceBEq,Nat.reduceAdd,Nat.beq]
   have hfin : (decide (fore = 0) || decide (((rcs (reg (Ins p))).length : Int) = 0) || !bs) = true := by
    by_cases hz : fore = 0
    ·simp [hz]
    by_cases he : reg (Ins p) = []
    ·simp [he, rcs]
    obtain ⟨x, y, hI⟩ : ∃ x y, Ins p x y := Classical.byContradiction fun hn => he ((Qg p2).2 fun x y h => hn ⟨x, y, h⟩)
    have hin := p4 x y hI
    have hb0 : bs = false := by
     cases bs with
     | false => rfl
     | true =>
       exfalso
       have h1 := hbs.1 rfl x y (by unfold inP; omega)
       rw [pxX, zf hI] at h1
       exact hz (XF hf (hgo x y) h1)
    simp [hb0]
   rw [hfin]
   simp
end Go.AM

