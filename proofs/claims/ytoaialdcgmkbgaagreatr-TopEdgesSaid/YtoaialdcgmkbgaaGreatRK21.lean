import Derived.Test.YtoaialdcgmkbgaaGreatRQ4

set_option linter.all false
namespace Go.AM
open Go Go.Proofs
theorem sm_each {w h : Nat} {f : Px} {fore src : Int} {l : List Rc} {G : (Int → Int → Prop) → Px} (hv : ∀ r ∈ l, Vr r) (hd : l.Pairwise Bfr) (hl : l.length ≤ 1048576)
  (hcb : ∀ (Q : Int → Int → Prop) (x y : Int), pts l x y → ¬ Q x y → TSpM 188 [.int .i64 x, .int .i64 y, .box 3 0, .box 4 0, .box 5 0] (ptE w h f (G Q) fore src) (.tup []) (ptE w h f (G (fun X Y => Q X Y ∨ (Y = y ∧ X = x))) fore src)) :
  TSpM 150 [.agg [.ls 4 (rcs l)], .fn 188 [.box 3 0, .box 4 0, .box 5 0]] (ptE w h f (G fun _ _ => False) fore src) (.tup []) (ptE w h f (G (pts l)) fore src) := by
 refine Vn (by rfl) ?_
 dsimp only [c_paint_each, qO, jo,jK,jT,jr,jI,jM,jq,jJ,jL,iteR,regK,ji,jc,jl,jk,jb,jj,blkK,kt,kh,jd,ja,jy,fpOk,foot,kq,allN,memN,jN,jm,js,jw,jv,jt,ju,jg,jh,jf,je,newN,jx,jS,jU,jX,jO,jP,jQ,jz,jA,jE,jB,jC,jn,jD,jF,jG,j7,evX,evL,evB,rd,get,subG,memG,jY,jW,hyps,gob,impP,allP,j5,j2,j4,kp,nth,ke,km,jZ,lenB,kj,jV,entN,setE,j0,addE,setL,setN,putE,env0,eqCs,j9,eqC,bA,bO,bN,bE,negB,kEq,ki,j8,lend,frz,frzL,zRow,kg,kd,closed,jH,j1,binI,remP,remI,retK,retG,kr,retD,ko,resL,resD,oneD,renD,renL,renE,j3,rho,jR,j6,List.append,List.nil_append,List.cons_append,List.append_nil,cond,Nat.reduceBEq,Nat.reduceAdd,Nat.beq]
 refine kx (Qa (l := rcs l) (by rw [ky]; omega)) ?_
 dsimp only [c_paint_each, qO, jo,jK,jT,jr,jI,jM,jq,jJ,jL,iteR,regK,ji,jc,jl,jk,jb,jj,blkK,kt,kh,jd,ja,jy,fpOk,foot,kq,allN,memN,jN,jm,js,jw,jv,jt,ju,jg,jh,jf,je,newN,jx,jS,jU,jX,jO,jP,jQ,jz,jA,jE,jB,jC,jn,jD,jF,jG,j7,evX,evL,evB,rd,get,subG,memG,jY,jW,hyps,gob,impP,allP,j5,j2,j4,kp,nth,ke,km,jZ,lenB,kj,jV,entN,setE,j0,addE,setL,setN,putE,env0,eqCs,j9,eqC,bA,bO,bN,bE,negB,kEq,ki,j8,lend,frz,frzL,zRow,kg,kd,closed,jH,j1,binI,remP,remI,retK,retG,kr,retD,ko,resL,resD,oneD,renD,renL,renE,j3,rho,jR,j6,List.append,List.nil_append,List.cons_append,List.append_nil,cond,Nat.reduceBEq,Nat.reduceAdd,Nat.beq]
 rw [ky]
 have e0 : (fun _ _ => False : Int → Int → Prop) = pts (l.take 0) := zb fun x y => by simp [pts]
 rw [e0]
 refine kH (α := {i : Nat // i ≤ l.length})
  (fun i => ⟨[(1, [], .fn 188 [.box 3 0, .box 4 0, .box 5 0]), (9, [], .ls 4 (rcs l)), (10, [], .int .i64 l.length), (11, [], .int .i64 i.1)], ptE w h f (G (pts (l.take i.1))) fore src ++ [.cells [.ls 4 (rcs l)]]⟩)
  (fun i => l.length - i.1) ?_ ⟨0, Nat.zero_le _⟩ rfl
 rintro ⟨i, hi⟩ I ih
 dsimp only at hi ⊢
 dsimp only [c_paint_each, qO, jo,jK,jT,jr,jI,jM,jq,jJ,jL,iteR,regK,ji,jc,jl,jk,jb,jj,blkK,kt,kh,jd,ja,jy,fpOk,foot,kq,allN,memN,jN,jm,js,jw,jv,jt,ju,jg,jh,jf,je,newN,jx,jS,jU,jX,jO,jP,jQ,jz,jA,jE,jB,jC,jn,jD,jF,jG,j7,evX,evL,evB,rd,get,subG,memG,jY,jW,hyps,gob,impP,allP,j5,j2,j4,kp,nth,ke,km,jZ,lenB,kj,jV,entN,setE,j0,addE,setL,setN,putE,env0,eqCs,j9,eqC,bA,bO,bN,bE,negB,kEq,ki,j8,lend,frz,frzL,zRow,kg,kd,closed,jH,j1,binI,remP,remI,retK,retG,kr,retD,ko,resL,resD,oneD,renD,renL,renE,j3,rho,jR,j6,List.append,List.nil_append,List.cons_append,List.append_nil,cond,Nat.reduceBEq,Nat.reduceAdd,Nat.beq]
 refine ⟨fun hlt => ?_, fun hge => ?_⟩
 ·have hil : i < l.length := by simpa using hlt
  obtain ⟨r, hr⟩ : ∃ r, l[i]? = some r := ⟨_, List.getElem?_eq_getElem hil⟩
  have hV := hv r (List.mem_of_getElem? hr)
  unfold Vr at hV
  have hrp : ∀ x y, r.has x y → pts l x y := fun x y h => ⟨r, List.mem_of_getElem? hr, h⟩
  have hno : ∀ x y, r.has x y → ¬ pts (l.take i) x y := fun x y h ⟨q, hq, hq2⟩ => by
   have h1 : (l.take (i + 1)).Pairwise Bfr := hd.sublist (List.take_sublist _ _)
   rw [List.take_add_one, hr] at h1
   have := (List.pairwise_append.1 h1).2.2 q hq r (by simp)
   unfold Bfr at this
   unfold Rc.has at h hq2
   omega
  have htk : ∀ X Y, pts (l.take (i + 1)) X Y ↔ pts (l.take i) X Y ∨ r.has X Y := fun X Y => by rw [List.take_add_one, hr, Option.toList, ptsA, ptsO]
  refine ⟨⟨rfl, by omega, by rw [ky]; omega⟩, kB (rD r) (rD r) (qo (by simpa using hr)) rfl ?_⟩
  dsimp only [c_paint_each, qO, rD, jo,jK,jT,jr,jI,jM,jq,jJ,jL,iteR,regK,ji,jc,jl,jk,jb,jj,blkK,kt,kh,jd,ja,jy,fpOk,foot,kq,allN,memN,jN,jm,js,jw,jv,jt,ju,jg,jh,jf,je,newN,jx,jS,jU,jX,jO,jP,jQ,jz,jA,jE,jB,jC,jn,jD,jF,jG,j7,evX,evL,evB,rd,get,subG,memG,jY,jW,hyps,gob,impP,allP,j5,j2,j4,kp,nth,ke,km,jZ,lenB,kj,jV,entN,setE,j0,addE,setL,setN,putE,env0,eqCs,j9,eqC,bA,bO,bN,bE,negB,kEq,ki,j8,lend,frz,frzL,zRow,kg,kd,closed,jH,j1,binI,remP,remI,retK,retG,kr,retD,ko,resL,resD,oneD,renD,renL,renE,j3,rho,jR,j6,List.append,List.nil_append,List.cons_append,List.append_nil,cond,Nat.reduceBEq,Nat.reduceAdd,Nat.beq]
  have e1 : pts (l.take i) = fun X Y => pts (l.take i) X Y ∨ (r.has X Y ∧ Y < r.y) := zb fun X Y => ⟨.inl, fun h => h.elim id fun h => by unfold Rc.has at h; omega⟩
  refine kH (α := {y : Int // r.y ≤ y ∧ y ≤ r.y + r.h})
   (fun y => ⟨[(1, [], .fn 188 [.box 3 0, .box 4 0, .box 5 0]), (5, [], .box 7 0), (6, [], .int .i64 y.1), (9, [], .ls 4 (rcs l)), (10, [], .int .i64 l.length), (11, [], .int .i64 i)], ptE w h f (G (fun X Y => pts (l.take i) X Y ∨ (r.has X Y ∧ Y < y.1))) fore src ++ [.cells [.ls 4 (rcs l)], .cells [.int .i64 r.x, .int .i64 r.y, .int .i64 r.w, .int .i64 r.h]]⟩)
   (fun y => (r.y + r.h - y.1).toNat) ?_ ⟨r.y, by omega⟩ (by dsimp only; rw [← e1]; rfl)
  rintro ⟨y, hy⟩ I2 ih2
  dsimp only at hy ⊢
  dsimp only [c_paint_each, qO, jo,jK,jT,jr,jI,jM,jq,jJ,jL,iteR,regK,ji,jc,jl,jk,jb,jj,blkK,kt,kh,jd,ja,jy,fpOk,foot,kq,allN,memN,jN,jm,js,jw,jv,jt,ju,jg,jh,jf,je,newN,jx,jS,jU,jX,jO,jP,jQ,jz,jA,jE,jB,jC,jn,jD,jF,jG,j7,evX,evL,evB,rd,get,subG,memG,jY,jW,hyps,gob,impP,allP,j5,j2,j4,kp,nth,ke,km,jZ,lenB,kj,jV,entN,setE,j0,addE,setL,setN,putE,env0,eqCs,j9,eqC,bA,bO,bN,bE,negB,kEq,ki,j8,lend,frz,frzL,zRow,kg,kd,closed,jH,j1,binI,remP,remI,retK,retG,kr,retD,ko,resL,resD,oneD,renD,renL,renE,j3,rho,jR,j6,List.append,List.nil_append,List.cons_append,List.append_nil,cond,Nat.reduceBEq,Nat.reduceAdd,Nat.beq]
  refine ⟨by simp only [fits]; omega, fun hlt => ?_, fun hge => ⟨by simp only [fits]; omega, ?_⟩⟩
  ·simp only [decide_eq_true_eq] at hlt
   have e2 : (fun X Y => pts (l.take i) X Y ∨ (r.has X Y ∧ Y < y)) = fun X Y => (pts (l.take i) X Y ∨ (r.has X Y ∧ Y < y)) ∨ (Y = y ∧ r.x ≤ X ∧ X < r.x) := zb fun X Y => ⟨.inl, fun h => h.elim id fun h => by omega⟩
   refine kH (α := {x : Int // r.x ≤ x ∧ x ≤ r.x + r.w})
    (fun x => ⟨[(1, [], .fn 188 [.box 3 0, .box 4 0, .box 5 0]), (5, [], .box 7 0), (6, [], .int .i64 y), (7, [], .int .i64 x.1), (9, [], .ls 4 (rcs l)), (10, [], .int .i64 l.length), (11, [], .int .i64 i)], ptE w h f (G (fun X Y => (pts (l.take i) X Y ∨ (r.has X Y ∧ Y < y)) ∨ (Y = y ∧ r.x ≤ X ∧ X < x.1))) fore src ++ [.cells [.ls 4 (rcs l)], .cells [.int .i64 r.x, .int .i64 r.y, .int .i64 r.w, .int .i64 r.h]]⟩)
    (fun x => (r.x + r.w - x.1).toNat) ?_ ⟨r.x, by omega⟩ (by dsimp only; rw [← e2]; rfl)
   rintro ⟨x, hx⟩ I3 ih3
   dsimp only at hx ⊢
   dsimp only [c_paint_each, qO, jo,jK,jT,jr,jI,jM,jq,jJ,jL,iteR,regK,ji,jc,jl,jk,jb,jj,blkK,kt,kh,jd,ja,jy,fpOk,foot,kq,allN,memN,jN,jm,js,jw,jv,jt,ju,jg,jh,jf,je,newN,jx,jS,jU,jX,jO,jP,jQ,jz,jA,jE,jB,jC,jn,jD,jF,jG,j7,evX,evL,evB,rd,get,subG,memG,jY,jW,hyps,gob,impP,allP,j5,j2,j4,kp,nth,ke,km,jZ,lenB,kj,jV,entN,setE,j0,addE,setL,setN,putE,env0,eqCs,j9,eqC,bA,bO,bN,bE,negB,kEq,ki,j8,lend,frz,frzL,zRow,kg,kd,closed,jH,j1,binI,remP,remI,retK,retG,kr,retD,ko,resL,resD,oneD,renD,renL,renE,j3,rho,jR,j6,List.append,List.nil_append,List.cons_append,List.append_nil,cond,Nat.reduceBEq,Nat.reduceAdd,Nat.beq]
   refine ⟨by simp only [fits]; omega, fun hlt2 => ?_, fun hge => ⟨by simp only [fits]; omega, ?_⟩⟩
   ·simp only [decide_eq_true_eq] at hlt2
    have hhas : r.has x y := by unfold Rc.has; omega
    refine qm [0, 1, 2, 3, 4, 5] (hcb _ x y (hrp x y hhas) (by
     rintro ((h1 | h1) | h1)
     ·exact hno x y hhas h1
     ·omega
     ·omega)) rfl rfl ?_
    dsimp only [c_paint_each, qO, jo,jK,jT,jr,jI,jM,jq,jJ,jL,iteR,regK,ji,jc,jl,jk,jb,jj,blkK,kt,kh,jd,ja,jy,fpOk,foot,kq,allN,memN,jN,jm,js,jw,jv,jt,ju,jg,jh,jf,je,newN,jx,jS,jU,jX,jO,jP,jQ,jz,jA,jE,jB,jC,jn,jD,jF,jG,j7,evX,evL,evB,rd,get,subG,memG,jY,jW,hyps,gob,impP,allP,j5,j2,j4,kp,nth,ke,km,jZ,lenB,kj,jV,entN,setE,j0,addE,setL,setN,putE,env0,eqCs,j9,eqC,bA,bO,bN,bE,negB,kEq,ki,j8,lend,frz,frzL,zRow,kg,kd,closed,jH,j1,binI,remP,remI,retK,retG,kr,retD,ko,resL,resD,oneD,renD,renL,renE,j3,rho,jR,j6,List.append,List.nil_append,List.cons_append,List.append_nil,cond,Nat.reduceBEq,Nat.reduceAdd,Nat.beq]
    have e3 : (fun X Y => ((pts (l.take i) X Y ∨ (r.has X Y ∧ Y < y)) ∨ (Y = y ∧ r.x ≤ X ∧ X < x)) ∨ (Y = y ∧ X = x)) = fun X Y => (pts (l.take i) X Y ∨ (r.has X Y ∧ Y < y)) ∨ (Y = y ∧ r.x ≤ X ∧ X < x + 1) := zb fun X Y => by
     constructor
     ·rintro ((h1 | h1) | h1)
      ·exact .inl h1
      ·exact .inr (by omega)
      ·exact .inr (by omega)
     ·rintro (h1 | h1)
      ·exact .inl (.inl h1)
      ·by_cases hX : X = x
       ·exact .inr (by omega)
       ·exact .inl (.inr (by omega))
    rw [e3]
    exact ⟨by simp only [fits]; omega, k9 (ih3 ⟨x + 1, by omega⟩ (by dsimp only; omega)) ⟨rfl, rfl, rfl, by simp [get], rfl, rfl, rfl, trivial⟩ ⟨rfl, rfl, rfl, rfl, rfl, rfl, rfl, rfl, trivial⟩ rfl rfl⟩
   ·simp only [decide_eq_false_iff_not] at hge
    have e3 : (fun X Y => (pts (l.take i) X Y ∨ (r.has X Y ∧ Y < y)) ∨ (Y = y ∧ r.x ≤ X ∧ X < x)) = fun X Y => pts (l.take i) X Y ∨ (r.has X Y ∧ Y < y + 1) := zb fun X Y => by
     unfold Rc.has
     constructor
     ·rintro ((h1 | h1) | h1)
      ·exact .inl h1
      ·exact .inr ⟨h1.1, by omega⟩
      ·exact .inr ⟨by omega, by omega⟩
     ·rintro (h1 | h1)
      ·exact .inl (.inl h1)
      ·by_cases hY : Y = y
       ·exact .inr (by omega)
       ·exact .inl (.inr ⟨h1.1, by omega⟩)
    rw [e3]
    exact k9 (ih2 ⟨y + 1, by omega⟩ (by dsimp only; omega)) ⟨rfl, rfl, by simp [get], rfl, rfl, rfl, trivial⟩ ⟨rfl, rfl, rfl, rfl, rfl, rfl, rfl, rfl, trivial⟩ rfl rfl
  ·simp only [decide_eq_false_iff_not] at hge
   have e3 : (fun X Y => pts (l.take i) X Y ∨ (r.has X Y ∧ Y < y)) = pts (l.take (i + 1)) := zb fun X Y => by
    rw [htk]; unfold Rc.has
    constructor
    ·rintro (h1 | h1)
     ·exact .inl h1
     ·exact .inr h1.1
    ·rintro (h1 | h1)
     ·exact .inl h1
     ·exact .inr ⟨h1, by omega⟩
   rw [e3]
   exact k9 (ih ⟨i + 1, hil⟩ (by dsimp only; omega)) ⟨rfl, rfl, rfl, by simp [get], trivial⟩ ⟨rfl, rfl, rfl, rfl, rfl, rfl, rfl, trivial⟩ rfl rfl
 ·have hil : i = l.length := by have : ¬ i < l.length := by simpa using hge
                                omega
  subst hil
  rw [List.take_length]
  exact Rt.cut (Nat.le_refl _) (qK (ptE w h f (G (pts l)) fore src) _) rfl rfl
noncomputable def pxX (fore : Int) (Q : Int → Int → Prop) (f : Px) : Px := onX Q (fun X Y => xorI fore (f X Y)) f
theorem pxX_upd {fore : Int} {Q : Int → Int → Prop} {f : Px} {x y : Int} (h : ¬ Q x y) : updX (pxX fore Q f) x y (xorI fore (pxX fore Q f x y)) = pxX fore (fun X Y => Q X Y ∨ (Y = y ∧ X = x)) f := by
 have e : pxX fore Q f x y = f x y := qX h
 rw [e]
 exact onX_upd (s := fun X Y => xorI fore (f X Y))
theorem pxX_ok {fore : Int} {Q : Int → Int → Prop} {f : Px} (hs : 0 ≤ fore ∧ fore ≤ 255) (hf : Pok f) : Pok (pxX fore Q f) := onX_ok (fun X Y => xorI_ok hs (hf X Y)) hf
theorem XO {w h : Nat} {f : Px} {fore : Int} {P Q : Int → Int → Prop} (hw : 1 ≤ w ∧ w ≤ 64) (hh : 1 ≤ h ∧ h ≤ 64) (hs : 0 ≤ fore ∧ fore ≤ 255) (hf : Pok f) (hP : Bdd P) (hQ : Bdd Q) (hl : (reg P).length + (reg Q).length ≤ 8191) (lPQ : (reg fun X Y => P X Y ∧ Q X Y).length ≤ 8191) :
  TSp 28 [gD w h f, .agg [.ls 4 (rcs (reg P))], .agg [.ls 4 (rcs (reg Q))], .agg (penX fore)] (gD w h (pxX fore (fun X Y => P X Y ∧ Q X Y) f)) := by
 have vp : Vr ⟨0, 0, w, h⟩ := by unfold Vr; dsimp only; omega
 have b1 : Bdd (fun X Y => P X Y ∧ Q X Y) := fun X Y h => hP X Y h.1
 have b2 : Bdd (fun X Y => (P X Y ∧ Q X Y) ∧ Rc.has ⟨0, 0, w, h⟩ X Y) := fun X Y h => hP X Y h.1.1
 have l2 := few64 b2 (a := 0) (b := 0) fun X Y h => by have := h.2; unfold Rc.has at this; dsimp only at this; omega
 have hwith : TSp 91 [gD w h f, .agg [.ls 4 (rcs (reg P))], .agg [.ls 4 (rcs (reg Q))], .agg (penX fore), .int .u8 fore] (gD w h (pxX fore (fun X Y => P X Y ∧ Q X Y) f)) := by
  refine Vj (by rfl) ?_
  dsimp only [c_paint_with, qA, rD, jo,jK,jT,jr,jI,jM,jq,jJ,jL,iteR,regK,ji,jc,jl,jk,jb,jj,blkK,kt,kh,jd,ja,jy,fpOk,foot,kq,allN,memN,jN,jm,js,jw,jv,jt,ju,jg,jh,jf,je,newN,jx,jS,jU,jX,jO,jP,jQ,jz,jA,jE,jB,jC,jn,jD,jF,jG,j7,evX,evL,evB,rd,get,subG,memG,jY,jW,hyps,gob,impP,allP,j5,j2,j4,kp,nth,ke,km,jZ,lenB,kj,jV,entN,setE,j0,addE,setL,setN,putE,env0,eqCs,j9,eqC,bA,bO,bN,bE,negB,kEq,ki,j8,lend,frz,frzL,zRow,kg,kd,closed,jH,j1,binI,remP,remI,retK,retG,kr,retD,ko,resL,resD,oneD,renD,renL,renE,j3,rho,jR,j6,List.append,List.nil_append,List.cons_append,List.append_nil,cond,Nat.reduceBEq,Nat.reduceAdd,Nat.beq]
  refine kx Yx ?_
  dsimp only [c_paint_with, qA, rD, jo,jK,jT,jr,jI,jM,jq,jJ,jL,iteR,regK,ji,jc,jl,jk,jb,jj,blkK,kt,kh,jd,ja,jy,fpOk,foot,kq,allN,memN,jN,jm,js,jw,jv,jt,ju,jg,jh,jf,je,newN,jx,jS,jU,jX,jO,jP,jQ,jz,jA,jE,jB,jC,jn,jD,jF,jG,j7,evX,evL,evB,rd,get,subG,memG,jY,jW,hyps,gob,impP,allP,j5,j2,j4,kp,nth,ke,km,jZ,lenB,kj,jV,entN,setE,j0,addE,setL,setN,putE,env0,eqCs,j9,eqC,bA,bO,bN,bE,negB,kEq,ki,j8,lend,frz,frzL,zRow,kg,kd,closed,jH,j1,binI,remP,remI,retK,retG,kr,retD,ko,resL,resD,oneD,renD,renL,renE,j3,rho,jR,j6,List.append,List.nil_append,List.cons_append,List.append_nil,cond,Nat.reduceBEq,Nat.reduceAdd,Nat.beq]
  refine ⟨fun h => absurd h (by simp), fun _ => ?_⟩
  refine qm [] (sm_plOf (by omega) (by omega) hf) rfl rfl ?_
  dsimp only [c_paint_with, qA, rD, jo,jK,jT,jr,jI,jM,jq,jJ,jL,iteR,regK,ji,jc,jl,jk,jb,jj,blkK,kt,kh,jd,ja,jy,fpOk,foot,kq,allN,memN,jN,jm,js,jw,jv,jt,ju,jg,jh,jf,je,newN,jx,jS,jU,jX,jO,jP,jQ,jz,jA,jE,jB,jC,jn,jD,jF,jG,j7,evX,evL,evB,rd,get,subG,memG,jY,jW,hyps,gob,impP,allP,j5,j2,j4,kp,nth,ke,km,jZ,lenB,kj,jV,entN,setE,j0,addE,setL,setN,putE,env0,eqCs,j9,eqC,bA,bO,bN,bE,negB,kEq,ki,j8,lend,frz,frzL,zRow,kg,kd,closed,jH,j1,binI,remP,remI,retK,retG,kr,retD,ko,resL,resD,oneD,renD,renL,renE,j3,rho,jR,j6,List.append,List.nil_append,List.cons_append,List.append_nil,cond,Nat.reduceBEq,Nat.reduceAdd,Nat.beq]
  refine kx (ZZ hP hQ (by omega)) ?_
  dsimp only [c_paint_with, qA, rD, jo,jK,jT,jr,jI,jM,jq,jJ,jL,iteR,regK,ji,jc,jl,jk,jb,jj,blkK,kt,kh,jd,ja,jy,fpOk,foot,kq,allN,memN,jN,jm,js,jw,jv,jt,ju,jg,jh,jf,je,newN,jx,jS,jU,jX,jO,jP,jQ,jz,jA,jE,jB,jC,jn,jD,jF,jG,j7,evX,evL,evB,rd,get,subG,memG,jY,jW,hyps,gob,impP,allP,j5,j2,j4,kp,nth,ke,km,jZ,lenB,kj,jV,entN,setE,j0,addE,setL,setN,putE,env0,eqCs,j9,eqC,bA,bO,bN,bE,negB,kEq,ki,j8,lend,frz,frzL,zRow,kg,kd,closed,jH,j1,binI,remP,remI,retK,retG,kr,retD,ko,resL,resD,oneD,renD,renL,renE,j3,rho,jR,j6,List.append,List.nil_append,List.cons_append,List.append_nil,cond,Nat.reduceBEq,Nat.reduceAdd,Nat.beq]
  refine q9 [5, 6, 7] sm_plRect rfl rfl rfl ?_
  dsimp only [c_paint_with, qA, rD, jo,jK,jT,jr,jI,jM,jq,jJ,jL,iteR,regK,ji,jc,jl,jk,jb,jj,blkK,kt,kh,jd,ja,jy,fpOk,foot,kq,allN,memN,jN,jm,js,jw,jv,jt,ju,jg,jh,jf,je,newN,jx,jS,jU,jX,jO,jP,jQ,jz,jA,jE,jB,jC,jn,jD,jF,jG,j7,evX,evL,evB,rd,get,subG,memG,jY,jW,hyps,gob,impP,allP,j5,j2,j4,kp,nth,ke,km,jZ,lenB,kj,jV,entN,setE,j0,addE,setL,setN,putE,env0,eqCs,j9,eqC,bA,bO,bN,bE,negB,kEq,ki,j8,lend,frz,frzL,zRow,kg,kd,closed,jH,j1,binI,remP,remI,retK,retG,kr,retD,ko,resL,resD,oneD,renD,renL,renE,j3,rho,jR,j6,List.append,List.nil_append,List.cons_append,List.append_nil,cond,Nat.reduceBEq,Nat.reduceAdd,Nat.beq]
  refine kx (sp_Within (c := ⟨0, 0, w, h⟩) b1 vp (by omega)) ?_
  dsimp only [c_paint_with, qA, rD, jo,jK,jT,jr,jI,jM,jq,jJ,jL,iteR,regK,ji,jc,jl,jk,jb,jj,blkK,kt,kh,jd,ja,jy,fpOk,foot,kq,allN,memN,jN,jm,js,jw,jv,jt,ju,jg,jh,jf,je,newN,jx,jS,jU,jX,jO,jP,jQ,jz,jA,jE,jB,jC,jn,jD,jF,jG,j7,evX,evL,evB,rd,get,subG,memG,jY,jW,hyps,gob,impP,allP,j5,j2,j4,kp,nth,ke,km,jZ,lenB,kj,jV,entN,setE,j0,addE,setL,setN,putE,env0,eqCs,j9,eqC,bA,bO,bN,bE,negB,kEq,ki,j8,lend,frz,frzL,zRow,kg,kd,closed,jH,j1,binI,remP,remI,retK,retG,kr,retD,ko,resL,resD,oneD,renD,renL,renE,j3,rho,jR,j6,List.append,List.nil_append,List.cons_append,List.append_nil,cond,Nat.reduceBEq,Nat.reduceAdd,Nat.beq]
  refine qm [5, 6, 7] (sm_painter (fore := fore)) rfl rfl ?_
  dsimp only [c_paint_with, qA, rD, jo,jK,jT,jr,jI,jM,jq,jJ,jL,iteR,regK,ji,jc,jl,jk,jb,jj,blkK,kt,kh,jd,ja,jy,fpOk,foot,kq,allN,memN,jN,jm,js,jw,jv,jt,ju,jg,jh,jf,je,newN,jx,jS,jU,jX,jO,jP,jQ,jz,jA,jE,jB,jC,jn,jD,jF,jG,j7,evX,evL,evB,rd,get,subG,memG,jY,jW,hyps,gob,impP,allP,j5,j2,j4,kp,nth,ke,km,jZ,lenB,kj,jV,entN,setE,j0,addE,setL,setN,putE,env0,eqCs,j9,eqC,bA,bO,bN,bE,negB,kEq,ki,j8,lend,frz,frzL,zRow,kg,kd,closed,jH,j1,binI,remP,remI,retK,retG,kr,retD,ko,resL,resD,oneD,renD,renL,renE,j3,rho,jR,j6,List.append,List.nil_append,List.cons_append,List.append_nil,cond,Nat.reduceBEq,Nat.reduceAdd,Nat.beq]
  have hin : ∀ X Y, pts (reg fun X Y => (P X Y ∧ Q X Y) ∧ Rc.has ⟨0, 0, w, h⟩ X Y) X Y → inP w h X Y := fun X Y h => by
   have := ((yE b2 X Y).1 h).2
   unfold Rc.has at this; unfold inP; dsimp only at this; omega
  have he := sm_each (w := w) (h := h) (f := f) (fore := fore) (src := fore) (G := fun S => pxX fore S f) (vm b2) (xT (JY (yD b2))).1 (by omega)
   (fun S x y hp hn => by
     have := YC (w := w) (h := h) (f := f) (g := pxX fore S f) (fore := fore) (src := fore) (by omega) (by omega) hs (pxX_ok hs hf) (hin x y hp)
     rw [pxX_upd hn] at this
     exact this)
  have e0 : pxX fore (fun _ _ => False) f = f := onX_no
  rw [e0] at he
  refine qm [5, 6, 7, 8, 9, 10] he rfl rfl ?_
  dsimp only [c_paint_with, qA, rD, jo,jK,jT,jr,jI,jM,jq,jJ,jL,iteR,regK,ji,jc,jl,jk,jb,jj,blkK,kt,kh,jd,ja,jy,fpOk,foot,kq,allN,memN,jN,jm,js,jw,jv,jt,ju,jg,jh,jf,je,newN,jx,jS,jU,jX,jO,jP,jQ,jz,jA,jE,jB,jC,jn,jD,jF,jG,j7,evX,evL,evB,rd,get,subG,memG,jY,jW,hyps,gob,impP,allP,j5,j2,j4,kp,nth,ke,km,jZ,lenB,kj,jV,entN,setE,j0,addE,setL,setN,putE,env0,eqCs,j9,eqC,bA,bO,bN,bE,negB,kEq,ki,j8,lend,frz,frzL,zRow,kg,kd,closed,jH,j1,binI,remP,remI,retK,retG,kr,retD,ko,resL,resD,oneD,renD,renL,renE,j3,rho,jR,j6,List.append,List.nil_append,List.cons_append,List.append_nil,cond,Nat.reduceBEq,Nat.reduceAdd,Nat.beq]
  refine q9 [5, 6, 7] (sm_plGrid (by omega) (by omega) (pxX_ok hs hf)) rfl rfl rfl ?_
  dsimp only [c_paint_with, qA, rD, jo,jK,jT,jr,jI,jM,jq,jJ,jL,iteR,regK,ji,jc,jl,jk,jb,jj,blkK,kt,kh,jd,ja,jy,fpOk,foot,kq,allN,memN,jN,jm,js,jw,jv,jt,ju,jg,jh,jf,je,newN,jx,jS,jU,jX,jO,jP,jQ,jz,jA,jE,jB,jC,jn,jD,jF,jG,j7,evX,evL,evB,rd,get,subG,memG,jY,jW,hyps,gob,impP,allP,j5,j2,j4,kp,nth,ke,km,jZ,lenB,kj,jV,entN,setE,j0,addE,setL,setN,putE,env0,eqCs,j9,eqC,bA,bO,bN,bE,negB,kEq,ki,j8,lend,frz,frzL,zRow,kg,kd,closed,jH,j1,binI,remP,remI,retK,retG,kr,retD,ko,resL,resD,oneD,renD,renL,renE,j3,rho,jR,j6,List.append,List.nil_append,List.cons_append,List.append_nil,cond,Nat.reduceBEq,Nat.reduceAdd,Nat.beq]
  have : gl w h (pxX fore (pts (reg fun X Y => (P X Y ∧ Q X Y) ∧ Rc.has ⟨0, 0, w, h⟩ X Y)) f) = gl w h (pxX fore (fun X Y => P X Y ∧ Q X Y) f) := JE fun x y hp => X7 (by
   rw [yE b2]
   exact ⟨fun h => h.1, fun h => ⟨h, by unfold inP at hp; unfold Rc.has; dsimp only; omega⟩⟩)
  rw [this]
 refine QS (by rfl) ?_
 dsimp only [c_paint_Region, vJ, rD, jo,jK,jT,jr,jI,jM,jq,jJ,jL,iteR,regK,ji,jc,jl,jk,jb,jj,blkK,kt,kh,jd,ja,jy,fpOk,foot,kq,allN,memN,jN,jm,js,jw,jv,jt,ju,jg,jh,jf,je,newN,jx,jS,jU,jX,jO,jP,jQ,jz,jA,jE,jB,jC,jn,jD,jF,jG,j7,evX,evL,evB,rd,get,subG,memG,jY,jW,hyps,gob,impP,allP,j5,j2,j4,kp,nth,ke,km,jZ,lenB,kj,jV,entN,setE,j0,addE,setL,setN,putE,env0,eqCs,j9,eqC,bA,bO,bN,bE,negB,kEq,ki,j8,lend,frz,frzL,zRow,kg,kd,closed,jH,j1,binI,remP,remI,retK,retG,kr,retD,ko,resL,resD,oneD,renD,renL,renE,j3,rho,jR,j6,List.append,List.nil_append,List.cons_append,List.append_nil,cond,Nat.reduceBEq,Nat.reduceAdd,Nat.beq]
 refine kx hwith ?_
 dsimp only [c_paint_Region, vJ, rD, jo,jK,jT,jr,jI,jM,jq,jJ,jL,iteR,regK,ji,jc,jl,jk,jb,jj,blkK,kt,kh,jd,ja,jy,fpOk,foot,kq,allN,memN,jN,jm,js,jw,jv,jt,ju,jg,jh,jf,je,newN,jx,jS,jU,jX,jO,jP,jQ,jz,jA,jE,jB,jC,jn,jD,jF,jG,j7,evX,evL,evB,rd,get,subG,memG,jY,jW,hyps,gob,impP,allP,j5,j2,j4,kp,nth,ke,km,jZ,lenB,kj,jV,entN,setE,j0,addE,setL,setN,putE,env0,eqCs,j9,eqC,bA,bO,bN,bE,negB,kEq,ki,j8,lend,frz,frzL,zRow,kg,kd,closed,jH,j1,binI,remP,remI,retK,retG,kr,retD,ko,resL,resD,oneD,renD,renL,renE,j3,rho,jR,j6,List.append,List.nil_append,List.cons_append,List.append_nil,cond,Nat.reduceBEq,Nat.reduceAdd,Nat.beq]
end Go.AM

