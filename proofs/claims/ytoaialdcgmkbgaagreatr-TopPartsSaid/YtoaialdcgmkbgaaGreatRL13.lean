import Derived.Test.YtoaialdcgmkbgaaGreatRL11

set_option linter.all false
namespace Go.AM
open Go Go.RowKit Go.Proofs
noncomputable def stPm (W H : Int) (w h : Nat) (ps : List Pn) (qs : List Sh4) (i : Nat) : St := ⟨[(1, [], .box 0 0), (2, [], .box 1 0), (3, [], .box 2 0), (4, [], .box 3 0), (8, [], .box 4 0), (9, [], .box 5 0), (11, [], .box 6 0), (58, [], .ls 6 (ps.map pnD)), (59, [], .int .i64 ps.length), (60, [], .int .i64 i)],
 [.cells [.int .u8 W, .int .u8 H, .ls 6 (ps.map pnD), .ls 4 (qs.map s4D)], .cells [.mp [] [], .mp [] []], .cells [.mp [] []], .cells [.mp [] []],
  .cells [.mp (mpK .u32 (kKV (mkT (pPar ps) i).kids)) (mpV (kKV (mkT (pPar ps) i).kids)), .mp (mpK .u32 (uKV (mkT (pPar ps) i).up)) (mpV (uKV (mkT (pPar ps) i).up))],
  .cells [.mp (mpK .u32 (pW w h ps qs i).kv) (mpV (pW w h ps qs i).kv)], .cells [.mp (mpK .u32 (cKV (pIt w h ps) i)) (mpV (cKV (pIt w h ps) i))]]⟩
theorem jQ2 {w h : Nat} {ps : List Pn} {qs : List Sh4} : mKV (fun _ => bxD (Xm w h)) 0 = (pW w h ps qs 0).kv := by
 unfold Ws.kv
 refine mKV_ext fun k hk => ?_
 have : k = 0 := by omega
 subst this; rfl
theorem jQ3 {w h : Nat} {ps : List Pn} : put [] 1 (itD ⟨w, h, fun _ _ => 0, 0, true, true⟩) = cKV (pIt w h ps) 0 := by
 simp only [put, cKV, mKV, List.range_succ, List.range_zero, List.nil_append, List.map_cons, List.map_nil, pIt, idn, if_true]
theorem ju4 {f : Nat -> D} {n : Nat} : put (mKV f n) (idn (n + 1)) (f (n + 1)) = mKV f (n + 1) := by rw [qY (by rw [VN, if_neg (by omega)]), ju3]
theorem YU {k : Nat} (h : k <= 1000) : fits .u32 (idn k) := by
 unfold idn fits
 by_cases h0 : k = 0
 ·simp [h0]
 ·simp only [h0, if_false]; omega
theorem jD5 {w h : Nat} {ps : List Pn} {qs : List Sh4} {i : Nat} {b : Bx} (hi : i <= 7) (hB : pBx w h ps qs (i + 1) = b) (hbc : Jg b.x = true /\ Jg b.y = true) (hbs : Qq b.w = true /\ Qq b.h = true)
  (hbg : badG b.g = false /\ badG b.b = false) (hbp : b.s = true \/ reg b.p = []) :
  TSp 54 [.agg [mpD .u32 (pW w h ps qs i).kv], .int .u32 (idn (i + 1)), bxD b] (.tup [.agg [mpD .u32 (pW w h ps qs (i + 1)).kv], .int .i64 0]) := by
 have hs := ji9 (kv := (pW w h ps qs i).kv) YK mKV_ne (jB8 fun k => jb1 _) (id := idn (i + 1)) (YU (by omega)) (fun h => by have := Jf.1 h; omega) (V9 (by omega)) (b := b) hbc hbs hbg hbp
  (fun _ => by show (mKV _ _).length < 64; rw [X3]; show i + 1 < 64; omega) (by show (mKV _ _).length <= 64; rw [X3]; show i + 1 <= 64; omega) (fun d hd => by
    have : lk (mKV (fun k => bxD (pBx w h ps qs k)) i) (idn (i + 1)) = some d := hd
    rw [VN, if_neg (by omega)] at this; cases this)
 have e : put (pW w h ps qs i).kv (idn (i + 1)) (bxD b) = (pW w h ps qs (i + 1)).kv := by
  rw [<- hB]; exact ju4 (f := fun k => bxD (pBx w h ps qs k))
 rw [e] at hs
 exact hs
theorem jD8 {ps : List Pn} {i : Nat} (hi : i <= 7) : TSp 97 [tD (mkT (pPar ps) i), .int .u32 (idn (i + 1)), .int .u32 (idn (pPar ps (i + 1)))] (.tup [tD (mkT (pPar ps) (i + 1)), .int .i64 0]) := by
 have h := jp8 (t := mkT (pPar ps) i) (jS2 (by omega)) (id := idn (i + 1)) (p := idn (pPar ps (i + 1))) (YU (by omega))
 obtain ⟨h1, h2⟩ := mkT_add (XZ ps) (n := i) (by omega)
 rw [h1, h2] at h
 exact h
theorem jq0 {w h : Nat} {ps : List Pn} {i : Nat} (hi : i <= 7) (hp : pnOk (pnAt ps (i + 1))) : TSp 95 [.agg [mpD .u32 (cKV (pIt w h ps) i)], .int .u32 (idn (i + 1)), .int .i64 (1 + (pnAt ps (i + 1)).d % 256 % 10), .int .i64 (1 + (pnAt ps (i + 1)).e % 256 % 9), .int .u8 ((i + 1 : Nat) : Int), .bool (decide (Int.tmod (pnAt ps (i + 1)).f 2 = 0))]
  (.tup [.agg [mpD .u32 (cKV (pIt w h ps) (i + 1))], .int .i64 0]) := by
 obtain ⟨W, hW⟩ : ∃ W : Nat, 1 + (pnAt ps (i + 1)).d % 256 % 10 = W := ⟨(1 + (pnAt ps (i + 1)).d % 256 % 10).toNat, by omega⟩
 obtain ⟨H, hH⟩ : ∃ H : Nat, 1 + (pnAt ps (i + 1)).e % 256 % 9 = H := ⟨(1 + (pnAt ps (i + 1)).e % 256 % 9).toNat, by omega⟩
 have ho := J3 (kv := cKV (pIt w h ps) i) YK cKV_itv (by show (mKV _ _).length <= 1000; rw [X3]; omega) (id := idn (i + 1)) (YU (by omega)) (V9 (by omega)) (by unfold cKV; rw [VN, if_neg (by omega)]) (w := W) (h := H) (by omega) (by omega) (p := ((i + 1 : Nat) : Int)) (b := decide (Int.tmod (pnAt ps (i + 1)).f 2 = 0))
 have e : put (cKV (pIt w h ps) i) (idn (i + 1)) (itD ⟨W, H, fun _ _ => ((i + 1 : Nat) : Int), ((i + 1 : Nat) : Int), true, decide (Int.tmod (pnAt ps (i + 1)).f 2 = 0)⟩) = cKV (pIt w h ps) (i + 1) := by
  have e2 : pIt w h ps (i + 1) = ⟨W, H, fun _ _ => ((i + 1 : Nat) : Int), ((i + 1 : Nat) : Int), true, decide (Int.tmod (pnAt ps (i + 1)).f 2 = 0)⟩ := by
   unfold pIt
   rw [if_neg (by omega), hW, hH, Int.toNat_natCast, Int.toNat_natCast]
  rw [<- e2]; exact ju4 (f := fun k => itD (pIt w h ps k))
 rw [e, <- hW, <- hH] at ho
 exact ho
set_option maxHeartbeats 1000000 in
theorem jj2 {W H : Int} {w h : Nat} {ps : List Pn} {qs : List Sh4} (hW : 0 <= W /\ W <= 255) (hH : 0 <= H /\ H <= 255) (hw : (w : Int) = 1 + W % 14) (hh : (h : Int) = 1 + H % 12) (hp : ∀ p ∈ ps, pnOk p) (hq : ∀ q ∈ qs, s4ok q) (hl : ps.length <= 8) :
  TSp 32 [.agg [.int .u8 W, .int .u8 H, .ls 6 (ps.map pnD), .ls 4 (qs.map s4D)]] (.tup [tD (mkT (pPar ps) ps.length), .agg [mpD .u32 (pW w h ps qs ps.length).kv], .agg [mpD .u32 (cKV (pIt w h ps) ps.length)], .bool true]) := by
 have hw1 : 1 <= w /\ w <= 14 := by omega
 have hh1 : 1 <= h /\ h <= 12 := by omega
 refine Zp (by rfl) ?_
 dsimp only [c_top_partsMade, Jv, jn,jH,jO,jq,jF,jJ,jo,jG,jI,iteR,regK,jh,jc,jk,jj,jb,ji,blkK,kp,kd,jd,ja,jx,fpOk,foot,km,allN,memN,jK,jl,jr,jv,jt,ju,jf,jg,je,newN,jw,jN,jP,jY,jQ,jM,jS,jz,jA,jC,jD,jE,jm,jB,evX,evL,evB,rd,get,subG,memG,jT,jV,hyps,gob,impP,allP,j1,jX,j3,kj,nth,j8,kh,jU,lenB,kg,jR,entN,setE,jZ,addE,setL,setN,putE,env0,eqCs,j6,eqC,bA,bO,bN,bE,negB,kEq,ke,j5,lend,frz,frzL,zRow,j9,j7,closed,jy,jW,binI,remP,remI,retK,retG,ko,retD,ki,resL,resD,oneD,renD,renL,renE,j0,rho,jL,j4,zla,zlb,zlc,zld,zca,zcb,o1,o0,og,Nat.reduceBEq,Nat.reduceAdd,Nat.beq]
 refine ⟨by omega, by simp only [fits]; omega, by simp only [fits]; omega, by omega, by simp only [fits]; omega, by simp only [fits]; omega, ?_⟩
 rw [<- hw, <- hh]
 refine kq jp7 ?_
 rw [show tD ⟨[], []⟩ = .agg [mpD .u32 (kKV (mkT (pPar ps) 0).kids), mpD .u32 (uKV (mkT (pPar ps) 0).up)] from rfl]
 dsimp only [mpD, jn,jH,jO,jq,jF,jJ,jo,jG,jI,iteR,regK,jh,jc,jk,jj,jb,ji,blkK,kp,kd,jd,ja,jx,fpOk,foot,km,allN,memN,jK,jl,jr,jv,jt,ju,jf,jg,je,newN,jw,jN,jP,jY,jQ,jM,jS,jz,jA,jC,jD,jE,jm,jB,evX,evL,evB,rd,get,subG,memG,jT,jV,hyps,gob,impP,allP,j1,jX,j3,kj,nth,j8,kh,jU,lenB,kg,jR,entN,setE,jZ,addE,setL,setN,putE,env0,eqCs,j6,eqC,bA,bO,bN,bE,negB,kEq,ke,j5,lend,frz,frzL,zRow,j9,j7,closed,jy,jW,binI,remP,remI,retK,retG,ko,retD,ki,resL,resD,oneD,renD,renL,renE,j0,rho,jL,j4,zla,zlb,zlc,zld,zca,zcb,o1,o0,og,Nat.reduceBEq,Nat.reduceAdd,Nat.beq]
 refine kq (jj0 (by omega) (by omega)) ?_
 rw [jQ2 (ps := ps) (qs := qs)]
 dsimp only [mpD, jn,jH,jO,jq,jF,jJ,jo,jG,jI,iteR,regK,jh,jc,jk,jj,jb,ji,blkK,kp,kd,jd,ja,jx,fpOk,foot,km,allN,memN,jK,jl,jr,jv,jt,ju,jf,jg,je,newN,jw,jN,jP,jY,jQ,jM,jS,jz,jA,jC,jD,jE,jm,jB,evX,evL,evB,rd,get,subG,memG,jT,jV,hyps,gob,impP,allP,j1,jX,j3,kj,nth,j8,kh,jU,lenB,kg,jR,entN,setE,jZ,addE,setL,setN,putE,env0,eqCs,j6,eqC,bA,bO,bN,bE,negB,kEq,ke,j5,lend,frz,frzL,zRow,j9,j7,closed,jy,jW,binI,remP,remI,retK,retG,ko,retD,ki,resL,resD,oneD,renD,renL,renE,j0,rho,jL,j4,zla,zlb,zlc,zld,zca,zcb,o1,o0,og,Nat.reduceBEq,Nat.reduceAdd,Nat.beq]
 have hop := J3 (kv := []) (by simp [NdK]) nofun (by simp) (id := 1) (by simp [fits]) (by rfl) rfl (w := w) (h := h) (by omega) (by omega) (p := 0) (b := true)
 rw [jQ3 (ps := ps)] at hop
 refine kq hop ?_
 dsimp only [mpD, jn,jH,jO,jq,jF,jJ,jo,jG,jI,iteR,regK,jh,jc,jk,jj,jb,ji,blkK,kp,kd,jd,ja,jx,fpOk,foot,km,allN,memN,jK,jl,jr,jv,jt,ju,jf,jg,je,newN,jw,jN,jP,jY,jQ,jM,jS,jz,jA,jC,jD,jE,jm,jB,evX,evL,evB,rd,get,subG,memG,jT,jV,hyps,gob,impP,allP,j1,jX,j3,kj,nth,j8,kh,jU,lenB,kg,jR,entN,setE,jZ,addE,setL,setN,putE,env0,eqCs,j6,eqC,bA,bO,bN,bE,negB,kEq,ke,j5,lend,frz,frzL,zRow,j9,j7,closed,jy,jW,binI,remP,remI,retK,retG,ko,retD,ki,resL,resD,oneD,renD,renL,renE,j0,rho,jL,j4,zla,zlb,zlc,zld,zca,zcb,o1,o0,og,Nat.reduceBEq,Nat.reduceAdd,Nat.beq]
 refine ⟨fun h => absurd h (by simp), fun _ => ?_⟩
 rw [List.length_map]
 refine kG (α := {i : Nat // i <= ps.length}) (fun i => stPm W H w h ps qs i.1) (fun i => ps.length - i.1) ?_ ⟨0, by simp⟩ rfl
 rintro ⟨i, hi⟩ I ih
 dsimp only [stPm, jn,jH,jO,jq,jF,jJ,jo,jG,jI,iteR,regK,jh,jc,jk,jj,jb,ji,blkK,kp,kd,jd,ja,jx,fpOk,foot,km,allN,memN,jK,jl,jr,jv,jt,ju,jf,jg,je,newN,jw,jN,jP,jY,jQ,jM,jS,jz,jA,jC,jD,jE,jm,jB,evX,evL,evB,rd,get,subG,memG,jT,jV,hyps,gob,impP,allP,j1,jX,j3,kj,nth,j8,kh,jU,lenB,kg,jR,entN,setE,jZ,addE,setL,setN,putE,env0,eqCs,j6,eqC,bA,bO,bN,bE,negB,kEq,ke,j5,lend,frz,frzL,zRow,j9,j7,closed,jy,jW,binI,remP,remI,retK,retG,ko,retD,ki,resL,resD,oneD,renD,renL,renE,j0,rho,jL,j4,zla,zlb,zlc,zld,zca,zcb,o1,o0,og,Nat.reduceBEq,Nat.reduceAdd,Nat.beq]
 refine ⟨fun hj => ?_, fun hj => ?_⟩
 ·have hj : i < ps.length := by simp at hj; omega
  have hpi : ps[i]? = some (pnAt ps (i + 1)) := by
   unfold pnAt
   rw [List.getD_eq_getElem?_getD, List.getElem?_eq_getElem (show i + 1 - 1 < ps.length by omega)]
   simp [hj]
  have hpo := pnAt_ok hp (i + 1)
  obtain ⟨p, hpp⟩ : ∃ p, pnAt ps (i + 1) = p := ⟨_, rfl⟩
  rw [hpp] at hpi hpo
  have hrow : (ps.map pnD)[((i : Nat) : Int).toNat]? = some (pnD p) := by rw [Int.toNat_natCast, List.getElem?_map, hpi]; rfl
  refine ⟨⟨rfl, by omega, by rw [List.length_map]; omega⟩, ky (pnD p) (pnD p) hrow rfl ?_⟩
  dsimp only [pnD, jn,jH,jO,jq,jF,jJ,jo,jG,jI,iteR,regK,jh,jc,jk,jj,jb,ji,blkK,kp,kd,jd,ja,jx,fpOk,foot,km,allN,memN,jK,jl,jr,jv,jt,ju,jf,jg,je,newN,jw,jN,jP,jY,jQ,jM,jS,jz,jA,jC,jD,jE,jm,jB,evX,evL,evB,rd,get,subG,memG,jT,jV,hyps,gob,impP,allP,j1,jX,j3,kj,nth,j8,kh,jU,lenB,kg,jR,entN,setE,jZ,addE,setL,setN,putE,env0,eqCs,j6,eqC,bA,bO,bN,bE,negB,kEq,ke,j5,lend,frz,frzL,zRow,j9,j7,closed,jy,jW,binI,remP,remI,retK,retG,ko,retD,ki,resL,resD,oneD,renD,renL,renE,j0,rho,jL,j4,zla,zlb,zlc,zld,zca,zcb,o1,o0,og,Nat.reduceBEq,Nat.reduceAdd,Nat.beq]
  refine ⟨by simp only [fits]; omega, ?_⟩
  have e1 : (i : Int) + 1 = ((i + 1 : Nat) : Int) := by omega
  rw [e1]
  refine kq (QH (n := i + 1) (by omega)) ?_
  dsimp only [jn,jH,jO,jq,jF,jJ,jo,jG,jI,iteR,regK,jh,jc,jk,jj,jb,ji,blkK,kp,kd,jd,ja,jx,fpOk,foot,km,allN,memN,jK,jl,jr,jv,jt,ju,jf,jg,je,newN,jw,jN,jP,jY,jQ,jM,jS,jz,jA,jC,jD,jE,jm,jB,evX,evL,evB,rd,get,subG,memG,jT,jV,hyps,gob,impP,allP,j1,jX,j3,kj,nth,j8,kh,jU,lenB,kg,jR,entN,setE,jZ,addE,setL,setN,putE,env0,eqCs,j6,eqC,bA,bO,bN,bE,negB,kEq,ke,j5,lend,frz,frzL,zRow,j9,j7,closed,jy,jW,binI,remP,remI,retK,retG,ko,retD,ki,resL,resD,oneD,renD,renL,renE,j0,rho,jL,j4,zla,zlb,zlc,zld,zca,zcb,o1,o0,og,Nat.reduceBEq,Nat.reduceAdd,Nat.beq]
  unfold pnOk at hpo
  have hb := yT (n := p.b) (m := 14) (by omega)
  have hc := yT (n := p.c) (m := 12) (by omega)
  have hf5 := yT (n := p.f) (m := 5) (by omega)
  have hf3 := yT (n := p.f) (m := 3) (by omega)
  have hf2 := yT (n := p.f) (m := 2) (by omega)
  refine ⟨by omega, qO _ rfl ?_⟩
  dsimp only [jn,jH,jO,jq,jF,jJ,jo,jG,jI,iteR,regK,jh,jc,jk,jj,jb,ji,blkK,kp,kd,jd,ja,jx,fpOk,foot,km,allN,memN,jK,jl,jr,jv,jt,ju,jf,jg,je,newN,jw,jN,jP,jY,jQ,jM,jS,jz,jA,jC,jD,jE,jm,jB,evX,evL,evB,rd,get,subG,memG,jT,jV,hyps,gob,impP,allP,j1,jX,j3,kj,nth,j8,kh,jU,lenB,kg,jR,entN,setE,jZ,addE,setL,setN,putE,env0,eqCs,j6,eqC,bA,bO,bN,bE,negB,kEq,ke,j5,lend,frz,frzL,zRow,j9,j7,closed,jy,jW,binI,remP,remI,retK,retG,ko,retD,ki,resL,resD,oneD,renD,renL,renE,j0,rho,jL,j4,zla,zlb,zlc,zld,zca,zcb,o1,o0,og,Nat.reduceBEq,Nat.reduceAdd,Nat.beq]
  refine ⟨by omega, by simp only [fits]; omega, by omega, qO _ rfl ?_⟩
  dsimp only [jn,jH,jO,jq,jF,jJ,jo,jG,jI,iteR,regK,jh,jc,jk,jj,jb,ji,blkK,kp,kd,jd,ja,jx,fpOk,foot,km,allN,memN,jK,jl,jr,jv,jt,ju,jf,jg,je,newN,jw,jN,jP,jY,jQ,jM,jS,jz,jA,jC,jD,jE,jm,jB,evX,evL,evB,rd,get,subG,memG,jT,jV,hyps,gob,impP,allP,j1,jX,j3,kj,nth,j8,kh,jU,lenB,kg,jR,entN,setE,jZ,addE,setL,setN,putE,env0,eqCs,j6,eqC,bA,bO,bN,bE,negB,kEq,ke,j5,lend,frz,frzL,zRow,j9,j7,closed,jy,jW,binI,remP,remI,retK,retG,ko,retD,ki,resL,resD,oneD,renD,renL,renE,j0,rho,jL,j4,zla,zlb,zlc,zld,zca,zcb,o1,o0,og,Nat.reduceBEq,Nat.reduceAdd,Nat.beq]
  refine ⟨by omega, by simp only [fits]; omega, by omega, qO _ rfl ?_⟩
  dsimp only [jn,jH,jO,jq,jF,jJ,jo,jG,jI,iteR,regK,jh,jc,jk,jj,jb,ji,blkK,kp,kd,jd,ja,jx,fpOk,foot,km,allN,memN,jK,jl,jr,jv,jt,ju,jf,jg,je,newN,jw,jN,jP,jY,jQ,jM,jS,jz,jA,jC,jD,jE,jm,jB,evX,evL,evB,rd,get,subG,memG,jT,jV,hyps,gob,impP,allP,j1,jX,j3,kj,nth,j8,kh,jU,lenB,kg,jR,entN,setE,jZ,addE,setL,setN,putE,env0,eqCs,j6,eqC,bA,bO,bN,bE,negB,kEq,ke,j5,lend,frz,frzL,zRow,j9,j7,closed,jy,jW,binI,remP,remI,retK,retG,ko,retD,ki,resL,resD,oneD,renD,renL,renE,j0,rho,jL,j4,zla,zlb,zlc,zld,zca,zcb,o1,o0,og,Nat.reduceBEq,Nat.reduceAdd,Nat.beq]
  rw [XU hpo.2.2.2.1]
  refine ⟨by omega, by simp only [fits]; omega, by simp only [fits]; omega, by omega, qO _ rfl ?_⟩
  dsimp only [jn,jH,jO,jq,jF,jJ,jo,jG,jI,iteR,regK,jh,jc,jk,jj,jb,ji,blkK,kp,kd,jd,ja,jx,fpOk,foot,km,allN,memN,jK,jl,jr,jv,jt,ju,jf,jg,je,newN,jw,jN,jP,jY,jQ,jM,jS,jz,jA,jC,jD,jE,jm,jB,evX,evL,evB,rd,get,subG,memG,jT,jV,hyps,gob,impP,allP,j1,jX,j3,kj,nth,j8,kh,jU,lenB,kg,jR,entN,setE,jZ,addE,setL,setN,putE,env0,eqCs,j6,eqC,bA,bO,bN,bE,negB,kEq,ke,j5,lend,frz,frzL,zRow,j9,j7,closed,jy,jW,binI,remP,remI,retK,retG,ko,retD,ki,resL,resD,oneD,renD,renL,renE,j0,rho,jL,j4,zla,zlb,zlc,zld,zca,zcb,o1,o0,og,Nat.reduceBEq,Nat.reduceAdd,Nat.beq]
  rw [XU hpo.2.2.2.2.1]
  refine ⟨by omega, by simp only [fits]; omega, by simp only [fits]; omega, by omega, qO _ rfl ?_⟩
  dsimp only [jn,jH,jO,jq,jF,jJ,jo,jG,jI,iteR,regK,jh,jc,jk,jj,jb,ji,blkK,kp,kd,jd,ja,jx,fpOk,foot,km,allN,memN,jK,jl,jr,jv,jt,ju,jf,jg,je,newN,jw,jN,jP,jY,jQ,jM,jS,jz,jA,jC,jD,jE,jm,jB,evX,evL,evB,rd,get,subG,memG,jT,jV,hyps,gob,impP,allP,j1,jX,j3,kj,nth,j8,kh,jU,lenB,kg,jR,entN,setE,jZ,addE,setL,setN,putE,env0,eqCs,j6,eqC,bA,bO,bN,bE,negB,kEq,ke,j5,lend,frz,frzL,zRow,j9,j7,closed,jy,jW,binI,remP,remI,retK,retG,ko,retD,ki,resL,resD,oneD,renD,renL,renE,j0,rho,jL,j4,zla,zlb,zlc,zld,zca,zcb,o1,o0,og,Nat.reduceBEq,Nat.reduceAdd,Nat.beq]
  refine ⟨by omega, ?_⟩
  rw [List.length_map]
  refine ⟨fun _ => by omega, qO (.int .i8 p.f) (fun _ => rfl) ?_⟩
  dsimp only [jn,jH,jO,jq,jF,jJ,jo,jG,jI,iteR,regK,jh,jc,jk,jj,jb,ji,blkK,kp,kd,jd,ja,jx,fpOk,foot,km,allN,memN,jK,jl,jr,jv,jt,ju,jf,jg,je,newN,jw,jN,jP,jY,jQ,jM,jS,jz,jA,jC,jD,jE,jm,jB,evX,evL,evB,rd,get,subG,memG,jT,jV,hyps,gob,impP,allP,j1,jX,j3,kj,nth,j8,kh,jU,lenB,kg,jR,entN,setE,jZ,addE,setL,setN,putE,env0,eqCs,j6,eqC,bA,bO,bN,bE,negB,kEq,ke,j5,lend,frz,frzL,zRow,j9,j7,closed,jy,jW,binI,remP,remI,retK,retG,ko,retD,ki,resL,resD,oneD,renD,renL,renE,j0,rho,jL,j4,zla,zlb,zlc,zld,zca,zcb,o1,o0,og,Nat.reduceBEq,Nat.reduceAdd,Nat.beq]
  have hco : Jg (Int.tmod p.b 14) = true /\ Jg (Int.tmod p.c 12) = true := by
   unfold Jg; simp only [Bool.and_eq_true, decide_eq_true_eq]; omega
  have hsi : Qq (1 + p.d % 256 % 10) = true /\ Qq (1 + p.e % 256 % 9) = true := by
   unfold Qq; simp only [Bool.and_eq_true, decide_eq_true_eq]; omega
  refine ⟨fun _ => by omega, fun hsh => ?_, fun hsh => ?_⟩
  ·have hi2 : i < qs.length := by simp only [Bool.and_eq_true, decide_eq_true_eq] at hsh; omega
   have hqi : qs[i]? = some (s4At qs (i + 1)) := by
    unfold s4At
    rw [List.getD_eq_getElem?_getD, List.getElem?_eq_getElem (show i + 1 - 1 < qs.length by omega)]
    simp [hi2]
   have hqo := jE4 hq (i + 1)
   have hrc := YC hq (k := i + 1)
   have hof := xK hrc.1 (by simp [pRcs])
   unfold pRcs at hof
   obtain ⟨q, hqq⟩ : ∃ q, s4At qs (i + 1) = q := ⟨_, rfl⟩
   have hrow2 : (qs.map s4D)[((i : Nat) : Int).toNat]? = some (s4D q) := by rw [Int.toNat_natCast, List.getElem?_map, hqi, hqq]; rfl
   rw [hqq] at hqo hof
   unfold s4ok at hqo
   refine ⟨⟨rfl, by omega, by rw [List.length_map]; omega⟩, ky (s4D q) (s4D q) hrow2 rfl ?_⟩
   dsimp only [s4D, jn,jH,jO,jq,jF,jJ,jo,jG,jI,iteR,regK,jh,jc,jk,jj,jb,ji,blkK,kp,kd,jd,ja,jx,fpOk,foot,km,allN,memN,jK,jl,jr,jv,jt,ju,jf,jg,je,newN,jw,jN,jP,jY,jQ,jM,jS,jz,jA,jC,jD,jE,jm,jB,evX,evL,evB,rd,get,subG,memG,jT,jV,hyps,gob,impP,allP,j1,jX,j3,kj,nth,j8,kh,jU,lenB,kg,jR,entN,setE,jZ,addE,setL,setN,putE,env0,eqCs,j6,eqC,bA,bO,bN,bE,negB,kEq,ke,j5,lend,frz,frzL,zRow,j9,j7,closed,jy,jW,binI,remP,remI,retK,retG,ko,retD,ki,resL,resD,oneD,renD,renL,renE,j0,rho,jL,j4,zla,zlb,zlc,zld,zca,zcb,o1,o0,og,Nat.reduceBEq,Nat.reduceAdd,Nat.beq]
   refine ⟨by omega, qO _ rfl ?_⟩
   dsimp only [jn,jH,jO,jq,jF,jJ,jo,jG,jI,iteR,regK,jh,jc,jk,jj,jb,ji,blkK,kp,kd,jd,ja,jx,fpOk,foot,km,allN,memN,jK,jl,jr,jv,jt,ju,jf,jg,je,newN,jw,jN,jP,jY,jQ,jM,jS,jz,jA,jC,jD,jE,jm,jB,evX,evL,evB,rd,get,subG,memG,jT,jV,hyps,gob,impP,allP,j1,jX,j3,kj,nth,j8,kh,jU,lenB,kg,jR,entN,setE,jZ,addE,setL,setN,putE,env0,eqCs,j6,eqC,bA,bO,bN,bE,negB,kEq,ke,j5,lend,frz,frzL,zRow,j9,j7,closed,jy,jW,binI,remP,remI,retK,retG,ko,retD,ki,resL,resD,oneD,renD,renL,renE,j0,rho,jL,j4,zla,zlb,zlc,zld,zca,zcb,o1,o0,og,Nat.reduceBEq,Nat.reduceAdd,Nat.beq]
   refine ⟨by omega, by simp only [fits]; omega, by omega, qO _ rfl ?_⟩
   dsimp only [jn,jH,jO,jq,jF,jJ,jo,jG,jI,iteR,regK,jh,jc,jk,jj,jb,ji,blkK,kp,kd,jd,ja,jx,fpOk,foot,km,allN,memN,jK,jl,jr,jv,jt,ju,jf,jg,je,newN,jw,jN,jP,jY,jQ,jM,jS,jz,jA,jC,jD,jE,jm,jB,evX,evL,evB,rd,get,subG,memG,jT,jV,hyps,gob,impP,allP,j1,jX,j3,kj,nth,j8,kh,jU,lenB,kg,jR,entN,setE,jZ,addE,setL,setN,putE,env0,eqCs,j6,eqC,bA,bO,bN,bE,negB,kEq,ke,j5,lend,frz,frzL,zRow,j9,j7,closed,jy,jW,binI,remP,remI,retK,retG,ko,retD,ki,resL,resD,oneD,renD,renL,renE,j0,rho,jL,j4,zla,zlb,zlc,zld,zca,zcb,o1,o0,og,Nat.reduceBEq,Nat.reduceAdd,Nat.beq]
   refine ⟨by omega, by simp only [fits]; omega, by omega, qO _ rfl ?_⟩
   dsimp only [jn,jH,jO,jq,jF,jJ,jo,jG,jI,iteR,regK,jh,jc,jk,jj,jb,ji,blkK,kp,kd,jd,ja,jx,fpOk,foot,km,allN,memN,jK,jl,jr,jv,jt,ju,jf,jg,je,newN,jw,jN,jP,jY,jQ,jM,jS,jz,jA,jC,jD,jE,jm,jB,evX,evL,evB,rd,get,subG,memG,jT,jV,hyps,gob,impP,allP,j1,jX,j3,kj,nth,j8,kh,jU,lenB,kg,jR,entN,setE,jZ,addE,setL,setN,putE,env0,eqCs,j6,eqC,bA,bO,bN,bE,negB,kEq,ke,j5,lend,frz,frzL,zRow,j9,j7,closed,jy,jW,binI,remP,remI,retK,retG,ko,retD,ki,resL,resD,oneD,renD,renL,renE,j0,rho,jL,j4,zla,zlb,zlc,zld,zca,zcb,o1,o0,og,Nat.reduceBEq,Nat.reduceAdd,Nat.beq]
   refine ⟨by omega, by simp only [fits]; omega, by omega, qO _ rfl ?_⟩
   dsimp only [jn,jH,jO,jq,jF,jJ,jo,jG,jI,iteR,regK,jh,jc,jk,jj,jb,ji,blkK,kp,kd,jd,ja,jx,fpOk,foot,km,allN,memN,jK,jl,jr,jv,jt,ju,jf,jg,je,newN,jw,jN,jP,jY,jQ,jM,jS,jz,jA,jC,jD,jE,jm,jB,evX,evL,evB,rd,get,subG,memG,jT,jV,hyps,gob,impP,allP,j1,jX,j3,kj,nth,j8,kh,jU,lenB,kg,jR,entN,setE,jZ,addE,setL,setN,putE,env0,eqCs,j6,eqC,bA,bO,bN,bE,negB,kEq,ke,j5,lend,frz,frzL,zRow,j9,j7,closed,jy,jW,binI,remP,remI,retK,retG,ko,retD,ki,resL,resD,oneD,renD,renL,renE,j0,rho,jL,j4,zla,zlb,zlc,zld,zca,zcb,o1,o0,og,Nat.reduceBEq,Nat.reduceAdd,Nat.beq]
   refine ⟨by omega, by simp only [fits]; omega, kq hof ?_⟩
   dsimp only [jn,jH,jO,jq,jF,jJ,jo,jG,jI,iteR,regK,jh,jc,jk,jj,jb,ji,blkK,kp,kd,jd,ja,jx,fpOk,foot,km,allN,memN,jK,jl,jr,jv,jt,ju,jf,jg,je,newN,jw,jN,jP,jY,jQ,jM,jS,jz,jA,jC,jD,jE,jm,jB,evX,evL,evB,rd,get,subG,memG,jT,jV,hyps,gob,impP,allP,j1,jX,j3,kj,nth,j8,kh,jU,lenB,kg,jR,entN,setE,jZ,addE,setL,setN,putE,env0,eqCs,j6,eqC,bA,bO,bN,bE,negB,kEq,ke,j5,lend,frz,frzL,zRow,j9,j7,closed,jy,jW,binI,remP,remI,retK,retG,ko,retD,ki,resL,resD,oneD,renD,renL,renE,j0,rho,jL,j4,zla,zlb,zlc,zld,zca,zcb,o1,o0,og,Nat.reduceBEq,Nat.reduceAdd,Nat.beq]
   rw [show pts (allL [⟨q.1 % 8, q.2.1 % 8, q.2.2.1 % 9, q.2.2.2 % 9⟩, ⟨0, 0, 2, 2⟩]) = pts (allL (pRcs qs (i + 1))) by unfold pRcs; rw [hqq]]
   refine ⟨by omega, qO _ rfl ?_⟩
   dsimp only [jn,jH,jO,jq,jF,jJ,jo,jG,jI,iteR,regK,jh,jc,jk,jj,jb,ji,blkK,kp,kd,jd,ja,jx,fpOk,foot,km,allN,memN,jK,jl,jr,jv,jt,ju,jf,jg,je,newN,jw,jN,jP,jY,jQ,jM,jS,jz,jA,jC,jD,jE,jm,jB,evX,evL,evB,rd,get,subG,memG,jT,jV,hyps,gob,impP,allP,j1,jX,j3,kj,nth,j8,kh,jU,lenB,kg,jR,entN,setE,jZ,addE,setL,setN,putE,env0,eqCs,j6,eqC,bA,bO,bN,bE,negB,kEq,ke,j5,lend,frz,frzL,zRow,j9,j7,closed,jy,jW,binI,remP,remI,retK,retG,ko,retD,ki,resL,resD,oneD,renD,renL,renE,j0,rho,jL,j4,zla,zlb,zlc,zld,zca,zcb,o1,o0,og,Nat.reduceBEq,Nat.reduceAdd,Nat.beq]
   rw [XU hpo.1]
   have hpar : p.a % 256 % ((i : Int) + 1) = ((pPar ps (i + 1) : Nat) : Int) := by
    unfold pPar
    rw [if_neg (by omega), hpp]
    have := Int.emod_nonneg (p.a % 256) (show ((i + 1 : Nat) : Int) ≠ 0 by omega)
    rw [Int.toNat_of_nonneg this]; rfl
   have hmod := Int.emod_lt_of_pos (p.a % 256) (show (0 : Int) < (i : Int) + 1 by omega)
   refine ⟨by simp only [fits]; omega, by simp only [fits]; omega, by omega, ?_⟩
   rw [hpar]
   refine Zf (QH (n := pPar ps (i + 1)) (by have := (XZ ps).le (i + 1); omega)) ?_
   dsimp only [jn,jH,jO,jq,jF,jJ,jo,jG,jI,iteR,regK,jh,jc,jk,jj,jb,ji,blkK,kp,kd,jd,ja,jx,fpOk,foot,km,allN,memN,jK,jl,jr,jv,jt,ju,jf,jg,je,newN,jw,jN,jP,jY,jQ,jM,jS,jz,jA,jC,jD,jE,jm,jB,evX,evL,evB,rd,get,subG,memG,jT,jV,hyps,gob,impP,allP,j1,jX,j3,kj,nth,j8,kh,jU,lenB,kg,jR,entN,setE,jZ,addE,setL,setN,putE,env0,eqCs,j6,eqC,bA,bO,bN,bE,negB,kEq,ke,j5,lend,frz,frzL,zRow,j9,j7,closed,jy,jW,binI,remP,remI,retK,retG,ko,retD,ki,resL,resD,oneD,renD,renL,renE,j0,rho,jL,j4,zla,zlb,zlc,zld,zca,zcb,o1,o0,og,Nat.reduceBEq,Nat.reduceAdd,Nat.beq]
   have hadd := jD8 (ps := ps) (i := i) (by omega)
   rw [show tD (mkT (pPar ps) i) = .agg [mpD .u32 (kKV (mkT (pPar ps) i).kids), mpD .u32 (uKV (mkT (pPar ps) i).up)] from rfl, show tD (mkT (pPar ps) (i + 1)) = .agg [mpD .u32 (kKV (mkT (pPar ps) (i + 1)).kids), mpD .u32 (uKV (mkT (pPar ps) (i + 1)).up)] from rfl] at hadd
   refine Zf hadd ?_
   dsimp only [mpD, jn,jH,jO,jq,jF,jJ,jo,jG,jI,iteR,regK,jh,jc,jk,jj,jb,ji,blkK,kp,kd,jd,ja,jx,fpOk,foot,km,allN,memN,jK,jl,jr,jv,jt,ju,jf,jg,je,newN,jw,jN,jP,jY,jQ,jM,jS,jz,jA,jC,jD,jE,jm,jB,evX,evL,evB,rd,get,subG,memG,jT,jV,hyps,gob,impP,allP,j1,jX,j3,kj,nth,j8,kh,jU,lenB,kg,jR,entN,setE,jZ,addE,setL,setN,putE,env0,eqCs,j6,eqC,bA,bO,bN,bE,negB,kEq,ke,j5,lend,frz,frzL,zRow,j9,j7,closed,jy,jW,binI,remP,remI,retK,retG,ko,retD,ki,resL,resD,oneD,renD,renL,renE,j0,rho,jL,j4,zla,zlb,zlc,zld,zca,zcb,o1,o0,og,Nat.reduceBEq,Nat.reduceAdd,Nat.beq]
   have hset := jD5 (w := w) (h := h) (ps := ps) (qs := qs) (i := i) (b := ⟨Int.tmod p.b 14, Int.tmod p.c 12, 1 + p.d % 256 % 10, 1 + p.e % 256 % 9, !decide (Int.tmod p.f 5 = 0), 0, 0, true, pts (allL (pRcs qs (i + 1)))⟩) (by omega) (by unfold pBx; rw [if_neg (by omega)]; unfold pSh; rw [hpp, show (((i + 1 : Nat) : Int) - 1) = (i : Int) by omega, hsh]; rfl) hco hsi ⟨rfl, rfl⟩ (.inl rfl)
   unfold bxD at hset
   refine kq hset ?_
   dsimp only [mpD, jn,jH,jO,jq,jF,jJ,jo,jG,jI,iteR,regK,jh,jc,jk,jj,jb,ji,blkK,kp,kd,jd,ja,jx,fpOk,foot,km,allN,memN,jK,jl,jr,jv,jt,ju,jf,jg,je,newN,jw,jN,jP,jY,jQ,jM,jS,jz,jA,jC,jD,jE,jm,jB,evX,evL,evB,rd,get,subG,memG,jT,jV,hyps,gob,impP,allP,j1,jX,j3,kj,nth,j8,kh,jU,lenB,kg,jR,entN,setE,jZ,addE,setL,setN,putE,env0,eqCs,j6,eqC,bA,bO,bN,bE,negB,kEq,ke,j5,lend,frz,frzL,zRow,j9,j7,closed,jy,jW,binI,remP,remI,retK,retG,ko,retD,ki,resL,resD,oneD,renD,renL,renE,j0,rho,jL,j4,zla,zlb,zlc,zld,zca,zcb,o1,o0,og,Nat.reduceBEq,Nat.reduceAdd,Nat.beq]
   refine ⟨by simp only [fits]; omega, by simp only [fits]; omega, by omega, qO _ rfl ?_⟩
   dsimp only [jn,jH,jO,jq,jF,jJ,jo,jG,jI,iteR,regK,jh,jc,jk,jj,jb,ji,blkK,kp,kd,jd,ja,jx,fpOk,foot,km,allN,memN,jK,jl,jr,jv,jt,ju,jf,jg,je,newN,jw,jN,jP,jY,jQ,jM,jS,jz,jA,jC,jD,jE,jm,jB,evX,evL,evB,rd,get,subG,memG,jT,jV,hyps,gob,impP,allP,j1,jX,j3,kj,nth,j8,kh,jU,lenB,kg,jR,entN,setE,jZ,addE,setL,setN,putE,env0,eqCs,j6,eqC,bA,bO,bN,bE,negB,kEq,ke,j5,lend,frz,frzL,zRow,j9,j7,closed,jy,jW,binI,remP,remI,retK,retG,ko,retD,ki,resL,resD,oneD,renD,renL,renE,j0,rho,jL,j4,zla,zlb,zlc,zld,zca,zcb,o1,o0,og,Nat.reduceBEq,Nat.reduceAdd,Nat.beq]
   have hopn := jq0 (w := w) (h := h) (ps := ps) (i := i) (by omega) (by rw [hpp]; exact hpo)
   rw [hpp] at hopn
   refine ⟨by omega, kq hopn ?_⟩
   dsimp only [mpD, jn,jH,jO,jq,jF,jJ,jo,jG,jI,iteR,regK,jh,jc,jk,jj,jb,ji,blkK,kp,kd,jd,ja,jx,fpOk,foot,km,allN,memN,jK,jl,jr,jv,jt,ju,jf,jg,je,newN,jw,jN,jP,jY,jQ,jM,jS,jz,jA,jC,jD,jE,jm,jB,evX,evL,evB,rd,get,subG,memG,jT,jV,hyps,gob,impP,allP,j1,jX,j3,kj,nth,j8,kh,jU,lenB,kg,jR,entN,setE,jZ,addE,setL,setN,putE,env0,eqCs,j6,eqC,bA,bO,bN,bE,negB,kEq,ke,j5,lend,frz,frzL,zRow,j9,j7,closed,jy,jW,binI,remP,remI,retK,retG,ko,retD,ki,resL,resD,oneD,renD,renL,renE,j0,rho,jL,j4,zla,zlb,zlc,zld,zca,zcb,o1,o0,og,Nat.reduceBEq,Nat.reduceAdd,Nat.beq]
   refine ⟨fun hc => absurd hc (by simp), fun _ => ?_⟩
   refine ⟨by simp only [fits]; omega, ?_⟩
   exact qa (ih ⟨i + 1, by omega⟩ (by dsimp only; omega)) ⟨rfl, rfl, rfl, rfl, rfl, rfl, rfl, rfl, rfl, rfl, trivial⟩ ⟨rfl, rfl, rfl, rfl, rfl, rfl, rfl, trivial⟩ rfl rfl
  ·refine ⟨by omega, qO _ rfl ?_⟩
   dsimp only [jn,jH,jO,jq,jF,jJ,jo,jG,jI,iteR,regK,jh,jc,jk,jj,jb,ji,blkK,kp,kd,jd,ja,jx,fpOk,foot,km,allN,memN,jK,jl,jr,jv,jt,ju,jf,jg,je,newN,jw,jN,jP,jY,jQ,jM,jS,jz,jA,jC,jD,jE,jm,jB,evX,evL,evB,rd,get,subG,memG,jT,jV,hyps,gob,impP,allP,j1,jX,j3,kj,nth,j8,kh,jU,lenB,kg,jR,entN,setE,jZ,addE,setL,setN,putE,env0,eqCs,j6,eqC,bA,bO,bN,bE,negB,kEq,ke,j5,lend,frz,frzL,zRow,j9,j7,closed,jy,jW,binI,remP,remI,retK,retG,ko,retD,ki,resL,resD,oneD,renD,renL,renE,j0,rho,jL,j4,zla,zlb,zlc,zld,zca,zcb,o1,o0,og,Nat.reduceBEq,Nat.reduceAdd,Nat.beq]
   rw [XU hpo.1]
   have hpar : p.a % 256 % ((i : Int) + 1) = ((pPar ps (i + 1) : Nat) : Int) := by
    unfold pPar
    rw [if_neg (by omega), hpp]
    have := Int.emod_nonneg (p.a % 256) (show ((i + 1 : Nat) : Int) ≠ 0 by omega)
    rw [Int.toNat_of_nonneg this]; rfl
   have hmod := Int.emod_lt_of_pos (p.a % 256) (show (0 : Int) < (i : Int) + 1 by omega)
   refine ⟨by simp only [fits]; omega, by simp only [fits]; omega, by omega, ?_⟩
   rw [hpar]
   refine Zf (QH (n := pPar ps (i + 1)) (by have := (XZ ps).le (i + 1); omega)) ?_
   dsimp only [jn,jH,jO,jq,jF,jJ,jo,jG,jI,iteR,regK,jh,jc,jk,jj,jb,ji,blkK,kp,kd,jd,ja,jx,fpOk,foot,km,allN,memN,jK,jl,jr,jv,jt,ju,jf,jg,je,newN,jw,jN,jP,jY,jQ,jM,jS,jz,jA,jC,jD,jE,jm,jB,evX,evL,evB,rd,get,subG,memG,jT,jV,hyps,gob,impP,allP,j1,jX,j3,kj,nth,j8,kh,jU,lenB,kg,jR,entN,setE,jZ,addE,setL,setN,putE,env0,eqCs,j6,eqC,bA,bO,bN,bE,negB,kEq,ke,j5,lend,frz,frzL,zRow,j9,j7,closed,jy,jW,binI,remP,remI,retK,retG,ko,retD,ki,resL,resD,oneD,renD,renL,renE,j0,rho,jL,j4,zla,zlb,zlc,zld,zca,zcb,o1,o0,og,Nat.reduceBEq,Nat.reduceAdd,Nat.beq]
   have hadd := jD8 (ps := ps) (i := i) (by omega)
   rw [show tD (mkT (pPar ps) i) = .agg [mpD .u32 (kKV (mkT (pPar ps) i).kids), mpD .u32 (uKV (mkT (pPar ps) i).up)] from rfl, show tD (mkT (pPar ps) (i + 1)) = .agg [mpD .u32 (kKV (mkT (pPar ps) (i + 1)).kids), mpD .u32 (uKV (mkT (pPar ps) (i + 1)).up)] from rfl] at hadd
   refine Zf hadd ?_
   dsimp only [mpD, jn,jH,jO,jq,jF,jJ,jo,jG,jI,iteR,regK,jh,jc,jk,jj,jb,ji,blkK,kp,kd,jd,ja,jx,fpOk,foot,km,allN,memN,jK,jl,jr,jv,jt,ju,jf,jg,je,newN,jw,jN,jP,jY,jQ,jM,jS,jz,jA,jC,jD,jE,jm,jB,evX,evL,evB,rd,get,subG,memG,jT,jV,hyps,gob,impP,allP,j1,jX,j3,kj,nth,j8,kh,jU,lenB,kg,jR,entN,setE,jZ,addE,setL,setN,putE,env0,eqCs,j6,eqC,bA,bO,bN,bE,negB,kEq,ke,j5,lend,frz,frzL,zRow,j9,j7,closed,jy,jW,binI,remP,remI,retK,retG,ko,retD,ki,resL,resD,oneD,renD,renL,renE,j0,rho,jL,j4,zla,zlb,zlc,zld,zca,zcb,o1,o0,og,Nat.reduceBEq,Nat.reduceAdd,Nat.beq]
   have hset := jD5 (w := w) (h := h) (ps := ps) (qs := qs) (i := i) (b := ⟨Int.tmod p.b 14, Int.tmod p.c 12, 1 + p.d % 256 % 10, 1 + p.e % 256 % 9, !decide (Int.tmod p.f 5 = 0), 0, 0, false, noP⟩) (by omega) (by unfold pBx; rw [if_neg (by omega)]; unfold pSh; rw [hpp, show (((i + 1 : Nat) : Int) - 1) = (i : Int) by omega, hsh]; rfl) hco hsi ⟨rfl, rfl⟩ (.inr Kb)
   unfold bxD at hset
   rw [Kb] at hset
   refine kq hset ?_
   dsimp only [mpD, jn,jH,jO,jq,jF,jJ,jo,jG,jI,iteR,regK,jh,jc,jk,jj,jb,ji,blkK,kp,kd,jd,ja,jx,fpOk,foot,km,allN,memN,jK,jl,jr,jv,jt,ju,jf,jg,je,newN,jw,jN,jP,jY,jQ,jM,jS,jz,jA,jC,jD,jE,jm,jB,evX,evL,evB,rd,get,subG,memG,jT,jV,hyps,gob,impP,allP,j1,jX,j3,kj,nth,j8,kh,jU,lenB,kg,jR,entN,setE,jZ,addE,setL,setN,putE,env0,eqCs,j6,eqC,bA,bO,bN,bE,negB,kEq,ke,j5,lend,frz,frzL,zRow,j9,j7,closed,jy,jW,binI,remP,remI,retK,retG,ko,retD,ki,resL,resD,oneD,renD,renL,renE,j0,rho,jL,j4,zla,zlb,zlc,zld,zca,zcb,o1,o0,og,Nat.reduceBEq,Nat.reduceAdd,Nat.beq]
   refine ⟨by simp only [fits]; omega, by simp only [fits]; omega, by omega, qO _ rfl ?_⟩
   dsimp only [jn,jH,jO,jq,jF,jJ,jo,jG,jI,iteR,regK,jh,jc,jk,jj,jb,ji,blkK,kp,kd,jd,ja,jx,fpOk,foot,km,allN,memN,jK,jl,jr,jv,jt,ju,jf,jg,je,newN,jw,jN,jP,jY,jQ,jM,jS,jz,jA,jC,jD,jE,jm,jB,evX,evL,evB,rd,get,subG,memG,jT,jV,hyps,gob,impP,allP,j1,jX,j3,kj,nth,j8,kh,jU,lenB,kg,jR,entN,setE,jZ,addE,setL,setN,putE,env0,eqCs,j6,eqC,bA,bO,bN,bE,negB,kEq,ke,j5,lend,frz,frzL,zRow,j9,j7,closed,jy,jW,binI,remP,remI,retK,retG,ko,retD,ki,resL,resD,oneD,renD,renL,renE,j0,rho,jL,j4,zla,zlb,zlc,zld,zca,zcb,o1,o0,og,Nat.reduceBEq,Nat.reduceAdd,Nat.beq]
   have hopn := jq0 (w := w) (h := h) (ps := ps) (i := i) (by omega) (by rw [hpp]; exact hpo)
   rw [hpp] at hopn
   refine ⟨by omega, kq hopn ?_⟩
   dsimp only [mpD, jn,jH,jO,jq,jF,jJ,jo,jG,jI,iteR,regK,jh,jc,jk,jj,jb,ji,blkK,kp,kd,jd,ja,jx,fpOk,foot,km,allN,memN,jK,jl,jr,jv,jt,ju,jf,jg,je,newN,jw,jN,jP,jY,jQ,jM,jS,jz,jA,jC,jD,jE,jm,jB,evX,evL,evB,rd,get,subG,memG,jT,jV,hyps,gob,impP,allP,j1,jX,j3,kj,nth,j8,kh,jU,lenB,kg,jR,entN,setE,jZ,addE,setL,setN,putE,env0,eqCs,j6,eqC,bA,bO,bN,bE,negB,kEq,ke,j5,lend,frz,frzL,zRow,j9,j7,closed,jy,jW,binI,remP,remI,retK,retG,ko,retD,ki,resL,resD,oneD,renD,renL,renE,j0,rho,jL,j4,zla,zlb,zlc,zld,zca,zcb,o1,o0,og,Nat.reduceBEq,Nat.reduceAdd,Nat.beq]
   refine ⟨fun hc => absurd hc (by simp), fun _ => ?_⟩
   refine ⟨by simp only [fits]; omega, ?_⟩
   exact qa (ih ⟨i + 1, by omega⟩ (by dsimp only; omega)) ⟨rfl, rfl, rfl, rfl, rfl, rfl, rfl, rfl, rfl, rfl, trivial⟩ ⟨rfl, rfl, rfl, rfl, rfl, rfl, rfl, trivial⟩ rfl rfl
 ·have hj : i = ps.length := by simp at hj; omega
  subst hj
  rfl
end Go.AM
