import Derived.Test.YtoaialdcgmkbgaaGreatRL14

set_option linter.all false
set_option maxHeartbeats 1000000
namespace Go.AM
open Go Go.RowKit Go.Proofs
def Ws.un (S : Ws) (l : List Nat) : PS := fun x y => ∃ k ∈ l, S.cl k x y
theorem Ws.Ok.unSq {S : Ws} (h : S.Ok) {l : List Nat} : Sq (S.un l) := by
 have hs := h.size 0
 exact (xT (b := S.B 0) (by omega) (by omega)).sub fun x y ⟨k, _, hc⟩ => (h.cl_iff.1 hc).1
theorem Ws.Ok.vis_back {S : Ws} (h : S.Ok) {k : Nat} (hk : k <= S.n) : reg (mvP (S.ox k) (S.oy k) (S.vis k)) = reg (S.cl k) := xW fun x y => by
 have hb := h.orgB hk
 have hs := h.size 0
 unfold Ws.vis mvP
 rw [show x - S.ox k - -S.ox k = x by omega, show y - S.oy k - -S.oy k = y by omega]
 constructor
 ·rintro ⟨⟨h1, _⟩, _⟩; exact h1
 ·intro hc
  have := yR (h.cl_iff.1 hc).1
  exact ⟨⟨hc, by omega⟩, by omega⟩
theorem Ws.Ok.vis_in {S : Ws} (h : S.Ok) {k : Nat} {x y : Int} (hv : S.vis k x y) : q9 (S.B k) x y := by
 have h1 := (h.cl_sh hv.1).1
 rw [show x - -S.ox k - S.ox k = x by omega, show y - -S.oy k - S.oy k = y by omega] at h1
 exact h1
theorem Ws.Ok.visSq {S : Ws} (h : S.Ok) {k : Nat} : Sq (S.vis k) := by
 have hs := h.size k
 exact (xT (b := S.B k) (by omega) (by omega)).sub fun x y hv => h.vis_in hv
noncomputable def tpE (W H : Int) (ps : List Pn) (qs : List Sh4) (S : Ws) (C : Nat -> It) (P : PS) : List Ent :=
 [.cells [.int .u8 W, .int .u8 H, .ls 6 (ps.map pnD), .ls 4 (qs.map s4D)], .cells [.mp (mpK .u32 (kKV S.tr.kids)) (mpV (kKV S.tr.kids)), .mp (mpK .u32 (uKV S.tr.up)) (mpV (uKV S.tr.up))], .cells [.mp (mpK .u32 S.kv) (mpV S.kv)], .cells [.mp (mpK .u32 (cKV C S.n)) (mpV (cKV C S.n))],
  .cells [.ls 1 (iL (S.ord.map idn)), .mp (mpK .u32 (vKV S S.vs)) (mpV (vKV S S.vs))], .cells [.ls 4 (rcs (reg P))]]
noncomputable def stT1 (W H : Int) (ps : List Pn) (qs : List Sh4) (S : Ws) (C : Nat -> It) (w h : Nat) (i : Nat) : St := ⟨[(3, [], .box 1 0), (4, [], .box 2 0), (5, [], .box 3 0), (7, [], .box 4 0), (8, [], .int .i64 w), (9, [], .int .i64 h), (10, [], .box 5 0), (52, [], .ls 1 (iL (S.ord.map idn))), (53, [], .int .i64 S.ord.length), (54, [], .int .i64 i)], tpE W H ps qs S C (S.un (S.ord.take i))⟩
noncomputable def stT2 (W H : Int) (ps : List Pn) (qs : List Sh4) (S : Ws) (C : Nat -> It) (w h : Nat) (y : Nat) : St := ⟨[(3, [], .box 1 0), (4, [], .box 2 0), (5, [], .box 3 0), (7, [], .box 4 0), (8, [], .int .i64 w), (16, [], .box 6 0), (128, [], .int .i64 h), (129, [], .int .i64 y)],
 List.append (tpE W H ps qs S C (S.un S.ord)) [.cells [.int .i64 w, .int .i64 h, .ls 1 (gl w h (zI S C S.ord))]]⟩
noncomputable def stT3 (W H : Int) (ps : List Pn) (qs : List Sh4) (S : Ws) (C : Nat -> It) (w h : Nat) (y x : Nat) : St := ⟨[(3, [], .box 1 0), (4, [], .box 2 0), (5, [], .box 3 0), (7, [], .box 4 0), (8, [], .int .i64 w), (16, [], .box 6 0), (18, [], .int .i64 y), (128, [], .int .i64 h), (129, [], .int .i64 y), (132, [], .int .i64 w), (133, [], .int .i64 x)],
 List.append (tpE W H ps qs S C (S.un S.ord)) [.cells [.int .i64 w, .int .i64 h, .ls 1 (gl w h (zI S C S.ord))]]⟩
theorem pIt_ok {w h : Nat} {ps : List Pn} {qs : List Sh4} {n : Nat} (hp : ∀ p ∈ ps, pnOk p) : COk (pW w h ps qs n) (pIt w h ps) := by
 refine ⟨fun k _ => ?_, fun k _ => ?_⟩
 ·rw [show (pW w h ps qs n).B k = pBx w h ps qs k from rfl]
  unfold pIt pBx
  by_cases h0 : k = 0
  ·simp only [h0, if_true, Xm]
  ·simp only [h0, if_false]; omega
 ·rw [show (pW w h ps qs n).B k = pBx w h ps qs k from rfl]
  unfold pIt pBx
  by_cases h0 : k = 0
  ·simp only [h0, if_true, Xm]
  ·simp only [h0, if_false]; omega
theorem jq2 {W H : Int} {ps : List Pn} {qs : List Sh4} (hW : 0 <= W /\ W <= 255) (hH : 0 <= H /\ H <= 255) (hp : ∀ p ∈ ps, pnOk p) (hq : ∀ q ∈ qs, s4ok q) :
  TSp 5 [.agg [.int .u8 W, .int .u8 H, .ls 6 (ps.map pnD), .ls 4 (qs.map s4D)]] (.bool true) := by
 refine Vq (by rfl) ?_
 dsimp only [c_top_TopParts, xP, jn,jH,jO,jq,jF,jJ,jo,jG,jI,iteR,regK,jh,jc,jk,jj,jb,ji,blkK,kp,kd,jd,ja,jx,fpOk,foot,km,allN,memN,jK,jl,jr,jv,jt,ju,jf,jg,je,newN,jw,jN,jP,jY,jQ,jM,jS,jz,jA,jC,jD,jE,jm,jB,evX,evL,evB,rd,get,subG,memG,jT,jV,hyps,gob,impP,allP,j1,jX,j3,kj,nth,j8,kh,jU,lenB,kg,jR,entN,setE,jZ,addE,setL,setN,putE,env0,eqCs,j6,eqC,bA,bO,bN,bE,negB,kEq,ke,j5,lend,frz,frzL,zRow,j9,j7,closed,jy,jW,binI,remP,remI,retK,retG,ko,retD,ki,resL,resD,oneD,renD,renL,renE,j0,rho,jL,j4,zla,zlb,zlc,zld,zca,zcb,o1,o0,og,Nat.reduceBEq,Nat.reduceAdd,Nat.beq]
 rw [List.length_map]
 refine ⟨fun _ => rfl, fun hl => ?_⟩
 have hl : ps.length <= 8 := by simp only [decide_eq_false_iff_not] at hl; omega
 obtain ⟨w, hw⟩ : ∃ w : Nat, (w : Int) = 1 + W % 14 := ⟨(1 + W % 14).toNat, by omega⟩
 obtain ⟨h, hh⟩ : ∃ h : Nat, (h : Int) = 1 + H % 12 := ⟨(1 + H % 12).toNat, by omega⟩
 have hw1 : 1 <= w /\ w <= 14 := by omega
 have hh1 : 1 <= h /\ h <= 12 := by omega
 refine kq (jj2 hW hH hw hh hp hq hl) ?_
 have hS := pW_ok (w := w) (h := h) (ps := ps) (qs := qs) (n := ps.length) hw1 hh1 hq hl
 have hC := pIt_ok (w := w) (h := h) (ps := ps) (qs := qs) (n := ps.length) hp
 obtain ⟨S, hSd⟩ : ∃ S, pW w h ps qs ps.length = S := ⟨_, rfl⟩
 obtain ⟨C, hCd⟩ : ∃ C, pIt w h ps = C := ⟨_, rfl⟩
 have hn : S.n = ps.length := by rw [<- hSd]; rfl
 have htr : mkT (pPar ps) ps.length = S.tr := by rw [<- hSd]; rfl
 have hroot : ∀ x y, S.root x y ↔ Rc.has ⟨0, 0, w, h⟩ x y := fun x y => by
  rw [<- hSd]; exact Iff.rfl
 have hnum : ∀ k x y, (C k).f x y = (k : Int) := fun k x y => by
  rw [<- hCd]; unfold pIt
  by_cases h0 : k = 0
  ·simp [h0]
  ·simp [h0]
 rw [hSd] at hS hC
 rw [hCd] at hC
 rw [htr, hSd, hCd, <- hn]
 have hSn : S.n <= 8 := by omega
 clear hSd hCd htr
 dsimp only [c_top_TopParts, xP, jn,jH,jO,jq,jF,jJ,jo,jG,jI,iteR,regK,jh,jc,jk,jj,jb,ji,blkK,kp,kd,jd,ja,jx,fpOk,foot,km,allN,memN,jK,jl,jr,jv,jt,ju,jf,jg,je,newN,jw,jN,jP,jY,jQ,jM,jS,jz,jA,jC,jD,jE,jm,jB,evX,evL,evB,rd,get,subG,memG,jT,jV,hyps,gob,impP,allP,j1,jX,j3,kj,nth,j8,kh,jU,lenB,kg,jR,entN,setE,jZ,addE,setL,setN,putE,env0,eqCs,j6,eqC,bA,bO,bN,bE,negB,kEq,ke,j5,lend,frz,frzL,zRow,j9,j7,closed,jy,jW,binI,remP,remI,retK,retG,ko,retD,ki,resL,resD,oneD,renD,renL,renE,j0,rho,jL,j4,zla,zlb,zlc,zld,zca,zcb,o1,o0,og,Nat.reduceBEq,Nat.reduceAdd,Nat.beq]
 rw [show tD S.tr = .agg [mpD .u32 (kKV S.tr.kids), mpD .u32 (uKV S.tr.up)] from rfl]
 dsimp only [mpD, jn,jH,jO,jq,jF,jJ,jo,jG,jI,iteR,regK,jh,jc,jk,jj,jb,ji,blkK,kp,kd,jd,ja,jx,fpOk,foot,km,allN,memN,jK,jl,jr,jv,jt,ju,jf,jg,je,newN,jw,jN,jP,jY,jQ,jM,jS,jz,jA,jC,jD,jE,jm,jB,evX,evL,evB,rd,get,subG,memG,jT,jV,hyps,gob,impP,allP,j1,jX,j3,kj,nth,j8,kh,jU,lenB,kg,jR,entN,setE,jZ,addE,setL,setN,putE,env0,eqCs,j6,eqC,bA,bO,bN,bE,negB,kEq,ke,j5,lend,frz,frzL,zRow,j9,j7,closed,jy,jW,binI,remP,remI,retK,retG,ko,retD,ki,resL,resD,oneD,renD,renL,renE,j0,rho,jL,j4,zla,zlb,zlc,zld,zca,zcb,o1,o0,og,Nat.reduceBEq,Nat.reduceAdd,Nat.beq]
 refine ⟨nofun, fun _ => ?_⟩
 have hof := jy0 hS
 rw [show tD S.tr = .agg [mpD .u32 (kKV S.tr.kids), mpD .u32 (uKV S.tr.up)] from rfl] at hof
 unfold vwD at hof
 refine kq hof ?_
 dsimp only [mpD, jn,jH,jO,jq,jF,jJ,jo,jG,jI,iteR,regK,jh,jc,jk,jj,jb,ji,blkK,kp,kd,jd,ja,jx,fpOk,foot,km,allN,memN,jK,jl,jr,jv,jt,ju,jf,jg,je,newN,jw,jN,jP,jY,jQ,jM,jS,jz,jA,jC,jD,jE,jm,jB,evX,evL,evB,rd,get,subG,memG,jT,jV,hyps,gob,impP,allP,j1,jX,j3,kj,nth,j8,kh,jU,lenB,kg,jR,entN,setE,jZ,addE,setL,setN,putE,env0,eqCs,j6,eqC,bA,bO,bN,bE,negB,kEq,ke,j5,lend,frz,frzL,zRow,j9,j7,closed,jy,jW,binI,remP,remI,retK,retG,ko,retD,ki,resL,resD,oneD,renD,renL,renE,j0,rho,jL,j4,zla,zlb,zlc,zld,zca,zcb,o1,o0,og,Nat.reduceBEq,Nat.reduceAdd,Nat.beq]
 refine ⟨by omega, by simp only [fits]; omega, by simp only [fits]; omega, by omega, by simp only [fits]; omega, by simp only [fits]; omega, ?_⟩
 rw [<- hw, <- hh]
 have hwin := Jp hS
 unfold vwD at hwin
 refine kq hwin ?_
 dsimp only [mpD, jn,jH,jO,jq,jF,jJ,jo,jG,jI,iteR,regK,jh,jc,jk,jj,jb,ji,blkK,kp,kd,jd,ja,jx,fpOk,foot,km,allN,memN,jK,jl,jr,jv,jt,ju,jf,jg,je,newN,jw,jN,jP,jY,jQ,jM,jS,jz,jA,jC,jD,jE,jm,jB,evX,evL,evB,rd,get,subG,memG,jT,jV,hyps,gob,impP,allP,j1,jX,j3,kj,nth,j8,kh,jU,lenB,kg,jR,entN,setE,jZ,addE,setL,setN,putE,env0,eqCs,j6,eqC,bA,bO,bN,bE,negB,kEq,ke,j5,lend,frz,frzL,zRow,j9,j7,closed,jy,jW,binI,remP,remI,retK,retG,ko,retD,ki,resL,resD,oneD,renD,renL,renE,j0,rho,jL,j4,zla,zlb,zlc,zld,zca,zcb,o1,o0,og,Nat.reduceBEq,Nat.reduceAdd,Nat.beq]
 rw [qT, List.length_map]
 have hol := hS.ordLen
 refine kG (α := {i : Nat // i <= S.ord.length}) (fun i => stT1 W H ps qs S C w h i.1) (fun i => S.ord.length - i.1) ?_ ⟨0, by simp⟩ (by
  have : reg (S.un (S.ord.take 0)) = [] := (KL hS.unSq.bdd).2 fun x y ⟨k, hk, _⟩ => by simp at hk
  unfold stT1 tpE
  dsimp only
  rw [this]; rfl)
 rintro ⟨i, hi⟩ I ih
 dsimp only [stT1, tpE, jn,jH,jO,jq,jF,jJ,jo,jG,jI,iteR,regK,jh,jc,jk,jj,jb,ji,blkK,kp,kd,jd,ja,jx,fpOk,foot,km,allN,memN,jK,jl,jr,jv,jt,ju,jf,jg,je,newN,jw,jN,jP,jY,jQ,jM,jS,jz,jA,jC,jD,jE,jm,jB,evX,evL,evB,rd,get,subG,memG,jT,jV,hyps,gob,impP,allP,j1,jX,j3,kj,nth,j8,kh,jU,lenB,kg,jR,entN,setE,jZ,addE,setL,setN,putE,env0,eqCs,j6,eqC,bA,bO,bN,bE,negB,kEq,ke,j5,lend,frz,frzL,zRow,j9,j7,closed,jy,jW,binI,remP,remI,retK,retG,ko,retD,ki,resL,resD,oneD,renD,renL,renE,j0,rho,jL,j4,zla,zlb,zlc,zld,zca,zcb,o1,o0,og,Nat.reduceBEq,Nat.reduceAdd,Nat.beq]
 refine ⟨fun hj => ?_, fun hj => ?_⟩
 ·have hj : i < S.ord.length := by simp at hj; omega
  obtain ⟨k, hk⟩ : ∃ k, S.ord[i] = k := ⟨_, rfl⟩
  have hkm : k ∈ S.ord := by rw [<- hk]; exact List.getElem_mem _
  have hkn := hS.ordle hkm
  have hrow : (iL (S.ord.map idn))[((i : Nat) : Int).toNat]? = some (.int .u32 (idn k)) := by
   rw [Int.toNat_natCast]
   have := Xu (l := S.ord.map idn) (i := i) (by rw [List.length_map]; exact hj)
   rw [this]; simp [hk]
  refine ⟨⟨rfl, by omega, by rw [qT, List.length_map]; omega⟩, ky _ _ hrow rfl ?_⟩
  dsimp only [jn,jH,jO,jq,jF,jJ,jo,jG,jI,iteR,regK,jh,jc,jk,jj,jb,ji,blkK,kp,kd,jd,ja,jx,fpOk,foot,km,allN,memN,jK,jl,jr,jv,jt,ju,jf,jg,je,newN,jw,jN,jP,jY,jQ,jM,jS,jz,jA,jC,jD,jE,jm,jB,evX,evL,evB,rd,get,subG,memG,jT,jV,hyps,gob,impP,allP,j1,jX,j3,kj,nth,j8,kh,jU,lenB,kg,jR,entN,setE,jZ,addE,setL,setN,putE,env0,eqCs,j6,eqC,bA,bO,bN,bE,negB,kEq,ke,j5,lend,frz,frzL,zRow,j9,j7,closed,jy,jW,binI,remP,remI,retK,retG,ko,retD,ki,resL,resD,oneD,renD,renL,renE,j0,rho,jL,j4,zla,zlb,zlc,zld,zca,zcb,o1,o0,og,Nat.reduceBEq,Nat.reduceAdd,Nat.beq]
  have hcl := y5 hS (k := k)
  have hor := J1 hS (hS.mem_ord.1 hkm)
  have hvi := XK hS hkn
  unfold vwD rgD at hcl hvi
  unfold vwD at hor
  refine kq hcl ?_
  dsimp only [jn,jH,jO,jq,jF,jJ,jo,jG,jI,iteR,regK,jh,jc,jk,jj,jb,ji,blkK,kp,kd,jd,ja,jx,fpOk,foot,km,allN,memN,jK,jl,jr,jv,jt,ju,jf,jg,je,newN,jw,jN,jP,jY,jQ,jM,jS,jz,jA,jC,jD,jE,jm,jB,evX,evL,evB,rd,get,subG,memG,jT,jV,hyps,gob,impP,allP,j1,jX,j3,kj,nth,j8,kh,jU,lenB,kg,jR,entN,setE,jZ,addE,setL,setN,putE,env0,eqCs,j6,eqC,bA,bO,bN,bE,negB,kEq,ke,j5,lend,frz,frzL,zRow,j9,j7,closed,jy,jW,binI,remP,remI,retK,retG,ko,retD,ki,resL,resD,oneD,renD,renL,renE,j0,rho,jL,j4,zla,zlb,zlc,zld,zca,zcb,o1,o0,og,Nat.reduceBEq,Nat.reduceAdd,Nat.beq]
  refine kq hor ?_
  dsimp only [jn,jH,jO,jq,jF,jJ,jo,jG,jI,iteR,regK,jh,jc,jk,jj,jb,ji,blkK,kp,kd,jd,ja,jx,fpOk,foot,km,allN,memN,jK,jl,jr,jv,jt,ju,jf,jg,je,newN,jw,jN,jP,jY,jQ,jM,jS,jz,jA,jC,jD,jE,jm,jB,evX,evL,evB,rd,get,subG,memG,jT,jV,hyps,gob,impP,allP,j1,jX,j3,kj,nth,j8,kh,jU,lenB,kg,jR,entN,setE,jZ,addE,setL,setN,putE,env0,eqCs,j6,eqC,bA,bO,bN,bE,negB,kEq,ke,j5,lend,frz,frzL,zRow,j9,j7,closed,jy,jW,binI,remP,remI,retK,retG,ko,retD,ki,resL,resD,oneD,renD,renL,renE,j0,rho,jL,j4,zla,zlb,zlc,zld,zca,zcb,o1,o0,og,Nat.reduceBEq,Nat.reduceAdd,Nat.beq]
  have hU := hS.unSq (l := S.ord.take i)
  have hK := hS.clSq (k := k)
  have hV := hS.visSq (k := k)
  have hob := hS.orgB hkn
  have hsz := hS.size k
  have hbd := hS.bdd k
  have hA := xT (b := S.B k) (by omega) (by omega)
  refine kq (fun _ => XW hU.bdd hK.bdd (Nat.add_le_add hU.len hK.len)) ?_
  dsimp only [jn,jH,jO,jq,jF,jJ,jo,jG,jI,iteR,regK,jh,jc,jk,jj,jb,ji,blkK,kp,kd,jd,ja,jx,fpOk,foot,km,allN,memN,jK,jl,jr,jv,jt,ju,jf,jg,je,newN,jw,jN,jP,jY,jQ,jM,jS,jz,jA,jC,jD,jE,jm,jB,evX,evL,evB,rd,get,subG,memG,jT,jV,hyps,gob,impP,allP,j1,jX,j3,kj,nth,j8,kh,jU,lenB,kg,jR,entN,setE,jZ,addE,setL,setN,putE,env0,eqCs,j6,eqC,bA,bO,bN,bE,negB,kEq,ke,j5,lend,frz,frzL,zRow,j9,j7,closed,jy,jW,binI,remP,remI,retK,retG,ko,retD,ki,resL,resD,oneD,renD,renL,renE,j0,rho,jL,j4,zla,zlb,zlc,zld,zca,zcb,o1,o0,og,Nat.reduceBEq,Nat.reduceAdd,Nat.beq]
  refine kq (fun _ => ZF) ?_
  dsimp only [jn,jH,jO,jq,jF,jJ,jo,jG,jI,iteR,regK,jh,jc,jk,jj,jb,ji,blkK,kp,kd,jd,ja,jx,fpOk,foot,km,allN,memN,jK,jl,jr,jv,jt,ju,jf,jg,je,newN,jw,jN,jP,jY,jQ,jM,jS,jz,jA,jC,jD,jE,jm,jB,evX,evL,evB,rd,get,subG,memG,jT,jV,hyps,gob,impP,allP,j1,jX,j3,kj,nth,j8,kh,jU,lenB,kg,jR,entN,setE,jZ,addE,setL,setN,putE,env0,eqCs,j6,eqC,bA,bO,bN,bE,negB,kEq,ke,j5,lend,frz,frzL,zRow,j9,j7,closed,jy,jW,binI,remP,remI,retK,retG,ko,retD,ki,resL,resD,oneD,renD,renL,renE,j0,rho,jL,j4,zla,zlb,zlc,zld,zca,zcb,o1,o0,og,Nat.reduceBEq,Nat.reduceAdd,Nat.beq]
  refine kq (fun _ => hvi) ?_
  dsimp only [jn,jH,jO,jq,jF,jJ,jo,jG,jI,iteR,regK,jh,jc,jk,jj,jb,ji,blkK,kp,kd,jd,ja,jx,fpOk,foot,km,allN,memN,jK,jl,jr,jv,jt,ju,jf,jg,je,newN,jw,jN,jP,jY,jQ,jM,jS,jz,jA,jC,jD,jE,jm,jB,evX,evL,evB,rd,get,subG,memG,jT,jV,hyps,gob,impP,allP,j1,jX,j3,kj,nth,j8,kh,jU,lenB,kg,jR,entN,setE,jZ,addE,setL,setN,putE,env0,eqCs,j6,eqC,bA,bO,bN,bE,negB,kEq,ke,j5,lend,frz,frzL,zRow,j9,j7,closed,jy,jW,binI,remP,remI,retK,retG,ko,retD,ki,resL,resD,oneD,renD,renL,renE,j0,rho,jL,j4,zla,zlb,zlc,zld,zca,zcb,o1,o0,og,Nat.reduceBEq,Nat.reduceAdd,Nat.beq]
  refine kq (fun _ => ZD hV.bdd (by omega) (by omega) (Nat.le_trans hV.len (by omega))) ?_
  dsimp only [jn,jH,jO,jq,jF,jJ,jo,jG,jI,iteR,regK,jh,jc,jk,jj,jb,ji,blkK,kp,kd,jd,ja,jx,fpOk,foot,km,allN,memN,jK,jl,jr,jv,jt,ju,jf,jg,je,newN,jw,jN,jP,jY,jQ,jM,jS,jz,jA,jC,jD,jE,jm,jB,evX,evL,evB,rd,get,subG,memG,jT,jV,hyps,gob,impP,allP,j1,jX,j3,kj,nth,j8,kh,jU,lenB,kg,jR,entN,setE,jZ,addE,setL,setN,putE,env0,eqCs,j6,eqC,bA,bO,bN,bE,negB,kEq,ke,j5,lend,frz,frzL,zRow,j9,j7,closed,jy,jW,binI,remP,remI,retK,retG,ko,retD,ki,resL,resD,oneD,renD,renL,renE,j0,rho,jL,j4,zla,zlb,zlc,zld,zca,zcb,o1,o0,og,Nat.reduceBEq,Nat.reduceAdd,Nat.beq]
  refine kq (fun _ => jD9 (Nat.le_trans (hS.vis_back hkn ▸ hK.len) (by omega))) ?_
  dsimp only [jn,jH,jO,jq,jF,jJ,jo,jG,jI,iteR,regK,jh,jc,jk,jj,jb,ji,blkK,kp,kd,jd,ja,jx,fpOk,foot,km,allN,memN,jK,jl,jr,jv,jt,ju,jf,jg,je,newN,jw,jN,jP,jY,jQ,jM,jS,jz,jA,jC,jD,jE,jm,jB,evX,evL,evB,rd,get,subG,memG,jT,jV,hyps,gob,impP,allP,j1,jX,j3,kj,nth,j8,kh,jU,lenB,kg,jR,entN,setE,jZ,addE,setL,setN,putE,env0,eqCs,j6,eqC,bA,bO,bN,bE,negB,kEq,ke,j5,lend,frz,frzL,zRow,j9,j7,closed,jy,jW,binI,remP,remI,retK,retG,ko,retD,ki,resL,resD,oneD,renD,renL,renE,j0,rho,jL,j4,zla,zlb,zlc,zld,zca,zcb,o1,o0,og,Nat.reduceBEq,Nat.reduceAdd,Nat.beq]
  refine kq (fun _ => hvi) ?_
  dsimp only [jn,jH,jO,jq,jF,jJ,jo,jG,jI,iteR,regK,jh,jc,jk,jj,jb,ji,blkK,kp,kd,jd,ja,jx,fpOk,foot,km,allN,memN,jK,jl,jr,jv,jt,ju,jf,jg,je,newN,jw,jN,jP,jY,jQ,jM,jS,jz,jA,jC,jD,jE,jm,jB,evX,evL,evB,rd,get,subG,memG,jT,jV,hyps,gob,impP,allP,j1,jX,j3,kj,nth,j8,kh,jU,lenB,kg,jR,entN,setE,jZ,addE,setL,setN,putE,env0,eqCs,j6,eqC,bA,bO,bN,bE,negB,kEq,ke,j5,lend,frz,frzL,zRow,j9,j7,closed,jy,jW,binI,remP,remI,retK,retG,ko,retD,ki,resL,resD,oneD,renD,renL,renE,j0,rho,jL,j4,zla,zlb,zlc,zld,zca,zcb,o1,o0,og,Nat.reduceBEq,Nat.reduceAdd,Nat.beq]
  refine kq (fun _ => z1 S.kv_nd (S.kv_lk hkn) (by omega) (by omega) hbd.1 hbd.2) ?_
  dsimp only [rgD, jn,jH,jO,jq,jF,jJ,jo,jG,jI,iteR,regK,jh,jc,jk,jj,jb,ji,blkK,kp,kd,jd,ja,jx,fpOk,foot,km,allN,memN,jK,jl,jr,jv,jt,ju,jf,jg,je,newN,jw,jN,jP,jY,jQ,jM,jS,jz,jA,jC,jD,jE,jm,jB,evX,evL,evB,rd,get,subG,memG,jT,jV,hyps,gob,impP,allP,j1,jX,j3,kj,nth,j8,kh,jU,lenB,kg,jR,entN,setE,jZ,addE,setL,setN,putE,env0,eqCs,j6,eqC,bA,bO,bN,bE,negB,kEq,ke,j5,lend,frz,frzL,zRow,j9,j7,closed,jy,jW,binI,remP,remI,retK,retG,ko,retD,ki,resL,resD,oneD,renD,renL,renE,j0,rho,jL,j4,zla,zlb,zlc,zld,zca,zcb,o1,o0,og,Nat.reduceBEq,Nat.reduceAdd,Nat.beq]
  refine kq (fun _ => jI9 (b := true) hV.bdd hA.bdd (Nat.add_le_add hV.len hA.len) (by simp only [true_iff]; exact fun x y hv => hS.vis_in hv)) ?_
  dsimp only [rgD, jn,jH,jO,jq,jF,jJ,jo,jG,jI,iteR,regK,jh,jc,jk,jj,jb,ji,blkK,kp,kd,jd,ja,jx,fpOk,foot,km,allN,memN,jK,jl,jr,jv,jt,ju,jf,jg,je,newN,jw,jN,jP,jY,jQ,jM,jS,jz,jA,jC,jD,jE,jm,jB,evX,evL,evB,rd,get,subG,memG,jT,jV,hyps,gob,impP,allP,j1,jX,j3,kj,nth,j8,kh,jU,lenB,kg,jR,entN,setE,jZ,addE,setL,setN,putE,env0,eqCs,j6,eqC,bA,bO,bN,bE,negB,kEq,ke,j5,lend,frz,frzL,zRow,j9,j7,closed,jy,jW,binI,remP,remI,retK,retG,ko,retD,ki,resL,resD,oneD,renD,renL,renE,j0,rho,jL,j4,zla,zlb,zlc,zld,zca,zcb,o1,o0,og,Nat.reduceBEq,Nat.reduceAdd,Nat.beq]
  have hno : k ∉ S.ord.take i := fun hm => by
   have hnn := hS.ordn.sublist (List.take_sublist (i + 1) _)
   rw [List.take_succ_eq_append_getElem hj, hk, List.nodup_append] at hnn
   exact hnn.2.2 _ hm _ (by simp) rfl
  have hm : reg (fun x y => S.un (S.ord.take i) x y /\ S.cl k x y) = [] := (KL (hU.sub fun _ _ h => h.1).bdd).2 fun x y ⟨⟨k', hk', hc'⟩, hc⟩ => by
   have e1 := (hS.cl_iff.1 hc').2
   have e2 := (hS.cl_iff.1 hc).2
   exact hno (by rw [<- e2, e1]; exact hk')
  rw [ku, hm, hS.vis_back hkn]
  refine ⟨fun hc => absurd hc (by simp), fun _ => ?_⟩
  have hun := jN7 hU.bdd hK.bdd hU.len hK.len
  unfold rgD at hun
  refine kq hun ?_
  dsimp only [rgD, jn,jH,jO,jq,jF,jJ,jo,jG,jI,iteR,regK,jh,jc,jk,jj,jb,ji,blkK,kp,kd,jd,ja,jx,fpOk,foot,km,allN,memN,jK,jl,jr,jv,jt,ju,jf,jg,je,newN,jw,jN,jP,jY,jQ,jM,jS,jz,jA,jC,jD,jE,jm,jB,evX,evL,evB,rd,get,subG,memG,jT,jV,hyps,gob,impP,allP,j1,jX,j3,kj,nth,j8,kh,jU,lenB,kg,jR,entN,setE,jZ,addE,setL,setN,putE,env0,eqCs,j6,eqC,bA,bO,bN,bE,negB,kEq,ke,j5,lend,frz,frzL,zRow,j9,j7,closed,jy,jW,binI,remP,remI,retK,retG,ko,retD,ki,resL,resD,oneD,renD,renL,renE,j0,rho,jL,j4,zla,zlb,zlc,zld,zca,zcb,o1,o0,og,Nat.reduceBEq,Nat.reduceAdd,Nat.beq]
  have hsu : (fun x y => S.un (S.ord.take i) x y \/ S.cl k x y) = S.un (S.ord.take (i + 1)) := vD fun x y => by
   unfold Ws.un
   rw [List.take_succ_eq_append_getElem hj, hk]
   simp only [List.mem_append, List.mem_singleton]
   constructor
   ·rintro (⟨a, h1, h2⟩ | h2)
    ·exact ⟨a, .inl h1, h2⟩
    ·exact ⟨k, .inr rfl, h2⟩
   ·rintro ⟨a, h1 | h1, h2⟩
    ·exact .inl ⟨a, h1, h2⟩
    ·exact .inr (h1 ▸ h2)
  rw [hsu]
  refine ⟨by simp only [fits]; omega, ?_⟩
  exact qa (ih ⟨i + 1, by omega⟩ (by dsimp only; omega)) ⟨rfl, rfl, rfl, rfl, rfl, rfl, rfl, rfl, rfl, rfl, trivial⟩ ⟨rfl, rfl, rfl, rfl, rfl, rfl, trivial⟩ rfl rfl
 ·have hj : i = S.ord.length := by simp at hj; omega
  subst hj
  rw [List.take_length]
  have hall : reg (S.un S.ord) = reg fun x y => Rc.has ⟨0, 0, w, h⟩ x y := xW fun x y => by
   rw [<- hroot]
   constructor
   ·rintro ⟨k, _, hc⟩; exact (hS.cl_iff.1 hc).1
   ·intro hr
    have hc : S.cl (S.top x y) x y := hS.cl_iff.2 ⟨hr, rfl⟩
    exact ⟨_, hS.mem_ord.2 (hS.cl_key hc), hc⟩
  have vr : Vr ⟨0, 0, w, h⟩ := by unfold Vr; dsimp only; omega
  refine kq (VC vr) ?_
  dsimp only [jn,jH,jO,jq,jF,jJ,jo,jG,jI,iteR,regK,jh,jc,jk,jj,jb,ji,blkK,kp,kd,jd,ja,jx,fpOk,foot,km,allN,memN,jK,jl,jr,jv,jt,ju,jf,jg,je,newN,jw,jN,jP,jY,jQ,jM,jS,jz,jA,jC,jD,jE,jm,jB,evX,evL,evB,rd,get,subG,memG,jT,jV,hyps,gob,impP,allP,j1,jX,j3,kj,nth,j8,kh,jU,lenB,kg,jR,entN,setE,jZ,addE,setL,setN,putE,env0,eqCs,j6,eqC,bA,bO,bN,bE,negB,kEq,ke,j5,lend,frz,frzL,zRow,j9,j7,closed,jy,jW,binI,remP,remI,retK,retG,ko,retD,ki,resL,resD,oneD,renD,renL,renE,j0,rho,jL,j4,zla,zlb,zlc,zld,zca,zcb,o1,o0,og,Nat.reduceBEq,Nat.reduceAdd,Nat.beq]
  refine kq (jD9 (by have := hS.unSq (l := S.ord).len; omega)) ?_
  dsimp only [jn,jH,jO,jq,jF,jJ,jo,jG,jI,iteR,regK,jh,jc,jk,jj,jb,ji,blkK,kp,kd,jd,ja,jx,fpOk,foot,km,allN,memN,jK,jl,jr,jv,jt,ju,jf,jg,je,newN,jw,jN,jP,jY,jQ,jM,jS,jz,jA,jC,jD,jE,jm,jB,evX,evL,evB,rd,get,subG,memG,jT,jV,hyps,gob,impP,allP,j1,jX,j3,kj,nth,j8,kh,jU,lenB,kg,jR,entN,setE,jZ,addE,setL,setN,putE,env0,eqCs,j6,eqC,bA,bO,bN,bE,negB,kEq,ke,j5,lend,frz,frzL,zRow,j9,j7,closed,jy,jW,binI,remP,remI,retK,retG,ko,retD,ki,resL,resD,oneD,renD,renL,renE,j0,rho,jL,j4,zla,zlb,zlc,zld,zca,zcb,o1,o0,og,Nat.reduceBEq,Nat.reduceAdd,Nat.beq]
  refine ⟨fun hc => absurd hc (by simp [hall]), fun _ => ?_⟩
  have hsh := Yj hS hC (w := w) (h := h) (by omega) (by omega)
  unfold vwD at hsh
  refine kq hsh ?_
  dsimp only [gD, mpD, jn,jH,jO,jq,jF,jJ,jo,jG,jI,iteR,regK,jh,jc,jk,jj,jb,ji,blkK,kp,kd,jd,ja,jx,fpOk,foot,km,allN,memN,jK,jl,jr,jv,jt,ju,jf,jg,je,newN,jw,jN,jP,jY,jQ,jM,jS,jz,jA,jC,jD,jE,jm,jB,evX,evL,evB,rd,get,subG,memG,jT,jV,hyps,gob,impP,allP,j1,jX,j3,kj,nth,j8,kh,jU,lenB,kg,jR,entN,setE,jZ,addE,setL,setN,putE,env0,eqCs,j6,eqC,bA,bO,bN,bE,negB,kEq,ke,j5,lend,frz,frzL,zRow,j9,j7,closed,jy,jW,binI,remP,remI,retK,retG,ko,retD,ki,resL,resD,oneD,renD,renL,renE,j0,rho,jL,j4,zla,zlb,zlc,zld,zca,zcb,o1,o0,og,Nat.reduceBEq,Nat.reduceAdd,Nat.beq]
  have hps := jj1 (w := w) (h := h) (f := zI S C S.ord)
  unfold gD at hps
  refine kq (fun _ => hps) ?_
  dsimp only [gD, mpD, jn,jH,jO,jq,jF,jJ,jo,jG,jI,iteR,regK,jh,jc,jk,jj,jb,ji,blkK,kp,kd,jd,ja,jx,fpOk,foot,km,allN,memN,jK,jl,jr,jv,jt,ju,jf,jg,je,newN,jw,jN,jP,jY,jQ,jM,jS,jz,jA,jC,jD,jE,jm,jB,evX,evL,evB,rd,get,subG,memG,jT,jV,hyps,gob,impP,allP,j1,jX,j3,kj,nth,j8,kh,jU,lenB,kg,jR,entN,setE,jZ,addE,setL,setN,putE,env0,eqCs,j6,eqC,bA,bO,bN,bE,negB,kEq,ke,j5,lend,frz,frzL,zRow,j9,j7,closed,jy,jW,binI,remP,remI,retK,retG,ko,retD,ki,resL,resD,oneD,renD,renL,renE,j0,rho,jL,j4,zla,zlb,zlc,zld,zca,zcb,o1,o0,og,Nat.reduceBEq,Nat.reduceAdd,Nat.beq]
  refine ⟨fun hc => absurd hc (by simp), fun _ => ?_⟩
  refine VM (α := {y : Nat // y <= h}) (fun y => stT2 W H ps qs S C w h y.1) (fun y => h - y.1) ?_ ⟨0, Nat.zero_le _⟩ ⟨rfl, rfl, rfl, rfl, rfl, rfl, rfl, rfl, trivial⟩ ⟨rfl, rfl, rfl, rfl, rfl, rfl, rfl, trivial⟩ rfl rfl
  rintro ⟨y, hy⟩ I2 ih2
  dsimp only [stT2, tpE, jn,jH,jO,jq,jF,jJ,jo,jG,jI,iteR,regK,jh,jc,jk,jj,jb,ji,blkK,kp,kd,jd,ja,jx,fpOk,foot,km,allN,memN,jK,jl,jr,jv,jt,ju,jf,jg,je,newN,jw,jN,jP,jY,jQ,jM,jS,jz,jA,jC,jD,jE,jm,jB,evX,evL,evB,rd,get,subG,memG,jT,jV,hyps,gob,impP,allP,j1,jX,j3,kj,nth,j8,kh,jU,lenB,kg,jR,entN,setE,jZ,addE,setL,setN,putE,env0,eqCs,j6,eqC,bA,bO,bN,bE,negB,kEq,ke,j5,lend,frz,frzL,zRow,j9,j7,closed,jy,jW,binI,remP,remI,retK,retG,ko,retD,ki,resL,resD,oneD,renD,renL,renE,j0,rho,jL,j4,zla,zlb,zlc,zld,zca,zcb,o1,o0,og,Nat.reduceBEq,Nat.reduceAdd,Nat.beq]
  refine ⟨fun hyj => ?_, fun hyj => ?_⟩
  ·have hyj : y < h := by simp only [decide_eq_true_eq] at hyj; omega
   refine kG (α := {x : Nat // x <= w}) (fun x => stT3 W H ps qs S C w h y x.1) (fun x => w - x.1) ?_ ⟨0, Nat.zero_le _⟩ rfl
   rintro ⟨x, hx⟩ I3 ih3
   dsimp only [stT3, tpE, jn,jH,jO,jq,jF,jJ,jo,jG,jI,iteR,regK,jh,jc,jk,jj,jb,ji,blkK,kp,kd,jd,ja,jx,fpOk,foot,km,allN,memN,jK,jl,jr,jv,jt,ju,jf,jg,je,newN,jw,jN,jP,jY,jQ,jM,jS,jz,jA,jC,jD,jE,jm,jB,evX,evL,evB,rd,get,subG,memG,jT,jV,hyps,gob,impP,allP,j1,jX,j3,kj,nth,j8,kh,jU,lenB,kg,jR,entN,setE,jZ,addE,setL,setN,putE,env0,eqCs,j6,eqC,bA,bO,bN,bE,negB,kEq,ke,j5,lend,frz,frzL,zRow,j9,j7,closed,jy,jW,binI,remP,remI,retK,retG,ko,retD,ki,resL,resD,oneD,renD,renL,renE,j0,rho,jL,j4,zla,zlb,zlc,zld,zca,zcb,o1,o0,og,Nat.reduceBEq,Nat.reduceAdd,Nat.beq]
   refine ⟨fun hxj => ?_, fun hxj => ?_⟩
   ·have hxj : x < w := by simp only [decide_eq_true_eq] at hxj; omega
    have hr : S.root x y := (hroot _ _).2 (by unfold Rc.has; dsimp only; omega)
    obtain ⟨k, hk⟩ : ∃ k, S.top x y = k := ⟨_, rfl⟩
    have hc : S.cl k x y := hS.cl_iff.2 ⟨hr, hk⟩
    have hkn := hS.ordle (hS.mem_ord.2 (hS.cl_key hc))
    have hat := jy1 hS hr
    have hlo := Yk hS hC hr
    have hcl := y5 hS (k := k)
    have hha := VB hS (k := k) (x := x) (y := y) (b := true) (by simp [hc])
    have hpx := (jE1 hS hC hr).2
    rw [hk, hnum] at hpx
    rw [hk] at hat hlo
    rw [hpx] at hlo
    rw [show tD S.tr = .agg [mpD .u32 (kKV S.tr.kids), mpD .u32 (uKV S.tr.up)] from rfl] at hlo
    have hga := jO2 (w := w) (h := h) (f := zI S C S.ord) (x := x) (y := y) (by omega) (by omega) (by unfold inP; omega)
    rw [hpx] at hga
    unfold gD at hga
    unfold vwD at hat
    unfold vwD rgD at hcl
    unfold rgD at hha
    refine kq hat ?_
    dsimp only [mpD, jn,jH,jO,jq,jF,jJ,jo,jG,jI,iteR,regK,jh,jc,jk,jj,jb,ji,blkK,kp,kd,jd,ja,jx,fpOk,foot,km,allN,memN,jK,jl,jr,jv,jt,ju,jf,jg,je,newN,jw,jN,jP,jY,jQ,jM,jS,jz,jA,jC,jD,jE,jm,jB,evX,evL,evB,rd,get,subG,memG,jT,jV,hyps,gob,impP,allP,j1,jX,j3,kj,nth,j8,kh,jU,lenB,kg,jR,entN,setE,jZ,addE,setL,setN,putE,env0,eqCs,j6,eqC,bA,bO,bN,bE,negB,kEq,ke,j5,lend,frz,frzL,zRow,j9,j7,closed,jy,jW,binI,remP,remI,retK,retG,ko,retD,ki,resL,resD,oneD,renD,renL,renE,j0,rho,jL,j4,zla,zlb,zlc,zld,zca,zcb,o1,o0,og,Nat.reduceBEq,Nat.reduceAdd,Nat.beq]
    refine kq hlo ?_
    dsimp only [mpD, jn,jH,jO,jq,jF,jJ,jo,jG,jI,iteR,regK,jh,jc,jk,jj,jb,ji,blkK,kp,kd,jd,ja,jx,fpOk,foot,km,allN,memN,jK,jl,jr,jv,jt,ju,jf,jg,je,newN,jw,jN,jP,jY,jQ,jM,jS,jz,jA,jC,jD,jE,jm,jB,evX,evL,evB,rd,get,subG,memG,jT,jV,hyps,gob,impP,allP,j1,jX,j3,kj,nth,j8,kh,jU,lenB,kg,jR,entN,setE,jZ,addE,setL,setN,putE,env0,eqCs,j6,eqC,bA,bO,bN,bE,negB,kEq,ke,j5,lend,frz,frzL,zRow,j9,j7,closed,jy,jW,binI,remP,remI,retK,retG,ko,retD,ki,resL,resD,oneD,renD,renL,renE,j0,rho,jL,j4,zla,zlb,zlc,zld,zca,zcb,o1,o0,og,Nat.reduceBEq,Nat.reduceAdd,Nat.beq]
    refine kq (fun _ => hcl) ?_
    dsimp only [mpD, jn,jH,jO,jq,jF,jJ,jo,jG,jI,iteR,regK,jh,jc,jk,jj,jb,ji,blkK,kp,kd,jd,ja,jx,fpOk,foot,km,allN,memN,jK,jl,jr,jv,jt,ju,jf,jg,je,newN,jw,jN,jP,jY,jQ,jM,jS,jz,jA,jC,jD,jE,jm,jB,evX,evL,evB,rd,get,subG,memG,jT,jV,hyps,gob,impP,allP,j1,jX,j3,kj,nth,j8,kh,jU,lenB,kg,jR,entN,setE,jZ,addE,setL,setN,putE,env0,eqCs,j6,eqC,bA,bO,bN,bE,negB,kEq,ke,j5,lend,frz,frzL,zRow,j9,j7,closed,jy,jW,binI,remP,remI,retK,retG,ko,retD,ki,resL,resD,oneD,renD,renL,renE,j0,rho,jL,j4,zla,zlb,zlc,zld,zca,zcb,o1,o0,og,Nat.reduceBEq,Nat.reduceAdd,Nat.beq]
    refine kq (fun _ => hha) ?_
    dsimp only [mpD, jn,jH,jO,jq,jF,jJ,jo,jG,jI,iteR,regK,jh,jc,jk,jj,jb,ji,blkK,kp,kd,jd,ja,jx,fpOk,foot,km,allN,memN,jK,jl,jr,jv,jt,ju,jf,jg,je,newN,jw,jN,jP,jY,jQ,jM,jS,jz,jA,jC,jD,jE,jm,jB,evX,evL,evB,rd,get,subG,memG,jT,jV,hyps,gob,impP,allP,j1,jX,j3,kj,nth,j8,kh,jU,lenB,kg,jR,entN,setE,jZ,addE,setL,setN,putE,env0,eqCs,j6,eqC,bA,bO,bN,bE,negB,kEq,ke,j5,lend,frz,frzL,zRow,j9,j7,closed,jy,jW,binI,remP,remI,retK,retG,ko,retD,ki,resL,resD,oneD,renD,renL,renE,j0,rho,jL,j4,zla,zlb,zlc,zld,zca,zcb,o1,o0,og,Nat.reduceBEq,Nat.reduceAdd,Nat.beq]
    refine kq (fun _ => hga) ?_
    dsimp only [mpD, jn,jH,jO,jq,jF,jJ,jo,jG,jI,iteR,regK,jh,jc,jk,jj,jb,ji,blkK,kp,kd,jd,ja,jx,fpOk,foot,km,allN,memN,jK,jl,jr,jv,jt,ju,jf,jg,je,newN,jw,jN,jP,jY,jQ,jM,jS,jz,jA,jC,jD,jE,jm,jB,evX,evL,evB,rd,get,subG,memG,jT,jV,hyps,gob,impP,allP,j1,jX,j3,kj,nth,j8,kh,jU,lenB,kg,jR,entN,setE,jZ,addE,setL,setN,putE,env0,eqCs,j6,eqC,bA,bO,bN,bE,negB,kEq,ke,j5,lend,frz,frzL,zRow,j9,j7,closed,jy,jW,binI,remP,remI,retK,retG,ko,retD,ki,resL,resD,oneD,renD,renL,renE,j0,rho,jL,j4,zla,zlb,zlc,zld,zca,zcb,o1,o0,og,Nat.reduceBEq,Nat.reduceAdd,Nat.beq]
    refine kq (fun _ => hga) ?_
    dsimp only [mpD, jn,jH,jO,jq,jF,jJ,jo,jG,jI,iteR,regK,jh,jc,jk,jj,jb,ji,blkK,kp,kd,jd,ja,jx,fpOk,foot,km,allN,memN,jK,jl,jr,jv,jt,ju,jf,jg,je,newN,jw,jN,jP,jY,jQ,jM,jS,jz,jA,jC,jD,jE,jm,jB,evX,evL,evB,rd,get,subG,memG,jT,jV,hyps,gob,impP,allP,j1,jX,j3,kj,nth,j8,kh,jU,lenB,kg,jR,entN,setE,jZ,addE,setL,setN,putE,env0,eqCs,j6,eqC,bA,bO,bN,bE,negB,kEq,ke,j5,lend,frz,frzL,zRow,j9,j7,closed,jy,jW,binI,remP,remI,retK,retG,ko,retD,ki,resL,resD,oneD,renD,renL,renE,j0,rho,jL,j4,zla,zlb,zlc,zld,zca,zcb,o1,o0,og,Nat.reduceBEq,Nat.reduceAdd,Nat.beq]
    refine kq (fun _ => Yl (by omega)) ?_
    dsimp only [mpD, jn,jH,jO,jq,jF,jJ,jo,jG,jI,iteR,regK,jh,jc,jk,jj,jb,ji,blkK,kp,kd,jd,ja,jx,fpOk,foot,km,allN,memN,jK,jl,jr,jv,jt,ju,jf,jg,je,newN,jw,jN,jP,jY,jQ,jM,jS,jz,jA,jC,jD,jE,jm,jB,evX,evL,evB,rd,get,subG,memG,jT,jV,hyps,gob,impP,allP,j1,jX,j3,kj,nth,j8,kh,jU,lenB,kg,jR,entN,setE,jZ,addE,setL,setN,putE,env0,eqCs,j6,eqC,bA,bO,bN,bE,negB,kEq,ke,j5,lend,frz,frzL,zRow,j9,j7,closed,jy,jW,binI,remP,remI,retK,retG,ko,retD,ki,resL,resD,oneD,renD,renL,renE,j0,rho,jL,j4,zla,zlb,zlc,zld,zca,zcb,o1,o0,og,Nat.reduceBEq,Nat.reduceAdd,Nat.beq]
    refine ⟨fun _ => by simp only [fits]; omega, fun hc => absurd hc (by simp), fun _ => ?_⟩
    refine ⟨by simp only [fits]; omega, ?_⟩
    exact qa (ih3 ⟨x + 1, by omega⟩ (by dsimp only; omega)) ⟨rfl, rfl, rfl, rfl, rfl, rfl, rfl, rfl, rfl, rfl, rfl, trivial⟩ ⟨rfl, rfl, rfl, rfl, rfl, rfl, rfl, trivial⟩ rfl rfl
   ·refine ⟨by simp only [fits]; omega, ?_⟩
    exact qa (ih2 ⟨y + 1, by omega⟩ (by dsimp only; omega)) ⟨rfl, rfl, rfl, rfl, rfl, rfl, rfl, rfl, trivial⟩ ⟨rfl, rfl, rfl, rfl, rfl, rfl, rfl, trivial⟩ rfl rfl
  ·first | rfl | trivial
end Go.AM
