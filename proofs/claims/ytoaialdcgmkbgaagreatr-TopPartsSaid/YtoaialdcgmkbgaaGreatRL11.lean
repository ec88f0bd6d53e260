import Derived.Test.YtoaialdcgmkbgaaGreatRL9

set_option linter.all false
namespace Go.AM
open Go Go.RowKit Go.Proofs
theorem Xi {b : Bx} (hw : b.w <= 16) (hh : b.h <= 16) {x y : Int} {o : Bool} (hb : o = true ↔ q9 b x y) : TSp 45 [rgD (q9 b), .int .i64 x, .int .i64 y] (.bool o) :=
 have hq := xT hw hh
 jN9 (jk4 hq.bdd) (x9 hq.bdd) (Nat.le_trans hq.len (by omega)) (by rw [hb, y7 hq.bdd])
theorem jc3 {S : Ws} (hS : S.Ok) {x y : Int} {o : Bool} (hb : o = true ↔ S.root x y) : TSp 105 [.agg [mpD .u32 S.kv], .int .u32 1, .int .i64 x, .int .i64 y] (.tup [.int .i64 x, .int .i64 y, .bool o]) := by
 have hsz := hS.size 0
 have hbd := hS.bdd 0
 refine vO (by rfl) ?_
 dsimp only [c_screen_there, qk, mpD, jn,jH,jO,jq,jF,jJ,jo,jG,jI,iteR,regK,jh,jc,jk,jj,jb,ji,blkK,kp,kd,jd,ja,jx,fpOk,foot,km,allN,memN,jK,jl,jr,jv,jt,ju,jf,jg,je,newN,jw,jN,jP,jY,jQ,jM,jS,jz,jA,jC,jD,jE,jm,jB,evX,evL,evB,rd,get,subG,memG,jT,jV,hyps,gob,impP,allP,j1,jX,j3,kj,nth,j8,kh,jU,lenB,kg,jR,entN,setE,jZ,addE,setL,setN,putE,env0,eqCs,j6,eqC,bA,bO,bN,bE,negB,kEq,ke,j5,lend,frz,frzL,zRow,j9,j7,closed,jy,jW,binI,remP,remI,retK,retG,ko,retD,ki,resL,resD,oneD,renD,renL,renE,j0,rho,jL,j4,zla,zlb,zlc,zld,zca,zcb,o1,o0,og,Nat.reduceBEq,Nat.reduceAdd,Nat.beq]
 refine kq (vC S.kv_nd (S.kv_lk (k := 0) (Nat.zero_le _))) ?_
 dsimp only [c_screen_there, qk, bxD, jn,jH,jO,jq,jF,jJ,jo,jG,jI,iteR,regK,jh,jc,jk,jj,jb,ji,blkK,kp,kd,jd,ja,jx,fpOk,foot,km,allN,memN,jK,jl,jr,jv,jt,ju,jf,jg,je,newN,jw,jN,jP,jY,jQ,jM,jS,jz,jA,jC,jD,jE,jm,jB,evX,evL,evB,rd,get,subG,memG,jT,jV,hyps,gob,impP,allP,j1,jX,j3,kj,nth,j8,kh,jU,lenB,kg,jR,entN,setE,jZ,addE,setL,setN,putE,env0,eqCs,j6,eqC,bA,bO,bN,bE,negB,kEq,ke,j5,lend,frz,frzL,zRow,j9,j7,closed,jy,jW,binI,remP,remI,retK,retG,ko,retD,ki,resL,resD,oneD,renD,renL,renE,j0,rho,jL,j4,zla,zlb,zlc,zld,zca,zcb,o1,o0,og,Nat.reduceBEq,Nat.reduceAdd,Nat.beq]
 refine ⟨fun h => absurd h (by simp), fun _ => ?_⟩
 refine ⟨fun h => absurd h (by simp), fun _ => ?_⟩
 refine kq (z1 S.kv_nd (S.kv_lk (k := 0) (Nat.zero_le _)) (by omega) (by omega) hbd.1 hbd.2) ?_
 dsimp only [c_screen_there, qk, jn,jH,jO,jq,jF,jJ,jo,jG,jI,iteR,regK,jh,jc,jk,jj,jb,ji,blkK,kp,kd,jd,ja,jx,fpOk,foot,km,allN,memN,jK,jl,jr,jv,jt,ju,jf,jg,je,newN,jw,jN,jP,jY,jQ,jM,jS,jz,jA,jC,jD,jE,jm,jB,evX,evL,evB,rd,get,subG,memG,jT,jV,hyps,gob,impP,allP,j1,jX,j3,kj,nth,j8,kh,jU,lenB,kg,jR,entN,setE,jZ,addE,setL,setN,putE,env0,eqCs,j6,eqC,bA,bO,bN,bE,negB,kEq,ke,j5,lend,frz,frzL,zRow,j9,j7,closed,jy,jW,binI,remP,remI,retK,retG,ko,retD,ki,resL,resD,oneD,renD,renL,renE,j0,rho,jL,j4,zla,zlb,zlc,zld,zca,zcb,o1,o0,og,Nat.reduceBEq,Nat.reduceAdd,Nat.beq]
 refine kq (Xi (by omega) (by omega) hb) ?_
 dsimp only [c_screen_there, qk, jn,jH,jO,jq,jF,jJ,jo,jG,jI,iteR,regK,jh,jc,jk,jj,jb,ji,blkK,kp,kd,jd,ja,jx,fpOk,foot,km,allN,memN,jK,jl,jr,jv,jt,ju,jf,jg,je,newN,jw,jN,jP,jY,jQ,jM,jS,jz,jA,jC,jD,jE,jm,jB,evX,evL,evB,rd,get,subG,memG,jT,jV,hyps,gob,impP,allP,j1,jX,j3,kj,nth,j8,kh,jU,lenB,kg,jR,entN,setE,jZ,addE,setL,setN,putE,env0,eqCs,j6,eqC,bA,bO,bN,bE,negB,kEq,ke,j5,lend,frz,frzL,zRow,j9,j7,closed,jy,jW,binI,remP,remI,retK,retG,ko,retD,ki,resL,resD,oneD,renD,renL,renE,j0,rho,jL,j4,zla,zlb,zlc,zld,zca,zcb,o1,o0,og,Nat.reduceBEq,Nat.reduceAdd,Nat.beq]
theorem ji8 {S : Ws} (hS : S.Ok) {k : Nat} (hk : 1 <= k /\ k <= S.n) (hon : (S.B k).on = false) {x y : Int} : TSp 105 [.agg [mpD .u32 S.kv], .int .u32 (idn k), .int .i64 x, .int .i64 y] (.tup [.int .i64 0, .int .i64 0, .bool false]) := by
 have h1 : idn k ≠ 1 := fun h => by have := Jf.1 h; omega
 refine vO (by rfl) ?_
 dsimp only [c_screen_there, qk, mpD, jn,jH,jO,jq,jF,jJ,jo,jG,jI,iteR,regK,jh,jc,jk,jj,jb,ji,blkK,kp,kd,jd,ja,jx,fpOk,foot,km,allN,memN,jK,jl,jr,jv,jt,ju,jf,jg,je,newN,jw,jN,jP,jY,jQ,jM,jS,jz,jA,jC,jD,jE,jm,jB,evX,evL,evB,rd,get,subG,memG,jT,jV,hyps,gob,impP,allP,j1,jX,j3,kj,nth,j8,kh,jU,lenB,kg,jR,entN,setE,jZ,addE,setL,setN,putE,env0,eqCs,j6,eqC,bA,bO,bN,bE,negB,kEq,ke,j5,lend,frz,frzL,zRow,j9,j7,closed,jy,jW,binI,remP,remI,retK,retG,ko,retD,ki,resL,resD,oneD,renD,renL,renE,j0,rho,jL,j4,zla,zlb,zlc,zld,zca,zcb,o1,o0,og,Nat.reduceBEq,Nat.reduceAdd,Nat.beq]
 refine kq (vC S.kv_nd (S.kv_lk hk.2)) ?_
 dsimp only [c_screen_there, qk, bxD, jn,jH,jO,jq,jF,jJ,jo,jG,jI,iteR,regK,jh,jc,jk,jj,jb,ji,blkK,kp,kd,jd,ja,jx,fpOk,foot,km,allN,memN,jK,jl,jr,jv,jt,ju,jf,jg,je,newN,jw,jN,jP,jY,jQ,jM,jS,jz,jA,jC,jD,jE,jm,jB,evX,evL,evB,rd,get,subG,memG,jT,jV,hyps,gob,impP,allP,j1,jX,j3,kj,nth,j8,kh,jU,lenB,kg,jR,entN,setE,jZ,addE,setL,setN,putE,env0,eqCs,j6,eqC,bA,bO,bN,bE,negB,kEq,ke,j5,lend,frz,frzL,zRow,j9,j7,closed,jy,jW,binI,remP,remI,retK,retG,ko,retD,ki,resL,resD,oneD,renD,renL,renE,j0,rho,jL,j4,zla,zlb,zlc,zld,zca,zcb,o1,o0,og,Nat.reduceBEq,Nat.reduceAdd,Nat.beq]
 rw [hon]
 refine ⟨fun _ => ?_, fun h => absurd h (by simp [h1])⟩
 first | rfl | trivial
theorem jp9 {S : Ws} (hS : S.Ok) {k : Nat} (hk : 1 <= k /\ k <= S.n) (hon : (S.B k).on = true) {x y : Int} (hx : -100000 <= x /\ x <= 100000) (hy : -100000 <= y /\ y <= 100000) {o : Bool} (hb : o = true ↔ q9 (S.B k) (x - (S.B k).x) (y - (S.B k).y)) :
  TSp 105 [.agg [mpD .u32 S.kv], .int .u32 (idn k), .int .i64 x, .int .i64 y] (.tup [.int .i64 (x - (S.B k).x), .int .i64 (y - (S.B k).y), .bool o]) := by
 have h1 : idn k ≠ 1 := fun h => by have := Jf.1 h; omega
 have hsz := hS.size k
 have hbd := hS.bdd k
 have hx1 := hS.x k hk.1
 have hy1 := hS.y k hk.1
 refine vO (by rfl) ?_
 dsimp only [c_screen_there, qk, mpD, jn,jH,jO,jq,jF,jJ,jo,jG,jI,iteR,regK,jh,jc,jk,jj,jb,ji,blkK,kp,kd,jd,ja,jx,fpOk,foot,km,allN,memN,jK,jl,jr,jv,jt,ju,jf,jg,je,newN,jw,jN,jP,jY,jQ,jM,jS,jz,jA,jC,jD,jE,jm,jB,evX,evL,evB,rd,get,subG,memG,jT,jV,hyps,gob,impP,allP,j1,jX,j3,kj,nth,j8,kh,jU,lenB,kg,jR,entN,setE,jZ,addE,setL,setN,putE,env0,eqCs,j6,eqC,bA,bO,bN,bE,negB,kEq,ke,j5,lend,frz,frzL,zRow,j9,j7,closed,jy,jW,binI,remP,remI,retK,retG,ko,retD,ki,resL,resD,oneD,renD,renL,renE,j0,rho,jL,j4,zla,zlb,zlc,zld,zca,zcb,o1,o0,og,Nat.reduceBEq,Nat.reduceAdd,Nat.beq]
 refine kq (vC S.kv_nd (S.kv_lk hk.2)) ?_
 dsimp only [c_screen_there, qk, bxD, jn,jH,jO,jq,jF,jJ,jo,jG,jI,iteR,regK,jh,jc,jk,jj,jb,ji,blkK,kp,kd,jd,ja,jx,fpOk,foot,km,allN,memN,jK,jl,jr,jv,jt,ju,jf,jg,je,newN,jw,jN,jP,jY,jQ,jM,jS,jz,jA,jC,jD,jE,jm,jB,evX,evL,evB,rd,get,subG,memG,jT,jV,hyps,gob,impP,allP,j1,jX,j3,kj,nth,j8,kh,jU,lenB,kg,jR,entN,setE,jZ,addE,setL,setN,putE,env0,eqCs,j6,eqC,bA,bO,bN,bE,negB,kEq,ke,j5,lend,frz,frzL,zRow,j9,j7,closed,jy,jW,binI,remP,remI,retK,retG,ko,retD,ki,resL,resD,oneD,renD,renL,renE,j0,rho,jL,j4,zla,zlb,zlc,zld,zca,zcb,o1,o0,og,Nat.reduceBEq,Nat.reduceAdd,Nat.beq]
 rw [hon]
 refine ⟨fun h => absurd h (by simp), fun _ => ?_⟩
 refine ⟨fun _ => ?_, fun h => absurd h (by simp [h1])⟩
 refine ⟨by simp only [fits]; omega, by simp only [fits]; omega, ?_⟩
 refine kq (z1 S.kv_nd (S.kv_lk hk.2) (by omega) (by omega) hbd.1 hbd.2) ?_
 dsimp only [c_screen_there, qk, jn,jH,jO,jq,jF,jJ,jo,jG,jI,iteR,regK,jh,jc,jk,jj,jb,ji,blkK,kp,kd,jd,ja,jx,fpOk,foot,km,allN,memN,jK,jl,jr,jv,jt,ju,jf,jg,je,newN,jw,jN,jP,jY,jQ,jM,jS,jz,jA,jC,jD,jE,jm,jB,evX,evL,evB,rd,get,subG,memG,jT,jV,hyps,gob,impP,allP,j1,jX,j3,kj,nth,j8,kh,jU,lenB,kg,jR,entN,setE,jZ,addE,setL,setN,putE,env0,eqCs,j6,eqC,bA,bO,bN,bE,negB,kEq,ke,j5,lend,frz,frzL,zRow,j9,j7,closed,jy,jW,binI,remP,remI,retK,retG,ko,retD,ki,resL,resD,oneD,renD,renL,renE,j0,rho,jL,j4,zla,zlb,zlc,zld,zca,zcb,o1,o0,og,Nat.reduceBEq,Nat.reduceAdd,Nat.beq]
 refine kq (Xi (by omega) (by omega) hb) ?_
 dsimp only [c_screen_there, qk, jn,jH,jO,jq,jF,jJ,jo,jG,jI,iteR,regK,jh,jc,jk,jj,jb,ji,blkK,kp,kd,jd,ja,jx,fpOk,foot,km,allN,memN,jK,jl,jr,jv,jt,ju,jf,jg,je,newN,jw,jN,jP,jY,jQ,jM,jS,jz,jA,jC,jD,jE,jm,jB,evX,evL,evB,rd,get,subG,memG,jT,jV,hyps,gob,impP,allP,j1,jX,j3,kj,nth,j8,kh,jU,lenB,kg,jR,entN,setE,jZ,addE,setL,setN,putE,env0,eqCs,j6,eqC,bA,bO,bN,bE,negB,kEq,ke,j5,lend,frz,frzL,zRow,j9,j7,closed,jy,jW,binI,remP,remI,retK,retG,ko,retD,ki,resL,resD,oneD,renD,renL,renE,j0,rho,jL,j4,zla,zlb,zlc,zld,zca,zcb,o1,o0,og,Nat.reduceBEq,Nat.reduceAdd,Nat.beq]
theorem QV {S : Sc} {x y : Int} {b : List Nat} : ∀ {a : List Nat}, zh S x y (a ++ b) = match zh S x y a with | some j => some j | none => zh S x y b
 | [] => rfl
 | i :: a => by
   simp only [List.cons_append, zh]
   split
   ·rfl
   ·exact QV
structure LkX where
 m : Nat
 k : Nat
noncomputable def lkE (S : Ws) (C : Nat -> It) : List Ent := [.cells [.mp (mpK .u32 (kKV S.tr.kids)) (mpV (kKV S.tr.kids)), .mp (mpK .u32 (uKV S.tr.up)) (mpV (uKV S.tr.up))], .cells [.mp (mpK .u32 S.kv) (mpV S.kv)], .cells [.mp (mpK .u32 (cKV C S.n)) (mpV (cKV C S.n))]]
noncomputable def stLk (S : Ws) (C : Nat -> It) (x y : Int) (k : Nat) : St := ⟨[(3, [], .int .i64 (x - S.ox k)), (4, [], .int .i64 (y - S.oy k)), (5, [], .box 0 0), (6, [], .box 1 0), (7, [], .box 2 0), (12, [], .int .u32 (idn k))], lkE S C⟩
noncomputable def stLi (S : Ws) (C : Nat -> It) (x y : Int) (k : Nat) (ks : List Nat) (r : Nat) : St := ⟨[(3, [], .int .i64 (x - S.ox k)), (4, [], .int .i64 (y - S.oy k)), (5, [], .box 0 0), (6, [], .box 1 0), (7, [], .box 2 0), (12, [], .int .u32 (idn k)), (14, [], .ls 1 (iL (ks.map idn))), (15, [], .int .i64 (-1)), (16, [], .int .i64 ((ks.length : Int) - 1 - r))], lkE S C⟩
theorem Yk {S : Ws} (hS : S.Ok) {C : Nat -> It} (hC : COk S C) {x y : Int} (hr : S.root x y) :
  TSp 44 [tD S.tr, .agg [mpD .u32 S.kv], .agg [mpD .u32 (cKV C S.n)], .int .i64 x, .int .i64 y] (.tup [.int .u8 (zI S C S.ord x y), .int .u32 (idn (S.top x y))]) := by
 have hn := hS.few
 have hT := hS.T
 obtain ⟨hin, hpx⟩ := jE1 hS hC hr
 have hrt := yR hr
 have hsz0 := hS.size 0
 rw [hpx]
 refine XE (by rfl) ?_
 dsimp only [c_screen_Look, ya, jn,jH,jO,jq,jF,jJ,jo,jG,jI,iteR,regK,jh,jc,jk,jj,jb,ji,blkK,kp,kd,jd,ja,jx,fpOk,foot,km,allN,memN,jK,jl,jr,jv,jt,ju,jf,jg,je,newN,jw,jN,jP,jY,jQ,jM,jS,jz,jA,jC,jD,jE,jm,jB,evX,evL,evB,rd,get,subG,memG,jT,jV,hyps,gob,impP,allP,j1,jX,j3,kj,nth,j8,kh,jU,lenB,kg,jR,entN,setE,jZ,addE,setL,setN,putE,env0,eqCs,j6,eqC,bA,bO,bN,bE,negB,kEq,ke,j5,lend,frz,frzL,zRow,j9,j7,closed,jy,jW,binI,remP,remI,retK,retG,ko,retD,ki,resL,resD,oneD,renD,renL,renE,j0,rho,jL,j4,zla,zlb,zlc,zld,zca,zcb,o1,o0,og,Nat.reduceBEq,Nat.reduceAdd,Nat.beq]
 rw [show tD S.tr = .agg [mpD .u32 (kKV S.tr.kids), mpD .u32 (uKV S.tr.up)] from rfl]
 dsimp only [mpD, jn,jH,jO,jq,jF,jJ,jo,jG,jI,iteR,regK,jh,jc,jk,jj,jb,ji,blkK,kp,kd,jd,ja,jx,fpOk,foot,km,allN,memN,jK,jl,jr,jv,jt,ju,jf,jg,je,newN,jw,jN,jP,jY,jQ,jM,jS,jz,jA,jC,jD,jE,jm,jB,evX,evL,evB,rd,get,subG,memG,jT,jV,hyps,gob,impP,allP,j1,jX,j3,kj,nth,j8,kh,jU,lenB,kg,jR,entN,setE,jZ,addE,setL,setN,putE,env0,eqCs,j6,eqC,bA,bO,bN,bE,negB,kEq,ke,j5,lend,frz,frzL,zRow,j9,j7,closed,jy,jW,binI,remP,remI,retK,retG,ko,retD,ki,resL,resD,oneD,renD,renL,renE,j0,rho,jL,j4,zla,zlb,zlc,zld,zca,zcb,o1,o0,og,Nat.reduceBEq,Nat.reduceAdd,Nat.beq]
 refine kq (jc3 hS (o := true) (by simp [hr])) ?_
 dsimp only [c_screen_Look, ya, jn,jH,jO,jq,jF,jJ,jo,jG,jI,iteR,regK,jh,jc,jk,jj,jb,ji,blkK,kp,kd,jd,ja,jx,fpOk,foot,km,allN,memN,jK,jl,jr,jv,jt,ju,jf,jg,je,newN,jw,jN,jP,jY,jQ,jM,jS,jz,jA,jC,jD,jE,jm,jB,evX,evL,evB,rd,get,subG,memG,jT,jV,hyps,gob,impP,allP,j1,jX,j3,kj,nth,j8,kh,jU,lenB,kg,jR,entN,setE,jZ,addE,setL,setN,putE,env0,eqCs,j6,eqC,bA,bO,bN,bE,negB,kEq,ke,j5,lend,frz,frzL,zRow,j9,j7,closed,jy,jW,binI,remP,remI,retK,retG,ko,retD,ki,resL,resD,oneD,renD,renL,renE,j0,rho,jL,j4,zla,zlb,zlc,zld,zca,zcb,o1,o0,og,Nat.reduceBEq,Nat.reduceAdd,Nat.beq]
 refine ⟨nofun, fun _ => ?_⟩
 have hx0 : x - S.ox 0 = x := by unfold Ws.ox; rw [ZO, Int.sub_zero]
 have hy0 : y - S.oy 0 = y := by unfold Ws.oy; rw [ZO, Int.sub_zero]
 refine VM (α := {q : LkX // (q.k <= S.n /\ S.n < q.m + q.k) /\ topV S.sc q.m q.k x y = S.top x y}) (fun q => stLk S C x y q.1.k) (fun q => q.1.m) ?_ ⟨⟨S.n + 1, 0⟩, ⟨Nat.zero_le _, by dsimp only; omega⟩, rfl⟩ (by
  unfold stLk
  dsimp only
  rw [hx0, hy0]
  exact ⟨rfl, rfl, rfl, rfl, rfl, rfl, trivial⟩) ⟨rfl, rfl, rfl, trivial⟩ rfl rfl
 rintro ⟨⟨m, k⟩, ⟨hk, hmk⟩, htop⟩ I ih
 dsimp only at hk hmk htop
 obtain ⟨m, rfl⟩ : ∃ m', m = m' + 1 := ⟨m - 1, by omega⟩
 dsimp only [stLk, lkE, jn,jH,jO,jq,jF,jJ,jo,jG,jI,iteR,regK,jh,jc,jk,jj,jb,ji,blkK,kp,kd,jd,ja,jx,fpOk,foot,km,allN,memN,jK,jl,jr,jv,jt,ju,jf,jg,je,newN,jw,jN,jP,jY,jQ,jM,jS,jz,jA,jC,jD,jE,jm,jB,evX,evL,evB,rd,get,subG,memG,jT,jV,hyps,gob,impP,allP,j1,jX,j3,kj,nth,j8,kh,jU,lenB,kg,jR,entN,setE,jZ,addE,setL,setN,putE,env0,eqCs,j6,eqC,bA,bO,bN,bE,negB,kEq,ke,j5,lend,frz,frzL,zRow,j9,j7,closed,jy,jW,binI,remP,remI,retK,retG,ko,retD,ki,resL,resD,oneD,renD,renL,renE,j0,rho,jL,j4,zla,zlb,zlc,zld,zca,zcb,o1,o0,og,Nat.reduceBEq,Nat.reduceAdd,Nat.beq]
 refine kq (ZA hS.tok (idn k)) ?_
 rw [show kJ S.tr (idn k) = (vw S.par S.n k).map idn from yD]
 obtain ⟨ks, hks⟩ : ∃ ks, vw S.par S.n k = ks := ⟨_, rfl⟩
 have hkm : ∀ j ∈ ks, S.par j = k /\ k < j /\ j <= S.n := fun j hj => hT.kid k j (by rw [<- hks] at hj; exact hj)
 have hksl : ks.length <= S.n := by rw [<- hks]; exact VP
 have hkk : S.sc.kids k = ks := hks
 rw [hks]
 simp only [topV, hkk] at htop
 have hob := hS.orgB hk
 dsimp only [stLk, lkE, jn,jH,jO,jq,jF,jJ,jo,jG,jI,iteR,regK,jh,jc,jk,jj,jb,ji,blkK,kp,kd,jd,ja,jx,fpOk,foot,km,allN,memN,jK,jl,jr,jv,jt,ju,jf,jg,je,newN,jw,jN,jP,jY,jQ,jM,jS,jz,jA,jC,jD,jE,jm,jB,evX,evL,evB,rd,get,subG,memG,jT,jV,hyps,gob,impP,allP,j1,jX,j3,kj,nth,j8,kh,jU,lenB,kg,jR,entN,setE,jZ,addE,setL,setN,putE,env0,eqCs,j6,eqC,bA,bO,bN,bE,negB,kEq,ke,j5,lend,frz,frzL,zRow,j9,j7,closed,jy,jW,binI,remP,remI,retK,retG,ko,retD,ki,resL,resD,oneD,renD,renL,renE,j0,rho,jL,j4,zla,zlb,zlc,zld,zca,zcb,o1,o0,og,Nat.reduceBEq,Nat.reduceAdd,Nat.beq]
 rw [qT, List.length_map]
 refine ⟨by simp only [fits]; omega, ?_⟩
 refine kG (α := {r : Nat // r <= ks.length /\ zh S.sc x y (ks.reverse.take r) = none}) (fun r => stLi S C x y k ks r.1) (fun r => ks.length - r.1) ?_ ⟨0, Nat.zero_le _, rfl⟩ (by simp [stLi, lkE])
 rintro ⟨r, hrl, hno⟩ I2 ih2
 dsimp only [stLi, lkE, jn,jH,jO,jq,jF,jJ,jo,jG,jI,iteR,regK,jh,jc,jk,jj,jb,ji,blkK,kp,kd,jd,ja,jx,fpOk,foot,km,allN,memN,jK,jl,jr,jv,jt,ju,jf,jg,je,newN,jw,jN,jP,jY,jQ,jM,jS,jz,jA,jC,jD,jE,jm,jB,evX,evL,evB,rd,get,subG,memG,jT,jV,hyps,gob,impP,allP,j1,jX,j3,kj,nth,j8,kh,jU,lenB,kg,jR,entN,setE,jZ,addE,setL,setN,putE,env0,eqCs,j6,eqC,bA,bO,bN,bE,negB,kEq,ke,j5,lend,frz,frzL,zRow,j9,j7,closed,jy,jW,binI,remP,remI,retK,retG,ko,retD,ki,resL,resD,oneD,renD,renL,renE,j0,rho,jL,j4,zla,zlb,zlc,zld,zca,zcb,o1,o0,og,Nat.reduceBEq,Nat.reduceAdd,Nat.beq]
 refine ⟨fun hj => ?_, fun hj => ?_⟩
 ·have hj : r < ks.length := by simp only [decide_eq_true_eq] at hj; omega
  obtain ⟨hir, hrev⟩ := jP3 hj
  obtain ⟨j, hjj⟩ : ∃ j, ks[ks.length - 1 - r] = j := ⟨_, rfl⟩
  have hjm : j ∈ ks := by rw [<- hjj]; exact List.getElem_mem _
  obtain ⟨hjp, hjk, hjn⟩ := hkm j hjm
  have hrow : (iL (ks.map idn))[((ks.length : Int) - 1 - r).toNat]? = some (.int .u32 (idn j)) := by
   rw [show ((ks.length : Int) - 1 - r).toNat = ks.length - 1 - r by omega, Xu (by rw [List.length_map]; omega)]
   simp [hjj]
  have htk : ks.reverse.take (r + 1) = ks.reverse.take r ++ [j] := by
   rw [List.take_succ_eq_append_getElem hir, hrev, hjj]
  have hfs := QV (S := S.sc) (x := x) (y := y) (a := ks.reverse.take r) (b := [j])
  rw [<- htk, hno] at hfs
  dsimp only [zh] at hfs
  have hox : S.ox k + (S.B j).x = S.ox j := by unfold Ws.ox; rw [ZP hS.pw (k := j) (by omega), hjp]
  have hoy : S.oy k + (S.B j).y = S.oy j := by unfold Ws.oy; rw [ZP hS.pw (k := j) (by omega), hjp]
  have e1 : x - S.ox k - (S.B j).x = x - S.ox j := by omega
  have e2 : y - S.oy k - (S.B j).y = y - S.oy j := by omega
  have hsh : S.sc.sh j x y ↔ q9 (S.B j) (x - S.ox j) (y - S.oy j) := ⟨fun h => h.1, fun h => ⟨h, by omega⟩⟩
  refine ⟨⟨rfl, by omega, by rw [qT, List.length_map]; omega⟩, ky _ _ hrow rfl ?_⟩
  dsimp only [stLi, lkE, jn,jH,jO,jq,jF,jJ,jo,jG,jI,iteR,regK,jh,jc,jk,jj,jb,ji,blkK,kp,kd,jd,ja,jx,fpOk,foot,km,allN,memN,jK,jl,jr,jv,jt,ju,jf,jg,je,newN,jw,jN,jP,jY,jQ,jM,jS,jz,jA,jC,jD,jE,jm,jB,evX,evL,evB,rd,get,subG,memG,jT,jV,hyps,gob,impP,allP,j1,jX,j3,kj,nth,j8,kh,jU,lenB,kg,jR,entN,setE,jZ,addE,setL,setN,putE,env0,eqCs,j6,eqC,bA,bO,bN,bE,negB,kEq,ke,j5,lend,frz,frzL,zRow,j9,j7,closed,jy,jW,binI,remP,remI,retK,retG,ko,retD,ki,resL,resD,oneD,renD,renL,renE,j0,rho,jL,j4,zla,zlb,zlc,zld,zca,zcb,o1,o0,og,Nat.reduceBEq,Nat.reduceAdd,Nat.beq]
  cases hon : (S.B j).on with
  | false =>
    refine kq (ji8 hS ⟨by omega, hjn⟩ hon) ?_
    dsimp only [stLi, lkE, jn,jH,jO,jq,jF,jJ,jo,jG,jI,iteR,regK,jh,jc,jk,jj,jb,ji,blkK,kp,kd,jd,ja,jx,fpOk,foot,km,allN,memN,jK,jl,jr,jv,jt,ju,jf,jg,je,newN,jw,jN,jP,jY,jQ,jM,jS,jz,jA,jC,jD,jE,jm,jB,evX,evL,evB,rd,get,subG,memG,jT,jV,hyps,gob,impP,allP,j1,jX,j3,kj,nth,j8,kh,jU,lenB,kg,jR,entN,setE,jZ,addE,setL,setN,putE,env0,eqCs,j6,eqC,bA,bO,bN,bE,negB,kEq,ke,j5,lend,frz,frzL,zRow,j9,j7,closed,jy,jW,binI,remP,remI,retK,retG,ko,retD,ki,resL,resD,oneD,renD,renL,renE,j0,rho,jL,j4,zla,zlb,zlc,zld,zca,zcb,o1,o0,og,Nat.reduceBEq,Nat.reduceAdd,Nat.beq]
    refine ⟨nofun, fun _ => ?_⟩
    refine ⟨by simp only [fits]; omega, ?_⟩
    rw [show (ks.length : Int) - 1 - r - 1 = (ks.length : Int) - 1 - ((r + 1 : Nat) : Int) by omega]
    refine qa (ih2 ⟨r + 1, hj, ?_⟩ (by dsimp only; omega)) ⟨rfl, rfl, rfl, rfl, rfl, rfl, rfl, rfl, rfl, trivial⟩ ⟨rfl, rfl, rfl, trivial⟩ rfl rfl
    rw [hfs, if_neg (fun h => by have := h.1; change (S.B j).on = true at this; rw [hon] at this; cases this)]
  | true =>
    have hth := fun (o : Bool) (hb : o = true ↔ q9 (S.B j) (x - S.ox k - (S.B j).x) (y - S.oy k - (S.B j).y)) => jp9 hS ⟨by omega, hjn⟩ hon (x := x - S.ox k) (y := y - S.oy k) (by omega) (by omega) hb
    rw [e1, e2] at hth
    by_cases ha : q9 (S.B j) (x - S.ox j) (y - S.oy j)
    ·refine kq (hth true (by simp [ha])) ?_
     dsimp only [stLi, lkE, jn,jH,jO,jq,jF,jJ,jo,jG,jI,iteR,regK,jh,jc,jk,jj,jb,ji,blkK,kp,kd,jd,ja,jx,fpOk,foot,km,allN,memN,jK,jl,jr,jv,jt,ju,jf,jg,je,newN,jw,jN,jP,jY,jQ,jM,jS,jz,jA,jC,jD,jE,jm,jB,evX,evL,evB,rd,get,subG,memG,jT,jV,hyps,gob,impP,allP,j1,jX,j3,kj,nth,j8,kh,jU,lenB,kg,jR,entN,setE,jZ,addE,setL,setN,putE,env0,eqCs,j6,eqC,bA,bO,bN,bE,negB,kEq,ke,j5,lend,frz,frzL,zRow,j9,j7,closed,jy,jW,binI,remP,remI,retK,retG,ko,retD,ki,resL,resD,oneD,renD,renL,renE,j0,rho,jL,j4,zla,zlb,zlc,zld,zca,zcb,o1,o0,og,Nat.reduceBEq,Nat.reduceAdd,Nat.beq]
     refine ⟨fun _ => ?_, nofun⟩
     rw [if_pos ⟨hon, hsh.2 ha⟩] at hfs
     have hfa : zh S.sc x y ks.reverse = some j := by
      have := QV (S := S.sc) (x := x) (y := y) (a := ks.reverse.take (r + 1)) (b := ks.reverse.drop (r + 1))
      rw [List.take_append_drop, hfs] at this
      exact this
     rw [hfa] at htop
     refine ⟨fun h => ?_, fun _ => ⟨⟨rfl, by omega, by rw [qT, List.length_map]; omega⟩, ky _ _ hrow rfl ?_⟩⟩
     ·exfalso; simp only [decide_eq_true_eq] at h; omega
     dsimp only [stLi, lkE, jn,jH,jO,jq,jF,jJ,jo,jG,jI,iteR,regK,jh,jc,jk,jj,jb,ji,blkK,kp,kd,jd,ja,jx,fpOk,foot,km,allN,memN,jK,jl,jr,jv,jt,ju,jf,jg,je,newN,jw,jN,jP,jY,jQ,jM,jS,jz,jA,jC,jD,jE,jm,jB,evX,evL,evB,rd,get,subG,memG,jT,jV,hyps,gob,impP,allP,j1,jX,j3,kj,nth,j8,kh,jU,lenB,kg,jR,entN,setE,jZ,addE,setL,setN,putE,env0,eqCs,j6,eqC,bA,bO,bN,bE,negB,kEq,ke,j5,lend,frz,frzL,zRow,j9,j7,closed,jy,jW,binI,remP,remI,retK,retG,ko,retD,ki,resL,resD,oneD,renD,renL,renE,j0,rho,jL,j4,zla,zlb,zlc,zld,zca,zcb,o1,o0,og,Nat.reduceBEq,Nat.reduceAdd,Nat.beq]
     exact qa (ih ⟨⟨m, j⟩, ⟨hjn, by dsimp only; omega⟩, htop⟩ (by dsimp only; omega)) ⟨rfl, rfl, rfl, rfl, rfl, rfl, trivial⟩ ⟨rfl, rfl, rfl, trivial⟩ rfl rfl
    ·refine kq (hth false (by simp [ha])) ?_
     dsimp only [stLi, lkE, jn,jH,jO,jq,jF,jJ,jo,jG,jI,iteR,regK,jh,jc,jk,jj,jb,ji,blkK,kp,kd,jd,ja,jx,fpOk,foot,km,allN,memN,jK,jl,jr,jv,jt,ju,jf,jg,je,newN,jw,jN,jP,jY,jQ,jM,jS,jz,jA,jC,jD,jE,jm,jB,evX,evL,evB,rd,get,subG,memG,jT,jV,hyps,gob,impP,allP,j1,jX,j3,kj,nth,j8,kh,jU,lenB,kg,jR,entN,setE,jZ,addE,setL,setN,putE,env0,eqCs,j6,eqC,bA,bO,bN,bE,negB,kEq,ke,j5,lend,frz,frzL,zRow,j9,j7,closed,jy,jW,binI,remP,remI,retK,retG,ko,retD,ki,resL,resD,oneD,renD,renL,renE,j0,rho,jL,j4,zla,zlb,zlc,zld,zca,zcb,o1,o0,og,Nat.reduceBEq,Nat.reduceAdd,Nat.beq]
     refine ⟨nofun, fun _ => ?_⟩
     refine ⟨by simp only [fits]; omega, ?_⟩
     rw [show (ks.length : Int) - 1 - r - 1 = (ks.length : Int) - 1 - ((r + 1 : Nat) : Int) by omega]
     refine qa (ih2 ⟨r + 1, hj, ?_⟩ (by dsimp only; omega)) ⟨rfl, rfl, rfl, rfl, rfl, rfl, rfl, rfl, rfl, trivial⟩ ⟨rfl, rfl, rfl, trivial⟩ rfl rfl
     rw [hfs, if_neg (fun h => ha (hsh.1 h.2))]
 ·have hj : r = ks.length := by simp only [decide_eq_false_iff_not] at hj; omega
  subst hj
  rw [show ks.reverse.take ks.length = ks.reverse by rw [<- List.length_reverse, List.take_length]] at hno
  rw [hno] at htop
  dsimp only at htop
  subst htop
  refine ⟨fun _ => kq (J4 YK (jV5 hk)) ?_, fun h => absurd h (by decide)⟩
  have hcs := hC.size hS hk
  dsimp only [gD, jn,jH,jO,jq,jF,jJ,jo,jG,jI,iteR,regK,jh,jc,jk,jj,jb,ji,blkK,kp,kd,jd,ja,jx,fpOk,foot,km,allN,memN,jK,jl,jr,jv,jt,ju,jf,jg,je,newN,jw,jN,jP,jY,jQ,jM,jS,jz,jA,jC,jD,jE,jm,jB,evX,evL,evB,rd,get,subG,memG,jT,jV,hyps,gob,impP,allP,j1,jX,j3,kj,nth,j8,kh,jU,lenB,kg,jR,entN,setE,jZ,addE,setL,setN,putE,env0,eqCs,j6,eqC,bA,bO,bN,bE,negB,kEq,ke,j5,lend,frz,frzL,zRow,j9,j7,closed,jy,jW,binI,remP,remI,retK,retG,ko,retD,ki,resL,resD,oneD,renD,renL,renE,j0,rho,jL,j4,zla,zlb,zlc,zld,zca,zcb,o1,o0,og,Nat.reduceBEq,Nat.reduceAdd,Nat.beq]
  refine kq (jO2 (by omega) (by omega) hin) ?_
  dsimp only [gD, jn,jH,jO,jq,jF,jJ,jo,jG,jI,iteR,regK,jh,jc,jk,jj,jb,ji,blkK,kp,kd,jd,ja,jx,fpOk,foot,km,allN,memN,jK,jl,jr,jv,jt,ju,jf,jg,je,newN,jw,jN,jP,jY,jQ,jM,jS,jz,jA,jC,jD,jE,jm,jB,evX,evL,evB,rd,get,subG,memG,jT,jV,hyps,gob,impP,allP,j1,jX,j3,kj,nth,j8,kh,jU,lenB,kg,jR,entN,setE,jZ,addE,setL,setN,putE,env0,eqCs,j6,eqC,bA,bO,bN,bE,negB,kEq,ke,j5,lend,frz,frzL,zRow,j9,j7,closed,jy,jW,binI,remP,remI,retK,retG,ko,retD,ki,resL,resD,oneD,renD,renL,renE,j0,rho,jL,j4,zla,zlb,zlc,zld,zca,zcb,o1,o0,og,Nat.reduceBEq,Nat.reduceAdd,Nat.beq]

theorem XU {n : Int} (h : -128 <= n /\ n <= 127) : IntKind.wrap .u8 n = n % 256 := by
 simp [IntKind.wrap, IntKind.min, IntKind.max, IntKind.bits, IntKind.signed]
 try omega
theorem QH {n : Nat} (h : n <= 1000) : TSp 96 [.int .i64 n] (.int .u32 (idn n)) := by
 refine XC (by rfl) ?_
 dsimp only [c_top_partsID, Qs, jn,jH,jO,jq,jF,jJ,jo,jG,jI,iteR,regK,jh,jc,jk,jj,jb,ji,blkK,kp,kd,jd,ja,jx,fpOk,foot,km,allN,memN,jK,jl,jr,jv,jt,ju,jf,jg,je,newN,jw,jN,jP,jY,jQ,jM,jS,jz,jA,jC,jD,jE,jm,jB,evX,evL,evB,rd,get,subG,memG,jT,jV,hyps,gob,impP,allP,j1,jX,j3,kj,nth,j8,kh,jU,lenB,kg,jR,entN,setE,jZ,addE,setL,setN,putE,env0,eqCs,j6,eqC,bA,bO,bN,bE,negB,kEq,ke,j5,lend,frz,frzL,zRow,j9,j7,closed,jy,jW,binI,remP,remI,retK,retG,ko,retD,ki,resL,resD,oneD,renD,renL,renE,j0,rho,jL,j4,zla,zlb,zlc,zld,zca,zcb,o1,o0,og,Nat.reduceBEq,Nat.reduceAdd,Nat.beq]
 refine ⟨fun h1 => ?_, fun h1 => ?_⟩
 ·have : n = 0 := by simp only [decide_eq_true_eq] at h1; omega
  subst this
  first | rfl | trivial
 ·have : ¬ n = 0 := by simp only [decide_eq_false_iff_not] at h1; omega
  refine ⟨by simp only [fits]; omega, by simp only [fits]; omega, ?_⟩
  unfold idn
  rw [if_neg this]
structure Pn where
 a : Int
 b : Int
 c : Int
 d : Int
 e : Int
 f : Int
def pnD (p : Pn) : D := .agg [.int .i8 p.a, .int .i8 p.b, .int .i8 p.c, .int .i8 p.d, .int .i8 p.e, .int .i8 p.f]
def pnOk (p : Pn) : Prop := (-128 <= p.a /\ p.a <= 127) /\ (-128 <= p.b /\ p.b <= 127) /\ (-128 <= p.c /\ p.c <= 127) /\ (-128 <= p.d /\ p.d <= 127) /\ (-128 <= p.e /\ p.e <= 127) /\ -128 <= p.f /\ p.f <= 127
abbrev Sh4 := Int × Int × Int × Int
def s4D (q : Sh4) : D := .agg [.int .u8 q.1, .int .u8 q.2.1, .int .u8 q.2.2.1, .int .u8 q.2.2.2]
def s4ok (q : Sh4) : Prop := (0 <= q.1 /\ q.1 <= 255) /\ (0 <= q.2.1 /\ q.2.1 <= 255) /\ (0 <= q.2.2.1 /\ q.2.2.1 <= 255) /\ 0 <= q.2.2.2 /\ q.2.2.2 <= 255
def pnAt (ps : List Pn) (k : Nat) : Pn := ps.getD (k - 1) ⟨0, 0, 0, 0, 0, 0⟩
def s4At (qs : List Sh4) (k : Nat) : Sh4 := qs.getD (k - 1) (0, 0, 0, 0)
theorem pnAt_ok {ps : List Pn} (h : ∀ p ∈ ps, pnOk p) (k : Nat) : pnOk (pnAt ps k) := by
 unfold pnAt
 rw [List.getD_eq_getElem?_getD]
 cases hk : ps[k - 1]? with
 | none => simp [pnOk]
 | some p => exact h p (List.mem_of_getElem? hk)
theorem jE4 {qs : List Sh4} (h : ∀ p ∈ qs, s4ok p) (k : Nat) : s4ok (s4At qs k) := by
 unfold s4At
 rw [List.getD_eq_getElem?_getD]
 cases hk : qs[k - 1]? with
 | none => simp [s4ok]
 | some p => exact h p (List.mem_of_getElem? hk)
def pPar (ps : List Pn) (k : Nat) : Nat := if k = 0 then 0 else ((pnAt ps k).a % 256 % (k : Int)).toNat
theorem XZ (ps : List Pn) : PW (pPar ps) := ⟨fun k h => by
 unfold pPar
 rw [if_neg (by omega)]
 have h1 := Int.emod_lt_of_pos ((pnAt ps k).a % 256) (show (0 : Int) < k by omega)
 have h2 := Int.emod_nonneg ((pnAt ps k).a % 256) (show (k : Int) ≠ 0 by omega)
 omega, rfl⟩
def pSh (ps : List Pn) (qs : List Sh4) (k : Nat) : Bool := decide ((k : Int) - 1 < qs.length) && decide (Int.tmod (pnAt ps k).f 3 = 0)
def pRcs (qs : List Sh4) (k : Nat) : List Rc := [⟨(s4At qs k).1 % 8, (s4At qs k).2.1 % 8, (s4At qs k).2.2.1 % 9, (s4At qs k).2.2.2 % 9⟩, ⟨0, 0, 2, 2⟩]
def pBx (w h : Nat) (ps : List Pn) (qs : List Sh4) (k : Nat) : Bx := if k = 0 then Xm w h else
 ⟨Int.tmod (pnAt ps k).b 14, Int.tmod (pnAt ps k).c 12, 1 + (pnAt ps k).d % 256 % 10, 1 + (pnAt ps k).e % 256 % 9, !decide (Int.tmod (pnAt ps k).f 5 = 0), 0, 0, pSh ps qs k, if pSh ps qs k = true then pts (allL (pRcs qs k)) else noP⟩
def pIt (w h : Nat) (ps : List Pn) (k : Nat) : It := if k = 0 then ⟨w, h, fun _ _ => 0, 0, true, true⟩ else
 ⟨(1 + (pnAt ps k).d % 256 % 10).toNat, (1 + (pnAt ps k).e % 256 % 9).toNat, fun _ _ => k, k, true, decide (Int.tmod (pnAt ps k).f 2 = 0)⟩
def pW (w h : Nat) (ps : List Pn) (qs : List Sh4) (n : Nat) : Ws := ⟨pPar ps, n, pBx w h ps qs⟩
theorem YC {qs : List Sh4} (h : ∀ p ∈ qs, s4ok p) {k : Nat} : (∀ r ∈ pRcs qs k, r.In) /\ Bdd (pts (allL (pRcs qs k))) /\ (reg (pts (allL (pRcs qs k)))).length <= 4096 := by
 have hV : ∀ r ∈ allL (pRcs qs k), Vr r := fun r hr => Vg.1 (List.mem_filter.1 hr).2
 have hlen : (allL (pRcs qs k)).length <= 2 := Nat.le_trans (List.length_filter_le _ _) (by simp [pRcs])
 have h4 := jE4 h k
 unfold s4ok at h4
 refine ⟨fun r hr => ?_, vr_bdd hV, Nat.le_trans (jP4 hV).2 ?_⟩
 ·simp only [pRcs, List.mem_cons, List.not_mem_nil, or_false] at hr
  rcases hr with rfl | rfl <;> (unfold Rc.In fits; dsimp only; omega)
 ·have := Nat.mul_le_mul (Nat.mul_le_mul_left 2 hlen) hlen
  omega
theorem yT {n : Int} {m : Int} (hm : 0 < m) : -m < Int.tmod n m /\ Int.tmod n m < m := by
 have h1 := Int.tmod_lt_of_pos n hm
 have h2 := Int.lt_tmod_of_pos n hm
 omega
theorem pW_ok {w h : Nat} {ps : List Pn} {qs : List Sh4} {n : Nat} (hw : 1 <= w /\ w <= 14) (hh : 1 <= h /\ h <= 12) (hq : ∀ p ∈ qs, s4ok p) (hn : n <= 8) : (pW w h ps qs n).Ok := by
 refine ⟨XZ ps, by show n <= 40; omega, fun k => ?_, fun k hk => ?_, fun k hk => ?_, fun k => ?_⟩
 ·rw [show (pW w h ps qs n).B k = pBx w h ps qs k from rfl]
  unfold pBx
  by_cases h0 : k = 0
  ·simp only [h0, if_true, Xm]
   omega
  ·simp only [h0, if_false]
   omega
 ·rw [show (pW w h ps qs n).B k = pBx w h ps qs k from rfl]
  unfold pBx
  have := yT (n := (pnAt ps k).b) (m := 14) (by omega)
  rw [if_neg (by omega)]
  dsimp only; omega
 ·rw [show (pW w h ps qs n).B k = pBx w h ps qs k from rfl]
  unfold pBx
  have := yT (n := (pnAt ps k).c) (m := 12) (by omega)
  rw [if_neg (by omega)]
  dsimp only; omega
 ·rw [show (pW w h ps qs n).B k = pBx w h ps qs k from rfl]
  unfold pBx
  by_cases h0 : k = 0
  ·simp only [h0, if_true, Xm]
   exact ⟨X1, by rw [Kb]; simp⟩
  ·simp only [h0, if_false]
   split
   ·exact ⟨(YC hq).2.1, (YC hq).2.2⟩
   ·exact ⟨X1, by rw [Kb]; simp⟩
end Go.AM
