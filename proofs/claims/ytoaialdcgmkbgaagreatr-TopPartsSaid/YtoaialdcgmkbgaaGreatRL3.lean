import Derived.Test.YtoaialdcgmkbgaaGreatRM1
import Derived.Test.YtoaialdcgmkbgaaGreatRL2
import Derived.Test.YtoaialdcgmkbgaaGreatRK3

set_option linter.all false
namespace Go.AM
open Go Go.Proofs
structure Bx where
 x : Int
 y : Int
 w : Int
 h : Int
 on : Bool
 g : Int
 b : Int
 s : Bool
 p : PS
def noP : PS := fun _ _ => False
theorem X1 : Bdd noP := fun _ _ h => h.elim
theorem Kb : reg noP = [] := (KL X1).2 fun _ _ h => h
noncomputable def rgD (P : PS) : D := .agg [.ls 4 (rcs (reg P))]
noncomputable def bxD (b : Bx) : D := .agg [.int .i64 b.x, .int .i64 b.y, .int .i64 b.w, .int .i64 b.h, .bool b.on, .int .i64 b.g, .int .i64 b.b, .bool b.s, .ls 4 (rcs (reg b.p))]
def zBx : Bx := ⟨0, 0, 0, 0, false, 0, 0, false, noP⟩
/-! What k8 no own memory stays under other names -/
mutual
theorem js4 {ks : List Nat} {n : Nat} : ∀ (d : D), closed d = true -> renD ks n d = d
 | .int _ _, _ => rfl
 | .bool _, _ => rfl
 | .str _, _ => rfl
 | .ls _ _, _ => rfl
 | .agg l, h => by simp only [renD]; rw [qU l (by simpa [closed] using h)]
 | .tup l, h => by simp only [renD]; rw [qU l (by simpa [closed] using h)]
 | .mp _ _, _ => rfl
 | .nil, _ => rfl
 | .glob _ _, _ => rfl
 | .ifc _, _ => rfl
 | .fn f l, h => by simp only [renD]; rw [qU l (by simpa [closed] using h)]
 | .yld _, h => by simp [closed] at h
 | .osl _ _ _ _ _, h => by simp [closed] at h
 | .box _ _, h => by simp [closed] at h
 | .boxi _ _, h => by simp [closed] at h
 | .bsl _ _ _ _, h => by simp [closed] at h
 | .ownm _ _, h => by simp [closed] at h
 | .own _ _, h => by simp [closed] at h
 | .el _ _ _ _, h => by simp [closed] at h
 | .elo _ _ _ _ _, h => by simp [closed] at h
 | .any, h => by simp [closed] at h
theorem qU {ks : List Nat} {n : Nat} : ∀ (l : List D), jy l = true -> renL ks n l = l
 | [], _ => rfl
 | d :: l, h => by
   simp only [jy, qf] at h
   simp only [renL]
   rw [js4 d h.1, qU l h.2]
end
mutual
theorem jA7 {n : Nat} : ∀ (d : D), closed d = true -> low n d = true
 | .int _ _, _ => rfl
 | .bool _, _ => rfl
 | .str _, _ => rfl
 | .ls _ _, _ => rfl
 | .agg l, h => by simp only [low]; exact qK l (by simpa [closed] using h)
 | .tup l, h => by simp only [low]; exact qK l (by simpa [closed] using h)
 | .mp _ _, _ => rfl
 | .nil, _ => rfl
 | .glob _ _, _ => rfl
 | .ifc _, _ => rfl
 | .fn f l, h => by simp only [low]; exact qK l (by simpa [closed] using h)
 | .yld _, h => by simp [closed] at h
 | .osl _ _ _ _ _, h => by simp [closed] at h
 | .box _ _, h => by simp [closed] at h
 | .boxi _ _, h => by simp [closed] at h
 | .bsl _ _ _ _, h => by simp [closed] at h
 | .ownm _ _, h => by simp [closed] at h
 | .own _ _, h => by simp [closed] at h
 | .el _ _ _ _, h => by simp [closed] at h
 | .elo _ _ _ _ _, h => by simp [closed] at h
 | .any, h => by simp [closed] at h
theorem qK {n : Nat} : ∀ (l : List D), jy l = true -> lowL n l = true
 | [], _ => rfl
 | d :: l, h => by
   simp only [jy, qf] at h
   simp only [lowL, Bool.and_eq_true]
   exact ⟨jA7 d h.1, qK l h.2⟩
end
def mKV (f : Nat -> D) (n : Nat) : KV := (List.range (n + 1)).map fun k => (idn k, f k)
theorem ju3 {f : Nat -> D} {n : Nat} : mKV f (n + 1) = mKV f n ++ [(idn (n + 1), f (n + 1))] := by simp [mKV, List.range_succ]
theorem jG1 {α : Type} {n m : Int} {d : α} : ∀ {l : List (Int × α)}, lk (l ++ [(n, d)]) m = match lk l m with | some e => some e | none => if n = m then some d else none
 | [] => by simp [lk]
 | p :: l => by
   simp only [List.cons_append, lk]
   by_cases h : p.1 = m
   ·simp [h]
   ·simp only [h, if_false]; exact jG1
theorem VN {f : Nat -> D} {k : Nat} : ∀ {n : Nat}, lk (mKV f n) (idn k) = if k <= n then some (f k) else none
 | 0 => by
   simp only [mKV, List.range_succ, List.range_zero, List.nil_append, List.map_cons, List.map_nil, lk, xG]
   by_cases h : k = 0
   ·subst h; simp
   ·rw [if_neg (fun e => h e.symm), if_neg (by omega)]
 | n + 1 => by
   rw [ju3, jG1, VN (n := n)]
   by_cases h : k <= n
   ·rw [if_pos h]; dsimp only; rw [if_pos (Nat.le_succ_of_le h)]
   ·rw [if_neg h]
    dsimp only
    by_cases h2 : n + 1 = k
    ·subst h2; simp
    ·rw [if_neg (fun e => h2 (xG.1 e)), if_neg (by omega)]
theorem YK {f : Nat -> D} {n : Nat} : NdK (mKV f n) := by
 unfold NdK mKV
 rw [List.map_map]
 have : (fun k => idn k) = ((fun p : Int × D => p.1) ∘ fun k => (idn k, f k)) := rfl
 rw [<- this]
 exact List.Pairwise.map _ (fun a b h e => h (xG.1 e)) (List.nodup_range (n := n + 1))
theorem X3 {f : Nat -> D} {n : Nat} : (mKV f n).length = n + 1 := by simp [mKV]
theorem mKV_ext {f g : Nat -> D} {n : Nat} (h : ∀ k, k <= n -> f k = g k) : mKV f n = mKV g n := by
 unfold mKV
 refine List.map_congr_left fun k hk => ?_
 have : k < n + 1 := by simpa using hk
 rw [h k (by omega)]
theorem mKV_ne {f : Nat -> D} {n : Nat} : mKV f n ≠ [] := fun h => by have := congrArg List.length h; rw [X3] at this; simp at this
theorem tB : Tryz.prog.underlying 87 = some (.map 53 130) := by kernel_rfl
theorem zB : ZV Tryz.prog 130 (.agg #[.int .i64 0, .int .i64 0, .int .i64 0, .int .i64 0, .bool false, .int .i64 0, .int .i64 0, .bool false, .slice none 0 0]) := by unfold ZV; kernel_rfl
theorem jV6 : bxD zBx = .agg [.int .i64 0, .int .i64 0, .int .i64 0, .int .i64 0, .bool false, .int .i64 0, .int .i64 0, .bool false, .ls 4 []] := by
 unfold bxD zBx; rw [Kb]; rfl
theorem jl1 {bx : List Ent} {kv : KV} (hn : NdK kv) {id : Int} {d : D} (h : lk kv id = some d) : PrM Tryz.prog gtab (.lkp 87 true) [.mp (mpK .u32 kv) (mpV kv), .int .u32 id] bx (.tup [d, .bool true]) bx := by
 have := Ja (gt := gtab) (bx := bx) tB tI zB hn id true (zd := .nil) (fun h' => by rw [h] at h'; cases h')
 rw [h] at this; exact this
theorem pr_boxN {bx : List Ent} {kv : KV} (hn : NdK kv) {id : Int} (h : lk kv id = none) : PrM Tryz.prog gtab (.lkp 87 true) [.mp (mpK .u32 kv) (mpV kv), .int .u32 id] bx (.tup [bxD zBx, .bool false]) bx := by
 have := Ja (gt := gtab) (bx := bx) tB tI zB hn id true (zd := bxD zBx) (fun _ K pl => by
  rw [jV6]
  simp only [Rep, RepL]
  refine ⟨_, rfl, ⟨_, _, rfl, rfl, _, _, rfl, rfl, _, _, rfl, rfl, _, _, rfl, rfl, _, _, rfl, rfl, _, _, rfl, rfl, _, _, rfl, rfl, _, _, rfl, rfl, _, _, rfl, ⟨none, 0, 0, rfl, rfl, Nat.le_refl _, fun _ => rfl, .inl trivial⟩, rfl⟩, fun c hc => ?_⟩
  simp only [List.mem_cons, List.not_mem_nil, or_false] at hc
  rcases hc with h | h | h | h | h | h | h | h | h <;> (rw [h]; rfl))
 rw [h] at this; exact this
def Jg (n : Int) : Bool := decide (-32768 <= n) && decide (n <= 32767)
theorem J2 {n : Int} : TSp 115 [.int .i64 n] (.bool (Jg n)) := by
 refine XH (by rfl) ?_
 dsimp only [c_place_coord, Qt, Jg, jn,jH,jO,jq,jF,jJ,jo,jG,jI,iteR,regK,jh,jc,jk,jj,jb,ji,blkK,kp,kd,jd,ja,jx,fpOk,foot,km,allN,memN,jK,jl,jr,jv,jt,ju,jf,jg,je,newN,jw,jN,jP,jY,jQ,jM,jS,jz,jA,jC,jD,jE,jm,jB,evX,evL,evB,rd,get,subG,memG,jT,jV,hyps,gob,impP,allP,j1,jX,j3,kj,nth,j8,kh,jU,lenB,kg,jR,entN,setE,jZ,addE,setL,setN,putE,env0,eqCs,j6,eqC,bA,bO,bN,bE,negB,kEq,ke,j5,lend,frz,frzL,zRow,j9,j7,closed,jy,jW,binI,remP,remI,retK,retG,ko,retD,ki,resL,resD,oneD,renD,renL,renE,j0,rho,jL,j4,zla,zlb,zlc,zld,zca,zcb,o1,o0,og,Nat.reduceBEq,Nat.reduceAdd,Nat.beq]
def Qq (n : Int) : Bool := decide (1 <= n) && decide (n <= 128)
theorem xd {n : Int} : TSp 116 [.int .i64 n] (.bool (Qq n)) := by
 refine Yd (by rfl) ?_
 dsimp only [c_place_side, ZL, Qq, jn,jH,jO,jq,jF,jJ,jo,jG,jI,iteR,regK,jh,jc,jk,jj,jb,ji,blkK,kp,kd,jd,ja,jx,fpOk,foot,km,allN,memN,jK,jl,jr,jv,jt,ju,jf,jg,je,newN,jw,jN,jP,jY,jQ,jM,jS,jz,jA,jC,jD,jE,jm,jB,evX,evL,evB,rd,get,subG,memG,jT,jV,hyps,gob,impP,allP,j1,jX,j3,kj,nth,j8,kh,jU,lenB,kg,jR,entN,setE,jZ,addE,setL,setN,putE,env0,eqCs,j6,eqC,bA,bO,bN,bE,negB,kEq,ke,j5,lend,frz,frzL,zRow,j9,j7,closed,jy,jW,binI,remP,remI,retK,retG,ko,retD,ki,resL,resD,oneD,renD,renL,renE,j0,rho,jL,j4,zla,zlb,zlc,zld,zca,zcb,o1,o0,og,Nat.reduceBEq,Nat.reduceAdd,Nat.beq]
def badG (g : Int) : Bool := decide (g < 0) || decide (10 < g)
theorem yn {g : Int} : TSp 117 [.int .i64 g] (.int .i64 (if badG g then 10 else 0)) := by
 refine Zv (by rfl) ?_
 dsimp only [c_gravity_Check, Jy, jn,jH,jO,jq,jF,jJ,jo,jG,jI,iteR,regK,jh,jc,jk,jj,jb,ji,blkK,kp,kd,jd,ja,jx,fpOk,foot,km,allN,memN,jK,jl,jr,jv,jt,ju,jf,jg,je,newN,jw,jN,jP,jY,jQ,jM,jS,jz,jA,jC,jD,jE,jm,jB,evX,evL,evB,rd,get,subG,memG,jT,jV,hyps,gob,impP,allP,j1,jX,j3,kj,nth,j8,kh,jU,lenB,kg,jR,entN,setE,jZ,addE,setL,setN,putE,env0,eqCs,j6,eqC,bA,bO,bN,bE,negB,kEq,ke,j5,lend,frz,frzL,zRow,j9,j7,closed,jy,jW,binI,remP,remI,retK,retG,ko,retD,ki,resL,resD,oneD,renD,renL,renE,j0,rho,jL,j4,zla,zlb,zlc,zld,zca,zcb,o1,o0,og,Nat.reduceBEq,Nat.reduceAdd,Nat.beq]
 unfold badG
 by_cases h1 : g < 0 <;> by_cases h2 : 10 < g <;> simp [h1, h2]
def Xm (w h : Int) : Bx := ⟨0, 0, w, h, true, 1, 1, false, noP⟩
theorem jj0 {w h : Int} (hw : 1 <= w /\ w <= 128) (hh : 1 <= h /\ h <= 128) : TSp 94 [.int .i64 w, .int .i64 h] (.tup [.agg [mpD .u32 (mKV (fun _ => bxD (Xm w h)) 0)], .int .i64 0]) := by
 refine jb6 (by rfl) ?_
 dsimp only [c_place_New, xZ, jn,jH,jO,jq,jF,jJ,jo,jG,jI,iteR,regK,jh,jc,jk,jj,jb,ji,blkK,kp,kd,jd,ja,jx,fpOk,foot,km,allN,memN,jK,jl,jr,jv,jt,ju,jf,jg,je,newN,jw,jN,jP,jY,jQ,jM,jS,jz,jA,jC,jD,jE,jm,jB,evX,evL,evB,rd,get,subG,memG,jT,jV,hyps,gob,impP,allP,j1,jX,j3,kj,nth,j8,kh,jU,lenB,kg,jR,entN,setE,jZ,addE,setL,setN,putE,env0,eqCs,j6,eqC,bA,bO,bN,bE,negB,kEq,ke,j5,lend,frz,frzL,zRow,j9,j7,closed,jy,jW,binI,remP,remI,retK,retG,ko,retD,ki,resL,resD,oneD,renD,renL,renE,j0,rho,jL,j4,zla,zlb,zlc,zld,zca,zcb,o1,o0,og,Nat.reduceBEq,Nat.reduceAdd,Nat.beq]
 refine kq xd ?_
 dsimp only [c_place_New, xZ, jn,jH,jO,jq,jF,jJ,jo,jG,jI,iteR,regK,jh,jc,jk,jj,jb,ji,blkK,kp,kd,jd,ja,jx,fpOk,foot,km,allN,memN,jK,jl,jr,jv,jt,ju,jf,jg,je,newN,jw,jN,jP,jY,jQ,jM,jS,jz,jA,jC,jD,jE,jm,jB,evX,evL,evB,rd,get,subG,memG,jT,jV,hyps,gob,impP,allP,j1,jX,j3,kj,nth,j8,kh,jU,lenB,kg,jR,entN,setE,jZ,addE,setL,setN,putE,env0,eqCs,j6,eqC,bA,bO,bN,bE,negB,kEq,ke,j5,lend,frz,frzL,zRow,j9,j7,closed,jy,jW,binI,remP,remI,retK,retG,ko,retD,ki,resL,resD,oneD,renD,renL,renE,j0,rho,jL,j4,zla,zlb,zlc,zld,zca,zcb,o1,o0,og,Nat.reduceBEq,Nat.reduceAdd,Nat.beq]
 refine kq (fun _ => xd) ?_
 dsimp only [c_place_New, xZ, Qq, jn,jH,jO,jq,jF,jJ,jo,jG,jI,iteR,regK,jh,jc,jk,jj,jb,ji,blkK,kp,kd,jd,ja,jx,fpOk,foot,km,allN,memN,jK,jl,jr,jv,jt,ju,jf,jg,je,newN,jw,jN,jP,jY,jQ,jM,jS,jz,jA,jC,jD,jE,jm,jB,evX,evL,evB,rd,get,subG,memG,jT,jV,hyps,gob,impP,allP,j1,jX,j3,kj,nth,j8,kh,jU,lenB,kg,jR,entN,setE,jZ,addE,setL,setN,putE,env0,eqCs,j6,eqC,bA,bO,bN,bE,negB,kEq,ke,j5,lend,frz,frzL,zRow,j9,j7,closed,jy,jW,binI,remP,remI,retK,retG,ko,retD,ki,resL,resD,oneD,renD,renL,renE,j0,rho,jL,j4,zla,zlb,zlc,zld,zca,zcb,o1,o0,og,Nat.reduceBEq,Nat.reduceAdd,Nat.beq]
 refine ⟨fun hc => ?_, fun _ => ?_⟩
 ·exfalso
  simp only [Bool.or_eq_true, Bool.not_eq_true', Bool.and_eq_false_iff, decide_eq_false_iff_not] at hc; omega
 refine qh _ _ (jk8 (ik := .u32)) ?_
 dsimp only [jn,jH,jO,jq,jF,jJ,jo,jG,jI,iteR,regK,jh,jc,jk,jj,jb,ji,blkK,kp,kd,jd,ja,jx,fpOk,foot,km,allN,memN,jK,jl,jr,jv,jt,ju,jf,jg,je,newN,jw,jN,jP,jY,jQ,jM,jS,jz,jA,jC,jD,jE,jm,jB,evX,evL,evB,rd,get,subG,memG,jT,jV,hyps,gob,impP,allP,j1,jX,j3,kj,nth,j8,kh,jU,lenB,kg,jR,entN,setE,jZ,addE,setL,setN,putE,env0,eqCs,j6,eqC,bA,bO,bN,bE,negB,kEq,ke,j5,lend,frz,frzL,zRow,j9,j7,closed,jy,jW,binI,remP,remI,retK,retG,ko,retD,ki,resL,resD,oneD,renD,renL,renE,j0,rho,jL,j4,zla,zlb,zlc,zld,zca,zcb,o1,o0,og,Nat.reduceBEq,Nat.reduceAdd,Nat.beq]
 refine qh _ _ (pr_ins (ye tB tI (kv := []) rfl (by simp [NdK]) 1 _)) ?_
 dsimp only [jn,jH,jO,jq,jF,jJ,jo,jG,jI,iteR,regK,jh,jc,jk,jj,jb,ji,blkK,kp,kd,jd,ja,jx,fpOk,foot,km,allN,memN,jK,jl,jr,jv,jt,ju,jf,jg,je,newN,jw,jN,jP,jY,jQ,jM,jS,jz,jA,jC,jD,jE,jm,jB,evX,evL,evB,rd,get,subG,memG,jT,jV,hyps,gob,impP,allP,j1,jX,j3,kj,nth,j8,kh,jU,lenB,kg,jR,entN,setE,jZ,addE,setL,setN,putE,env0,eqCs,j6,eqC,bA,bO,bN,bE,negB,kEq,ke,j5,lend,frz,frzL,zRow,j9,j7,closed,jy,jW,binI,remP,remI,retK,retG,ko,retD,ki,resL,resD,oneD,renD,renL,renE,j0,rho,jL,j4,zla,zlb,zlc,zld,zca,zcb,o1,o0,og,Nat.reduceBEq,Nat.reduceAdd,Nat.beq]
 refine ⟨rfl, ?_, ?_⟩
 ·simp [put, mpV, jy, closed, bA]
 ·simp only [mpD, mKV, put, List.range_succ, List.range_zero, List.nil_append, List.map_cons, List.map_nil]
  simp only [bxD, Xm, Kb, idn]
  rfl
theorem jc4 {kv : KV} (hne : kv ≠ []) (hc : jy (mpV kv) = true) : TSpM 118 [.agg [.mp (mpK .u32 kv) (mpV kv)]] [] (.agg [.ownm 0 0]) [mapE .u32 kv] := by
 refine J0 (by rfl) ?_
 dsimp only [c_place_Place_twin, vl, jn,jH,jO,jq,jF,jJ,jo,jG,jI,iteR,regK,jh,jc,jk,jj,jb,ji,blkK,kp,kd,jd,ja,jx,fpOk,foot,km,allN,memN,jK,jl,jr,jv,jt,ju,jf,jg,je,newN,jw,jN,jP,jY,jQ,jM,jS,jz,jA,jC,jD,jE,jm,jB,evX,evL,evB,rd,get,subG,memG,jT,jV,hyps,gob,impP,allP,j1,jX,j3,kj,nth,j8,kh,jU,lenB,kg,jR,entN,setE,jZ,addE,setL,setN,putE,env0,eqCs,j6,eqC,bA,bO,bN,bE,negB,kEq,ke,j5,lend,frz,frzL,zRow,j9,j7,closed,jy,jW,binI,remP,remI,retK,retG,ko,retD,ki,resL,resD,oneD,renD,renL,renE,j0,rho,jL,j4,zla,zlb,zlc,zld,zca,zcb,o1,o0,og,Nat.reduceBEq,Nat.reduceAdd,Nat.beq]
 refine kX [] (jc5 hne) rfl rfl ?_
 dsimp only [c_place_Place_twin, vl, mapE, jn,jH,jO,jq,jF,jJ,jo,jG,jI,iteR,regK,jh,jc,jk,jj,jb,ji,blkK,kp,kd,jd,ja,jx,fpOk,foot,km,allN,memN,jK,jl,jr,jv,jt,ju,jf,jg,je,newN,jw,jN,jP,jY,jQ,jM,jS,jz,jA,jC,jD,jE,jm,jB,evX,evL,evB,rd,get,subG,memG,jT,jV,hyps,gob,impP,allP,j1,jX,j3,kj,nth,j8,kh,jU,lenB,kg,jR,entN,setE,jZ,addE,setL,setN,putE,env0,eqCs,j6,eqC,bA,bO,bN,bE,negB,kEq,ke,j5,lend,frz,frzL,zRow,j9,j7,closed,jy,jW,binI,remP,remI,retK,retG,ko,retD,ki,resL,resD,oneD,renD,renL,renE,j0,rho,jL,j4,zla,zlb,zlc,zld,zca,zcb,o1,o0,og,Nat.reduceBEq,Nat.reduceAdd,Nat.beq]
 rw [qU _ hc]
 refine Rt.pick [2] rfl ?_ rfl
 dsimp only [jn,jH,jO,jq,jF,jJ,jo,jG,jI,iteR,regK,jh,jc,jk,jj,jb,ji,blkK,kp,kd,jd,ja,jx,fpOk,foot,km,allN,memN,jK,jl,jr,jv,jt,ju,jf,jg,je,newN,jw,jN,jP,jY,jQ,jM,jS,jz,jA,jC,jD,jE,jm,jB,evX,evL,evB,rd,get,subG,memG,jT,jV,hyps,gob,impP,allP,j1,jX,j3,kj,nth,j8,kh,jU,lenB,kg,jR,entN,setE,jZ,addE,setL,setN,putE,env0,eqCs,j6,eqC,bA,bO,bN,bE,negB,kEq,ke,j5,lend,frz,frzL,zRow,j9,j7,closed,jy,jW,binI,remP,remI,retK,retG,ko,retD,ki,resL,resD,oneD,renD,renL,renE,j0,rho,jL,j4,zla,zlb,zlc,zld,zca,zcb,o1,o0,og,Nat.reduceBEq,Nat.reduceAdd,Nat.beq]
 rw [qU _ hc]
theorem Zd {n : Int} {d : D} (hd : closed d = true) : ∀ {kv : KV}, jy (mpV kv) = true -> jy (mpV (put kv n d)) = true
 | [], _ => by simp [put, mpV, jy, qf, hd]
 | p :: r, h => by
   simp only [mpV, List.map_cons, jy, qf] at h
   simp only [put]
   split
   ·simp only [mpV, List.map_cons, jy, qf]; exact ⟨hd, h.2⟩
   ·simp only [mpV, List.map_cons, jy, qf]; exact ⟨h.1, Zd hd h.2⟩
theorem jB8 {f : Nat -> D} (hf : ∀ k, closed (f k) = true) {n : Nat} : jy (mpV (mKV f n)) = true := by
 unfold mKV mpV
 rw [List.map_map]
 generalize List.range (n + 1) = l
 induction l with
 | nil => rfl
 | cons k l ih =>
   simp only [List.map_cons, jy, qf]
   exact ⟨hf k, ih⟩
theorem jb1 (b : Bx) : closed (bxD b) = true := by simp [bxD, closed, jy, bA]
theorem ji9 {kv : KV} (hn : NdK kv) (hne : kv ≠ []) (hc : jy (mpV kv) = true) {id : Int} (hid : fits .u32 id) (h1 : id ≠ 1) (hck : yh id = 0) {b : Bx} (hbc : Jg b.x = true /\ Jg b.y = true) (hbs : Qq b.w = true /\ Qq b.h = true)
  (hbg : badG b.g = false /\ badG b.b = false) (hbp : b.s = true \/ reg b.p = []) (hlen : lk kv id = none -> kv.length < 64) (hl64 : kv.length <= 64) (hv : ∀ d, lk kv id = some d -> ∃ b', d = bxD b') :
  TSp 54 [.agg [mpD .u32 kv], .int .u32 id, bxD b] (.tup [.agg [mpD .u32 (put kv id (bxD b))], .int .i64 0]) := by
 refine K9 (by rfl) ?_
 dsimp only [c_place_Place_Set, kF, bxD, mpD, jn,jH,jO,jq,jF,jJ,jo,jG,jI,iteR,regK,jh,jc,jk,jj,jb,ji,blkK,kp,kd,jd,ja,jx,fpOk,foot,km,allN,memN,jK,jl,jr,jv,jt,ju,jf,jg,je,newN,jw,jN,jP,jY,jQ,jM,jS,jz,jA,jC,jD,jE,jm,jB,evX,evL,evB,rd,get,subG,memG,jT,jV,hyps,gob,impP,allP,j1,jX,j3,kj,nth,j8,kh,jU,lenB,kg,jR,entN,setE,jZ,addE,setL,setN,putE,env0,eqCs,j6,eqC,bA,bO,bN,bE,negB,kEq,ke,j5,lend,frz,frzL,zRow,j9,j7,closed,jy,jW,binI,remP,remI,retK,retG,ko,retD,ki,resL,resD,oneD,renD,renL,renE,j0,rho,jL,j4,zla,zlb,zlc,zld,zca,zcb,o1,o0,og,Nat.reduceBEq,Nat.reduceAdd,Nat.beq]
 refine ⟨fun h => absurd (by simpa using h) h1, fun _ => ?_⟩
 refine kq (xJ hid) ?_
 dsimp only [c_place_Place_Set, kF, bxD, mpD, jn,jH,jO,jq,jF,jJ,jo,jG,jI,iteR,regK,jh,jc,jk,jj,jb,ji,blkK,kp,kd,jd,ja,jx,fpOk,foot,km,allN,memN,jK,jl,jr,jv,jt,ju,jf,jg,je,newN,jw,jN,jP,jY,jQ,jM,jS,jz,jA,jC,jD,jE,jm,jB,evX,evL,evB,rd,get,subG,memG,jT,jV,hyps,gob,impP,allP,j1,jX,j3,kj,nth,j8,kh,jU,lenB,kg,jR,entN,setE,jZ,addE,setL,setN,putE,env0,eqCs,j6,eqC,bA,bO,bN,bE,negB,kEq,ke,j5,lend,frz,frzL,zRow,j9,j7,closed,jy,jW,binI,remP,remI,retK,retG,ko,retD,ki,resL,resD,oneD,renD,renL,renE,j0,rho,jL,j4,zla,zlb,zlc,zld,zca,zcb,o1,o0,og,Nat.reduceBEq,Nat.reduceAdd,Nat.beq]
 rw [hck]
 refine ⟨fun h => absurd h (by simp), fun _ => ?_⟩
 have hlk : ∃ b0 o, (∀ bx, PrM Tryz.prog gtab (.lkp 87 true) [.mp (mpK .u32 kv) (mpV kv), .int .u32 id] bx (.tup [bxD b0, .bool o]) bx) /\ (o = false -> kv.length < 64) := by
  cases h : lk kv id with
  | none => exact ⟨_, false, fun _ => pr_boxN hn h, fun _ => hlen h⟩
  | some d =>
    obtain ⟨b', rfl⟩ := hv d h
    exact ⟨b', true, fun _ => jl1 hn h, nofun⟩
 obtain ⟨b0, o, hlk, ho⟩ := hlk
 refine kO _ (hlk _) ?_
 dsimp only [c_place_Place_Set, kF, bxD, mpD, jn,jH,jO,jq,jF,jJ,jo,jG,jI,iteR,regK,jh,jc,jk,jj,jb,ji,blkK,kp,kd,jd,ja,jx,fpOk,foot,km,allN,memN,jK,jl,jr,jv,jt,ju,jf,jg,je,newN,jw,jN,jP,jY,jQ,jM,jS,jz,jA,jC,jD,jE,jm,jB,evX,evL,evB,rd,get,subG,memG,jT,jV,hyps,gob,impP,allP,j1,jX,j3,kj,nth,j8,kh,jU,lenB,kg,jR,entN,setE,jZ,addE,setL,setN,putE,env0,eqCs,j6,eqC,bA,bO,bN,bE,negB,kEq,ke,j5,lend,frz,frzL,zRow,j9,j7,closed,jy,jW,binI,remP,remI,retK,retG,ko,retD,ki,resL,resD,oneD,renD,renL,renE,j0,rho,jL,j4,zla,zlb,zlc,zld,zca,zcb,o1,o0,og,Nat.reduceBEq,Nat.reduceAdd,Nat.beq]
 refine kq J2 ?_
 dsimp only [c_place_Place_Set, kF, bxD, mpD, jn,jH,jO,jq,jF,jJ,jo,jG,jI,iteR,regK,jh,jc,jk,jj,jb,ji,blkK,kp,kd,jd,ja,jx,fpOk,foot,km,allN,memN,jK,jl,jr,jv,jt,ju,jf,jg,je,newN,jw,jN,jP,jY,jQ,jM,jS,jz,jA,jC,jD,jE,jm,jB,evX,evL,evB,rd,get,subG,memG,jT,jV,hyps,gob,impP,allP,j1,jX,j3,kj,nth,j8,kh,jU,lenB,kg,jR,entN,setE,jZ,addE,setL,setN,putE,env0,eqCs,j6,eqC,bA,bO,bN,bE,negB,kEq,ke,j5,lend,frz,frzL,zRow,j9,j7,closed,jy,jW,binI,remP,remI,retK,retG,ko,retD,ki,resL,resD,oneD,renD,renL,renE,j0,rho,jL,j4,zla,zlb,zlc,zld,zca,zcb,o1,o0,og,Nat.reduceBEq,Nat.reduceAdd,Nat.beq]
 refine kq (fun _ => J2) ?_
 dsimp only [c_place_Place_Set, kF, bxD, mpD, jn,jH,jO,jq,jF,jJ,jo,jG,jI,iteR,regK,jh,jc,jk,jj,jb,ji,blkK,kp,kd,jd,ja,jx,fpOk,foot,km,allN,memN,jK,jl,jr,jv,jt,ju,jf,jg,je,newN,jw,jN,jP,jY,jQ,jM,jS,jz,jA,jC,jD,jE,jm,jB,evX,evL,evB,rd,get,subG,memG,jT,jV,hyps,gob,impP,allP,j1,jX,j3,kj,nth,j8,kh,jU,lenB,kg,jR,entN,setE,jZ,addE,setL,setN,putE,env0,eqCs,j6,eqC,bA,bO,bN,bE,negB,kEq,ke,j5,lend,frz,frzL,zRow,j9,j7,closed,jy,jW,binI,remP,remI,retK,retG,ko,retD,ki,resL,resD,oneD,renD,renL,renE,j0,rho,jL,j4,zla,zlb,zlc,zld,zca,zcb,o1,o0,og,Nat.reduceBEq,Nat.reduceAdd,Nat.beq]
 rw [hbc.1, hbc.2]
 refine ⟨fun h => absurd h (by simp), fun _ => ?_⟩
 refine kq xd ?_
 dsimp only [c_place_Place_Set, kF, bxD, mpD, jn,jH,jO,jq,jF,jJ,jo,jG,jI,iteR,regK,jh,jc,jk,jj,jb,ji,blkK,kp,kd,jd,ja,jx,fpOk,foot,km,allN,memN,jK,jl,jr,jv,jt,ju,jf,jg,je,newN,jw,jN,jP,jY,jQ,jM,jS,jz,jA,jC,jD,jE,jm,jB,evX,evL,evB,rd,get,subG,memG,jT,jV,hyps,gob,impP,allP,j1,jX,j3,kj,nth,j8,kh,jU,lenB,kg,jR,entN,setE,jZ,addE,setL,setN,putE,env0,eqCs,j6,eqC,bA,bO,bN,bE,negB,kEq,ke,j5,lend,frz,frzL,zRow,j9,j7,closed,jy,jW,binI,remP,remI,retK,retG,ko,retD,ki,resL,resD,oneD,renD,renL,renE,j0,rho,jL,j4,zla,zlb,zlc,zld,zca,zcb,o1,o0,og,Nat.reduceBEq,Nat.reduceAdd,Nat.beq]
 refine kq (fun _ => xd) ?_
 dsimp only [c_place_Place_Set, kF, bxD, mpD, jn,jH,jO,jq,jF,jJ,jo,jG,jI,iteR,regK,jh,jc,jk,jj,jb,ji,blkK,kp,kd,jd,ja,jx,fpOk,foot,km,allN,memN,jK,jl,jr,jv,jt,ju,jf,jg,je,newN,jw,jN,jP,jY,jQ,jM,jS,jz,jA,jC,jD,jE,jm,jB,evX,evL,evB,rd,get,subG,memG,jT,jV,hyps,gob,impP,allP,j1,jX,j3,kj,nth,j8,kh,jU,lenB,kg,jR,entN,setE,jZ,addE,setL,setN,putE,env0,eqCs,j6,eqC,bA,bO,bN,bE,negB,kEq,ke,j5,lend,frz,frzL,zRow,j9,j7,closed,jy,jW,binI,remP,remI,retK,retG,ko,retD,ki,resL,resD,oneD,renD,renL,renE,j0,rho,jL,j4,zla,zlb,zlc,zld,zca,zcb,o1,o0,og,Nat.reduceBEq,Nat.reduceAdd,Nat.beq]
 rw [hbs.1, hbs.2]
 refine ⟨fun h => absurd h (by simp), fun _ => ?_⟩
 refine kq yn ?_
 dsimp only [c_place_Place_Set, kF, bxD, mpD, jn,jH,jO,jq,jF,jJ,jo,jG,jI,iteR,regK,jh,jc,jk,jj,jb,ji,blkK,kp,kd,jd,ja,jx,fpOk,foot,km,allN,memN,jK,jl,jr,jv,jt,ju,jf,jg,je,newN,jw,jN,jP,jY,jQ,jM,jS,jz,jA,jC,jD,jE,jm,jB,evX,evL,evB,rd,get,subG,memG,jT,jV,hyps,gob,impP,allP,j1,jX,j3,kj,nth,j8,kh,jU,lenB,kg,jR,entN,setE,jZ,addE,setL,setN,putE,env0,eqCs,j6,eqC,bA,bO,bN,bE,negB,kEq,ke,j5,lend,frz,frzL,zRow,j9,j7,closed,jy,jW,binI,remP,remI,retK,retG,ko,retD,ki,resL,resD,oneD,renD,renL,renE,j0,rho,jL,j4,zla,zlb,zlc,zld,zca,zcb,o1,o0,og,Nat.reduceBEq,Nat.reduceAdd,Nat.beq]
 refine kq (fun _ => yn) ?_
 dsimp only [c_place_Place_Set, kF, bxD, mpD, jn,jH,jO,jq,jF,jJ,jo,jG,jI,iteR,regK,jh,jc,jk,jj,jb,ji,blkK,kp,kd,jd,ja,jx,fpOk,foot,km,allN,memN,jK,jl,jr,jv,jt,ju,jf,jg,je,newN,jw,jN,jP,jY,jQ,jM,jS,jz,jA,jC,jD,jE,jm,jB,evX,evL,evB,rd,get,subG,memG,jT,jV,hyps,gob,impP,allP,j1,jX,j3,kj,nth,j8,kh,jU,lenB,kg,jR,entN,setE,jZ,addE,setL,setN,putE,env0,eqCs,j6,eqC,bA,bO,bN,bE,negB,kEq,ke,j5,lend,frz,frzL,zRow,j9,j7,closed,jy,jW,binI,remP,remI,retK,retG,ko,retD,ki,resL,resD,oneD,renD,renL,renE,j0,rho,jL,j4,zla,zlb,zlc,zld,zca,zcb,o1,o0,og,Nat.reduceBEq,Nat.reduceAdd,Nat.beq]
 rw [hbg.1, hbg.2]
 refine ⟨fun h => absurd h (by simp), fun _ => ?_⟩
 refine kq (fun _ => ZF) ?_
 dsimp only [c_place_Place_Set, kF, bxD, mpD, jn,jH,jO,jq,jF,jJ,jo,jG,jI,iteR,regK,jh,jc,jk,jj,jb,ji,blkK,kp,kd,jd,ja,jx,fpOk,foot,km,allN,memN,jK,jl,jr,jv,jt,ju,jf,jg,je,newN,jw,jN,jP,jY,jQ,jM,jS,jz,jA,jC,jD,jE,jm,jB,evX,evL,evB,rd,get,subG,memG,jT,jV,hyps,gob,impP,allP,j1,jX,j3,kj,nth,j8,kh,jU,lenB,kg,jR,entN,setE,jZ,addE,setL,setN,putE,env0,eqCs,j6,eqC,bA,bO,bN,bE,negB,kEq,ke,j5,lend,frz,frzL,zRow,j9,j7,closed,jy,jW,binI,remP,remI,retK,retG,ko,retD,ki,resL,resD,oneD,renD,renL,renE,j0,rho,jL,j4,zla,zlb,zlc,zld,zca,zcb,o1,o0,og,Nat.reduceBEq,Nat.reduceAdd,Nat.beq]
 refine ⟨fun h => ?_, fun _ => ?_⟩
 ·exfalso
  rcases hbp with h' | h'
  ·rw [h'] at h; simp at h
  ·rw [ku, h'] at h; simp at h
 refine kO _ (fun _ => YB tB) ?_
 dsimp only [c_place_Place_Set, kF, bxD, mpD, jn,jH,jO,jq,jF,jJ,jo,jG,jI,iteR,regK,jh,jc,jk,jj,jb,ji,blkK,kp,kd,jd,ja,jx,fpOk,foot,km,allN,memN,jK,jl,jr,jv,jt,ju,jf,jg,je,newN,jw,jN,jP,jY,jQ,jM,jS,jz,jA,jC,jD,jE,jm,jB,evX,evL,evB,rd,get,subG,memG,jT,jV,hyps,gob,impP,allP,j1,jX,j3,kj,nth,j8,kh,jU,lenB,kg,jR,entN,setE,jZ,addE,setL,setN,putE,env0,eqCs,j6,eqC,bA,bO,bN,bE,negB,kEq,ke,j5,lend,frz,frzL,zRow,j9,j7,closed,jy,jW,binI,remP,remI,retK,retG,ko,retD,ki,resL,resD,oneD,renD,renL,renE,j0,rho,jL,j4,zla,zlb,zlc,zld,zca,zcb,o1,o0,og,Nat.reduceBEq,Nat.reduceAdd,Nat.beq]
 refine ⟨fun h => ?_, fun _ => ?_⟩
 ·exfalso
  cases o
  ·have := ho rfl
   simp at h; omega
  ·simp at h
 refine kO _ (YB tB) ?_
 dsimp only [c_place_Place_Set, kF, bxD, mpD, jn,jH,jO,jq,jF,jJ,jo,jG,jI,iteR,regK,jh,jc,jk,jj,jb,ji,blkK,kp,kd,jd,ja,jx,fpOk,foot,km,allN,memN,jK,jl,jr,jv,jt,ju,jf,jg,je,newN,jw,jN,jP,jY,jQ,jM,jS,jz,jA,jC,jD,jE,jm,jB,evX,evL,evB,rd,get,subG,memG,jT,jV,hyps,gob,impP,allP,j1,jX,j3,kj,nth,j8,kh,jU,lenB,kg,jR,entN,setE,jZ,addE,setL,setN,putE,env0,eqCs,j6,eqC,bA,bO,bN,bE,negB,kEq,ke,j5,lend,frz,frzL,zRow,j9,j7,closed,jy,jW,binI,remP,remI,retK,retG,ko,retD,ki,resL,resD,oneD,renD,renL,renE,j0,rho,jL,j4,zla,zlb,zlc,zld,zca,zcb,o1,o0,og,Nat.reduceBEq,Nat.reduceAdd,Nat.beq]
 have hkl : kv.length ≠ 0 := fun h => hne (List.length_eq_zero_iff.1 h)
 refine ⟨fun h => ?_, fun _ => ?_⟩
 ·exfalso; simp at h; exact hne h
 refine kX [] (jc4 hne hc) rfl rfl ?_
 dsimp only [c_place_Place_Set, kF, bxD, mpD, mapE, jn,jH,jO,jq,jF,jJ,jo,jG,jI,iteR,regK,jh,jc,jk,jj,jb,ji,blkK,kp,kd,jd,ja,jx,fpOk,foot,km,allN,memN,jK,jl,jr,jv,jt,ju,jf,jg,je,newN,jw,jN,jP,jY,jQ,jM,jS,jz,jA,jC,jD,jE,jm,jB,evX,evL,evB,rd,get,subG,memG,jT,jV,hyps,gob,impP,allP,j1,jX,j3,kj,nth,j8,kh,jU,lenB,kg,jR,entN,setE,jZ,addE,setL,setN,putE,env0,eqCs,j6,eqC,bA,bO,bN,bE,negB,kEq,ke,j5,lend,frz,frzL,zRow,j9,j7,closed,jy,jW,binI,remP,remI,retK,retG,ko,retD,ki,resL,resD,oneD,renD,renL,renE,j0,rho,jL,j4,zla,zlb,zlc,zld,zca,zcb,o1,o0,og,Nat.reduceBEq,Nat.reduceAdd,Nat.beq]
 rw [qU _ hc]
 refine qh _ _ (ye tB tI (kv := kv) rfl hn id _) ?_
 dsimp only [c_place_Place_Set, kF, bxD, mpD, mapE, jn,jH,jO,jq,jF,jJ,jo,jG,jI,iteR,regK,jh,jc,jk,jj,jb,ji,blkK,kp,kd,jd,ja,jx,fpOk,foot,km,allN,memN,jK,jl,jr,jv,jt,ju,jf,jg,je,newN,jw,jN,jP,jY,jQ,jM,jS,jz,jA,jC,jD,jE,jm,jB,evX,evL,evB,rd,get,subG,memG,jT,jV,hyps,gob,impP,allP,j1,jX,j3,kj,nth,j8,kh,jU,lenB,kg,jR,entN,setE,jZ,addE,setL,setN,putE,env0,eqCs,j6,eqC,bA,bO,bN,bE,negB,kEq,ke,j5,lend,frz,frzL,zRow,j9,j7,closed,jy,jW,binI,remP,remI,retK,retG,ko,retD,ki,resL,resD,oneD,renD,renL,renE,j0,rho,jL,j4,zla,zlb,zlc,zld,zca,zcb,o1,o0,og,Nat.reduceBEq,Nat.reduceAdd,Nat.beq]
 exact ⟨rfl, Zd (jb1 b) hc, rfl⟩
theorem vC {kv : KV} (hn : NdK kv) {id : Int} {b : Bx} (h : lk kv id = some (bxD b)) : TSp 52 [.agg [mpD .u32 kv], .int .u32 id] (.tup [bxD b, .bool true]) := by
 refine Qa (by rfl) ?_
 dsimp only [c_place_Place_Box, vH, bxD, mpD, jn,jH,jO,jq,jF,jJ,jo,jG,jI,iteR,regK,jh,jc,jk,jj,jb,ji,blkK,kp,kd,jd,ja,jx,fpOk,foot,km,allN,memN,jK,jl,jr,jv,jt,ju,jf,jg,je,newN,jw,jN,jP,jY,jQ,jM,jS,jz,jA,jC,jD,jE,jm,jB,evX,evL,evB,rd,get,subG,memG,jT,jV,hyps,gob,impP,allP,j1,jX,j3,kj,nth,j8,kh,jU,lenB,kg,jR,entN,setE,jZ,addE,setL,setN,putE,env0,eqCs,j6,eqC,bA,bO,bN,bE,negB,kEq,ke,j5,lend,frz,frzL,zRow,j9,j7,closed,jy,jW,binI,remP,remI,retK,retG,ko,retD,ki,resL,resD,oneD,renD,renL,renE,j0,rho,jL,j4,zla,zlb,zlc,zld,zca,zcb,o1,o0,og,Nat.reduceBEq,Nat.reduceAdd,Nat.beq]
 refine kO _ (jl1 hn h) ?_
 dsimp only [c_place_Place_Box, vH, bxD, mpD, jn,jH,jO,jq,jF,jJ,jo,jG,jI,iteR,regK,jh,jc,jk,jj,jb,ji,blkK,kp,kd,jd,ja,jx,fpOk,foot,km,allN,memN,jK,jl,jr,jv,jt,ju,jf,jg,je,newN,jw,jN,jP,jY,jQ,jM,jS,jz,jA,jC,jD,jE,jm,jB,evX,evL,evB,rd,get,subG,memG,jT,jV,hyps,gob,impP,allP,j1,jX,j3,kj,nth,j8,kh,jU,lenB,kg,jR,entN,setE,jZ,addE,setL,setN,putE,env0,eqCs,j6,eqC,bA,bO,bN,bE,negB,kEq,ke,j5,lend,frz,frzL,zRow,j9,j7,closed,jy,jW,binI,remP,remI,retK,retG,ko,retD,ki,resL,resD,oneD,renD,renL,renE,j0,rho,jL,j4,zla,zlb,zlc,zld,zca,zcb,o1,o0,og,Nat.reduceBEq,Nat.reduceAdd,Nat.beq]
def q9 (b : Bx) : PS := if b.s = true then fun x y => b.p x y /\ Rc.has ⟨0, 0, b.w, b.h⟩ x y else fun x y => Rc.has ⟨0, 0, b.w, b.h⟩ x y
theorem yR {b : Bx} {x y : Int} (h : q9 b x y) : (0 <= x /\ x < b.w) /\ 0 <= y /\ y < b.h := by
 unfold q9 at h
 split at h
 ·have := h.2; unfold Rc.has at this; dsimp only at this; omega
 ·unfold Rc.has at h; dsimp only at h; omega
theorem z1 {kv : KV} (hn : NdK kv) {id : Int} {b : Bx} (h : lk kv id = some (bxD b)) (hw : 1 <= b.w /\ b.w <= 128) (hh : 1 <= b.h /\ b.h <= 128) (hp : Bdd b.p) (hl : (reg b.p).length <= 4096) :
  TSp 39 [.agg [mpD .u32 kv], .int .u32 id] (rgD (q9 b)) := by
 have vr : Vr ⟨0, 0, b.w, b.h⟩ := by unfold Vr; dsimp only; omega
 refine JZ (by rfl) ?_
 dsimp only [c_place_Place_Area, qX, bxD, mpD, rgD, jn,jH,jO,jq,jF,jJ,jo,jG,jI,iteR,regK,jh,jc,jk,jj,jb,ji,blkK,kp,kd,jd,ja,jx,fpOk,foot,km,allN,memN,jK,jl,jr,jv,jt,ju,jf,jg,je,newN,jw,jN,jP,jY,jQ,jM,jS,jz,jA,jC,jD,jE,jm,jB,evX,evL,evB,rd,get,subG,memG,jT,jV,hyps,gob,impP,allP,j1,jX,j3,kj,nth,j8,kh,jU,lenB,kg,jR,entN,setE,jZ,addE,setL,setN,putE,env0,eqCs,j6,eqC,bA,bO,bN,bE,negB,kEq,ke,j5,lend,frz,frzL,zRow,j9,j7,closed,jy,jW,binI,remP,remI,retK,retG,ko,retD,ki,resL,resD,oneD,renD,renL,renE,j0,rho,jL,j4,zla,zlb,zlc,zld,zca,zcb,o1,o0,og,Nat.reduceBEq,Nat.reduceAdd,Nat.beq]
 have hb := jl1 (bx := [.cells [.mp (mpK .u32 kv) (mpV kv)], .cells [.ls 4 []]]) hn h
 refine kO _ hb ?_
 dsimp only [c_place_Place_Area, qX, bxD, mpD, rgD, jn,jH,jO,jq,jF,jJ,jo,jG,jI,iteR,regK,jh,jc,jk,jj,jb,ji,blkK,kp,kd,jd,ja,jx,fpOk,foot,km,allN,memN,jK,jl,jr,jv,jt,ju,jf,jg,je,newN,jw,jN,jP,jY,jQ,jM,jS,jz,jA,jC,jD,jE,jm,jB,evX,evL,evB,rd,get,subG,memG,jT,jV,hyps,gob,impP,allP,j1,jX,j3,kj,nth,j8,kh,jU,lenB,kg,jR,entN,setE,jZ,addE,setL,setN,putE,env0,eqCs,j6,eqC,bA,bO,bN,bE,negB,kEq,ke,j5,lend,frz,frzL,zRow,j9,j7,closed,jy,jW,binI,remP,remI,retK,retG,ko,retD,ki,resL,resD,oneD,renD,renL,renE,j0,rho,jL,j4,zla,zlb,zlc,zld,zca,zcb,o1,o0,og,Nat.reduceBEq,Nat.reduceAdd,Nat.beq]
 refine ⟨nofun, fun _ => ?_⟩
 refine ⟨fun hs => ?_, fun hs => ?_⟩
 ·refine kq (jI7 (c := ⟨0, 0, b.w, b.h⟩) hp vr (by omega)) ?_
  dsimp only [c_place_Place_Area, qX, bxD, mpD, rgD, jn,jH,jO,jq,jF,jJ,jo,jG,jI,iteR,regK,jh,jc,jk,jj,jb,ji,blkK,kp,kd,jd,ja,jx,fpOk,foot,km,allN,memN,jK,jl,jr,jv,jt,ju,jf,jg,je,newN,jw,jN,jP,jY,jQ,jM,jS,jz,jA,jC,jD,jE,jm,jB,evX,evL,evB,rd,get,subG,memG,jT,jV,hyps,gob,impP,allP,j1,jX,j3,kj,nth,j8,kh,jU,lenB,kg,jR,entN,setE,jZ,addE,setL,setN,putE,env0,eqCs,j6,eqC,bA,bO,bN,bE,negB,kEq,ke,j5,lend,frz,frzL,zRow,j9,j7,closed,jy,jW,binI,remP,remI,retK,retG,ko,retD,ki,resL,resD,oneD,renD,renL,renE,j0,rho,jL,j4,zla,zlb,zlc,zld,zca,zcb,o1,o0,og,Nat.reduceBEq,Nat.reduceAdd,Nat.beq]
  rw [show q9 b = fun x y => b.p x y /\ Rc.has ⟨0, 0, b.w, b.h⟩ x y from if_pos hs]
 ·refine kq (VC vr) ?_
  dsimp only [c_place_Place_Area, qX, bxD, mpD, rgD, jn,jH,jO,jq,jF,jJ,jo,jG,jI,iteR,regK,jh,jc,jk,jj,jb,ji,blkK,kp,kd,jd,ja,jx,fpOk,foot,km,allN,memN,jK,jl,jr,jv,jt,ju,jf,jg,je,newN,jw,jN,jP,jY,jQ,jM,jS,jz,jA,jC,jD,jE,jm,jB,evX,evL,evB,rd,get,subG,memG,jT,jV,hyps,gob,impP,allP,j1,jX,j3,kj,nth,j8,kh,jU,lenB,kg,jR,entN,setE,jZ,addE,setL,setN,putE,env0,eqCs,j6,eqC,bA,bO,bN,bE,negB,kEq,ke,j5,lend,frz,frzL,zRow,j9,j7,closed,jy,jW,binI,remP,remI,retK,retG,ko,retD,ki,resL,resD,oneD,renD,renL,renE,j0,rho,jL,j4,zla,zlb,zlc,zld,zca,zcb,o1,o0,og,Nat.reduceBEq,Nat.reduceAdd,Nat.beq]
  rw [show q9 b = fun x y => Rc.has ⟨0, 0, b.w, b.h⟩ x y from if_neg (by simp [hs])]
end Go.AM
