import Derived.Test.YtoaialdcgmkbgaaGreatRQ3
import Derived.Test.YtoaialdcgmkbgaaGreatRCode3
import Derived.Test.YtoaialdcgmkbgaaGreatRA24

set_option linter.all false
namespace Go.AM
open Go Go.Proofs
theorem jI8 (a b : Bool) : TSp 70 [.bool a, .bool b] (.bool (a && b)) := by
 refine Zr (by rfl) ?_
 dsimp only [c_region_Meet_1, Jw, jn,jH,jO,jq,jF,jJ,jo,jG,jI,iteR,regK,jh,jc,jk,jj,jb,ji,blkK,kp,kd,jd,ja,jx,fpOk,foot,km,allN,memN,jK,jl,jr,jv,jt,ju,jf,jg,je,newN,jw,jN,jP,jY,jQ,jM,jS,jz,jA,jC,jD,jE,jm,jB,evX,evL,evB,rd,get,subG,memG,jT,jV,hyps,gob,impP,allP,j1,jX,j3,kj,nth,j8,kh,jU,lenB,kg,jR,entN,setE,jZ,addE,setL,setN,putE,env0,eqCs,j6,eqC,bA,bO,bN,bE,negB,kEq,ke,j5,lend,frz,frzL,zRow,j9,j7,closed,jy,jW,binI,remP,remI,retK,retG,ko,retD,ki,resL,resD,oneD,renD,renL,renE,j0,rho,jL,j4,zla,zlb,zlc,zld,zca,zcb,o1,o0,og,Nat.reduceBEq,Nat.reduceAdd,Nat.beq]
theorem jy3 (a b : Bool) : TSp 82 [.bool a, .bool b] (.bool (a && !b)) := by
 refine QC (by rfl) ?_
 dsimp only [c_region_Minus_1, yx, jn,jH,jO,jq,jF,jJ,jo,jG,jI,iteR,regK,jh,jc,jk,jj,jb,ji,blkK,kp,kd,jd,ja,jx,fpOk,foot,km,allN,memN,jK,jl,jr,jv,jt,ju,jf,jg,je,newN,jw,jN,jP,jY,jQ,jM,jS,jz,jA,jC,jD,jE,jm,jB,evX,evL,evB,rd,get,subG,memG,jT,jV,hyps,gob,impP,allP,j1,jX,j3,kj,nth,j8,kh,jU,lenB,kg,jR,entN,setE,jZ,addE,setL,setN,putE,env0,eqCs,j6,eqC,bA,bO,bN,bE,negB,kEq,ke,j5,lend,frz,frzL,zRow,j9,j7,closed,jy,jW,binI,remP,remI,retK,retG,ko,retD,ki,resL,resD,oneD,renD,renL,renE,j0,rho,jL,j4,zla,zlb,zlc,zld,zca,zcb,o1,o0,og,Nat.reduceBEq,Nat.reduceAdd,Nat.beq]
theorem Kp2_and {P Q : Prop} : Kp2 (fun a b => a && b) P Q ↔ P /\ Q := by
 unfold Kp2; simp
theorem Kp2_not {P Q : Prop} : Kp2 (fun a b => a && !b) P Q ↔ P /\ ¬ Q := by
 unfold Kp2; simp
theorem XW {P Q : Int -> Int -> Prop} (hP : Bdd P) (hQ : Bdd Q) (hl : (reg P).length + (reg Q).length <= 8192) :
  TSp 13 [.agg [.ls 4 (rcs (reg P))], .agg [.ls 4 (rcs (reg Q))]] (.agg [.ls 4 (rcs (reg fun x y => P x y /\ Q x y))]) := by
 rw [show (reg fun x y => P x y /\ Q x y) = reg fun x y => Kp2 (fun a b => a && b) (P x y) (Q x y) from xW fun x y => Kp2_and.symm]
 refine XG (by rfl) ?_
 dsimp only [c_region_Meet, yb, jn,jH,jO,jq,jF,jJ,jo,jG,jI,iteR,regK,jh,jc,jk,jj,jb,ji,blkK,kp,kd,jd,ja,jx,fpOk,foot,km,allN,memN,jK,jl,jr,jv,jt,ju,jf,jg,je,newN,jw,jN,jP,jY,jQ,jM,jS,jz,jA,jC,jD,jE,jm,jB,evX,evL,evB,rd,get,subG,memG,jT,jV,hyps,gob,impP,allP,j1,jX,j3,kj,nth,j8,kh,jU,lenB,kg,jR,entN,setE,jZ,addE,setL,setN,putE,env0,eqCs,j6,eqC,bA,bO,bN,bE,negB,kEq,ke,j5,lend,frz,frzL,zRow,j9,j7,closed,jy,jW,binI,remP,remI,retK,retG,ko,retD,ki,resL,resD,oneD,renD,renL,renE,j0,rho,jL,j4,zla,zlb,zlc,zld,zca,zcb,o1,o0,og,Nat.reduceBEq,Nat.reduceAdd,Nat.beq]
 refine kq (jD6 (kf := fun a b => a && b) rfl jI8 hP hQ hl) ?_
 dsimp only [c_region_Meet, yb, jn,jH,jO,jq,jF,jJ,jo,jG,jI,iteR,regK,jh,jc,jk,jj,jb,ji,blkK,kp,kd,jd,ja,jx,fpOk,foot,km,allN,memN,jK,jl,jr,jv,jt,ju,jf,jg,je,newN,jw,jN,jP,jY,jQ,jM,jS,jz,jA,jC,jD,jE,jm,jB,evX,evL,evB,rd,get,subG,memG,jT,jV,hyps,gob,impP,allP,j1,jX,j3,kj,nth,j8,kh,jU,lenB,kg,jR,entN,setE,jZ,addE,setL,setN,putE,env0,eqCs,j6,eqC,bA,bO,bN,bE,negB,kEq,ke,j5,lend,frz,frzL,zRow,j9,j7,closed,jy,jW,binI,remP,remI,retK,retG,ko,retD,ki,resL,resD,oneD,renD,renL,renE,j0,rho,jL,j4,zla,zlb,zlc,zld,zca,zcb,o1,o0,og,Nat.reduceBEq,Nat.reduceAdd,Nat.beq]
theorem jq3 {P Q : Int -> Int -> Prop} (hP : Bdd P) (hQ : Bdd Q) (hl : (reg P).length + (reg Q).length <= 8192) :
  TSp 23 [.agg [.ls 4 (rcs (reg P))], .agg [.ls 4 (rcs (reg Q))]] (.agg [.ls 4 (rcs (reg fun x y => P x y /\ ¬ Q x y))]) := by
 rw [show (reg fun x y => P x y /\ ¬ Q x y) = reg fun x y => Kp2 (fun a b => a && !b) (P x y) (Q x y) from xW fun x y => Kp2_not.symm]
 refine Vv (by rfl) ?_
 dsimp only [c_region_Minus, xQ, jn,jH,jO,jq,jF,jJ,jo,jG,jI,iteR,regK,jh,jc,jk,jj,jb,ji,blkK,kp,kd,jd,ja,jx,fpOk,foot,km,allN,memN,jK,jl,jr,jv,jt,ju,jf,jg,je,newN,jw,jN,jP,jY,jQ,jM,jS,jz,jA,jC,jD,jE,jm,jB,evX,evL,evB,rd,get,subG,memG,jT,jV,hyps,gob,impP,allP,j1,jX,j3,kj,nth,j8,kh,jU,lenB,kg,jR,entN,setE,jZ,addE,setL,setN,putE,env0,eqCs,j6,eqC,bA,bO,bN,bE,negB,kEq,ke,j5,lend,frz,frzL,zRow,j9,j7,closed,jy,jW,binI,remP,remI,retK,retG,ko,retD,ki,resL,resD,oneD,renD,renL,renE,j0,rho,jL,j4,zla,zlb,zlc,zld,zca,zcb,o1,o0,og,Nat.reduceBEq,Nat.reduceAdd,Nat.beq]
 refine kq (jD6 (kf := fun a b => a && !b) rfl jy3 hP hQ hl) ?_
 dsimp only [c_region_Minus, xQ, jn,jH,jO,jq,jF,jJ,jo,jG,jI,iteR,regK,jh,jc,jk,jj,jb,ji,blkK,kp,kd,jd,ja,jx,fpOk,foot,km,allN,memN,jK,jl,jr,jv,jt,ju,jf,jg,je,newN,jw,jN,jP,jY,jQ,jM,jS,jz,jA,jC,jD,jE,jm,jB,evX,evL,evB,rd,get,subG,memG,jT,jV,hyps,gob,impP,allP,j1,jX,j3,kj,nth,j8,kh,jU,lenB,kg,jR,entN,setE,jZ,addE,setL,setN,putE,env0,eqCs,j6,eqC,bA,bO,bN,bE,negB,kEq,ke,j5,lend,frz,frzL,zRow,j9,j7,closed,jy,jW,binI,remP,remI,retK,retG,ko,retD,ki,resL,resD,oneD,renD,renL,renE,j0,rho,jL,j4,zla,zlb,zlc,zld,zca,zcb,o1,o0,og,Nat.reduceBEq,Nat.reduceAdd,Nat.beq]
theorem jI9 {P Q : Int -> Int -> Prop} (hP : Bdd P) (hQ : Bdd Q) (hl : (reg P).length + (reg Q).length <= 8192) {b : Bool} (hb : b = true ↔ ∀ x y, P x y -> Q x y) :
  TSp 38 [.agg [.ls 4 (rcs (reg P))], .agg [.ls 4 (rcs (reg Q))]] (.bool b) := by
 have hM : Bdd fun x y => P x y /\ ¬ Q x y := fun x y h => hP x y h.1
 have e : (decide (((rcs (reg fun x y => P x y /\ ¬ Q x y)).length : Int) = 0)) = b := by
  rw [ku, Bool.eq_iff_iff, decide_eq_true_iff, hb]
  have h1 : ((reg fun x y => P x y /\ ¬ Q x y).length : Int) = 0 ↔ (reg fun x y => P x y /\ ¬ Q x y) = [] := by
   rw [<- List.length_eq_zero_iff]; omega
  rw [h1, KL hM]
  constructor
  ·intro h x y hp
   exact Classical.byContradiction fun hq => h x y ⟨hp, hq⟩
  ·rintro h x y ⟨hp, hq⟩; exact hq (h x y hp)
 rw [<- e]
 refine Zs (by rfl) ?_
 dsimp only [c_region_Inside, vf, jn,jH,jO,jq,jF,jJ,jo,jG,jI,iteR,regK,jh,jc,jk,jj,jb,ji,blkK,kp,kd,jd,ja,jx,fpOk,foot,km,allN,memN,jK,jl,jr,jv,jt,ju,jf,jg,je,newN,jw,jN,jP,jY,jQ,jM,jS,jz,jA,jC,jD,jE,jm,jB,evX,evL,evB,rd,get,subG,memG,jT,jV,hyps,gob,impP,allP,j1,jX,j3,kj,nth,j8,kh,jU,lenB,kg,jR,entN,setE,jZ,addE,setL,setN,putE,env0,eqCs,j6,eqC,bA,bO,bN,bE,negB,kEq,ke,j5,lend,frz,frzL,zRow,j9,j7,closed,jy,jW,binI,remP,remI,retK,retG,ko,retD,ki,resL,resD,oneD,renD,renL,renE,j0,rho,jL,j4,zla,zlb,zlc,zld,zca,zcb,o1,o0,og,Nat.reduceBEq,Nat.reduceAdd,Nat.beq]
 refine kq (jq3 hP hQ hl) ?_
 dsimp only [c_region_Inside, vf, jn,jH,jO,jq,jF,jJ,jo,jG,jI,iteR,regK,jh,jc,jk,jj,jb,ji,blkK,kp,kd,jd,ja,jx,fpOk,foot,km,allN,memN,jK,jl,jr,jv,jt,ju,jf,jg,je,newN,jw,jN,jP,jY,jQ,jM,jS,jz,jA,jC,jD,jE,jm,jB,evX,evL,evB,rd,get,subG,memG,jT,jV,hyps,gob,impP,allP,j1,jX,j3,kj,nth,j8,kh,jU,lenB,kg,jR,entN,setE,jZ,addE,setL,setN,putE,env0,eqCs,j6,eqC,bA,bO,bN,bE,negB,kEq,ke,j5,lend,frz,frzL,zRow,j9,j7,closed,jy,jW,binI,remP,remI,retK,retG,ko,retD,ki,resL,resD,oneD,renD,renL,renE,j0,rho,jL,j4,zla,zlb,zlc,zld,zca,zcb,o1,o0,og,Nat.reduceBEq,Nat.reduceAdd,Nat.beq]
 refine kq ZF ?_
 dsimp only [c_region_Inside, vf, jn,jH,jO,jq,jF,jJ,jo,jG,jI,iteR,regK,jh,jc,jk,jj,jb,ji,blkK,kp,kd,jd,ja,jx,fpOk,foot,km,allN,memN,jK,jl,jr,jv,jt,ju,jf,jg,je,newN,jw,jN,jP,jY,jQ,jM,jS,jz,jA,jC,jD,jE,jm,jB,evX,evL,evB,rd,get,subG,memG,jT,jV,hyps,gob,impP,allP,j1,jX,j3,kj,nth,j8,kh,jU,lenB,kg,jR,entN,setE,jZ,addE,setL,setN,putE,env0,eqCs,j6,eqC,bA,bO,bN,bE,negB,kEq,ke,j5,lend,frz,frzL,zRow,j9,j7,closed,jy,jW,binI,remP,remI,retK,retG,ko,retD,ki,resL,resD,oneD,renD,renL,renE,j0,rho,jL,j4,zla,zlb,zlc,zld,zca,zcb,o1,o0,og,Nat.reduceBEq,Nat.reduceAdd,Nat.beq]
theorem XX {c : Rc} (hc : Vr c) : reg (pts (allL [c])) = [c] /\ (reg fun x y => c.has x y) = [c] /\ Bdd fun x y => c.has x y := by
 have hv := hc
 unfold Vr at hv
 have hcan : JF [c] := ⟨[⟨c.y, c.h, [(c.x, c.x + c.w)]⟩], ⟨by dsimp only; omega, by simp, by show c.x < c.x + c.w; omega⟩, by
  simp [qr]; cases c; simp; omega⟩
 have hall : allL [c] = [c] := by simp [allL, Vg.2 hc]
 rw [hall]
 refine ⟨Yv hcan fun _ _ => Iff.rfl, Yv hcan fun x y => jE9, fun x y h => ?_⟩
 unfold Rc.has at h; omega
theorem VC {c : Rc} (hc : Vr c) : TSp 11 [.ls 4 [rD c]] (.agg [.ls 4 (rcs (reg fun x y => c.has x y))]) := by
 have := xK (l := [c]) (fun r hr => by simp at hr; subst hr; exact hc.in) (by simp)
 rw [(XX hc).1.trans (XX hc).2.1.symm] at this
 exact this
theorem jI7 {P : Int -> Int -> Prop} {c : Rc} (hP : Bdd P) (hc : Vr c) (hl : (reg P).length <= 8191) :
  TSp 19 [.agg [.ls 4 (rcs (reg P))], rD c] (.agg [.ls 4 (rcs (reg fun x y => P x y /\ c.has x y))]) := by
 refine Zq (by rfl) ?_
 dsimp only [c_region_Within, ve, rD, jn,jH,jO,jq,jF,jJ,jo,jG,jI,iteR,regK,jh,jc,jk,jj,jb,ji,blkK,kp,kd,jd,ja,jx,fpOk,foot,km,allN,memN,jK,jl,jr,jv,jt,ju,jf,jg,je,newN,jw,jN,jP,jY,jQ,jM,jS,jz,jA,jC,jD,jE,jm,jB,evX,evL,evB,rd,get,subG,memG,jT,jV,hyps,gob,impP,allP,j1,jX,j3,kj,nth,j8,kh,jU,lenB,kg,jR,entN,setE,jZ,addE,setL,setN,putE,env0,eqCs,j6,eqC,bA,bO,bN,bE,negB,kEq,ke,j5,lend,frz,frzL,zRow,j9,j7,closed,jy,jW,binI,remP,remI,retK,retG,ko,retD,ki,resL,resD,oneD,renD,renL,renE,j0,rho,jL,j4,zla,zlb,zlc,zld,zca,zcb,o1,o0,og,Nat.reduceBEq,Nat.reduceAdd,Nat.beq]
 refine kq (VC hc) ?_
 dsimp only [c_region_Within, ve, jn,jH,jO,jq,jF,jJ,jo,jG,jI,iteR,regK,jh,jc,jk,jj,jb,ji,blkK,kp,kd,jd,ja,jx,fpOk,foot,km,allN,memN,jK,jl,jr,jv,jt,ju,jf,jg,je,newN,jw,jN,jP,jY,jQ,jM,jS,jz,jA,jC,jD,jE,jm,jB,evX,evL,evB,rd,get,subG,memG,jT,jV,hyps,gob,impP,allP,j1,jX,j3,kj,nth,j8,kh,jU,lenB,kg,jR,entN,setE,jZ,addE,setL,setN,putE,env0,eqCs,j6,eqC,bA,bO,bN,bE,negB,kEq,ke,j5,lend,frz,frzL,zRow,j9,j7,closed,jy,jW,binI,remP,remI,retK,retG,ko,retD,ki,resL,resD,oneD,renD,renL,renE,j0,rho,jL,j4,zla,zlb,zlc,zld,zca,zcb,o1,o0,og,Nat.reduceBEq,Nat.reduceAdd,Nat.beq]
 refine kq (XW hP (XX hc).2.2 (by rw [(XX hc).2.1]; simp; omega)) ?_
 dsimp only [c_region_Within, ve, jn,jH,jO,jq,jF,jJ,jo,jG,jI,iteR,regK,jh,jc,jk,jj,jb,ji,blkK,kp,kd,jd,ja,jx,fpOk,foot,km,allN,memN,jK,jl,jr,jv,jt,ju,jf,jg,je,newN,jw,jN,jP,jY,jQ,jM,jS,jz,jA,jC,jD,jE,jm,jB,evX,evL,evB,rd,get,subG,memG,jT,jV,hyps,gob,impP,allP,j1,jX,j3,kj,nth,j8,kh,jU,lenB,kg,jR,entN,setE,jZ,addE,setL,setN,putE,env0,eqCs,j6,eqC,bA,bO,bN,bE,negB,kEq,ke,j5,lend,frz,frzL,zRow,j9,j7,closed,jy,jW,binI,remP,remI,retK,retG,ko,retD,ki,resL,resD,oneD,renD,renL,renE,j0,rho,jL,j4,zla,zlb,zlc,zld,zca,zcb,o1,o0,og,Nat.reduceBEq,Nat.reduceAdd,Nat.beq]

abbrev Kids := List (Int × List Int)
abbrev UpsT := List (Int × Int)
def iL (l : List Int) : List D := l.map fun n => .int .u32 n
theorem qT (l : List Int) : (iL l).length = l.length := by simp [iL]
theorem Xu {l : List Int} {i : Nat} (h : i < l.length) : (iL l)[i]? = some (.int .u32 l[i]) := by simp [iL, h]
theorem jB1 (a b : List Int) : iL a ++ iL b = iL (a ++ b) := by simp [iL]
def kKV (k : Kids) : KV := k.map fun p => (p.1, .ls 1 (iL p.2))
def uKV (u : UpsT) : KV := u.map fun p => (p.1, .int .u32 p.2)
structure TT where
 kids : Kids
 up : UpsT
def tD (t : TT) : D := .agg [mpD .u32 (kKV t.kids), mpD .u32 (uKV t.up)]
def kJ (t : TT) (id : Int) : List Int := (lk t.kids id).getD []
def hasT (t : TT) (id : Int) : Bool := (lk t.up id).isSome || decide (id = 1)
structure TT.Ok (t : TT) : Prop where
 kn : NdK t.kids
 un : NdK t.up
 kl : ∀ id, (kJ t id).length <= 64
 ul : t.up.length <= 63
theorem tK : Tryz.prog.underlying 83 = some (.map 53 95) := by kernel_rfl
theorem tU : Tryz.prog.underlying 84 = some (.map 53 53) := by kernel_rfl
theorem tI : Tryz.prog.underlying 53 = some (.int .u32) := by kernel_rfl
theorem tLs : Tryz.prog.underlying 95 = some (.slice 53) := by kernel_rfl
theorem zU : ZV Tryz.prog 53 (.int .u32 0) := by unfold ZV; kernel_rfl
theorem zK : ZV Tryz.prog 95 (.slice none 0 0) := by unfold ZV; kernel_rfl
theorem lkU (u : UpsT) (id : Int) (c : Bool) : lkD c (lk (uKV u) id) (.int .u32 0) = match c with | false => .int .u32 ((lk u id).getD 0) | true => .tup [.int .u32 ((lk u id).getD 0), .bool (lk u id).isSome] := by
 unfold uKV
 rw [jm3 (f := fun n => D.int .u32 n)]
 cases lk u id <;> cases c <;> rfl
theorem lkK (k : Kids) (id : Int) : lkD false (lk (kKV k) id) (.ls 1 []) = .ls 1 (iL ((lk k id).getD [])) := by
 unfold kKV
 rw [jm3 (f := fun l => D.ls 1 (iL l))]
 cases lk k id <;> rfl
theorem X8 {u : UpsT} (h : NdK u) : NdK (uKV u) := jF6.2 h
theorem kKV_nd {k : Kids} (h : NdK k) : NdK (kKV k) := (jF6 (f := fun l : List Int => D.ls 1 (iL l))).2 h
theorem pr_upT {bx : List Ent} {u : UpsT} (h : NdK u) (id : Int) : PrM Tryz.prog gtab (.lkp 84 true) [.mp (mpK .u32 (uKV u)) (mpV (uKV u)), .int .u32 id] bx (.tup [.int .u32 ((lk u id).getD 0), .bool (lk u id).isSome]) bx := by
 have := Ja (gt := gtab) (bx := bx) tU tI zU (X8 h) id true (zd := .int .u32 0) (fun _ _ _ => by simp [Rep])
 rw [lkU] at this; exact this
theorem pr_upF {bx : List Ent} {u : UpsT} (h : NdK u) (id : Int) : PrM Tryz.prog gtab (.lkp 84 false) [.mp (mpK .u32 (uKV u)) (mpV (uKV u)), .int .u32 id] bx (.int .u32 ((lk u id).getD 0)) bx := by
 have := Ja (gt := gtab) (bx := bx) tU tI zU (X8 h) id false (zd := .int .u32 0) (fun _ _ _ => by simp [Rep])
 rw [lkU] at this; exact this
theorem jF2 {bx : List Ent} {k : Kids} (h : NdK k) (id : Int) : PrM Tryz.prog gtab (.lkp 83 false) [.mp (mpK .u32 (kKV k)) (mpV (kKV k)), .int .u32 id] bx (.ls 1 (iL ((lk k id).getD []))) bx := by
 have := Ja (gt := gtab) (bx := bx) tK tI zK (kKV_nd h) id false (zd := .ls 1 []) (fun _ _ _ => by simp only [Rep]; exact ⟨none, 0, 0, rfl, rfl, Nat.le_refl _, fun _ => rfl, .inl trivial⟩)
 rw [lkK] at this; exact this
theorem xh {t : TT} (h : t.Ok) (id : Int) : TSp 153 [tD t, .int .u32 id] (.bool (hasT t id)) := by
 refine Zm (by rfl) ?_
 dsimp only [c_tree_Tree_Has, Jt, tD, jn,jH,jO,jq,jF,jJ,jo,jG,jI,iteR,regK,jh,jc,jk,jj,jb,ji,blkK,kp,kd,jd,ja,jx,fpOk,foot,km,allN,memN,jK,jl,jr,jv,jt,ju,jf,jg,je,newN,jw,jN,jP,jY,jQ,jM,jS,jz,jA,jC,jD,jE,jm,jB,evX,evL,evB,rd,get,subG,memG,jT,jV,hyps,gob,impP,allP,j1,jX,j3,kj,nth,j8,kh,jU,lenB,kg,jR,entN,setE,jZ,addE,setL,setN,putE,env0,eqCs,j6,eqC,bA,bO,bN,bE,negB,kEq,ke,j5,lend,frz,frzL,zRow,j9,j7,closed,jy,jW,binI,remP,remI,retK,retG,ko,retD,ki,resL,resD,oneD,renD,renL,renE,j0,rho,jL,j4,zla,zlb,zlc,zld,zca,zcb,o1,o0,og,Nat.reduceBEq,Nat.reduceAdd,Nat.beq]
 refine kO _ (pr_upT h.un id) ?_
 dsimp only [jn,jH,jO,jq,jF,jJ,jo,jG,jI,iteR,regK,jh,jc,jk,jj,jb,ji,blkK,kp,kd,jd,ja,jx,fpOk,foot,km,allN,memN,jK,jl,jr,jv,jt,ju,jf,jg,je,newN,jw,jN,jP,jY,jQ,jM,jS,jz,jA,jC,jD,jE,jm,jB,evX,evL,evB,rd,get,subG,memG,jT,jV,hyps,gob,impP,allP,j1,jX,j3,kj,nth,j8,kh,jU,lenB,kg,jR,entN,setE,jZ,addE,setL,setN,putE,env0,eqCs,j6,eqC,bA,bO,bN,bE,negB,kEq,ke,j5,lend,frz,frzL,zRow,j9,j7,closed,jy,jW,binI,remP,remI,retK,retG,ko,retD,ki,resL,resD,oneD,renD,renL,renE,j0,rho,jL,j4,zla,zlb,zlc,zld,zca,zcb,o1,o0,og,Nat.reduceBEq,Nat.reduceAdd,Nat.beq]
 unfold hasT
 cases lk t.up id <;> simp
theorem jp7 : TSp 93 [] (tD ⟨[], []⟩) := by
 refine ji5 (by rfl) ?_
 dsimp only [c_tree_New, Yx, tD, jn,jH,jO,jq,jF,jJ,jo,jG,jI,iteR,regK,jh,jc,jk,jj,jb,ji,blkK,kp,kd,jd,ja,jx,fpOk,foot,km,allN,memN,jK,jl,jr,jv,jt,ju,jf,jg,je,newN,jw,jN,jP,jY,jQ,jM,jS,jz,jA,jC,jD,jE,jm,jB,evX,evL,evB,rd,get,subG,memG,jT,jV,hyps,gob,impP,allP,j1,jX,j3,kj,nth,j8,kh,jU,lenB,kg,jR,entN,setE,jZ,addE,setL,setN,putE,env0,eqCs,j6,eqC,bA,bO,bN,bE,negB,kEq,ke,j5,lend,frz,frzL,zRow,j9,j7,closed,jy,jW,binI,remP,remI,retK,retG,ko,retD,ki,resL,resD,oneD,renD,renL,renE,j0,rho,jL,j4,zla,zlb,zlc,zld,zca,zcb,o1,o0,og,Nat.reduceBEq,Nat.reduceAdd,Nat.beq]
 rfl
theorem Jq {l : List Int} (hl : l.length < 1000000) : TSp 103 [.ls 1 (iL l)] (.ls 1 (iL l)) := by
 refine vN (by rfl) ?_
 dsimp only [c_slices_Clone_api_ID_api_ID, qq, jn,jH,jO,jq,jF,jJ,jo,jG,jI,iteR,regK,jh,jc,jk,jj,jb,ji,blkK,kp,kd,jd,ja,jx,fpOk,foot,km,allN,memN,jK,jl,jr,jv,jt,ju,jf,jg,je,newN,jw,jN,jP,jY,jQ,jM,jS,jz,jA,jC,jD,jE,jm,jB,evX,evL,evB,rd,get,subG,memG,jT,jV,hyps,gob,impP,allP,j1,jX,j3,kj,nth,j8,kh,jU,lenB,kg,jR,entN,setE,jZ,addE,setL,setN,putE,env0,eqCs,j6,eqC,bA,bO,bN,bE,negB,kEq,ke,j5,lend,frz,frzL,zRow,j9,j7,closed,jy,jW,binI,remP,remI,retK,retG,ko,retD,ki,resL,resD,oneD,renD,renL,renE,j0,rho,jL,j4,zla,zlb,zlc,zld,zca,zcb,o1,o0,og,Nat.reduceBEq,Nat.reduceAdd,Nat.beq]
 refine y9 _ (jl0 (e := 53) tLs false) ?_
 rintro d bx' ⟨rfl, b, rfl, hb⟩
 dsimp only [jn,jH,jO,jq,jF,jJ,jo,jG,jI,iteR,regK,jh,jc,jk,jj,jb,ji,blkK,kp,kd,jd,ja,jx,fpOk,foot,km,allN,memN,jK,jl,jr,jv,jt,ju,jf,jg,je,newN,jw,jN,jP,jY,jQ,jM,jS,jz,jA,jC,jD,jE,jm,jB,evX,evL,evB,rd,get,subG,memG,jT,jV,hyps,gob,impP,allP,j1,jX,j3,kj,nth,j8,kh,jU,lenB,kg,jR,entN,setE,jZ,addE,setL,setN,putE,env0,eqCs,j6,eqC,bA,bO,bN,bE,negB,kEq,ke,j5,lend,frz,frzL,zRow,j9,j7,closed,jy,jW,binI,remP,remI,retK,retG,ko,retD,ki,resL,resD,oneD,renD,renL,renE,j0,rho,jL,j4,zla,zlb,zlc,zld,zca,zcb,o1,o0,og,Nat.reduceBEq,Nat.reduceAdd,Nat.beq]
 refine ⟨fun h => ?_, fun h => ?_⟩
 ·have : b = true := by simpa using h
  rw [hb this]
  exact ⟨rfl, rfl⟩
 ·refine ⟨⟨rfl, rfl, rfl, rfl, by rw [qT]; simp; omega⟩, ?_⟩
  exact ⟨rfl, by simp⟩
theorem XN {l : List Int} (hl : l.length < 1000000) : TSpM 103 [.ls 1 (iL l)] [] (.own 0 1) [.arr 53 1 1 (iL l)] := by
 refine vP (by rfl) ?_
 dsimp only [c_slices_Clone_api_ID_api_ID, qq, jn,jH,jO,jq,jF,jJ,jo,jG,jI,iteR,regK,jh,jc,jk,jj,jb,ji,blkK,kp,kd,jd,ja,jx,fpOk,foot,km,allN,memN,jK,jl,jr,jv,jt,ju,jf,jg,je,newN,jw,jN,jP,jY,jQ,jM,jS,jz,jA,jC,jD,jE,jm,jB,evX,evL,evB,rd,get,subG,memG,jT,jV,hyps,gob,impP,allP,j1,jX,j3,kj,nth,j8,kh,jU,lenB,kg,jR,entN,setE,jZ,addE,setL,setN,putE,env0,eqCs,j6,eqC,bA,bO,bN,bE,negB,kEq,ke,j5,lend,frz,frzL,zRow,j9,j7,closed,jy,jW,binI,remP,remI,retK,retG,ko,retD,ki,resL,resD,oneD,renD,renL,renE,j0,rho,jL,j4,zla,zlb,zlc,zld,zca,zcb,o1,o0,og,Nat.reduceBEq,Nat.reduceAdd,Nat.beq]
 refine y9 _ (jl0 (e := 53) tLs false) ?_
 rintro d bx' ⟨rfl, b, rfl, hb⟩
 dsimp only [jn,jH,jO,jq,jF,jJ,jo,jG,jI,iteR,regK,jh,jc,jk,jj,jb,ji,blkK,kp,kd,jd,ja,jx,fpOk,foot,km,allN,memN,jK,jl,jr,jv,jt,ju,jf,jg,je,newN,jw,jN,jP,jY,jQ,jM,jS,jz,jA,jC,jD,jE,jm,jB,evX,evL,evB,rd,get,subG,memG,jT,jV,hyps,gob,impP,allP,j1,jX,j3,kj,nth,j8,kh,jU,lenB,kg,jR,entN,setE,jZ,addE,setL,setN,putE,env0,eqCs,j6,eqC,bA,bO,bN,bE,negB,kEq,ke,j5,lend,frz,frzL,zRow,j9,j7,closed,jy,jW,binI,remP,remI,retK,retG,ko,retD,ki,resL,resD,oneD,renD,renL,renE,j0,rho,jL,j4,zla,zlb,zlc,zld,zca,zcb,o1,o0,og,Nat.reduceBEq,Nat.reduceAdd,Nat.beq]
 refine ⟨fun h => ?_, fun h => ?_⟩
 ·have : b = true := by simpa using h
  rw [hb this]
  exact Rt.row rfl
 ·refine ⟨⟨rfl, rfl, rfl, rfl, by rw [qT]; simp; omega⟩, ?_⟩
  exact Rt.row rfl
end Go.AM
