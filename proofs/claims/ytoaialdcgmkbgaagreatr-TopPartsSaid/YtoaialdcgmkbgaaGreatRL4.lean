import Derived.Test.YtoaialdcgmkbgaaGreatRL3
import Derived.Test.YtoaialdcgmkbgaaGreatRQ4

set_option linter.all false
namespace Go.AM
open Go Go.Proofs
def sumX (X : Nat -> Int) (l : List Nat) : Int := (l.map fun j => if j = 0 then 0 else X j).sum
theorem jM8 {X : Nat -> Int} {a b : List Nat} : sumX X (a ++ b) = sumX X a + sumX X b := by simp [sumX]
theorem YF {par : Nat -> Nat} {X : Nat -> Int} : ∀ {f k : Nat}, orgP par X f k = sumX X (Kl par f k)
 | 0, _ => rfl
 | f + 1, k => by
   simp only [orgP, Kl]
   by_cases h : k = 0
   ·simp [h, sumX]
   ·simp only [h, if_false]
    rw [YF (f := f)]
    simp [sumX, h]
theorem jd6 {X : Nat -> Int} {l : List Nat} {i : Nat} (h : i < l.length) : sumX X (l.take (i + 1)) = sumX X (l.take i) + if l[i] = 0 then 0 else X l[i] := by
 rw [List.take_succ_eq_append_getElem h, jM8]; simp [sumX]
theorem ji4 {X : Nat -> Int} {B : Int} (hB : 0 <= B) (hX : ∀ k, 1 <= k -> -B <= X k /\ X k <= B) : ∀ {l : List Nat}, -(B * l.length) <= sumX X l /\ sumX X l <= B * l.length
 | [] => by simp [sumX]
 | j :: l => by
   have h := ji4 hB hX (l := l)
   have e : sumX X (j :: l) = (if j = 0 then 0 else X j) + sumX X l := by simp [sumX]
   have e2 : B * ((j :: l).length : Int) = B * l.length + B := by rw [List.length_cons, Int.natCast_add, Int.mul_add]; simp
   rw [e, e2]
   split
   ·omega
   ·have := hX j (by omega); omega
theorem jt0 {par : Nat -> Nat} (hp : PW par) : ∀ {f k j : Nat}, j ∈ Kl par f k -> j <= k
 | 0, _, _, h => by simp [Kl] at h
 | f + 1, k, j, h => by
   simp only [Kl, List.mem_cons] at h
   rcases h with rfl | h
   ·exact Nat.le_refl _
   ·split at h
    ·cases h
    ·exact Nat.le_trans (jt0 hp h) (hp.le k)
structure Ws where
 par : Nat -> Nat
 n : Nat
 B : Nat -> Bx
def Ws.tr (S : Ws) : TT := mkT S.par S.n
noncomputable def Ws.kv (S : Ws) : KV := mKV (fun k => bxD (S.B k)) S.n
structure Ws.Ok (S : Ws) : Prop where
 pw : PW S.par
 few : S.n <= 40
 size : ∀ k, (1 <= (S.B k).w /\ (S.B k).w <= 16) /\ 1 <= (S.B k).h /\ (S.B k).h <= 16
 x : ∀ k, 1 <= k -> -200 <= (S.B k).x /\ (S.B k).x <= 200
 y : ∀ k, 1 <= k -> -200 <= (S.B k).y /\ (S.B k).y <= 200
 bdd : ∀ k, Bdd (S.B k).p /\ (reg (S.B k).p).length <= 4096
def Ws.ox (S : Ws) (k : Nat) : Int := org S.par (fun j => (S.B j).x) k
def Ws.oy (S : Ws) (k : Nat) : Int := org S.par (fun j => (S.B j).y) k
theorem Ws.Ok.tok {S : Ws} (h : S.Ok) : S.tr.Ok := jS2 (by have := h.few; omega)
theorem Ws.kv_nd {S : Ws} : NdK S.kv := YK
theorem Ws.kv_lk {S : Ws} {k : Nat} (h : k <= S.n) : lk S.kv (idn k) = some (bxD (S.B k)) := by unfold Ws.kv; rw [VN, if_pos h]
noncomputable def stOr (S : Ws) (l : List Nat) (i : Nat) : St := ⟨[(3, [], .box 0 0), (6, [], .box 2 0), (8, [], .box 3 0), (20, [], .ls 1 (iL (l.map idn))), (21, [], .int .i64 l.length), (22, [], .int .i64 i)],
 [.cells [.mp (mpK .u32 S.kv) (mpV S.kv)], .cells [.mp (mpK .u32 (kKV S.tr.kids)) (mpV (kKV S.tr.kids)), .mp (mpK .u32 (uKV S.tr.up)) (mpV (uKV S.tr.up))], .cells [.int .i64 0, .int .i64 0], .cells [.int .i64 (sumX (fun j => (S.B j).x) (l.take i)), .int .i64 (sumX (fun j => (S.B j).y) (l.take i))]]⟩
theorem XL {S : Ws} (hS : S.Ok) {k : Nat} (hk : k <= S.n) : TSp 99 [.agg [mpD .u32 S.kv], tD S.tr, .int .u32 (idn k)] (.tup [.agg [.int .i64 (S.ox k), .int .i64 (S.oy k)], .bool true]) := by
 have hn := hS.few
 refine yX (by rfl) ?_
 dsimp only [c_place_Place_Origin, xm, jn,jH,jO,jq,jF,jJ,jo,jG,jI,iteR,regK,jh,jc,jk,jj,jb,ji,blkK,kp,kd,jd,ja,jx,fpOk,foot,km,allN,memN,jK,jl,jr,jv,jt,ju,jf,jg,je,newN,jw,jN,jP,jY,jQ,jM,jS,jz,jA,jC,jD,jE,jm,jB,evX,evL,evB,rd,get,subG,memG,jT,jV,hyps,gob,impP,allP,j1,jX,j3,kj,nth,j8,kh,jU,lenB,kg,jR,entN,setE,jZ,addE,setL,setN,putE,env0,eqCs,j6,eqC,bA,bO,bN,bE,negB,kEq,ke,j5,lend,frz,frzL,zRow,j9,j7,closed,jy,jW,binI,remP,remI,retK,retG,ko,retD,ki,resL,resD,oneD,renD,renL,renE,j0,rho,jL,j4,zla,zlb,zlc,zld,zca,zcb,o1,o0,og,Nat.reduceBEq,Nat.reduceAdd,Nat.beq]
 rw [show tD S.tr = .agg [mpD .u32 (kKV S.tr.kids), mpD .u32 (uKV S.tr.up)] from rfl]
 dsimp only [mpD, jn,jH,jO,jq,jF,jJ,jo,jG,jI,iteR,regK,jh,jc,jk,jj,jb,ji,blkK,kp,kd,jd,ja,jx,fpOk,foot,km,allN,memN,jK,jl,jr,jv,jt,ju,jf,jg,je,newN,jw,jN,jP,jY,jQ,jM,jS,jz,jA,jC,jD,jE,jm,jB,evX,evL,evB,rd,get,subG,memG,jT,jV,hyps,gob,impP,allP,j1,jX,j3,kj,nth,j8,kh,jU,lenB,kg,jR,entN,setE,jZ,addE,setL,setN,putE,env0,eqCs,j6,eqC,bA,bO,bN,bE,negB,kEq,ke,j5,lend,frz,frzL,zRow,j9,j7,closed,jy,jW,binI,remP,remI,retK,retG,ko,retD,ki,resL,resD,oneD,renD,renL,renE,j0,rho,jL,j4,zla,zlb,zlc,zld,zca,zcb,o1,o0,og,Nat.reduceBEq,Nat.reduceAdd,Nat.beq]
 refine kq (xh hS.tok (idn k)) ?_
 rw [show hasT S.tr (idn k) = true by rw [Ws.tr, X2]; simp [hk]]
 dsimp only [jn,jH,jO,jq,jF,jJ,jo,jG,jI,iteR,regK,jh,jc,jk,jj,jb,ji,blkK,kp,kd,jd,ja,jx,fpOk,foot,km,allN,memN,jK,jl,jr,jv,jt,ju,jf,jg,je,newN,jw,jN,jP,jY,jQ,jM,jS,jz,jA,jC,jD,jE,jm,jB,evX,evL,evB,rd,get,subG,memG,jT,jV,hyps,gob,impP,allP,j1,jX,j3,kj,nth,j8,kh,jU,lenB,kg,jR,entN,setE,jZ,addE,setL,setN,putE,env0,eqCs,j6,eqC,bA,bO,bN,bE,negB,kEq,ke,j5,lend,frz,frzL,zRow,j9,j7,closed,jy,jW,binI,remP,remI,retK,retG,ko,retD,ki,resL,resD,oneD,renD,renL,renE,j0,rho,jL,j4,zla,zlb,zlc,zld,zca,zcb,o1,o0,og,Nat.reduceBEq,Nat.reduceAdd,Nat.beq]
 refine ⟨nofun, fun _ => ?_⟩
 obtain ⟨l, hl⟩ : ∃ l, Kl S.par (k + 1) k = l := ⟨_, rfl⟩
 have hpth := ju0 hS.pw (n := S.n) (f := k + 1) (k := k) (by omega) hk
 have hll := jf5 (par := S.par) (f := k + 1) (k := k)
 have hle : ∀ j ∈ l, j <= S.n := fun j hj => Nat.le_trans (jt0 hS.pw (hl ▸ hj)) hk
 have hx : S.ox k = sumX (fun j => (S.B j).x) l := by rw [<- hl]; exact YF
 have hy : S.oy k = sumX (fun j => (S.B j).y) l := by rw [<- hl]; exact YF
 rw [hl] at hpth hll
 refine kq (ji7 hS.tok (by rw [Ws.tr, X2]; simp [hk]) hpth (by rw [List.length_map]; omega)) ?_
 dsimp only [jn,jH,jO,jq,jF,jJ,jo,jG,jI,iteR,regK,jh,jc,jk,jj,jb,ji,blkK,kp,kd,jd,ja,jx,fpOk,foot,km,allN,memN,jK,jl,jr,jv,jt,ju,jf,jg,je,newN,jw,jN,jP,jY,jQ,jM,jS,jz,jA,jC,jD,jE,jm,jB,evX,evL,evB,rd,get,subG,memG,jT,jV,hyps,gob,impP,allP,j1,jX,j3,kj,nth,j8,kh,jU,lenB,kg,jR,entN,setE,jZ,addE,setL,setN,putE,env0,eqCs,j6,eqC,bA,bO,bN,bE,negB,kEq,ke,j5,lend,frz,frzL,zRow,j9,j7,closed,jy,jW,binI,remP,remI,retK,retG,ko,retD,ki,resL,resD,oneD,renD,renL,renE,j0,rho,jL,j4,zla,zlb,zlc,zld,zca,zcb,o1,o0,og,Nat.reduceBEq,Nat.reduceAdd,Nat.beq]
 rw [qT, List.length_map]
 refine kG (α := {i : Nat // i <= l.length}) (fun i => stOr S l i.1) (fun i => l.length - i.1) ?_ ⟨0, by simp⟩ rfl
 rintro ⟨i, hi⟩ I ih
 dsimp only [stOr, jn,jH,jO,jq,jF,jJ,jo,jG,jI,iteR,regK,jh,jc,jk,jj,jb,ji,blkK,kp,kd,jd,ja,jx,fpOk,foot,km,allN,memN,jK,jl,jr,jv,jt,ju,jf,jg,je,newN,jw,jN,jP,jY,jQ,jM,jS,jz,jA,jC,jD,jE,jm,jB,evX,evL,evB,rd,get,subG,memG,jT,jV,hyps,gob,impP,allP,j1,jX,j3,kj,nth,j8,kh,jU,lenB,kg,jR,entN,setE,jZ,addE,setL,setN,putE,env0,eqCs,j6,eqC,bA,bO,bN,bE,negB,kEq,ke,j5,lend,frz,frzL,zRow,j9,j7,closed,jy,jW,binI,remP,remI,retK,retG,ko,retD,ki,resL,resD,oneD,renD,renL,renE,j0,rho,jL,j4,zla,zlb,zlc,zld,zca,zcb,o1,o0,og,Nat.reduceBEq,Nat.reduceAdd,Nat.beq]
 refine ⟨fun hj => ?_, fun hj => ?_⟩
 ·have hj : i < l.length := by simp at hj; omega
  have hrow : (iL (l.map idn))[((i : Nat) : Int).toNat]? = some (.int .u32 (idn l[i])) := by
   rw [Int.toNat_natCast]
   have := Xu (l := l.map idn) (i := i) (by rw [List.length_map]; exact hj)
   rw [this]; simp
  have hjn := hle _ (List.getElem_mem hj)
  refine ⟨⟨rfl, by omega, by rw [qT, List.length_map]; omega⟩, ky _ _ hrow rfl ?_⟩
  dsimp only [jn,jH,jO,jq,jF,jJ,jo,jG,jI,iteR,regK,jh,jc,jk,jj,jb,ji,blkK,kp,kd,jd,ja,jx,fpOk,foot,km,allN,memN,jK,jl,jr,jv,jt,ju,jf,jg,je,newN,jw,jN,jP,jY,jQ,jM,jS,jz,jA,jC,jD,jE,jm,jB,evX,evL,evB,rd,get,subG,memG,jT,jV,hyps,gob,impP,allP,j1,jX,j3,kj,nth,j8,kh,jU,lenB,kg,jR,entN,setE,jZ,addE,setL,setN,putE,env0,eqCs,j6,eqC,bA,bO,bN,bE,negB,kEq,ke,j5,lend,frz,frzL,zRow,j9,j7,closed,jy,jW,binI,remP,remI,retK,retG,ko,retD,ki,resL,resD,oneD,renD,renL,renE,j0,rho,jL,j4,zla,zlb,zlc,zld,zca,zcb,o1,o0,og,Nat.reduceBEq,Nat.reduceAdd,Nat.beq]
  refine kO _ (jl1 S.kv_nd (S.kv_lk hjn)) ?_
  dsimp only [bxD, jn,jH,jO,jq,jF,jJ,jo,jG,jI,iteR,regK,jh,jc,jk,jj,jb,ji,blkK,kp,kd,jd,ja,jx,fpOk,foot,km,allN,memN,jK,jl,jr,jv,jt,ju,jf,jg,je,newN,jw,jN,jP,jY,jQ,jM,jS,jz,jA,jC,jD,jE,jm,jB,evX,evL,evB,rd,get,subG,memG,jT,jV,hyps,gob,impP,allP,j1,jX,j3,kj,nth,j8,kh,jU,lenB,kg,jR,entN,setE,jZ,addE,setL,setN,putE,env0,eqCs,j6,eqC,bA,bO,bN,bE,negB,kEq,ke,j5,lend,frz,frzL,zRow,j9,j7,closed,jy,jW,binI,remP,remI,retK,retG,ko,retD,ki,resL,resD,oneD,renD,renL,renE,j0,rho,jL,j4,zla,zlb,zlc,zld,zca,zcb,o1,o0,og,Nat.reduceBEq,Nat.reduceAdd,Nat.beq]
  refine ⟨nofun, fun _ => ?_⟩
  have bx := ji4 (X := fun j => (S.B j).x) (B := 200) (by omega) hS.x (l := l.take i)
  have by_ := ji4 (X := fun j => (S.B j).y) (B := 200) (by omega) hS.y (l := l.take i)
  have htl : (l.take i).length <= 41 := by rw [List.length_take]; omega
  have ex := jd6 (X := fun j => (S.B j).x) hj
  have ey := jd6 (X := fun j => (S.B j).y) hj
  by_cases h0 : l[i] = 0
  ·rw [h0, if_pos rfl, Int.add_zero] at ex ey
   refine ⟨fun h => absurd h (by rw [h0]; simp [idn]), fun _ => ?_⟩
   rw [<- ex, <- ey]
   refine ⟨by simp only [fits]; omega, ?_⟩
   exact qa (ih ⟨i + 1, by omega⟩ (by dsimp only; omega)) ⟨rfl, rfl, rfl, rfl, rfl, rfl, trivial⟩ ⟨rfl, rfl, rfl, rfl, trivial⟩ rfl rfl
  ·rw [if_neg h0] at ex ey
   have h1 := hS.x _ (Nat.one_le_iff_ne_zero.2 h0)
   have h2 := hS.y _ (Nat.one_le_iff_ne_zero.2 h0)
   refine ⟨fun _ => ?_, fun h => absurd h (by simp [Jf, h0])⟩
   refine ⟨by simp only [fits]; omega, by simp only [fits]; omega, ?_⟩
   rw [<- ex, <- ey]
   refine ⟨by simp only [fits]; omega, ?_⟩
   exact qa (ih ⟨i + 1, by omega⟩ (by dsimp only; omega)) ⟨rfl, rfl, rfl, rfl, rfl, rfl, trivial⟩ ⟨rfl, rfl, rfl, rfl, trivial⟩ rfl rfl
 ·have hj : i = l.length := by simp at hj; omega
  subst hj
  rw [List.take_length, <- hx, <- hy]

theorem ZA {t : TT} (h : t.Ok) (id : Int) : TSp 100 [tD t, .int .u32 id] (.ls 1 (iL (kJ t id))) := by
 refine QB (by rfl) ?_
 dsimp only [c_tree_Tree_Kids, yw, jn,jH,jO,jq,jF,jJ,jo,jG,jI,iteR,regK,jh,jc,jk,jj,jb,ji,blkK,kp,kd,jd,ja,jx,fpOk,foot,km,allN,memN,jK,jl,jr,jv,jt,ju,jf,jg,je,newN,jw,jN,jP,jY,jQ,jM,jS,jz,jA,jC,jD,jE,jm,jB,evX,evL,evB,rd,get,subG,memG,jT,jV,hyps,gob,impP,allP,j1,jX,j3,kj,nth,j8,kh,jU,lenB,kg,jR,entN,setE,jZ,addE,setL,setN,putE,env0,eqCs,j6,eqC,bA,bO,bN,bE,negB,kEq,ke,j5,lend,frz,frzL,zRow,j9,j7,closed,jy,jW,binI,remP,remI,retK,retG,ko,retD,ki,resL,resD,oneD,renD,renL,renE,j0,rho,jL,j4,zla,zlb,zlc,zld,zca,zcb,o1,o0,og,Nat.reduceBEq,Nat.reduceAdd,Nat.beq]
 rw [show tD t = .agg [mpD .u32 (kKV t.kids), mpD .u32 (uKV t.up)] from rfl]
 dsimp only [mpD, jn,jH,jO,jq,jF,jJ,jo,jG,jI,iteR,regK,jh,jc,jk,jj,jb,ji,blkK,kp,kd,jd,ja,jx,fpOk,foot,km,allN,memN,jK,jl,jr,jv,jt,ju,jf,jg,je,newN,jw,jN,jP,jY,jQ,jM,jS,jz,jA,jC,jD,jE,jm,jB,evX,evL,evB,rd,get,subG,memG,jT,jV,hyps,gob,impP,allP,j1,jX,j3,kj,nth,j8,kh,jU,lenB,kg,jR,entN,setE,jZ,addE,setL,setN,putE,env0,eqCs,j6,eqC,bA,bO,bN,bE,negB,kEq,ke,j5,lend,frz,frzL,zRow,j9,j7,closed,jy,jW,binI,remP,remI,retK,retG,ko,retD,ki,resL,resD,oneD,renD,renL,renE,j0,rho,jL,j4,zla,zlb,zlc,zld,zca,zcb,o1,o0,og,Nat.reduceBEq,Nat.reduceAdd,Nat.beq]
 refine kO _ (jF2 h.kn id) ?_
 rw [show (lk t.kids id).getD [] = kJ t id from rfl]
 dsimp only [jn,jH,jO,jq,jF,jJ,jo,jG,jI,iteR,regK,jh,jc,jk,jj,jb,ji,blkK,kp,kd,jd,ja,jx,fpOk,foot,km,allN,memN,jK,jl,jr,jv,jt,ju,jf,jg,je,newN,jw,jN,jP,jY,jQ,jM,jS,jz,jA,jC,jD,jE,jm,jB,evX,evL,evB,rd,get,subG,memG,jT,jV,hyps,gob,impP,allP,j1,jX,j3,kj,nth,j8,kh,jU,lenB,kg,jR,entN,setE,jZ,addE,setL,setN,putE,env0,eqCs,j6,eqC,bA,bO,bN,bE,negB,kEq,ke,j5,lend,frz,frzL,zRow,j9,j7,closed,jy,jW,binI,remP,remI,retK,retG,ko,retD,ki,resL,resD,oneD,renD,renL,renE,j0,rho,jL,j4,zla,zlb,zlc,zld,zca,zcb,o1,o0,og,Nat.reduceBEq,Nat.reduceAdd,Nat.beq]
 refine kq (Jq (by have := h.kl id; omega)) ?_
 dsimp only [jn,jH,jO,jq,jF,jJ,jo,jG,jI,iteR,regK,jh,jc,jk,jj,jb,ji,blkK,kp,kd,jd,ja,jx,fpOk,foot,km,allN,memN,jK,jl,jr,jv,jt,ju,jf,jg,je,newN,jw,jN,jP,jY,jQ,jM,jS,jz,jA,jC,jD,jE,jm,jB,evX,evL,evB,rd,get,subG,memG,jT,jV,hyps,gob,impP,allP,j1,jX,j3,kj,nth,j8,kh,jU,lenB,kg,jR,entN,setE,jZ,addE,setL,setN,putE,env0,eqCs,j6,eqC,bA,bO,bN,bE,negB,kEq,ke,j5,lend,frz,frzL,zRow,j9,j7,closed,jy,jW,binI,remP,remI,retK,retG,ko,retD,ki,resL,resD,oneD,renD,renL,renE,j0,rho,jL,j4,zla,zlb,zlc,zld,zca,zcb,o1,o0,og,Nat.reduceBEq,Nat.reduceAdd,Nat.beq]
theorem jq9 {l : List D} : TSpM 101 [.ls 1 l] [] (.fn 157 [.box 0 0]) [.cells [.ls 1 l]] := by
 refine vB (by rfl) ?_
 dsimp only [c_slices_Backward_api_ID_api_ID, zj, jn,jH,jO,jq,jF,jJ,jo,jG,jI,iteR,regK,jh,jc,jk,jj,jb,ji,blkK,kp,kd,jd,ja,jx,fpOk,foot,km,allN,memN,jK,jl,jr,jv,jt,ju,jf,jg,je,newN,jw,jN,jP,jY,jQ,jM,jS,jz,jA,jC,jD,jE,jm,jB,evX,evL,evB,rd,get,subG,memG,jT,jV,hyps,gob,impP,allP,j1,jX,j3,kj,nth,j8,kh,jU,lenB,kg,jR,entN,setE,jZ,addE,setL,setN,putE,env0,eqCs,j6,eqC,bA,bO,bN,bE,negB,kEq,ke,j5,lend,frz,frzL,zRow,j9,j7,closed,jy,jW,binI,remP,remI,retK,retG,ko,retD,ki,resL,resD,oneD,renD,renL,renE,j0,rho,jL,j4,zla,zlb,zlc,zld,zca,zcb,o1,o0,og,Nat.reduceBEq,Nat.reduceAdd,Nat.beq]
 exact Rt.id
def bkD (l : List Int) (r : Nat) : List D := [.int .i64 ((l.length : Int) - 1 - r), .int .u32 (l.getD (l.length - 1 - r) 0)]
def bkL (l : List Int) : List (List D) := (List.range l.length).map (bkD l)
theorem Vj (l : List Int) : (bkL l).length = l.length := by simp [bkL]
theorem jC1 {l : List Int} {r : Nat} (h : r < l.length) : (bkL l)[r]? = some (bkD l r) := by simp [bkL, h]
def BkK (l : List Int) (b : List Ent) : Prop := ∃ e0 e1 e2 e3 e4 e5 e6 e7 e8, b = [e0, e1, e2, e3, e4, e5, e6, e7, e8, .cells [.ls 1 (iL l)]]
theorem it_back {l : List Int} (hl : l.length < 1000000) : jx2 Tryz.prog gtab 157 [.box 9 0] (bkL l) (BkK l) := by
 refine Vk mixed c_slices_Backward_api_ID_api_ID_1 kK (fn := Tryz.f157) (by kernel_rfl) (by kernel_rfl) zY (by kernel_rfl) (by rfl) (by kernel_rfl) fun y m S bs n F1 hn0 hm hy hS hbs hlb hgo hstp => ?_
 rw [Vj] at hm
 have hsh : ∀ k, k <= m -> ∃ e0 e1 e2 e3 e4 e5 e6 e7 e8 o, S k = [e0, e1, e2, e3, e4, e5, e6, e7, e8, .cells [.ls 1 (iL l)], .obj o] /\ n = 11 /\ lowB n (S k) = true := fun k hk => by
  obtain ⟨h1, h2, b0, o, h3, e0, e1, e2, e3, e4, e5, e6, e7, e8, h4⟩ := hS k hk
  refine ⟨e0, e1, e2, e3, e4, e5, e6, e7, e8, o, by rw [h3, h4]; rfl, ?_, h2⟩
  rw [<- h1, h3, h4]; rfl
 have hn8 : n = 11 := (hsh 0 (Nat.zero_le _)).choose_spec.choose_spec.choose_spec.choose_spec.choose_spec.choose_spec.choose_spec.choose_spec.choose_spec.choose_spec.2.1
 subst hn8
 obtain ⟨a0, a1, a2, a3, a4, a5, a6, a7, a8, ao, hS0, _, _⟩ := hsh 0 (Nat.zero_le _)
 rw [hS0]
 dsimp only [c_slices_Backward_api_ID_api_ID_1, kK, jn,jH,jO,jq,jF,jJ,jo,jG,jI,iteR,regK,jh,jc,jk,jj,jb,ji,blkK,kp,kd,jd,ja,jx,fpOk,foot,km,allN,memN,jK,jl,jr,jv,jt,ju,jf,jg,je,newN,jw,jN,jP,jY,jQ,jM,jS,jz,jA,jC,jD,jE,jm,jB,evX,evL,evB,rd,get,subG,memG,jT,jV,hyps,gob,impP,allP,j1,jX,j3,kj,nth,j8,kh,jU,lenB,kg,jR,entN,setE,jZ,addE,setL,setN,putE,env0,eqCs,j6,eqC,bA,bO,bN,bE,negB,kEq,ke,j5,lend,frz,frzL,zRow,j9,j7,closed,jy,jW,binI,remP,remI,retK,retG,ko,retD,ki,resL,resD,oneD,renD,renL,renE,j0,rho,jL,j4,zla,zlb,zlc,zld,zca,zcb,o1,o0,og,Nat.reduceBEq,Nat.reduceAdd,Nat.beq]
 rw [qT, <- hS0]
 clear hS0 a0 a1 a2 a3 a4 a5 a6 a7 a8 ao
 refine ⟨by simp only [fits]; omega, ?_⟩
 refine kG (α := {r : Nat // r <= l.length /\ r <= m})
  (fun r => ⟨[(0, [], .yld y), (1, [], .box 9 0), (3, [], .int .i64 ((l.length : Int) - 1 - (r.1 : Int)))], S r.1⟩) (fun r => l.length - r.1) ?_ ⟨0, by simp⟩ (by simp)
 rintro ⟨r, hr, hk⟩ I ih
 dsimp only at hr hk |-
 obtain ⟨e0, e1, e2, e3, e4, e5, e6, e7, e8, o, hSk, _, hlow⟩ := hsh r hk
 rw [hSk]
 dsimp only [c_slices_Backward_api_ID_api_ID_1, kK, jn,jH,jO,jq,jF,jJ,jo,jG,jI,iteR,regK,jh,jc,jk,jj,jb,ji,blkK,kp,kd,jd,ja,jx,fpOk,foot,km,allN,memN,jK,jl,jr,jv,jt,ju,jf,jg,je,newN,jw,jN,jP,jY,jQ,jM,jS,jz,jA,jC,jD,jE,jm,jB,evX,evL,evB,rd,get,subG,memG,jT,jV,hyps,gob,impP,allP,j1,jX,j3,kj,nth,j8,kh,jU,lenB,kg,jR,entN,setE,jZ,addE,setL,setN,putE,env0,eqCs,j6,eqC,bA,bO,bN,bE,negB,kEq,ke,j5,lend,frz,frzL,zRow,j9,j7,closed,jy,jW,binI,remP,remI,retK,retG,ko,retD,ki,resL,resD,oneD,renD,renL,renE,j0,rho,jL,j4,zla,zlb,zlc,zld,zca,zcb,o1,o0,og,Nat.reduceBEq,Nat.reduceAdd,Nat.beq]
 refine ⟨fun hlt => ?_, fun hge => ?_⟩
 ·have hil : r < l.length := by simp only [decide_eq_true_eq] at hlt; omega
  have hrow : (iL l)[((l.length : Int) - 1 - r).toNat]? = some (.int .u32 (l.getD (l.length - 1 - r) 0)) := by
   rw [show ((l.length : Int) - 1 - r).toNat = l.length - 1 - r by omega, Xu (by omega)]
   rw [List.getD_eq_getElem?_getD, List.getElem?_eq_getElem (by omega)]; rfl
  refine ⟨⟨rfl, by omega, by rw [qT]; omega⟩, ky _ _ hrow rfl ?_⟩
  dsimp only [c_slices_Backward_api_ID_api_ID_1, kK, jn,jH,jO,jq,jF,jJ,jo,jG,jI,iteR,regK,jh,jc,jk,jj,jb,ji,blkK,kp,kd,jd,ja,jx,fpOk,foot,km,allN,memN,jK,jl,jr,jv,jt,ju,jf,jg,je,newN,jw,jN,jP,jY,jQ,jM,jS,jz,jA,jC,jD,jE,jm,jB,evX,evL,evB,rd,get,subG,memG,jT,jV,hyps,gob,impP,allP,j1,jX,j3,kj,nth,j8,kh,jU,lenB,kg,jR,entN,setE,jZ,addE,setL,setN,putE,env0,eqCs,j6,eqC,bA,bO,bN,bE,negB,kEq,ke,j5,lend,frz,frzL,zRow,j9,j7,closed,jy,jW,binI,remP,remI,retK,retG,ko,retD,ki,resL,resD,oneD,renD,renL,renE,j0,rho,jL,j4,zla,zlb,zlc,zld,zca,zcb,o1,o0,og,Nat.reduceBEq,Nat.reduceAdd,Nat.beq]
  rcases Nat.lt_or_ge r m with hkm | hkm
  ·have hp := hgo r _ hkm (jC1 hil) [3, 53]
   rw [bkD, hSk] at hp
   refine qh _ _ hp ?_
   dsimp only [c_slices_Backward_api_ID_api_ID_1, kK, jn,jH,jO,jq,jF,jJ,jo,jG,jI,iteR,regK,jh,jc,jk,jj,jb,ji,blkK,kp,kd,jd,ja,jx,fpOk,foot,km,allN,memN,jK,jl,jr,jv,jt,ju,jf,jg,je,newN,jw,jN,jP,jY,jQ,jM,jS,jz,jA,jC,jD,jE,jm,jB,evX,evL,evB,rd,get,subG,memG,jT,jV,hyps,gob,impP,allP,j1,jX,j3,kj,nth,j8,kh,jU,lenB,kg,jR,entN,setE,jZ,addE,setL,setN,putE,env0,eqCs,j6,eqC,bA,bO,bN,bE,negB,kEq,ke,j5,lend,frz,frzL,zRow,j9,j7,closed,jy,jW,binI,remP,remI,retK,retG,ko,retD,ki,resL,resD,oneD,renD,renL,renE,j0,rho,jL,j4,zla,zlb,zlc,zld,zca,zcb,o1,o0,og,Nat.reduceBEq,Nat.reduceAdd,Nat.beq]
   refine ⟨fun h => absurd h (by simp), fun _ => ⟨by simp only [fits]; omega, ?_⟩⟩
   rw [show (l.length : Int) - 1 - r - 1 = (l.length : Int) - 1 - ((r + 1 : Nat) : Int) by omega]
   refine qa (ih ⟨r + 1, hil, hkm⟩ (by dsimp only; omega)) ⟨rfl, rfl, rfl, trivial⟩ (Vo _) ?_ ?_ ?_
   ·dsimp only
    rw [(hS (r + 1) hkm).1]
    simp [lowE, low, qN, hy]
   ·dsimp only
    rw [(hS (r + 1) hkm).1]; exact (hS (r + 1) hkm).2.1
   ·dsimp only
    rw [(hS (r + 1) hkm).1]; rfl
  ·have hkm' : r = m := by omega
   subst hkm'
   have hp := hstp _ (jC1 hil) [3, 53]
   rw [bkD, hSk] at hp
   refine qh _ _ hp ?_
   dsimp only [c_slices_Backward_api_ID_api_ID_1, kK, jn,jH,jO,jq,jF,jJ,jo,jG,jI,iteR,regK,jh,jc,jk,jj,jb,ji,blkK,kp,kd,jd,ja,jx,fpOk,foot,km,allN,memN,jK,jl,jr,jv,jt,ju,jf,jg,je,newN,jw,jN,jP,jY,jQ,jM,jS,jz,jA,jC,jD,jE,jm,jB,evX,evL,evB,rd,get,subG,memG,jT,jV,hyps,gob,impP,allP,j1,jX,j3,kj,nth,j8,kh,jU,lenB,kg,jR,entN,setE,jZ,addE,setL,setN,putE,env0,eqCs,j6,eqC,bA,bO,bN,bE,negB,kEq,ke,j5,lend,frz,frzL,zRow,j9,j7,closed,jy,jW,binI,remP,remI,retK,retG,ko,retD,ki,resL,resD,oneD,renD,renL,renE,j0,rho,jL,j4,zla,zlb,zlc,zld,zca,zcb,o1,o0,og,Nat.reduceBEq,Nat.reduceAdd,Nat.beq]
   refine ⟨fun _ => ?_, fun h => absurd h (by simp)⟩
   rw [JC, if_pos (by rw [Vj]; exact hil)]
   exact Vo _
 ·have hil : ¬ r < l.length := by simp only [decide_eq_false_iff_not] at hge; omega
  rw [JC, if_neg (by rw [Vj]; omega), show m = r by omega, hSk]
  exact Vo _

def xE (f : Rc -> Rc) (l : List Rc) (i : Nat) : List Rc := (l.take i).map f ++ l.drop i
theorem jK2 {f : Rc -> Rc} {l : List Rc} {i : Nat} {r : Rc} (h : l[i]? = some r) : (xE f l i)[i]? = some r := by
 obtain ⟨hk, h2⟩ := List.getElem?_eq_some_iff.1 h
 unfold xE
 rw [List.getElem?_append_right (by simp; omega), List.getElem?_drop]
 have : i + (i - (List.map f (List.take i l)).length) = i := by simp; omega
 rw [this]; exact h
theorem jK1 {f : Rc -> Rc} {l : List Rc} {i : Nat} {r : Rc} (h : l[i]? = some r) : (xE f l i).set i (f r) = xE f l (i + 1) := by
 obtain ⟨hk, h2⟩ := List.getElem?_eq_some_iff.1 h
 unfold xE
 rw [List.set_append_right _ _ (by simp; omega)]
 have e1 : i - (List.map f (List.take i l)).length = 0 := by simp; omega
 rw [e1, List.drop_eq_getElem_cons hk, h2, List.set_cons_zero, List.take_add_one, h, List.map_append]
 simp
theorem VL {f : Rc -> Rc} {l : List Rc} {i : Nat} : (xE f l i).length = l.length := by
 unfold xE
 simp only [List.length_append, List.length_map, List.length_take, List.length_drop]; omega
theorem jA6 {f : Rc -> Rc} {l : List Rc} : xE f l 0 = l := by simp [xE]
theorem jK3 {f : Rc -> Rc} {l : List Rc} : xE f l l.length = l.map f := by simp [xE]
def mvX (a d : Int) : Int := max (a + d) (-1048576)
def mvN (a n d : Int) : Int := min (a + d + n) 1048576 - max (a + d) (-1048576)
theorem jq1 {a n d : Int} (ha : -1048576 <= a /\ a <= 1048576) (hn : 0 <= n /\ n <= 2097152) (hd : -2097152 <= d /\ d <= 2097152) : TSp 77 [.int .i64 a, .int .i64 n, .int .i64 d] (.tup [.int .i64 (mvX a d), .int .i64 (mvN a n d)]) := by
 refine Vs (by rfl) ?_
 dsimp only [c_region_moved, Ke, jn,jH,jO,jq,jF,jJ,jo,jG,jI,iteR,regK,jh,jc,jk,jj,jb,ji,blkK,kp,kd,jd,ja,jx,fpOk,foot,km,allN,memN,jK,jl,jr,jv,jt,ju,jf,jg,je,newN,jw,jN,jP,jY,jQ,jM,jS,jz,jA,jC,jD,jE,jm,jB,evX,evL,evB,rd,get,subG,memG,jT,jV,hyps,gob,impP,allP,j1,jX,j3,kj,nth,j8,kh,jU,lenB,kg,jR,entN,setE,jZ,addE,setL,setN,putE,env0,eqCs,j6,eqC,bA,bO,bN,bE,negB,kEq,ke,j5,lend,frz,frzL,zRow,j9,j7,closed,jy,jW,binI,remP,remI,retK,retG,ko,retD,ki,resL,resD,oneD,renD,renL,renE,j0,rho,jL,j4,zla,zlb,zlc,zld,zca,zcb,o1,o0,og,Nat.reduceBEq,Nat.reduceAdd,Nat.beq]
 exact ⟨by simp only [fits]; omega, by simp only [fits]; omega, by simp only [fits]; omega, by simp only [fits]; omega, rfl⟩
def mvR (dx dy : Int) (r : Rc) : Rc := ⟨mvX r.x dx, mvX r.y dy, mvN r.x r.w dx, mvN r.y r.h dy⟩
def mvR1 (dx : Int) (r : Rc) : Rc := ⟨mvX r.x dx, r.y, mvN r.x r.w dx, r.h⟩
def mvP (dx dy : Int) (P : Int -> Int -> Prop) : Int -> Int -> Prop := fun x y => P (x - dx) (y - dy) /\ (-1048576 <= x /\ x < 1048576) /\ -1048576 <= y /\ y < 1048576
theorem ZD {P : Int -> Int -> Prop} (hP : Bdd P) {dx dy : Int} (hx : -2097152 <= dx /\ dx <= 2097152) (hy : -2097152 <= dy /\ dy <= 2097152) (hl : (reg P).length <= 1073741824) :
  TSp 18 [.agg [.ls 4 (rcs (reg P))], .int .i64 dx, .int .i64 dy] (.agg [.ls 4 (rcs (reg (mvP dx dy P)))]) := by
 have hv := x9 hP
 have hres : reg (pts (allL ((reg P).map (mvR dx dy)))) = reg (mvP dx dy P) := xW fun x y => by
  unfold allL
  rw [jb2 (fun r hr hp => by
   obtain ⟨q, hq, rfl⟩ := List.mem_map.1 hr
   have := hv q hq
   unfold Vr mvR mvX mvN at *
   unfold Pos at hp
   dsimp only at hp |-
   omega)]
  unfold mvP
  rw [<- y7 hP]
  unfold pts
  constructor
  ·rintro ⟨q, hq, hh⟩
   obtain ⟨r, hr, rfl⟩ := List.mem_map.1 hq
   have := hv r hr
   unfold Vr at this
   unfold Rc.has mvR mvX mvN at hh
   dsimp only at hh
   exact ⟨⟨r, hr, by unfold Rc.has; omega⟩, by omega⟩
  ·rintro ⟨⟨r, hr, hh⟩, hb⟩
   refine ⟨_, List.mem_map.2 ⟨r, hr, rfl⟩, ?_⟩
   have := hv r hr
   unfold Vr at this
   unfold Rc.has at hh
   unfold Rc.has mvR mvX mvN
   dsimp only
   omega
 generalize reg (mvP dx dy P) = rs at *
 generalize reg P = l at *
 refine Vu (by rfl) ?_
 dsimp only [c_region_Shift, kP, jn,jH,jO,jq,jF,jJ,jo,jG,jI,iteR,regK,jh,jc,jk,jj,jb,ji,blkK,kp,kd,jd,ja,jx,fpOk,foot,km,allN,memN,jK,jl,jr,jv,jt,ju,jf,jg,je,newN,jw,jN,jP,jY,jQ,jM,jS,jz,jA,jC,jD,jE,jm,jB,evX,evL,evB,rd,get,subG,memG,jT,jV,hyps,gob,impP,allP,j1,jX,j3,kj,nth,j8,kh,jU,lenB,kg,jR,entN,setE,jZ,addE,setL,setN,putE,env0,eqCs,j6,eqC,bA,bO,bN,bE,negB,kEq,ke,j5,lend,frz,frzL,zRow,j9,j7,closed,jy,jW,binI,remP,remI,retK,retG,ko,retD,ki,resL,resD,oneD,renD,renL,renE,j0,rho,jL,j4,zla,zlb,zlc,zld,zca,zcb,o1,o0,og,Nat.reduceBEq,Nat.reduceAdd,Nat.beq]
 refine ⟨fun h => ?_, fun _ => ?_⟩
 ·simp only [Bool.or_eq_true, decide_eq_true_eq] at h; omega
 refine kX [] (jq8 (l := rcs l) (by rw [ku]; omega)) rfl rfl ?_
 dsimp only [c_region_Shift, kP, jn,jH,jO,jq,jF,jJ,jo,jG,jI,iteR,regK,jh,jc,jk,jj,jb,ji,blkK,kp,kd,jd,ja,jx,fpOk,foot,km,allN,memN,jK,jl,jr,jv,jt,ju,jf,jg,je,newN,jw,jN,jP,jY,jQ,jM,jS,jz,jA,jC,jD,jE,jm,jB,evX,evL,evB,rd,get,subG,memG,jT,jV,hyps,gob,impP,allP,j1,jX,j3,kj,nth,j8,kh,jU,lenB,kg,jR,entN,setE,jZ,addE,setL,setN,putE,env0,eqCs,j6,eqC,bA,bO,bN,bE,negB,kEq,ke,j5,lend,frz,frzL,zRow,j9,j7,closed,jy,jW,binI,remP,remI,retK,retG,ko,retD,ki,resL,resD,oneD,renD,renL,renE,j0,rho,jL,j4,zla,zlb,zlc,zld,zca,zcb,o1,o0,og,Nat.reduceBEq,Nat.reduceAdd,Nat.beq]
 rw [ku]
 refine ⟨rfl, ?_⟩
 refine kG (α := {i : Nat // i <= l.length})
  (fun i => ⟨[(1, [], .int .i64 dx), (2, [], .int .i64 dy), (6, [], .box 1 0), (7, [], .own 5 2), (27, [], .int .i64 l.length), (28, [], .int .i64 i.1)],
    [.cells [.ls 4 (rcs l)], .cells [.ls 4 []], .cells [.ls 4 (rcs l)], .arr 45 4 0 [], .arr 45 4 0 [], .arr 45 4 2 (rcs (xE (mvR dx dy) l i.1))]⟩)
  (fun i => l.length - i.1) ?_ ⟨0, Nat.zero_le _⟩ (by simp [jA6])
 rintro ⟨i, hi⟩ I ih
 dsimp only at hi |-
 dsimp only [c_region_Shift, kP, jn,jH,jO,jq,jF,jJ,jo,jG,jI,iteR,regK,jh,jc,jk,jj,jb,ji,blkK,kp,kd,jd,ja,jx,fpOk,foot,km,allN,memN,jK,jl,jr,jv,jt,ju,jf,jg,je,newN,jw,jN,jP,jY,jQ,jM,jS,jz,jA,jC,jD,jE,jm,jB,evX,evL,evB,rd,get,subG,memG,jT,jV,hyps,gob,impP,allP,j1,jX,j3,kj,nth,j8,kh,jU,lenB,kg,jR,entN,setE,jZ,addE,setL,setN,putE,env0,eqCs,j6,eqC,bA,bO,bN,bE,negB,kEq,ke,j5,lend,frz,frzL,zRow,j9,j7,closed,jy,jW,binI,remP,remI,retK,retG,ko,retD,ki,resL,resD,oneD,renD,renL,renE,j0,rho,jL,j4,zla,zlb,zlc,zld,zca,zcb,o1,o0,og,Nat.reduceBEq,Nat.reduceAdd,Nat.beq]
 refine ⟨fun hlt => ?_, fun hge => ?_⟩
 ·have hil : i < l.length := by simpa using hlt
  obtain ⟨r, hr⟩ : ∃ r, l[i]? = some r := ⟨_, List.getElem?_eq_getElem hil⟩
  have hV := hv r (List.mem_of_getElem? hr)
  unfold Vr at hV
  have hix : ∀ L : List Rc, L.length = l.length -> (0 : Int) <= i /\ (i : Int) < ((rcs L).length : Int) := fun L hL => by rw [ku, hL]; omega
  have hset : ∀ (L : List Rc) (q : Rc), ((rcs L).set ((i : Nat) : Int).toNat (rD q)) = rcs (L.set i q) := fun L q => by rw [js6, Int.toNat_natCast]
  have hml : (xE (mvR dx dy) l i).length = l.length := VL
  have hrq : (rcs (xE (mvR dx dy) l i))[((i : Nat) : Int).toNat]? = some (rD r) := qx (by rw [Int.toNat_natCast]; exact jK2 hr)
  have hgs : ∀ (q : Rc), (rcs ((xE (mvR dx dy) l i).set i q))[((i : Nat) : Int).toNat]? = some (rD q) := fun q => qx (by
   rw [Int.toNat_natCast, List.getElem?_set_self (by rw [VL]; exact hil)])
  refine ⟨⟨rfl, rfl, hix _ hml⟩, ⟨rfl, rfl⟩, ky (rD r) (.int .i64 r.x) hrq rfl ?_⟩
  dsimp only [c_region_Shift, kP, jn,jH,jO,jq,jF,jJ,jo,jG,jI,iteR,regK,jh,jc,jk,jj,jb,ji,blkK,kp,kd,jd,ja,jx,fpOk,foot,km,allN,memN,jK,jl,jr,jv,jt,ju,jf,jg,je,newN,jw,jN,jP,jY,jQ,jM,jS,jz,jA,jC,jD,jE,jm,jB,evX,evL,evB,rd,get,subG,memG,jT,jV,hyps,gob,impP,allP,j1,jX,j3,kj,nth,j8,kh,jU,lenB,kg,jR,entN,setE,jZ,addE,setL,setN,putE,env0,eqCs,j6,eqC,bA,bO,bN,bE,negB,kEq,ke,j5,lend,frz,frzL,zRow,j9,j7,closed,jy,jW,binI,remP,remI,retK,retG,ko,retD,ki,resL,resD,oneD,renD,renL,renE,j0,rho,jL,j4,zla,zlb,zlc,zld,zca,zcb,o1,o0,og,Nat.reduceBEq,Nat.reduceAdd,Nat.beq]
  refine ⟨⟨rfl, rfl, hix _ hml⟩, ⟨rfl, rfl⟩, ky (rD r) (.int .i64 r.w) hrq rfl ?_⟩
  dsimp only [c_region_Shift, kP, jn,jH,jO,jq,jF,jJ,jo,jG,jI,iteR,regK,jh,jc,jk,jj,jb,ji,blkK,kp,kd,jd,ja,jx,fpOk,foot,km,allN,memN,jK,jl,jr,jv,jt,ju,jf,jg,je,newN,jw,jN,jP,jY,jQ,jM,jS,jz,jA,jC,jD,jE,jm,jB,evX,evL,evB,rd,get,subG,memG,jT,jV,hyps,gob,impP,allP,j1,jX,j3,kj,nth,j8,kh,jU,lenB,kg,jR,entN,setE,jZ,addE,setL,setN,putE,env0,eqCs,j6,eqC,bA,bO,bN,bE,negB,kEq,ke,j5,lend,frz,frzL,zRow,j9,j7,closed,jy,jW,binI,remP,remI,retK,retG,ko,retD,ki,resL,resD,oneD,renD,renL,renE,j0,rho,jL,j4,zla,zlb,zlc,zld,zca,zcb,o1,o0,og,Nat.reduceBEq,Nat.reduceAdd,Nat.beq]
  refine kq (jq1 (by omega) (by omega) hx) ?_
  dsimp only [c_region_Shift, kP, jn,jH,jO,jq,jF,jJ,jo,jG,jI,iteR,regK,jh,jc,jk,jj,jb,ji,blkK,kp,kd,jd,ja,jx,fpOk,foot,km,allN,memN,jK,jl,jr,jv,jt,ju,jf,jg,je,newN,jw,jN,jP,jY,jQ,jM,jS,jz,jA,jC,jD,jE,jm,jB,evX,evL,evB,rd,get,subG,memG,jT,jV,hyps,gob,impP,allP,j1,jX,j3,kj,nth,j8,kh,jU,lenB,kg,jR,entN,setE,jZ,addE,setL,setN,putE,env0,eqCs,j6,eqC,bA,bO,bN,bE,negB,kEq,ke,j5,lend,frz,frzL,zRow,j9,j7,closed,jy,jW,binI,remP,remI,retK,retG,ko,retD,ki,resL,resD,oneD,renD,renL,renE,j0,rho,jL,j4,zla,zlb,zlc,zld,zca,zcb,o1,o0,og,Nat.reduceBEq,Nat.reduceAdd,Nat.beq]
  refine ⟨⟨rfl, rfl, hix _ hml⟩, ⟨rfl, rfl⟩, zf (hs := []) (rD r) (rD ⟨mvX r.x dx, r.y, r.w, r.h⟩) hrq rfl ?_⟩
  dsimp only [c_region_Shift, kP, jn,jH,jO,jq,jF,jJ,jo,jG,jI,iteR,regK,jh,jc,jk,jj,jb,ji,blkK,kp,kd,jd,ja,jx,fpOk,foot,km,allN,memN,jK,jl,jr,jv,jt,ju,jf,jg,je,newN,jw,jN,jP,jY,jQ,jM,jS,jz,jA,jC,jD,jE,jm,jB,evX,evL,evB,rd,get,subG,memG,jT,jV,hyps,gob,impP,allP,j1,jX,j3,kj,nth,j8,kh,jU,lenB,kg,jR,entN,setE,jZ,addE,setL,setN,putE,env0,eqCs,j6,eqC,bA,bO,bN,bE,negB,kEq,ke,j5,lend,frz,frzL,zRow,j9,j7,closed,jy,jW,binI,remP,remI,retK,retG,ko,retD,ki,resL,resD,oneD,renD,renL,renE,j0,rho,jL,j4,zla,zlb,zlc,zld,zca,zcb,o1,o0,og,Nat.reduceBEq,Nat.reduceAdd,Nat.beq]
  rw [hset]
  have hml2 : ∀ q, ((xE (mvR dx dy) l i).set i q).length = l.length := fun q => by rw [List.length_set, VL]
  refine ⟨⟨rfl, rfl, hix _ (hml2 _)⟩, ⟨rfl, rfl⟩, zf (hs := []) (rD ⟨mvX r.x dx, r.y, r.w, r.h⟩) (rD (mvR1 dx r)) (hgs _) rfl ?_⟩
  dsimp only [c_region_Shift, kP, jn,jH,jO,jq,jF,jJ,jo,jG,jI,iteR,regK,jh,jc,jk,jj,jb,ji,blkK,kp,kd,jd,ja,jx,fpOk,foot,km,allN,memN,jK,jl,jr,jv,jt,ju,jf,jg,je,newN,jw,jN,jP,jY,jQ,jM,jS,jz,jA,jC,jD,jE,jm,jB,evX,evL,evB,rd,get,subG,memG,jT,jV,hyps,gob,impP,allP,j1,jX,j3,kj,nth,j8,kh,jU,lenB,kg,jR,entN,setE,jZ,addE,setL,setN,putE,env0,eqCs,j6,eqC,bA,bO,bN,bE,negB,kEq,ke,j5,lend,frz,frzL,zRow,j9,j7,closed,jy,jW,binI,remP,remI,retK,retG,ko,retD,ki,resL,resD,oneD,renD,renL,renE,j0,rho,jL,j4,zla,zlb,zlc,zld,zca,zcb,o1,o0,og,Nat.reduceBEq,Nat.reduceAdd,Nat.beq]
  rw [hset, List.set_set]
  refine ⟨⟨rfl, rfl, hix _ (hml2 _)⟩, ⟨rfl, rfl⟩, ky (rD (mvR1 dx r)) (.int .i64 r.y) (hgs _) rfl ?_⟩
  dsimp only [c_region_Shift, kP, jn,jH,jO,jq,jF,jJ,jo,jG,jI,iteR,regK,jh,jc,jk,jj,jb,ji,blkK,kp,kd,jd,ja,jx,fpOk,foot,km,allN,memN,jK,jl,jr,jv,jt,ju,jf,jg,je,newN,jw,jN,jP,jY,jQ,jM,jS,jz,jA,jC,jD,jE,jm,jB,evX,evL,evB,rd,get,subG,memG,jT,jV,hyps,gob,impP,allP,j1,jX,j3,kj,nth,j8,kh,jU,lenB,kg,jR,entN,setE,jZ,addE,setL,setN,putE,env0,eqCs,j6,eqC,bA,bO,bN,bE,negB,kEq,ke,j5,lend,frz,frzL,zRow,j9,j7,closed,jy,jW,binI,remP,remI,retK,retG,ko,retD,ki,resL,resD,oneD,renD,renL,renE,j0,rho,jL,j4,zla,zlb,zlc,zld,zca,zcb,o1,o0,og,Nat.reduceBEq,Nat.reduceAdd,Nat.beq]
  refine ⟨⟨rfl, rfl, hix _ (hml2 _)⟩, ⟨rfl, rfl⟩, ky (rD (mvR1 dx r)) (.int .i64 r.h) (hgs _) rfl ?_⟩
  dsimp only [c_region_Shift, kP, jn,jH,jO,jq,jF,jJ,jo,jG,jI,iteR,regK,jh,jc,jk,jj,jb,ji,blkK,kp,kd,jd,ja,jx,fpOk,foot,km,allN,memN,jK,jl,jr,jv,jt,ju,jf,jg,je,newN,jw,jN,jP,jY,jQ,jM,jS,jz,jA,jC,jD,jE,jm,jB,evX,evL,evB,rd,get,subG,memG,jT,jV,hyps,gob,impP,allP,j1,jX,j3,kj,nth,j8,kh,jU,lenB,kg,jR,entN,setE,jZ,addE,setL,setN,putE,env0,eqCs,j6,eqC,bA,bO,bN,bE,negB,kEq,ke,j5,lend,frz,frzL,zRow,j9,j7,closed,jy,jW,binI,remP,remI,retK,retG,ko,retD,ki,resL,resD,oneD,renD,renL,renE,j0,rho,jL,j4,zla,zlb,zlc,zld,zca,zcb,o1,o0,og,Nat.reduceBEq,Nat.reduceAdd,Nat.beq]
  refine kq (jq1 (by omega) (by omega) hy) ?_
  dsimp only [c_region_Shift, kP, jn,jH,jO,jq,jF,jJ,jo,jG,jI,iteR,regK,jh,jc,jk,jj,jb,ji,blkK,kp,kd,jd,ja,jx,fpOk,foot,km,allN,memN,jK,jl,jr,jv,jt,ju,jf,jg,je,newN,jw,jN,jP,jY,jQ,jM,jS,jz,jA,jC,jD,jE,jm,jB,evX,evL,evB,rd,get,subG,memG,jT,jV,hyps,gob,impP,allP,j1,jX,j3,kj,nth,j8,kh,jU,lenB,kg,jR,entN,setE,jZ,addE,setL,setN,putE,env0,eqCs,j6,eqC,bA,bO,bN,bE,negB,kEq,ke,j5,lend,frz,frzL,zRow,j9,j7,closed,jy,jW,binI,remP,remI,retK,retG,ko,retD,ki,resL,resD,oneD,renD,renL,renE,j0,rho,jL,j4,zla,zlb,zlc,zld,zca,zcb,o1,o0,og,Nat.reduceBEq,Nat.reduceAdd,Nat.beq]
  refine ⟨⟨rfl, rfl, hix _ (hml2 _)⟩, ⟨rfl, rfl⟩, zf (hs := []) (rD (mvR1 dx r)) (rD ⟨mvX r.x dx, mvX r.y dy, mvN r.x r.w dx, r.h⟩) (hgs _) rfl ?_⟩
  dsimp only [c_region_Shift, kP, jn,jH,jO,jq,jF,jJ,jo,jG,jI,iteR,regK,jh,jc,jk,jj,jb,ji,blkK,kp,kd,jd,ja,jx,fpOk,foot,km,allN,memN,jK,jl,jr,jv,jt,ju,jf,jg,je,newN,jw,jN,jP,jY,jQ,jM,jS,jz,jA,jC,jD,jE,jm,jB,evX,evL,evB,rd,get,subG,memG,jT,jV,hyps,gob,impP,allP,j1,jX,j3,kj,nth,j8,kh,jU,lenB,kg,jR,entN,setE,jZ,addE,setL,setN,putE,env0,eqCs,j6,eqC,bA,bO,bN,bE,negB,kEq,ke,j5,lend,frz,frzL,zRow,j9,j7,closed,jy,jW,binI,remP,remI,retK,retG,ko,retD,ki,resL,resD,oneD,renD,renL,renE,j0,rho,jL,j4,zla,zlb,zlc,zld,zca,zcb,o1,o0,og,Nat.reduceBEq,Nat.reduceAdd,Nat.beq]
  rw [hset, List.set_set]
  refine ⟨⟨rfl, rfl, hix _ (hml2 _)⟩, ⟨rfl, rfl⟩, zf (hs := []) (rD ⟨mvX r.x dx, mvX r.y dy, mvN r.x r.w dx, r.h⟩) (rD (mvR dx dy r)) (hgs _) rfl ?_⟩
  dsimp only [c_region_Shift, kP, jn,jH,jO,jq,jF,jJ,jo,jG,jI,iteR,regK,jh,jc,jk,jj,jb,ji,blkK,kp,kd,jd,ja,jx,fpOk,foot,km,allN,memN,jK,jl,jr,jv,jt,ju,jf,jg,je,newN,jw,jN,jP,jY,jQ,jM,jS,jz,jA,jC,jD,jE,jm,jB,evX,evL,evB,rd,get,subG,memG,jT,jV,hyps,gob,impP,allP,j1,jX,j3,kj,nth,j8,kh,jU,lenB,kg,jR,entN,setE,jZ,addE,setL,setN,putE,env0,eqCs,j6,eqC,bA,bO,bN,bE,negB,kEq,ke,j5,lend,frz,frzL,zRow,j9,j7,closed,jy,jW,binI,remP,remI,retK,retG,ko,retD,ki,resL,resD,oneD,renD,renL,renE,j0,rho,jL,j4,zla,zlb,zlc,zld,zca,zcb,o1,o0,og,Nat.reduceBEq,Nat.reduceAdd,Nat.beq]
  rw [hset, List.set_set, jK1 hr]
  exact ⟨by simp only [fits]; omega, qa (ih ⟨i + 1, by omega⟩ (by dsimp only; omega)) ⟨rfl, rfl, rfl, rfl, rfl, by simp [get], trivial⟩ ⟨rfl, rfl, rfl, rfl, rfl, rfl, trivial⟩ rfl rfl⟩
 ·have hil : i = l.length := by simp at hge; omega
  subst hil
  rw [jK3]
  refine Vi rfl ⟨rfl, trivial⟩ (Sp.lift (xK (fun r hr => ?_) (by rw [List.length_map]; exact hl)) rfl) ?_
  ·obtain ⟨q, hq, rfl⟩ := List.mem_map.1 hr
   have := hv q hq
   unfold Vr at this
   unfold mvR mvX mvN Rc.In fits; dsimp only; omega
  dsimp only [c_region_Shift, kP, jn,jH,jO,jq,jF,jJ,jo,jG,jI,iteR,regK,jh,jc,jk,jj,jb,ji,blkK,kp,kd,jd,ja,jx,fpOk,foot,km,allN,memN,jK,jl,jr,jv,jt,ju,jf,jg,je,newN,jw,jN,jP,jY,jQ,jM,jS,jz,jA,jC,jD,jE,jm,jB,evX,evL,evB,rd,get,subG,memG,jT,jV,hyps,gob,impP,allP,j1,jX,j3,kj,nth,j8,kh,jU,lenB,kg,jR,entN,setE,jZ,addE,setL,setN,putE,env0,eqCs,j6,eqC,bA,bO,bN,bE,negB,kEq,ke,j5,lend,frz,frzL,zRow,j9,j7,closed,jy,jW,binI,remP,remI,retK,retG,ko,retD,ki,resL,resD,oneD,renD,renL,renE,j0,rho,jL,j4,zla,zlb,zlc,zld,zca,zcb,o1,o0,og,Nat.reduceBEq,Nat.reduceAdd,Nat.beq]
  rw [hres]
end Go.AM
