import Derived.Test.YtoaialdcgmkbgaaGreatRK21
import Derived.Test.YtoaialdcgmkbgaaGreatRK22

set_option linter.all false
namespace Go.AM
open Go Go.Proofs
theorem sp_sameL {w h : Nat} {l l2 : List D} (ho : ∀ d ∈ l, ∃ n, d = .int .u8 n) (ho2 : ∀ d ∈ l2, ∃ n, d = .int .u8 n) (hn : l.length ≤ 16384) (he : l2.length = l.length) :
  ∃ b : Bool, (b = true ↔ l = l2) ∧ TSp 20 [.agg [.int .i64 w, .int .i64 h, .ls 1 l], .agg [.int .i64 w, .int .i64 h, .ls 1 l2]] (.bool b) := by
 have key : ∀ b : Bool, (b = true ↔ l = l2) → TSp 20 [.agg [.int .i64 w, .int .i64 h, .ls 1 l], .agg [.int .i64 w, .int .i64 h, .ls 1 l2]] (.bool b) := fun b hb => by
  refine Kj (by rfl) ?_
  dsimp only [c_grid_Same, qP, jo,jK,jT,jr,jI,jM,jq,jJ,jL,iteR,regK,ji,jc,jl,jk,jb,jj,blkK,kt,kh,jd,ja,jy,fpOk,foot,kq,allN,memN,jN,jm,js,jw,jv,jt,ju,jg,jh,jf,je,newN,jx,jS,jU,jX,jO,jP,jQ,jz,jA,jE,jB,jC,jn,jD,jF,jG,j7,evX,evL,evB,rd,get,subG,memG,jY,jW,hyps,gob,impP,allP,j5,j2,j4,kp,nth,ke,km,jZ,lenB,kj,jV,entN,setE,j0,addE,setL,setN,putE,env0,eqCs,j9,eqC,bA,bO,bN,bE,negB,kEq,ki,j8,lend,frz,frzL,zRow,kg,kd,closed,jH,j1,binI,remP,remI,retK,retG,kr,retD,ko,resL,resD,oneD,renD,renL,renE,j3,rho,jR,j6,List.append,List.nil_append,List.cons_append,List.append_nil,cond,Nat.reduceBEq,Nat.reduceAdd,Nat.beq]
  refine ⟨fun h => absurd h (by simp), fun _ => ?_⟩
  refine kH (α := {i : Nat // i ≤ l.length ∧ l.take i = l2.take i})
   (fun i => ⟨[(3, [], .box 1 0), (20, [], .ls 1 l), (21, [], .int .i64 l.length), (22, [], .int .i64 i.1)], [.cells [.int .i64 w, .int .i64 h, .ls 1 l], .cells [.int .i64 w, .int .i64 h, .ls 1 l2]]⟩)
   (fun i => l.length - i.1) ?_ ⟨0, Nat.zero_le _, rfl⟩ rfl
  rintro ⟨i, hi, htk⟩ I ih
  dsimp only at hi htk ⊢
  dsimp only [c_grid_Same, qP, jo,jK,jT,jr,jI,jM,jq,jJ,jL,iteR,regK,ji,jc,jl,jk,jb,jj,blkK,kt,kh,jd,ja,jy,fpOk,foot,kq,allN,memN,jN,jm,js,jw,jv,jt,ju,jg,jh,jf,je,newN,jx,jS,jU,jX,jO,jP,jQ,jz,jA,jE,jB,jC,jn,jD,jF,jG,j7,evX,evL,evB,rd,get,subG,memG,jY,jW,hyps,gob,impP,allP,j5,j2,j4,kp,nth,ke,km,jZ,lenB,kj,jV,entN,setE,j0,addE,setL,setN,putE,env0,eqCs,j9,eqC,bA,bO,bN,bE,negB,kEq,ki,j8,lend,frz,frzL,zRow,kg,kd,closed,jH,j1,binI,remP,remI,retK,retG,kr,retD,ko,resL,resD,oneD,renD,renL,renE,j3,rho,jR,j6,List.append,List.nil_append,List.cons_append,List.append_nil,cond,Nat.reduceBEq,Nat.reduceAdd,Nat.beq]
  refine ⟨fun hlt => ?_, fun hge => ?_⟩
  ·have hil : i < l.length := by simpa using hlt
   obtain ⟨r, hr⟩ : ∃ r, l[i]? = some r := ⟨_, List.getElem?_eq_getElem hil⟩
   obtain ⟨n, rfl⟩ := ho r (List.mem_of_getElem? hr)
   obtain ⟨r2, hr2⟩ : ∃ r, l2[i]? = some r := ⟨_, List.getElem?_eq_getElem (by omega)⟩
   obtain ⟨m, rfl⟩ := ho2 r2 (List.mem_of_getElem? hr2)
   refine ⟨⟨rfl, by omega, by omega⟩, kB _ _ (by rw [Int.toNat_natCast]; exact hr) rfl ?_⟩
   dsimp only [c_grid_Same, qP, jo,jK,jT,jr,jI,jM,jq,jJ,jL,iteR,regK,ji,jc,jl,jk,jb,jj,blkK,kt,kh,jd,ja,jy,fpOk,foot,kq,allN,memN,jN,jm,js,jw,jv,jt,ju,jg,jh,jf,je,newN,jx,jS,jU,jX,jO,jP,jQ,jz,jA,jE,jB,jC,jn,jD,jF,jG,j7,evX,evL,evB,rd,get,subG,memG,jY,jW,hyps,gob,impP,allP,j5,j2,j4,kp,nth,ke,km,jZ,lenB,kj,jV,entN,setE,j0,addE,setL,setN,putE,env0,eqCs,j9,eqC,bA,bO,bN,bE,negB,kEq,ki,j8,lend,frz,frzL,zRow,kg,kd,closed,jH,j1,binI,remP,remI,retK,retG,kr,retD,ko,resL,resD,oneD,renD,renL,renE,j3,rho,jR,j6,List.append,List.nil_append,List.cons_append,List.append_nil,cond,Nat.reduceBEq,Nat.reduceAdd,Nat.beq]
   refine ⟨⟨rfl, by omega, by omega⟩, kB _ _ (by rw [Int.toNat_natCast]; exact hr2) rfl ?_⟩
   dsimp only [c_grid_Same, qP, jo,jK,jT,jr,jI,jM,jq,jJ,jL,iteR,regK,ji,jc,jl,jk,jb,jj,blkK,kt,kh,jd,ja,jy,fpOk,foot,kq,allN,memN,jN,jm,js,jw,jv,jt,ju,jg,jh,jf,je,newN,jx,jS,jU,jX,jO,jP,jQ,jz,jA,jE,jB,jC,jn,jD,jF,jG,j7,evX,evL,evB,rd,get,subG,memG,jY,jW,hyps,gob,impP,allP,j5,j2,j4,kp,nth,ke,km,jZ,lenB,kj,jV,entN,setE,j0,addE,setL,setN,putE,env0,eqCs,j9,eqC,bA,bO,bN,bE,negB,kEq,ki,j8,lend,frz,frzL,zRow,kg,kd,closed,jH,j1,binI,remP,remI,retK,retG,kr,retD,ko,resL,resD,oneD,renD,renL,renE,j3,rho,jR,j6,List.append,List.nil_append,List.cons_append,List.append_nil,cond,Nat.reduceBEq,Nat.reduceAdd,Nat.beq]
   refine ⟨fun hne => ?_, fun heq => ⟨by simp only [fits]; omega, ?_⟩⟩
   ·have : b = false := by
     cases b with
     | false => rfl
     | true =>
       have e := hb.1 rfl
       rw [e, hr2] at hr
       injection hr with hr
       injection hr with _ hr
       simp [hr] at hne
    rw [this]
   ·have hmn : m = n := by simpa using heq
    refine k9 (ih ⟨i + 1, hil, ?_⟩ (by dsimp only; omega)) ⟨rfl, rfl, rfl, by simp [get], trivial⟩ ⟨rfl, rfl, trivial⟩ rfl rfl
    rw [List.take_add_one, List.take_add_one, htk, hr, hr2, hmn]
  ·have hil : i = l.length := by have : ¬ i < l.length := by simpa using hge
                                 omega
   subst hil
   have : b = true := hb.2 (by rw [List.take_length, ← he, List.take_length] at htk; exact htk)
   rw [this]
 by_cases h : l = l2
 ·exact ⟨true, ⟨fun _ => h, fun _ => rfl⟩, key true ⟨fun _ => h, fun _ => rfl⟩⟩
 ·exact ⟨false, ⟨fun e => (by cases e), fun e => absurd e h⟩, key false ⟨fun e => (by cases e), fun e => absurd e h⟩⟩
theorem gl_u8 {w h : Nat} {f : Px} : ∀ d ∈ gl w h f, ∃ n, d = .int .u8 n := fun d hd => by
 obtain ⟨k, _, rfl⟩ := List.mem_map.1 hd
 exact ⟨_, rfl⟩
theorem gl_inj {w h : Nat} {f g : Px} : gl w h f = gl w h g ↔ ∀ x y, inP w h x y → f x y = g x y := by
 refine ⟨fun e x y hp => ?_, JE⟩
 have h1 := Q6 (f := f) hp
 rw [e, Q6 hp] at h1
 injection h1 with h1
 injection h1 with _ h1
 exact h1.symm
theorem XP {w h : Nat} {f g : Px} (hw : w ≤ 128) (hh : h ≤ 128) : ∃ b : Bool, (b = true ↔ ∀ x y, inP w h x y → f x y = g x y) ∧ TSp 20 [gD w h f, gD w h g] (.bool b) := by
 obtain ⟨b, h1, h2⟩ := sp_sameL (w := w) (h := h) (gl_u8 (f := f)) (gl_u8 (f := g)) (by rw [zx]; exact qQ hw hh) (by rw [zx, zx])
 exact ⟨b, h1.trans gl_inj, h2⟩
/-! ### Small things -/
theorem sp_pknown : TSp 145 [.int .i64 0] (.bool true) := by
 refine Vg (by rfl) ?_
 dsimp only [c_poly_known, yG, jo,jK,jT,jr,jI,jM,jq,jJ,jL,iteR,regK,ji,jc,jl,jk,jb,jj,blkK,kt,kh,jd,ja,jy,fpOk,foot,kq,allN,memN,jN,jm,js,jw,jv,jt,ju,jg,jh,jf,je,newN,jx,jS,jU,jX,jO,jP,jQ,jz,jA,jE,jB,jC,jn,jD,jF,jG,j7,evX,evL,evB,rd,get,subG,memG,jY,jW,hyps,gob,impP,allP,j5,j2,j4,kp,nth,ke,km,jZ,lenB,kj,jV,entN,setE,j0,addE,setL,setN,putE,env0,eqCs,j9,eqC,bA,bO,bN,bE,negB,kEq,ki,j8,lend,frz,frzL,zRow,kg,kd,closed,jH,j1,binI,remP,remI,retK,retG,kr,retD,ko,resL,resD,oneD,renD,renL,renE,j3,rho,jR,j6,List.append,List.nil_append,List.cons_append,List.append_nil,cond,Nat.reduceBEq,Nat.reduceAdd,Nat.beq]
 exact congrArg D.bool (by decide)
theorem XN {n : Int} : TSp 146 [.int .i64 n] (.bool (decide (-1048576 ≤ n) && decide (n ≤ 1048576))) := by
 refine Vh (by rfl) ?_
 dsimp only [c_poly_coord, yI, jo,jK,jT,jr,jI,jM,jq,jJ,jL,iteR,regK,ji,jc,jl,jk,jb,jj,blkK,kt,kh,jd,ja,jy,fpOk,foot,kq,allN,memN,jN,jm,js,jw,jv,jt,ju,jg,jh,jf,je,newN,jx,jS,jU,jX,jO,jP,jQ,jz,jA,jE,jB,jC,jn,jD,jF,jG,j7,evX,evL,evB,rd,get,subG,memG,jY,jW,hyps,gob,impP,allP,j5,j2,j4,kp,nth,ke,km,jZ,lenB,kj,jV,entN,setE,j0,addE,setL,setN,putE,env0,eqCs,j9,eqC,bA,bO,bN,bE,negB,kEq,ki,j8,lend,frz,frzL,zRow,kg,kd,closed,jH,j1,binI,remP,remI,retK,retG,kr,retD,ko,resL,resD,oneD,renD,renL,renE,j3,rho,jR,j6,List.append,List.nil_append,List.cons_append,List.append_nil,cond,Nat.reduceBEq,Nat.reduceAdd,Nat.beq]
theorem sp_pinside {t : Int} : TSp 187 [.int .i64 0, .int .i64 t] (.bool (!decide (Int.tmod t 2 = 0))) := by
 refine ZJ (by rfl) ?_
 dsimp only [c_poly_inside, v7, jo,jK,jT,jr,jI,jM,jq,jJ,jL,iteR,regK,ji,jc,jl,jk,jb,jj,blkK,kt,kh,jd,ja,jy,fpOk,foot,kq,allN,memN,jN,jm,js,jw,jv,jt,ju,jg,jh,jf,je,newN,jx,jS,jU,jX,jO,jP,jQ,jz,jA,jE,jB,jC,jn,jD,jF,jG,j7,evX,evL,evB,rd,get,subG,memG,jY,jW,hyps,gob,impP,allP,j5,j2,j4,kp,nth,ke,km,jZ,lenB,kj,jV,entN,setE,j0,addE,setL,setN,putE,env0,eqCs,j9,eqC,bA,bO,bN,bE,negB,kEq,ki,j8,lend,frz,frzL,zRow,kg,kd,closed,jH,j1,binI,remP,remI,retK,retG,kr,retD,ko,resL,resD,oneD,renD,renL,renE,j3,rho,jR,j6,List.append,List.nil_append,List.cons_append,List.append_nil,cond,Nat.reduceBEq,Nat.reduceAdd,Nat.beq]
 refine ⟨fun _ => ?_, fun h => absurd h (by simp)⟩
 refine vK _ (pr_rem (by omega)) ?_
 dsimp only [c_poly_inside, v7, jo,jK,jT,jr,jI,jM,jq,jJ,jL,iteR,regK,ji,jc,jl,jk,jb,jj,blkK,kt,kh,jd,ja,jy,fpOk,foot,kq,allN,memN,jN,jm,js,jw,jv,jt,ju,jg,jh,jf,je,newN,jx,jS,jU,jX,jO,jP,jQ,jz,jA,jE,jB,jC,jn,jD,jF,jG,j7,evX,evL,evB,rd,get,subG,memG,jY,jW,hyps,gob,impP,allP,j5,j2,j4,kp,nth,ke,km,jZ,lenB,kj,jV,entN,setE,j0,addE,setL,setN,putE,env0,eqCs,j9,eqC,bA,bO,bN,bE,negB,kEq,ki,j8,lend,frz,frzL,zRow,kg,kd,closed,jH,j1,binI,remP,remI,retK,retG,kr,retD,ko,resL,resD,oneD,renD,renL,renE,j3,rho,jR,j6,List.append,List.nil_append,List.cons_append,List.append_nil,cond,Nat.reduceBEq,Nat.reduceAdd,Nat.beq]
def yX (u d : Int) : Int := if 0 < Int.tmod u d then Int.tdiv u d + 1 else Int.tdiv u d
theorem ceilD_spec {u d : Int} (hd : 0 < d) : d * (yX u d - 1) < u ∧ u ≤ d * yX u d := by
 have h1 := Int.mul_tdiv_add_tmod u d
 have h2 := Int.tmod_lt_of_pos u hd
 have h3 : -d < Int.tmod u d := by
  have := Int.tmod_lt_of_pos (-u) hd
  rw [Int.neg_tmod] at this; omega
 unfold yX
 split
 ·rw [show Int.tdiv u d + 1 - 1 = Int.tdiv u d by omega, Int.mul_add]
  omega
 ·rw [Int.mul_sub]
  omega
def ze (a b : Pt) (y : Int) : Option Pt :=
 if a.2 > b.2 then (if b.2 ≤ y ∧ y < a.2 then some (b.1 + yX ((a.1 - b.1) * (2 * (y - b.2) + 1) - (a.2 - b.2)) (2 * (a.2 - b.2)), -1) else none)
 else if a.2 ≤ y ∧ y < b.2 then some (a.1 + yX ((b.1 - a.1) * (2 * (y - a.2) + 1) - (b.2 - a.2)) (2 * (b.2 - a.2)), 1) else none
def Pok2 (p : Pt) : Prop := (0 ≤ p.1 ∧ p.1 ≤ 64) ∧ 0 ≤ p.2 ∧ p.2 ≤ 64
theorem Z8 {u d : Int} (hd : 0 < d) {n : Int} (h0 : 0 ≤ n) (hu : -n ≤ u ∧ u ≤ n) : -n ≤ Int.tdiv u d ∧ Int.tdiv u d ≤ n := by
 have h1 := Int.mul_tdiv_add_tmod u d
 have h2 := Int.tmod_lt_of_pos u hd
 have h3 : -d < Int.tmod u d := by
  have := Int.tmod_lt_of_pos (-u) hd
  rw [Int.neg_tmod] at this; omega
 have key : (u.tdiv d).natAbs ≤ u.natAbs := Int.natAbs_tdiv_le_natAbs u d
 omega
theorem X9 {a b : Int} {m n : Int} (ha : -m ≤ a ∧ a ≤ m) (hb : 0 ≤ b ∧ b ≤ n) : -(m * n) ≤ a * b ∧ a * b ≤ m * n := by
 have hm : 0 ≤ m := by omega
 have hn : 0 ≤ n := by omega
 have h1 : a * b ≤ m * b := Int.mul_le_mul_of_nonneg_right ha.2 hb.1
 have h2 : m * b ≤ m * n := Int.mul_le_mul_of_nonneg_left hb.2 hm
 have h3 : -m * b ≤ a * b := Int.mul_le_mul_of_nonneg_right ha.1 hb.1
 rw [Int.neg_mul] at h3
 omega
end Go.AM


set_option linter.all false
namespace Go.AM
open Go Go.Proofs
theorem sp_passes {a b : Pt} {y : Int} (ha : Pok2 a) (hb : Pok2 b) (hy : 0 ≤ y ∧ y ≤ 64) : TSp 184 [pD a, pD b, .int .i64 y] (.tup [pD ((ze a b y).getD (0, 0)), .bool (ze a b y).isSome]) := by
 obtain ⟨a1, a2⟩ := a
 obtain ⟨b1, b2⟩ := b
 obtain ⟨ha1, ha2⟩ := ha
 obtain ⟨hb1, hb2⟩ := hb
 dsimp only at ha1 ha2 hb1 hb2
 refine ZI (by rfl) ?_
 dsimp only [c_poly_passes, zi, pD, jo,jK,jT,jr,jI,jM,jq,jJ,jL,iteR,regK,ji,jc,jl,jk,jb,jj,blkK,kt,kh,jd,ja,jy,fpOk,foot,kq,allN,memN,jN,jm,js,jw,jv,jt,ju,jg,jh,jf,je,newN,jx,jS,jU,jX,jO,jP,jQ,jz,jA,jE,jB,jC,jn,jD,jF,jG,j7,evX,evL,evB,rd,get,subG,memG,jY,jW,hyps,gob,impP,allP,j5,j2,j4,kp,nth,ke,km,jZ,lenB,kj,jV,entN,setE,j0,addE,setL,setN,putE,env0,eqCs,j9,eqC,bA,bO,bN,bE,negB,kEq,ki,j8,lend,frz,frzL,zRow,kg,kd,closed,jH,j1,binI,remP,remI,retK,retG,kr,retD,ko,resL,resD,oneD,renD,renL,renE,j3,rho,jR,j6,List.append,List.nil_append,List.cons_append,List.append_nil,cond,Nat.reduceBEq,Nat.reduceAdd,Nat.beq]
 refine ⟨fun h1 => ?_, fun h1 => ?_⟩
 ·have h1' : a2 > b2 := by simpa using h1
  refine ⟨fun h2 => ?_, fun h2 => ?_⟩
  ·have hpx : ze (a1, a2) (b1, b2) y = none := by
    simp only [Bool.or_eq_true, decide_eq_true_eq] at h2
    unfold ze
    dsimp only
    rw [if_pos h1', if_neg (by omega)]
   rw [hpx]
   rfl
  ·simp only [Bool.or_eq_false_iff, decide_eq_false_iff_not] at h2
   obtain ⟨u, hu⟩ : ∃ u, u = (a1 - b1) * (2 * (y - b2) + 1) - (a2 - b2) := ⟨_, rfl⟩
   obtain ⟨d, hd⟩ : ∃ d, d = 2 * (a2 - b2) := ⟨_, rfl⟩
   have hpx : ze (a1, a2) (b1, b2) y = some (b1 + yX u d, -1) := by
    unfold ze
    dsimp only
    rw [if_pos h1', if_pos (by omega), hu, hd]
   have hmb := X9 (a := a1 - b1) (b := 2 * (y - b2) + 1) (m := 64) (n := 129) (by omega) (by omega)
   rw [hpx, ← hu, ← hd]
   have hub : -8320 ≤ u ∧ u ≤ 8320 := by omega
   have hd0 : 0 < d := by omega
   have htb := Z8 hd0 (by omega) hub
   refine ⟨by simp only [fits]; omega, by simp only [fits]; omega, by simp only [fits]; omega, by simp only [fits]; omega, by simp only [fits]; omega, by simp only [fits]; omega, by simp only [fits]; omega, by simp only [fits]; omega, vK _ (pr_quo hd0 (by simp only [fits]; omega)) ?_⟩
   dsimp only [c_poly_passes, zi, pD, jo,jK,jT,jr,jI,jM,jq,jJ,jL,iteR,regK,ji,jc,jl,jk,jb,jj,blkK,kt,kh,jd,ja,jy,fpOk,foot,kq,allN,memN,jN,jm,js,jw,jv,jt,ju,jg,jh,jf,je,newN,jx,jS,jU,jX,jO,jP,jQ,jz,jA,jE,jB,jC,jn,jD,jF,jG,j7,evX,evL,evB,rd,get,subG,memG,jY,jW,hyps,gob,impP,allP,j5,j2,j4,kp,nth,ke,km,jZ,lenB,kj,jV,entN,setE,j0,addE,setL,setN,putE,env0,eqCs,j9,eqC,bA,bO,bN,bE,negB,kEq,ki,j8,lend,frz,frzL,zRow,kg,kd,closed,jH,j1,binI,remP,remI,retK,retG,kr,retD,ko,resL,resD,oneD,renD,renL,renE,j3,rho,jR,j6,List.append,List.nil_append,List.cons_append,List.append_nil,cond,Nat.reduceBEq,Nat.reduceAdd,Nat.beq]
   refine vK _ (pr_rem hd0) ?_
   dsimp only [c_poly_passes, zi, pD, jo,jK,jT,jr,jI,jM,jq,jJ,jL,iteR,regK,ji,jc,jl,jk,jb,jj,blkK,kt,kh,jd,ja,jy,fpOk,foot,kq,allN,memN,jN,jm,js,jw,jv,jt,ju,jg,jh,jf,je,newN,jx,jS,jU,jX,jO,jP,jQ,jz,jA,jE,jB,jC,jn,jD,jF,jG,j7,evX,evL,evB,rd,get,subG,memG,jY,jW,hyps,gob,impP,allP,j5,j2,j4,kp,nth,ke,km,jZ,lenB,kj,jV,entN,setE,j0,addE,setL,setN,putE,env0,eqCs,j9,eqC,bA,bO,bN,bE,negB,kEq,ki,j8,lend,frz,frzL,zRow,kg,kd,closed,jH,j1,binI,remP,remI,retK,retG,kr,retD,ko,resL,resD,oneD,renD,renL,renE,j3,rho,jR,j6,List.append,List.nil_append,List.cons_append,List.append_nil,cond,Nat.reduceBEq,Nat.reduceAdd,Nat.beq]
   unfold yX
   refine ⟨fun h3 => ?_, fun h3 => ?_⟩
   ·have h3' : 0 < Int.tmod u d := by simpa using h3
    rw [if_pos h3']
    refine ⟨by simp only [fits]; omega, by simp only [fits]; omega, ?_⟩
    rfl
   ·have h3' : ¬ 0 < Int.tmod u d := by simpa using h3
    rw [if_neg h3']
    refine ⟨by simp only [fits]; omega, ?_⟩
    rfl
 ·have h1' : ¬ a2 > b2 := by simpa using h1
  refine ⟨fun h2 => ?_, fun h2 => ?_⟩
  ·have hpx : ze (a1, a2) (b1, b2) y = none := by
    simp only [Bool.or_eq_true, decide_eq_true_eq] at h2
    unfold ze
    dsimp only
    rw [if_neg h1', if_neg (by omega)]
   rw [hpx]
   rfl
  ·simp only [Bool.or_eq_false_iff, decide_eq_false_iff_not] at h2
   obtain ⟨u, hu⟩ : ∃ u, u = (b1 - a1) * (2 * (y - a2) + 1) - (b2 - a2) := ⟨_, rfl⟩
   obtain ⟨d, hd⟩ : ∃ d, d = 2 * (b2 - a2) := ⟨_, rfl⟩
   have hpx : ze (a1, a2) (b1, b2) y = some (a1 + yX u d, 1) := by
    unfold ze
    dsimp only
    rw [if_neg h1', if_pos (by omega), hu, hd]
   have hmb := X9 (a := b1 - a1) (b := 2 * (y - a2) + 1) (m := 64) (n := 129) (by omega) (by omega)
   rw [hpx, ← hu, ← hd]
   have hub : -8320 ≤ u ∧ u ≤ 8320 := by omega
   have hd0 : 0 < d := by omega
   have htb := Z8 hd0 (by omega) hub
   refine ⟨by simp only [fits]; omega, by simp only [fits]; omega, by simp only [fits]; omega, by simp only [fits]; omega, by simp only [fits]; omega, by simp only [fits]; omega, by simp only [fits]; omega, by simp only [fits]; omega, vK _ (pr_quo hd0 (by simp only [fits]; omega)) ?_⟩
   dsimp only [c_poly_passes, zi, pD, jo,jK,jT,jr,jI,jM,jq,jJ,jL,iteR,regK,ji,jc,jl,jk,jb,jj,blkK,kt,kh,jd,ja,jy,fpOk,foot,kq,allN,memN,jN,jm,js,jw,jv,jt,ju,jg,jh,jf,je,newN,jx,jS,jU,jX,jO,jP,jQ,jz,jA,jE,jB,jC,jn,jD,jF,jG,j7,evX,evL,evB,rd,get,subG,memG,jY,jW,hyps,gob,impP,allP,j5,j2,j4,kp,nth,ke,km,jZ,lenB,kj,jV,entN,setE,j0,addE,setL,setN,putE,env0,eqCs,j9,eqC,bA,bO,bN,bE,negB,kEq,ki,j8,lend,frz,frzL,zRow,kg,kd,closed,jH,j1,binI,remP,remI,retK,retG,kr,retD,ko,resL,resD,oneD,renD,renL,renE,j3,rho,jR,j6,List.append,List.nil_append,List.cons_append,List.append_nil,cond,Nat.reduceBEq,Nat.reduceAdd,Nat.beq]
   refine vK _ (pr_rem hd0) ?_
   dsimp only [c_poly_passes, zi, pD, jo,jK,jT,jr,jI,jM,jq,jJ,jL,iteR,regK,ji,jc,jl,jk,jb,jj,blkK,kt,kh,jd,ja,jy,fpOk,foot,kq,allN,memN,jN,jm,js,jw,jv,jt,ju,jg,jh,jf,je,newN,jx,jS,jU,jX,jO,jP,jQ,jz,jA,jE,jB,jC,jn,jD,jF,jG,j7,evX,evL,evB,rd,get,subG,memG,jY,jW,hyps,gob,impP,allP,j5,j2,j4,kp,nth,ke,km,jZ,lenB,kj,jV,entN,setE,j0,addE,setL,setN,putE,env0,eqCs,j9,eqC,bA,bO,bN,bE,negB,kEq,ki,j8,lend,frz,frzL,zRow,kg,kd,closed,jH,j1,binI,remP,remI,retK,retG,kr,retD,ko,resL,resD,oneD,renD,renL,renE,j3,rho,jR,j6,List.append,List.nil_append,List.cons_append,List.append_nil,cond,Nat.reduceBEq,Nat.reduceAdd,Nat.beq]
   unfold yX
   refine ⟨fun h3 => ?_, fun h3 => ?_⟩
   ·have h3' : 0 < Int.tmod u d := by simpa using h3
    rw [if_pos h3']
    refine ⟨by simp only [fits]; omega, by simp only [fits]; omega, ?_⟩
    rfl
   ·have h3' : ¬ 0 < Int.tmod u d := by simpa using h3
    rw [if_neg h3']
    refine ⟨by simp only [fits]; omega, ?_⟩
    rfl
end Go.AM


set_option linter.all false
namespace Go.AM
open Go Go.Proofs
def edgL (l : List Pt) : List (Pt × Pt) := (List.range l.length).map fun i => (l.getD i (0, 0), l.getD ((i + 1) % l.length) (0, 0))
def eD (e : Pt × Pt) : List D := [pD e.1, pD e.2]
theorem JI (l : List Pt) : (edgL l).length = l.length := by simp [edgL]
theorem edgL_get {l : List Pt} {i : Nat} (h : i < l.length) : (edgL l)[i]? = some (l.getD i (0, 0), l.getD ((i + 1) % l.length) (0, 0)) := by simp [edgL, h]
theorem kX {l : List Pt} {i : Nat} (h : i < l.length) : l[i]? = some (l.getD i (0, 0)) := by simp [List.getD_eq_getElem?_getD, h]
def EdK (l : List Pt) (b : List Ent) : Prop := ∃ e0 e1 e2 e3, b = [e0, e1, e2, e3, .cells [.ls 2 (pds l)]]
theorem sm_edges2 {l : List Pt} : TSpM 183 [.ls 2 (pds l)] [] (.fn 212 [.box 0 0]) [.cells [.ls 2 (pds l)]] := by
 refine Vm (by rfl) ?_
 dsimp only [c_poly_edges, yH, jo,jK,jT,jr,jI,jM,jq,jJ,jL,iteR,regK,ji,jc,jl,jk,jb,jj,blkK,kt,kh,jd,ja,jy,fpOk,foot,kq,allN,memN,jN,jm,js,jw,jv,jt,ju,jg,jh,jf,je,newN,jx,jS,jU,jX,jO,jP,jQ,jz,jA,jE,jB,jC,jn,jD,jF,jG,j7,evX,evL,evB,rd,get,subG,memG,jY,jW,hyps,gob,impP,allP,j5,j2,j4,kp,nth,ke,km,jZ,lenB,kj,jV,entN,setE,j0,addE,setL,setN,putE,env0,eqCs,j9,eqC,bA,bO,bN,bE,negB,kEq,ki,j8,lend,frz,frzL,zRow,kg,kd,closed,jH,j1,binI,remP,remI,retK,retG,kr,retD,ko,resL,resD,oneD,renD,renL,renE,j3,rho,jR,j6,List.append,List.nil_append,List.cons_append,List.append_nil,cond,Nat.reduceBEq,Nat.reduceAdd,Nat.beq]
 exact Rt.id
theorem it_edges {l : List Pt} (hlen : l.length ≤ 4096) : IterM Tryz.prog gtab 212 [.box 4 0] ((edgL l).map eD) (EdK l) := by
 refine QJ kM c_poly_edges_1 qS (fn := Tryz.f212) (by kernel_rfl) (by kernel_rfl) QB (by kernel_rfl) (by rfl) (by kernel_rfl) fun y m S bs n F1 hn0 hm hy hS hbs hlb hgo hst => ?_
 have hsh : ∀ k, k ≤ m → ∃ e0 e1 e2 e3 o, S k = [e0, e1, e2, e3, .cells [.ls 2 (pds l)], .obj o] ∧ n = 6 ∧ lowB n (S k) = true := fun k hk => by
  obtain ⟨h1, h2, b0, o, h3, e0, e1, e2, e3, h4⟩ := hS k hk
  refine ⟨e0, e1, e2, e3, o, by rw [h3, h4]; rfl, ?_, h2⟩
  rw [← h1, h3, h4]; rfl
 have hn6 : n = 6 := (hsh 0 (Nat.zero_le _)).choose_spec.choose_spec.choose_spec.choose_spec.choose_spec.2.1
 subst hn6
 have hS0 := hsh 0 (Nat.zero_le _)
 obtain ⟨z0, z1, z2, z3, zo, hz, _, _⟩ := hS0
 rw [List.length_map, JI] at hm
 rw [hz]
 dsimp only [c_poly_edges_1, qS, jo,jK,jT,jr,jI,jM,jq,jJ,jL,iteR,regK,ji,jc,jl,jk,jb,jj,blkK,kt,kh,jd,ja,jy,fpOk,foot,kq,allN,memN,jN,jm,js,jw,jv,jt,ju,jg,jh,jf,je,newN,jx,jS,jU,jX,jO,jP,jQ,jz,jA,jE,jB,jC,jn,jD,jF,jG,j7,evX,evL,evB,rd,get,subG,memG,jY,jW,hyps,gob,impP,allP,j5,j2,j4,kp,nth,ke,km,jZ,lenB,kj,jV,entN,setE,j0,addE,setL,setN,putE,env0,eqCs,j9,eqC,bA,bO,bN,bE,negB,kEq,ki,j8,lend,frz,frzL,zRow,kg,kd,closed,jH,j1,binI,remP,remI,retK,retG,kr,retD,ko,resL,resD,oneD,renD,renL,renE,j3,rho,jR,j6,List.append,List.nil_append,List.cons_append,List.append_nil,cond,Nat.reduceBEq,Nat.reduceAdd,Nat.beq]
 rw [← hz, kV]
 refine kH (α := {k : Nat // k ≤ m})
  (fun k => ⟨[(0, [], .yld y), (1, [], .box 4 0), (5, [], .ls 2 (pds l)), (6, [], .int .i64 l.length), (7, [], .int .i64 k.1)], S k.1⟩) (fun k => m - k.1) ?_ ⟨0, Nat.zero_le _⟩ rfl
 rintro ⟨k, hk⟩ I ih
 dsimp only at hk ⊢
 obtain ⟨e0, e1, e2, e3, o, hSk, _, hlow⟩ := hsh k hk
 rw [hSk]
 dsimp only [c_poly_edges_1, qS, jo,jK,jT,jr,jI,jM,jq,jJ,jL,iteR,regK,ji,jc,jl,jk,jb,jj,blkK,kt,kh,jd,ja,jy,fpOk,foot,kq,allN,memN,jN,jm,js,jw,jv,jt,ju,jg,jh,jf,je,newN,jx,jS,jU,jX,jO,jP,jQ,jz,jA,jE,jB,jC,jn,jD,jF,jG,j7,evX,evL,evB,rd,get,subG,memG,jY,jW,hyps,gob,impP,allP,j5,j2,j4,kp,nth,ke,km,jZ,lenB,kj,jV,entN,setE,j0,addE,setL,setN,putE,env0,eqCs,j9,eqC,bA,bO,bN,bE,negB,kEq,ki,j8,lend,frz,frzL,zRow,kg,kd,closed,jH,j1,binI,remP,remI,retK,retG,kr,retD,ko,resL,resD,oneD,renD,renL,renE,j3,rho,jR,j6,List.append,List.nil_append,List.cons_append,List.append_nil,cond,Nat.reduceBEq,Nat.reduceAdd,Nat.beq]
 refine ⟨fun hlt => ?_, fun hge => ?_⟩
 ·have hkl : k < l.length := by simpa using hlt
  have hpos : 0 < l.length := by omega
  refine ⟨⟨rfl, by omega, by rw [kV]; omega⟩, kB (pD (l.getD k (0, 0))) (pD (l.getD k (0, 0))) (vL (by simpa using kX hkl)) rfl ?_⟩
  dsimp only [c_poly_edges_1, qS, pD, jo,jK,jT,jr,jI,jM,jq,jJ,jL,iteR,regK,ji,jc,jl,jk,jb,jj,blkK,kt,kh,jd,ja,jy,fpOk,foot,kq,allN,memN,jN,jm,js,jw,jv,jt,ju,jg,jh,jf,je,newN,jx,jS,jU,jX,jO,jP,jQ,jz,jA,jE,jB,jC,jn,jD,jF,jG,j7,evX,evL,evB,rd,get,subG,memG,jY,jW,hyps,gob,impP,allP,j5,j2,j4,kp,nth,ke,km,jZ,lenB,kj,jV,entN,setE,j0,addE,setL,setN,putE,env0,eqCs,j9,eqC,bA,bO,bN,bE,negB,kEq,ki,j8,lend,frz,frzL,zRow,kg,kd,closed,jH,j1,binI,remP,remI,retK,retG,kr,retD,ko,resL,resD,oneD,renD,renL,renE,j3,rho,jR,j6,List.append,List.nil_append,List.cons_append,List.append_nil,cond,Nat.reduceBEq,Nat.reduceAdd,Nat.beq]
  rw [kV]
  have hmod : ((k : Int) + 1) % (l.length : Int) = (((k + 1) % l.length : Nat) : Int) := by simp
  have hmlt : (k + 1) % l.length < l.length := Nat.mod_lt _ hpos
  refine ⟨by simp only [fits]; omega, ⟨by omega, by omega⟩, ⟨rfl, by omega, by omega⟩, kB (pD (l.getD ((k + 1) % l.length) (0, 0))) (pD (l.getD ((k + 1) % l.length) (0, 0))) (vL (by rw [hmod, Int.toNat_natCast]; exact kX hmlt)) rfl ?_⟩
  dsimp only [c_poly_edges_1, qS, pD, jo,jK,jT,jr,jI,jM,jq,jJ,jL,iteR,regK,ji,jc,jl,jk,jb,jj,blkK,kt,kh,jd,ja,jy,fpOk,foot,kq,allN,memN,jN,jm,js,jw,jv,jt,ju,jg,jh,jf,je,newN,jx,jS,jU,jX,jO,jP,jQ,jz,jA,jE,jB,jC,jn,jD,jF,jG,j7,evX,evL,evB,rd,get,subG,memG,jY,jW,hyps,gob,impP,allP,j5,j2,j4,kp,nth,ke,km,jZ,lenB,kj,jV,entN,setE,j0,addE,setL,setN,putE,env0,eqCs,j9,eqC,bA,bO,bN,bE,negB,kEq,ki,j8,lend,frz,frzL,zRow,kg,kd,closed,jH,j1,binI,remP,remI,retK,retG,kr,retD,ko,resL,resD,oneD,renD,renL,renE,j3,rho,jR,j6,List.append,List.nil_append,List.cons_append,List.append_nil,cond,Nat.reduceBEq,Nat.reduceAdd,Nat.beq]
  have hkx : ((edgL l).map eD)[k]? = some (eD (l.getD k (0, 0), l.getD ((k + 1) % l.length) (0, 0))) := by rw [List.getElem?_map, edgL_get hkl]; rfl
  have hlow6 : lowL 6 (.yld y :: eD (l.getD k (0, 0), l.getD ((k + 1) % l.length) (0, 0))) = true := by simp [eD, pD, lowL, low, qC, hy]
  have hszk : (S k).length = 6 := by rw [hSk]; rfl
  rcases Nat.lt_or_ge k m with hkm | hkm
  ·have hszk1 : (S (k + 1)).length = 6 := by rw [← kR]; exact (hS (k + 1) hkm).1
   have hp := (hgo k _ hkm hkx [75, 75]).frame (by rw [hn0, hszk]) (by rw [hszk]; exact hlow) (by rw [hszk]; exact hlow6) (by rw [hszk, hszk1]) rfl [.cells [.int .i64 (l.getD k (0, 0)).1, .int .i64 (l.getD k (0, 0)).2]]
   rw [hSk] at hp
   refine xY _ _ hp ?_
   dsimp only [c_poly_edges_1, qS, jo,jK,jT,jr,jI,jM,jq,jJ,jL,iteR,regK,ji,jc,jl,jk,jb,jj,blkK,kt,kh,jd,ja,jy,fpOk,foot,kq,allN,memN,jN,jm,js,jw,jv,jt,ju,jg,jh,jf,je,newN,jx,jS,jU,jX,jO,jP,jQ,jz,jA,jE,jB,jC,jn,jD,jF,jG,j7,evX,evL,evB,rd,get,subG,memG,jY,jW,hyps,gob,impP,allP,j5,j2,j4,kp,nth,ke,km,jZ,lenB,kj,jV,entN,setE,j0,addE,setL,setN,putE,env0,eqCs,j9,eqC,bA,bO,bN,bE,negB,kEq,ki,j8,lend,frz,frzL,zRow,kg,kd,closed,jH,j1,binI,remP,remI,retK,retG,kr,retD,ko,resL,resD,oneD,renD,renL,renE,j3,rho,jR,j6,List.append,List.nil_append,List.cons_append,List.append_nil,cond,Nat.reduceBEq,Nat.reduceAdd,Nat.beq]
   refine ⟨nofun, fun _ => ⟨by simp only [fits]; omega, ?_⟩⟩
   refine k9 (ih ⟨k + 1, hkm⟩ (by dsimp only; omega)) ⟨rfl, rfl, rfl, rfl, by simp [get], trivial⟩ (qK _ _) ?_ ?_ ?_
   ·dsimp only
    rw [(hS (k + 1) hkm).1]
    simp [lowE, low, qC, hy]
   ·dsimp only
    rw [(hS (k + 1) hkm).1]; exact (hS (k + 1) hkm).2.1
   ·dsimp only
    rw [(hS (k + 1) hkm).1]; rfl
  ·have hkm' : k = m := by omega
   subst hkm'
   have hp := (hst _ hkx [75, 75]).frame (by rw [hn0, hszk]) (by rw [hszk]; exact hlow) (by rw [hszk]; exact hlow6) (by rw [hszk, ← kR]; exact hbs) rfl [.cells [.int .i64 (l.getD k (0, 0)).1, .int .i64 (l.getD k (0, 0)).2]]
   rw [hSk] at hp
   refine xY _ _ hp ?_
   dsimp only [c_poly_edges_1, qS, jo,jK,jT,jr,jI,jM,jq,jJ,jL,iteR,regK,ji,jc,jl,jk,jb,jj,blkK,kt,kh,jd,ja,jy,fpOk,foot,kq,allN,memN,jN,jm,js,jw,jv,jt,ju,jg,jh,jf,je,newN,jx,jS,jU,jX,jO,jP,jQ,jz,jA,jE,jB,jC,jn,jD,jF,jG,j7,evX,evL,evB,rd,get,subG,memG,jY,jW,hyps,gob,impP,allP,j5,j2,j4,kp,nth,ke,km,jZ,lenB,kj,jV,entN,setE,j0,addE,setL,setN,putE,env0,eqCs,j9,eqC,bA,bO,bN,bE,negB,kEq,ki,j8,lend,frz,frzL,zRow,kg,kd,closed,jH,j1,binI,remP,remI,retK,retG,kr,retD,ko,resL,resD,oneD,renD,renL,renE,j3,rho,jR,j6,List.append,List.nil_append,List.cons_append,List.append_nil,cond,Nat.reduceBEq,Nat.reduceAdd,Nat.beq]
   refine ⟨fun _ => ?_, nofun⟩
   have hlt' := (List.getElem?_eq_some_iff.1 hkx).1
   rw [yW, if_pos hlt']
   exact qK _ _
 ·have hkl : k = l.length := by have : ¬ k < l.length := by simpa using hge
                                omega
  rw [yW, if_neg (by rw [List.length_map, JI]; omega), show m = k by omega, hSk]
  exact XI _
end Go.AM

