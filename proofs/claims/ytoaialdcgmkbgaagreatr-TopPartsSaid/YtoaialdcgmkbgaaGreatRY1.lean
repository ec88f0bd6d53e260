import Derived.Test.YtoaialdcgmkbgaaGreatRCode
import Derived.Test.YtoaialdcgmkbgaaGreatRU3
import Derived.Test.YtoaialdcgmkbgaaGreatRA29

set_option linter.all false
namespace Go.AM
open Go Go.Proofs
def rD (r : Rc) : D := .agg [.int .i64 r.x, .int .i64 r.y, .int .i64 r.w, .int .i64 r.h]
def Rc.o : Rc := ⟨0, 0, 0, 0⟩
def Rc.In (r : Rc) : Prop := fits .i64 r.x /\ fits .i64 r.y /\ fits .i64 r.w /\ fits .i64 r.h
def Rc.eq (a b : Rc) : Bool := decide (a.x = b.x) && (decide (a.y = b.y) && (decide (a.w = b.w) && decide (a.h = b.h)))
theorem Rc.eq_iff {a b : Rc} : a.eq b = true ↔ a = b := by
 cases a; cases b; simp [Rc.eq]
def jv3 (a n : Int) : Bool := decide (-1048576 <= a) && decide (1 <= n) && decide (n <= 1048576 - a)
def Vr (r : Rc) : Prop := -1048576 <= r.x /\ -1048576 <= r.y /\ 1 <= r.w /\ 1 <= r.h /\ r.w <= 1048576 - r.x /\ r.h <= 1048576 - r.y
def Vz (r : Rc) : Prop := r = .o \/ Vr r
theorem Vr.in {r : Rc} (h : Vr r) : r.In := by unfold Vr at h; simp only [Rc.In, fits]; omega
theorem In_o : Rc.o.In := by simp [Rc.In, Rc.o, fits]
theorem Vz.in {r : Rc} (h : Vz r) : r.In := h.elim (fun h => h ▸ In_o) Vr.in
theorem jL0 {a n : Int} : jv3 a n = true ↔ -1048576 <= a /\ 1 <= n /\ n <= 1048576 - a := by simp [jv3, and_assoc]

def cntB (r : Rc) : Bool := jv3 r.x r.w && jv3 r.y r.h
theorem Vg {r : Rc} : cntB r = true ↔ Vr r := by
 simp only [cntB, Bool.and_eq_true, jL0, Vr]
 omega
theorem ZC {a n : Int} (ha : fits .i64 a) : TSp 121 [.int .i64 a, .int .i64 n] (.bool (jv3 a n)) := by
 refine jb8 (by rfl) ?_
 dsimp only [c_band_fits, Xp, jn,jH,jO,jq,jF,jJ,jo,jG,jI,iteR,regK,jh,jc,jk,jj,jb,ji,blkK,kp,kd,jd,ja,jx,fpOk,foot,km,allN,memN,jK,jl,jr,jv,jt,ju,jf,jg,je,newN,jw,jN,jP,jY,jQ,jM,jS,jz,jA,jC,jD,jE,jm,jB,evX,evL,evB,rd,get,subG,memG,jT,jV,hyps,gob,impP,allP,j1,jX,j3,kj,nth,j8,kh,jU,lenB,kg,jR,entN,setE,jZ,addE,setL,setN,putE,env0,eqCs,j6,eqC,bA,bO,bN,bE,negB,kEq,ke,j5,lend,frz,frzL,zRow,j9,j7,closed,jy,jW,binI,remP,remI,retK,retG,ko,retD,ki,resL,resD,oneD,renD,renL,renE,j0,rho,jL,j4,zla,zlb,zlc,zld,zca,zcb,o1,o0,og,Nat.reduceBEq,Nat.reduceAdd,Nat.beq]
 refine ⟨fun h => ?_, ?_⟩
 ·simp only [fits, Bool.and_eq_true, decide_eq_true_eq] at *
  omega
 ·congr 1
theorem Yn {r : Rc} (hr : r.In) : TSp 58 [rD r] (.bool (cntB r)) := by
 refine XJ (by rfl) ?_
 dsimp only [c_band_counts, xf, rD, jn,jH,jO,jq,jF,jJ,jo,jG,jI,iteR,regK,jh,jc,jk,jj,jb,ji,blkK,kp,kd,jd,ja,jx,fpOk,foot,km,allN,memN,jK,jl,jr,jv,jt,ju,jf,jg,je,newN,jw,jN,jP,jY,jQ,jM,jS,jz,jA,jC,jD,jE,jm,jB,evX,evL,evB,rd,get,subG,memG,jT,jV,hyps,gob,impP,allP,j1,jX,j3,kj,nth,j8,kh,jU,lenB,kg,jR,entN,setE,jZ,addE,setL,setN,putE,env0,eqCs,j6,eqC,bA,bO,bN,bE,negB,kEq,ke,j5,lend,frz,frzL,zRow,j9,j7,closed,jy,jW,binI,remP,remI,retK,retG,ko,retD,ki,resL,resD,oneD,renD,renL,renE,j0,rho,jL,j4,zla,zlb,zlc,zld,zca,zcb,o1,o0,og,Nat.reduceBEq,Nat.reduceAdd,Nat.beq]
 refine kq (ZC hr.1) ?_
 dsimp only [c_band_counts, xf, jn,jH,jO,jq,jF,jJ,jo,jG,jI,iteR,regK,jh,jc,jk,jj,jb,ji,blkK,kp,kd,jd,ja,jx,fpOk,foot,km,allN,memN,jK,jl,jr,jv,jt,ju,jf,jg,je,newN,jw,jN,jP,jY,jQ,jM,jS,jz,jA,jC,jD,jE,jm,jB,evX,evL,evB,rd,get,subG,memG,jT,jV,hyps,gob,impP,allP,j1,jX,j3,kj,nth,j8,kh,jU,lenB,kg,jR,entN,setE,jZ,addE,setL,setN,putE,env0,eqCs,j6,eqC,bA,bO,bN,bE,negB,kEq,ke,j5,lend,frz,frzL,zRow,j9,j7,closed,jy,jW,binI,remP,remI,retK,retG,ko,retD,ki,resL,resD,oneD,renD,renL,renE,j0,rho,jL,j4,zla,zlb,zlc,zld,zca,zcb,o1,o0,og,Nat.reduceBEq,Nat.reduceAdd,Nat.beq]
 refine kq (fun _ => ZC hr.2.1) ?_
 dsimp only [c_band_counts, xf, jn,jH,jO,jq,jF,jJ,jo,jG,jI,iteR,regK,jh,jc,jk,jj,jb,ji,blkK,kp,kd,jd,ja,jx,fpOk,foot,km,allN,memN,jK,jl,jr,jv,jt,ju,jf,jg,je,newN,jw,jN,jP,jY,jQ,jM,jS,jz,jA,jC,jD,jE,jm,jB,evX,evL,evB,rd,get,subG,memG,jT,jV,hyps,gob,impP,allP,j1,jX,j3,kj,nth,j8,kh,jU,lenB,kg,jR,entN,setE,jZ,addE,setL,setN,putE,env0,eqCs,j6,eqC,bA,bO,bN,bE,negB,kEq,ke,j5,lend,frz,frzL,zRow,j9,j7,closed,jy,jW,binI,remP,remI,retK,retG,ko,retD,ki,resL,resD,oneD,renD,renL,renE,j0,rho,jL,j4,zla,zlb,zlc,zld,zca,zcb,o1,o0,og,Nat.reduceBEq,Nat.reduceAdd,Nat.beq]
 rfl
def rcs (l : List Rc) : List D := l.map rD
theorem ZG {r : Rc} {y : Int} (h : fits .i64 (r.y + r.h)) : TSpM 65 [rD r, .box 0 0] [.cells [.int .i64 y]] (.bool (decide (r.y + r.h <= y))) [.cells [.int .i64 y]] := by
 refine jc1 (by rfl) ?_
 dsimp only [c_band_Of_2, Xq, rD, jn,jH,jO,jq,jF,jJ,jo,jG,jI,iteR,regK,jh,jc,jk,jj,jb,ji,blkK,kp,kd,jd,ja,jx,fpOk,foot,km,allN,memN,jK,jl,jr,jv,jt,ju,jf,jg,je,newN,jw,jN,jP,jY,jQ,jM,jS,jz,jA,jC,jD,jE,jm,jB,evX,evL,evB,rd,get,subG,memG,jT,jV,hyps,gob,impP,allP,j1,jX,j3,kj,nth,j8,kh,jU,lenB,kg,jR,entN,setE,jZ,addE,setL,setN,putE,env0,eqCs,j6,eqC,bA,bO,bN,bE,negB,kEq,ke,j5,lend,frz,frzL,zRow,j9,j7,closed,jy,jW,binI,remP,remI,retK,retG,ko,retD,ki,resL,resD,oneD,renD,renL,renE,j0,rho,jL,j4,zla,zlb,zlc,zld,zca,zcb,o1,o0,og,Nat.reduceBEq,Nat.reduceAdd,Nat.beq]
 refine ⟨h, ?_⟩
 exact Rt.cut (Nat.le_refl _) ⟨rfl, trivial⟩ rfl rfl

theorem Vo (b : List Ent) : subB b b := by simpa using vM b []
def sp1 (r : Rc) : Int × Int := (r.x, r.x + r.w)
def zq : List (Int × Int) -> List (Int × Int)
 | [] => []
 | s :: l => z7 s l
theorem jB0 {s : Int × Int} {l : List (Int × Int)} (h : ∀ t r, l = t :: r -> s.2 < t.1) : z7 s l = s :: zq l := by
 cases l with
 | nil => rfl
 | cons t r =>
   have := h t r rfl
   simp only [z7, zq]
   rw [if_neg (by omega)]
theorem jS6 {s t : Int × Int} {l : List (Int × Int)} (h : t.1 <= s.2) : z7 s (t :: l) = z7 (s.1, max s.2 t.2) l := by
 simp only [z7]; rw [if_pos h]
def spnD (s : Int × Int) : List D := [.agg [.int .i64 s.1, .int .i64 s.2]]
def rowE (e0 e1 e2 e3 : Ent) (ver : Nat) (l : List Rc) (e5 e6 : Ent) : List Ent := [e0, e1, e2, e3, .arr 45 4 ver (rcs l), e5, e6, .cells [.own 4 ver]]
def SpnK (ver : Nat) (l : List Rc) (b : List Ent) : Prop := ∃ e0 e1 e2 e3 e5 e6, b = rowE e0 e1 e2 e3 ver l e5 e6
theorem ku (l : List Rc) : (rcs l).length = l.length := by simp [rcs]
theorem qx {l : List Rc} {i : Nat} {r : Rc} (h : l[i]? = some r) : (rcs l)[i]? = some (rD r) := by simp [rcs, h]
theorem jS9 {l : List Rc} {ver : Nat} (hin : ∀ r ∈ l, Vr r) (hlen : l.length <= 4294967296) : jx2 Tryz.prog gtab 128 [.box 7 0] ((zq (l.map sp1)).map spnD) (SpnK ver l) := by
 refine Vk mixed c_band_spans_1 kZ (fn := Tryz.f128) (by kernel_rfl) (by kernel_rfl) Vb (by kernel_rfl) (by rfl) (by kernel_rfl) fun y m S bs n F1 hn0 hm hy hS hbs hlb hgo hst => ?_
 have hsh : ∀ k, k <= m -> ∃ e0 e1 e2 e3 e5 e6 o, S k = [e0, e1, e2, e3, .arr 45 4 ver (rcs l), e5, e6, .cells [.own 4 ver], .obj o] /\ n = 9 /\ lowB n (S k) = true := fun k hk => by
  obtain ⟨h1, h2, b0, o, h3, e0, e1, e2, e3, e5, e6, h4⟩ := hS k hk
  refine ⟨e0, e1, e2, e3, e5, e6, o, by rw [h3, h4]; rfl, ?_, h2⟩
  rw [<- h1, h3, h4]; rfl
 have hn9 : n = 9 := (hsh 0 (Nat.zero_le _)).choose_spec.choose_spec.choose_spec.choose_spec.choose_spec.choose_spec.choose_spec.2.1
 subst hn9
 dsimp only [c_band_spans_1, kZ, jn,jH,jO,jq,jF,jJ,jo,jG,jI,iteR,regK,jh,jc,jk,jj,jb,ji,blkK,kp,kd,jd,ja,jx,fpOk,foot,km,allN,memN,jK,jl,jr,jv,jt,ju,jf,jg,je,newN,jw,jN,jP,jY,jQ,jM,jS,jz,jA,jC,jD,jE,jm,jB,evX,evL,evB,rd,get,subG,memG,jT,jV,hyps,gob,impP,allP,j1,jX,j3,kj,nth,j8,kh,jU,lenB,kg,jR,entN,setE,jZ,addE,setL,setN,putE,env0,eqCs,j6,eqC,bA,bO,bN,bE,negB,kEq,ke,j5,lend,frz,frzL,zRow,j9,j7,closed,jy,jW,binI,remP,remI,retK,retG,ko,retD,ki,resL,resD,oneD,renD,renL,renE,j0,rho,jL,j4,zla,zlb,zlc,zld,zca,zcb,o1,o0,og,Nat.reduceBEq,Nat.reduceAdd,Nat.beq]
 refine kG (α := {p : Nat × Nat // p.1 <= l.length /\ p.2 <= m /\ ((zq (l.map sp1)).map spnD).drop p.2 = (zq ((l.drop p.1).map sp1)).map spnD})
  (fun p => ⟨[(0, [], .yld y), (1, [], .box 7 0), (3, [], .int .i64 p.1.1)], S p.1.2⟩) (fun p => l.length - p.1.1) ?_ ⟨(0, 0), by simp⟩ rfl
 rintro ⟨⟨i, k⟩, hi, hk, hd⟩ I ih
 dsimp only at hi hk hd |-
 obtain ⟨e0, e1, e2, e3, e5, e6, o, hSk, _, hlow⟩ := hsh k hk
 rw [hSk]
 dsimp only [c_band_spans_1, kZ, jn,jH,jO,jq,jF,jJ,jo,jG,jI,iteR,regK,jh,jc,jk,jj,jb,ji,blkK,kp,kd,jd,ja,jx,fpOk,foot,km,allN,memN,jK,jl,jr,jv,jt,ju,jf,jg,je,newN,jw,jN,jP,jY,jQ,jM,jS,jz,jA,jC,jD,jE,jm,jB,evX,evL,evB,rd,get,subG,memG,jT,jV,hyps,gob,impP,allP,j1,jX,j3,kj,nth,j8,kh,jU,lenB,kg,jR,entN,setE,jZ,addE,setL,setN,putE,env0,eqCs,j6,eqC,bA,bO,bN,bE,negB,kEq,ke,j5,lend,frz,frzL,zRow,j9,j7,closed,jy,jW,binI,remP,remI,retK,retG,ko,retD,ki,resL,resD,oneD,renD,renL,renE,j0,rho,jL,j4,zla,zlb,zlc,zld,zca,zcb,o1,o0,og,Nat.reduceBEq,Nat.reduceAdd,Nat.beq]
 refine ⟨rfl, fun hlt => ?_, fun hge => ?_⟩
 ·have hl : i < l.length := by rw [ku] at hlt; simpa using hlt
  obtain ⟨r, hr⟩ : ∃ r, l[i]? = some r := ⟨_, List.getElem?_eq_getElem hl⟩
  have hV := hin r (List.mem_of_getElem? hr)
  have hix : (0 : Int) <= i /\ (i : Int) < ((rcs l).length : Int) := by rw [ku]; omega
  have hrow : (rcs l)[(i : Int).toNat]? = some (rD r) := qx (by simpa using hr)
  refine ⟨⟨rfl, rfl, hix⟩, ⟨rfl, rfl⟩, ky (rD r) (.int .i64 r.x) hrow rfl ?_⟩
  dsimp only [c_band_spans_1, kZ, jn,jH,jO,jq,jF,jJ,jo,jG,jI,iteR,regK,jh,jc,jk,jj,jb,ji,blkK,kp,kd,jd,ja,jx,fpOk,foot,km,allN,memN,jK,jl,jr,jv,jt,ju,jf,jg,je,newN,jw,jN,jP,jY,jQ,jM,jS,jz,jA,jC,jD,jE,jm,jB,evX,evL,evB,rd,get,subG,memG,jT,jV,hyps,gob,impP,allP,j1,jX,j3,kj,nth,j8,kh,jU,lenB,kg,jR,entN,setE,jZ,addE,setL,setN,putE,env0,eqCs,j6,eqC,bA,bO,bN,bE,negB,kEq,ke,j5,lend,frz,frzL,zRow,j9,j7,closed,jy,jW,binI,remP,remI,retK,retG,ko,retD,ki,resL,resD,oneD,renD,renL,renE,j0,rho,jL,j4,zla,zlb,zlc,zld,zca,zcb,o1,o0,og,Nat.reduceBEq,Nat.reduceAdd,Nat.beq]
  refine ⟨⟨rfl, rfl, hix⟩, ⟨rfl, rfl⟩, ky (rD r) (.int .i64 r.x) hrow rfl ?_⟩
  dsimp only [c_band_spans_1, kZ, jn,jH,jO,jq,jF,jJ,jo,jG,jI,iteR,regK,jh,jc,jk,jj,jb,ji,blkK,kp,kd,jd,ja,jx,fpOk,foot,km,allN,memN,jK,jl,jr,jv,jt,ju,jf,jg,je,newN,jw,jN,jP,jY,jQ,jM,jS,jz,jA,jC,jD,jE,jm,jB,evX,evL,evB,rd,get,subG,memG,jT,jV,hyps,gob,impP,allP,j1,jX,j3,kj,nth,j8,kh,jU,lenB,kg,jR,entN,setE,jZ,addE,setL,setN,putE,env0,eqCs,j6,eqC,bA,bO,bN,bE,negB,kEq,ke,j5,lend,frz,frzL,zRow,j9,j7,closed,jy,jW,binI,remP,remI,retK,retG,ko,retD,ki,resL,resD,oneD,renD,renL,renE,j0,rho,jL,j4,zla,zlb,zlc,zld,zca,zcb,o1,o0,og,Nat.reduceBEq,Nat.reduceAdd,Nat.beq]
  refine ⟨⟨rfl, rfl, hix⟩, ⟨rfl, rfl⟩, ky (rD r) (.int .i64 r.w) hrow rfl ?_⟩
  dsimp only [c_band_spans_1, kZ, jn,jH,jO,jq,jF,jJ,jo,jG,jI,iteR,regK,jh,jc,jk,jj,jb,ji,blkK,kp,kd,jd,ja,jx,fpOk,foot,km,allN,memN,jK,jl,jr,jv,jt,ju,jf,jg,je,newN,jw,jN,jP,jY,jQ,jM,jS,jz,jA,jC,jD,jE,jm,jB,evX,evL,evB,rd,get,subG,memG,jT,jV,hyps,gob,impP,allP,j1,jX,j3,kj,nth,j8,kh,jU,lenB,kg,jR,entN,setE,jZ,addE,setL,setN,putE,env0,eqCs,j6,eqC,bA,bO,bN,bE,negB,kEq,ke,j5,lend,frz,frzL,zRow,j9,j7,closed,jy,jW,binI,remP,remI,retK,retG,ko,retD,ki,resL,resD,oneD,renD,renL,renE,j0,rho,jL,j4,zla,zlb,zlc,zld,zca,zcb,o1,o0,og,Nat.reduceBEq,Nat.reduceAdd,Nat.beq]
  have hV' := hV
  simp only [Vr] at hV'
  refine ⟨by simp only [fits]; omega, by simp only [fits]; omega, ?_⟩
  refine kG (α := {p : Nat × Int // (i + 1 <= p.1 /\ p.1 <= l.length) /\ z7 (r.x, p.2) ((l.drop p.1).map sp1) = z7 (sp1 r) ((l.drop (i + 1)).map sp1) /\ -1048576 <= p.2 /\ p.2 <= 1048576})
   (fun p => ⟨[(0, [], .yld y), (1, [], .box 7 0), (3, [], .int .i64 p.1.1), (4, [], .box 9 0)], [e0, e1, e2, e3, .arr 45 4 ver (rcs l), e5, e6, .cells [.own 4 ver], .obj o, .cells [.int .i64 r.x, .int .i64 p.1.2]]⟩) (fun p => l.length - p.1.1) ?_
   ⟨(i + 1, r.x + r.w), ⟨Nat.le_refl _, hl⟩, rfl, by omega, by omega⟩ (by simp)
  rintro ⟨⟨j, to⟩, ⟨hj1, hj2⟩, hjo, ht1, ht2⟩ I' ih'
  dsimp only at hj1 hj2 hjo ht1 ht2 |-
  dsimp only [c_band_spans_1, kZ, jn,jH,jO,jq,jF,jJ,jo,jG,jI,iteR,regK,jh,jc,jk,jj,jb,ji,blkK,kp,kd,jd,ja,jx,fpOk,foot,km,allN,memN,jK,jl,jr,jv,jt,ju,jf,jg,je,newN,jw,jN,jP,jY,jQ,jM,jS,jz,jA,jC,jD,jE,jm,jB,evX,evL,evB,rd,get,subG,memG,jT,jV,hyps,gob,impP,allP,j1,jX,j3,kj,nth,j8,kh,jU,lenB,kg,jR,entN,setE,jZ,addE,setL,setN,putE,env0,eqCs,j6,eqC,bA,bO,bN,bE,negB,kEq,ke,j5,lend,frz,frzL,zRow,j9,j7,closed,jy,jW,binI,remP,remI,retK,retG,ko,retD,ki,resL,resD,oneD,renD,renL,renE,j0,rho,jL,j4,zla,zlb,zlc,zld,zca,zcb,o1,o0,og,Nat.reduceBEq,Nat.reduceAdd,Nat.beq]
  obtain ⟨q, hq⟩ : ∃ q, q = l[j]?.getD .o := ⟨_, rfl⟩
  have hqj : j < l.length -> l[j]? = some q := fun h => by rw [hq, List.getElem?_eq_getElem h]; rfl
  have hlt2 : ∀ {p : Prop}, (decide ((j : Int) < ((rcs l).length : Int)) = true -> p) ↔ (j < l.length -> p) := by rw [ku]; simp
  refine ⟨rfl, hlt2.2 fun h => ⟨rfl, rfl, by omega, by rw [ku]; omega⟩, hlt2.2 fun h => ⟨rfl, rfl⟩, ky (rD q) (.int .i64 q.x) (hlt2.2 fun h => qx (by simpa using hqj h)) rfl ?_⟩
  dsimp only [c_band_spans_1, kZ, jn,jH,jO,jq,jF,jJ,jo,jG,jI,iteR,regK,jh,jc,jk,jj,jb,ji,blkK,kp,kd,jd,ja,jx,fpOk,foot,km,allN,memN,jK,jl,jr,jv,jt,ju,jf,jg,je,newN,jw,jN,jP,jY,jQ,jM,jS,jz,jA,jC,jD,jE,jm,jB,evX,evL,evB,rd,get,subG,memG,jT,jV,hyps,gob,impP,allP,j1,jX,j3,kj,nth,j8,kh,jU,lenB,kg,jR,entN,setE,jZ,addE,setL,setN,putE,env0,eqCs,j6,eqC,bA,bO,bN,bE,negB,kEq,ke,j5,lend,frz,frzL,zRow,j9,j7,closed,jy,jW,binI,remP,remI,retK,retG,ko,retD,ki,resL,resD,oneD,renD,renL,renE,j0,rho,jL,j4,zla,zlb,zlc,zld,zca,zcb,o1,o0,og,Nat.reduceBEq,Nat.reduceAdd,Nat.beq]
  refine ⟨fun hc => ?_, fun hc => ?_⟩
  ·-- a further one
   rw [ku] at hc
   simp only [Bool.and_eq_true, decide_eq_true_eq] at hc
   have hjl : j < l.length := by omega
   have hqV := hin q (List.mem_of_getElem? (hqj hjl))
   simp only [Vr] at hqV
   have hix2 : (0 : Int) <= j /\ (j : Int) < ((rcs l).length : Int) := by rw [ku]; omega
   have hrow2 : (rcs l)[(j : Int).toNat]? = some (rD q) := qx (by simpa using hqj hjl)
   refine ⟨⟨rfl, rfl, hix2⟩, ⟨rfl, rfl⟩, ky (rD q) (.int .i64 q.x) hrow2 rfl ?_⟩
   dsimp only [c_band_spans_1, kZ, jn,jH,jO,jq,jF,jJ,jo,jG,jI,iteR,regK,jh,jc,jk,jj,jb,ji,blkK,kp,kd,jd,ja,jx,fpOk,foot,km,allN,memN,jK,jl,jr,jv,jt,ju,jf,jg,je,newN,jw,jN,jP,jY,jQ,jM,jS,jz,jA,jC,jD,jE,jm,jB,evX,evL,evB,rd,get,subG,memG,jT,jV,hyps,gob,impP,allP,j1,jX,j3,kj,nth,j8,kh,jU,lenB,kg,jR,entN,setE,jZ,addE,setL,setN,putE,env0,eqCs,j6,eqC,bA,bO,bN,bE,negB,kEq,ke,j5,lend,frz,frzL,zRow,j9,j7,closed,jy,jW,binI,remP,remI,retK,retG,ko,retD,ki,resL,resD,oneD,renD,renL,renE,j0,rho,jL,j4,zla,zlb,zlc,zld,zca,zcb,o1,o0,og,Nat.reduceBEq,Nat.reduceAdd,Nat.beq]
   refine ⟨⟨rfl, rfl, hix2⟩, ⟨rfl, rfl⟩, ky (rD q) (.int .i64 q.w) hrow2 rfl ?_⟩
   dsimp only [c_band_spans_1, kZ, jn,jH,jO,jq,jF,jJ,jo,jG,jI,iteR,regK,jh,jc,jk,jj,jb,ji,blkK,kp,kd,jd,ja,jx,fpOk,foot,km,allN,memN,jK,jl,jr,jv,jt,ju,jf,jg,je,newN,jw,jN,jP,jY,jQ,jM,jS,jz,jA,jC,jD,jE,jm,jB,evX,evL,evB,rd,get,subG,memG,jT,jV,hyps,gob,impP,allP,j1,jX,j3,kj,nth,j8,kh,jU,lenB,kg,jR,entN,setE,jZ,addE,setL,setN,putE,env0,eqCs,j6,eqC,bA,bO,bN,bE,negB,kEq,ke,j5,lend,frz,frzL,zRow,j9,j7,closed,jy,jW,binI,remP,remI,retK,retG,ko,retD,ki,resL,resD,oneD,renD,renL,renE,j0,rho,jL,j4,zla,zlb,zlc,zld,zca,zcb,o1,o0,og,Nat.reduceBEq,Nat.reduceAdd,Nat.beq]
   refine ⟨by simp only [fits]; omega, by simp only [fits]; omega, ?_⟩
   have hdj : l.drop j = q :: l.drop (j + 1) := by
    rw [List.drop_eq_getElem_cons hjl]
    congr 1
    have := hqj hjl
    rw [List.getElem?_eq_getElem hjl] at this
    exact Option.some.inj this
   refine qa (ih' ⟨(j + 1, max to (q.x + q.w)), ⟨by omega, hjl⟩, ?_, by dsimp only; omega, by dsimp only; omega⟩ (by dsimp only; omega)) ?_ ⟨rfl, rfl, rfl, rfl, rfl, rfl, rfl, rfl, rfl, rfl, trivial⟩ ?_ ?_
   ·rw [<- hjo, hdj, List.map_cons, jS6 (s := (r.x, to)) (t := sp1 q) (show (sp1 q).1 <= (r.x, to).2 from hc.2)]
    rfl
   ·exact ⟨rfl, rfl, by simp [get], rfl, trivial⟩
   ·have h10 : y < 10 := by omega
    simp [lowE, low, jZ, qN, h10]
   ·rw [hSk] at hlow
    exact Kq (xR hlow) (b := [.cells _]) rfl
  ·-- handed on
   rw [ku] at hc
   simp only [Bool.and_eq_false_iff, decide_eq_false_iff_not] at hc
   have hstop : z7 (r.x, to) ((l.drop j).map sp1) = (r.x, to) :: zq ((l.drop j).map sp1) := by
    refine jB0 fun t u htu => ?_
    by_cases hjl : j < l.length
    ·rw [List.drop_eq_getElem_cons hjl, List.map_cons] at htu
     have := hqj hjl
     rw [List.getElem?_eq_getElem hjl] at this
     rw [Option.some.inj this] at htu
     have h2 := (List.cons.inj htu).1
     rw [<- h2]
     have h1 : ¬ q.x <= to := by
      rcases hc with hc | hc
      ·omega
      ·exact hc
     simp only [sp1]; omega
    ·rw [List.drop_eq_nil_of_le (by omega)] at htu; cases htu
   have hdi : l.drop i = r :: l.drop (i + 1) := by
    rw [List.drop_eq_getElem_cons hl]
    congr 1
    rw [List.getElem?_eq_getElem hl] at hr
    exact Option.some.inj hr
   have hdk : ((zq (l.map sp1)).map spnD).drop k = spnD (r.x, to) :: (zq ((l.drop j).map sp1)).map spnD := by
    rw [hd, hdi, List.map_cons]
    show (z7 (sp1 r) ((l.drop (i + 1)).map sp1)).map spnD = _
    rw [<- hjo, hstop, List.map_cons]
   have hkx : ((zq (l.map sp1)).map spnD)[k]? = some (spnD (r.x, to)) := by
    rw [<- List.head?_drop, hdk]; rfl
   have hk1 : ((zq (l.map sp1)).map spnD).drop (k + 1) = (zq ((l.drop j).map sp1)).map spnD := by
    rw [<- List.drop_drop, hdk]; rfl
   have hlow9 : lowL 9 (.yld y :: spnD (r.x, to)) = true := by simp [spnD, lowL, low, qN, hy]
   have hszk : (S k).length = 9 := by rw [hSk]; rfl
   rcases Nat.lt_or_ge k m with hkm | hkm
   ·have hszk1 : (S (k + 1)).length = 9 := by rw [<- kH]; exact (hS (k + 1) hkm).1
    have hp := (hgo k _ hkm hkx [154]).frame (by rw [hn0, hszk]) (by rw [hszk]; exact hlow) (by rw [hszk]; exact hlow9) (by rw [hszk, hszk1]) rfl [.cells [.int .i64 r.x, .int .i64 to]]
    rw [hSk] at hp
    refine qh _ _ hp ?_
    dsimp only [c_band_spans_1, kZ, jn,jH,jO,jq,jF,jJ,jo,jG,jI,iteR,regK,jh,jc,jk,jj,jb,ji,blkK,kp,kd,jd,ja,jx,fpOk,foot,km,allN,memN,jK,jl,jr,jv,jt,ju,jf,jg,je,newN,jw,jN,jP,jY,jQ,jM,jS,jz,jA,jC,jD,jE,jm,jB,evX,evL,evB,rd,get,subG,memG,jT,jV,hyps,gob,impP,allP,j1,jX,j3,kj,nth,j8,kh,jU,lenB,kg,jR,entN,setE,jZ,addE,setL,setN,putE,env0,eqCs,j6,eqC,bA,bO,bN,bE,negB,kEq,ke,j5,lend,frz,frzL,zRow,j9,j7,closed,jy,jW,binI,remP,remI,retK,retG,ko,retD,ki,resL,resD,oneD,renD,renL,renE,j0,rho,jL,j4,zla,zlb,zlc,zld,zca,zcb,o1,o0,og,Nat.reduceBEq,Nat.reduceAdd,Nat.beq]
    refine ⟨nofun, fun _ => ?_⟩
    refine qa (ih ⟨(j, k + 1), hj2, hkm, hk1⟩ (by dsimp only; omega)) ⟨rfl, rfl, rfl, trivial⟩ (vM _ _) ?_ ?_ ?_
    ·dsimp only
     rw [(hS (k + 1) hkm).1]
     simp [lowE, low, qN, hy]
    ·dsimp only
     rw [(hS (k + 1) hkm).1]; exact (hS (k + 1) hkm).2.1
    ·dsimp only
     rw [(hS (k + 1) hkm).1]; rfl
   ·have hkm' : k = m := by omega
    subst hkm'
    have hp := (hst _ hkx [154]).frame (by rw [hn0, hszk]) (by rw [hszk]; exact hlow) (by rw [hszk]; exact hlow9) (by rw [hszk, <- kH]; exact hbs) rfl [.cells [.int .i64 r.x, .int .i64 to]]
    rw [hSk] at hp
    refine qh _ _ hp ?_
    dsimp only [c_band_spans_1, kZ, jn,jH,jO,jq,jF,jJ,jo,jG,jI,iteR,regK,jh,jc,jk,jj,jb,ji,blkK,kp,kd,jd,ja,jx,fpOk,foot,km,allN,memN,jK,jl,jr,jv,jt,ju,jf,jg,je,newN,jw,jN,jP,jY,jQ,jM,jS,jz,jA,jC,jD,jE,jm,jB,evX,evL,evB,rd,get,subG,memG,jT,jV,hyps,gob,impP,allP,j1,jX,j3,kj,nth,j8,kh,jU,lenB,kg,jR,entN,setE,jZ,addE,setL,setN,putE,env0,eqCs,j6,eqC,bA,bO,bN,bE,negB,kEq,ke,j5,lend,frz,frzL,zRow,j9,j7,closed,jy,jW,binI,remP,remI,retK,retG,ko,retD,ki,resL,resD,oneD,renD,renL,renE,j0,rho,jL,j4,zla,zlb,zlc,zld,zca,zcb,o1,o0,og,Nat.reduceBEq,Nat.reduceAdd,Nat.beq]
    refine ⟨fun _ => ?_, nofun⟩
    have hlt' := (List.getElem?_eq_some_iff.1 hkx).1
    rw [JC, if_pos hlt']
    exact vM _ _
 ·-- all have come
  have hil : ¬ i < l.length := by rw [ku] at hge; simpa using hge
  rw [List.drop_eq_nil_of_le (by omega : l.length <= i)] at hd
  have : ((zq (l.map sp1)).map spnD).length <= k := by
   have := congrArg List.length hd
   simp [zq] at this |-; omega
  rw [JC, if_neg (by omega), show m = k by omega, hSk]
  exact ⟨rfl, rfl, rfl, rfl, rfl, rfl, rfl, rfl, rfl, trivial⟩
end Go.AM
