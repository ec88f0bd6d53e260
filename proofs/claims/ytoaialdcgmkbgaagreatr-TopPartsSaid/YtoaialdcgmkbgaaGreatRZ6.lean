import Derived.Test.YtoaialdcgmkbgaaGreatRP4
import Derived.Test.YtoaialdcgmkbgaaGreatRY1

set_option linter.all false
namespace Go.AM
open Go Go.Proofs
def allL (l : List Rc) : List Rc := l.filter cntB
theorem ZK {Sp : CallP} {gt : Nat -> Option (List D)} {n0 : Nat} {x : X} {ps : List Nat} {a b : C} {K : Ex -> St -> Prop} {st : St} {f : Nat} {caps : List D} (hx : evX st.env [] x = some (.fn f caps)) (hl : (qQ a && qQ b) = true)
  (xs : List (List D)) (Kp : List Ent -> Prop) (S : Nat -> List Ent) (m : Nat) (h : Rng Sp.it ps (run Sp gt n0 a) (run Sp gt n0 b) K st f caps xs Kp S m) : run Sp gt n0 (.rangef x ps a b) K st := by
 unfold run
 rw [hl, hx]
 exact ⟨xs, Kp, S, m, h⟩
theorem ab_part {all : List Rc} {ys : List Int} {i : Nat} {row : List Rc} {next above : Nat} {B : List Bnd} {y : Int} (hB : BInv all ys i row next above B) (hy : ys[i]? = some y) :
  above <= (qr B.reverse).length /\ ∀ q ∈ (qr B.reverse).drop above, -1048576 <= q.y /\ 0 < q.h /\ q.y + q.h <= y := by
 have hI := hB.at' y hy
 rcases hI.ab with ⟨h1, _⟩ | ⟨c, r, rfl, h1⟩
 ·rw [h1, List.drop_length]
  exact ⟨Nat.le_refl _, nofun⟩
 ·rw [h1, vY, List.drop_left, List.length_append]
  refine ⟨Nat.le_add_right _ _, fun q hq => ?_⟩
  obtain ⟨s, _, rfl⟩ := List.mem_map.1 hq
  exact ⟨hB.low c (by simp), (Km hB.ok).1, hI.en c r rfl⟩
def hUp (h : Int) (q : Rc) : Rc := ⟨q.x, q.y, q.w, q.h + h⟩
theorem jz2 {all : List Rc} {ys : List Int} {i : Nat} {row : List Rc} {next above : Nat} {B : List Bnd} {y h : Int} {S : List (Int × Int)} (hB : BInv all ys i row next above B) (hy : ys[i]? = some y) (hg : Goes B y S) :
  qr (zW y h S B).reverse = (qr B.reverse).take above ++ ((qr B.reverse).drop above).map (hUp h) := by
 have hI := hB.at' y hy
 obtain ⟨c, r, rfl, _, e⟩ := yB (h := h) hg
 rcases hI.ab with ⟨_, h2⟩ | ⟨c', r', e', h2⟩
 ·obtain ⟨d', r', e', h3, _⟩ := hg
  simp only [List.cons.injEq] at e'
  obtain ⟨rfl, rfl⟩ := e'
  have := h2 c r rfl; omega
 ·simp only [List.cons.injEq] at e'
  obtain ⟨rfl, rfl⟩ := e'
  rw [e, h2, vY, List.take_left, List.drop_left]
  rfl
def upL (f : Rc -> Rc) (A M T : List Rc) (k : Nat) : List Rc := A ++ ((M.take k).map f ++ (M.drop k ++ T))
theorem upL_get {f : Rc -> Rc} {A M T : List Rc} {k : Nat} {r : Rc} (h : M[k]? = some r) : (upL f A M T k)[A.length + k]? = some r := by
 obtain ⟨hk, h2⟩ := List.getElem?_eq_some_iff.1 h
 unfold upL
 rw [List.getElem?_append_right (by omega), List.getElem?_append_right (by simp; omega), List.getElem?_append_left (by simp; omega), List.getElem?_drop]
 have : k + (A.length + k - A.length - (List.map f (List.take k M)).length) = k := by simp; omega
 rw [this]; exact h
theorem upL_set {f : Rc -> Rc} {A M T : List Rc} {k : Nat} {r : Rc} (h : M[k]? = some r) : (upL f A M T k).set (A.length + k) (f r) = upL f A M T (k + 1) := by
 obtain ⟨hk, h2⟩ := List.getElem?_eq_some_iff.1 h
 unfold upL
 rw [List.set_append_right _ _ (by omega), List.set_append_right _ _ (by simp; omega)]
 congr 1
 have e1 : A.length + k - A.length - (List.map f (List.take k M)).length = 0 := by simp; omega
 rw [e1, List.drop_eq_getElem_cons hk, h2, List.cons_append, List.set_cons_zero, List.take_add_one, h, List.map_append]
 simp
theorem jD0 {f : Rc -> Rc} {A M T : List Rc} {k : Nat} : (upL f A M T k).length = A.length + (M.length + T.length) := by
 unfold upL
 simp only [List.length_append, List.length_map, List.length_take, List.length_drop]; omega
theorem Yw (l : List Rc) (i : Nat) : (rcs l).drop i = rcs (l.drop i) := by simp [rcs]
theorem js6 (l : List Rc) (i : Nat) (r : Rc) : (rcs l).set i (rD r) = rcs (l.set i r) := by simp [rcs, List.map_set]
structure BD where
 i : Nat
 row : List Rc
 next : Nat
 above : Nat
 B : List Bnd
 vo : Nat
 vr : Nat
theorem jI1 {Sp : CallP} {gt : Nat -> Option (List D)} {n : Nat} {a b : C} {K : Ex -> St -> Prop} : Zk Sp gt n (a.seq b) K = Zk Sp gt n a (Zk Sp gt n b K) := by
 funext e st
 cases e <;> rfl
theorem VQ {l : List Int} {i : Nat} {n : Int} (h : l[i]? = some n) : (iI l)[i]? = some (.int .i64 n) := by simp [iI, h]
theorem xK {l : List Rc} (hin : ∀ r ∈ l, r.In) (hlen : l.length <= 1073741824) : TSp 11 [.ls 4 (rcs l)] (.agg [.ls 4 (rcs (reg (pts (allL l))))]) := by
 refine jp5 (by rfl) ?_
 dsimp only [c_band_Of, kN, jn,jH,jO,jq,jF,jJ,jo,jG,jI,iteR,regK,jh,jc,jk,jj,jb,ji,blkK,kp,kd,jd,ja,jx,fpOk,foot,km,allN,memN,jK,jl,jr,jv,jt,ju,jf,jg,je,newN,jw,jN,jP,jY,jQ,jM,jS,jz,jA,jC,jD,jE,jm,jB,evX,evL,evB,rd,get,subG,memG,jT,jV,hyps,gob,impP,allP,j1,jX,j3,kj,nth,j8,kh,jU,lenB,kg,jR,entN,setE,jZ,addE,setL,setN,putE,env0,eqCs,j6,eqC,bA,bO,bN,bE,negB,kEq,ke,j5,lend,frz,frzL,zRow,j9,j7,closed,jy,jW,binI,remP,remI,retK,retG,ko,retD,ki,resL,resD,oneD,renD,renL,renE,j0,rho,jL,j4,zla,zlb,zlc,zld,zca,zcb,o1,o0,og,Nat.reduceBEq,Nat.reduceAdd,Nat.beq]
 rw [ku]
 refine kG (α := {i : Nat // i <= l.length})
  (fun i => ⟨[(2, [], .box 0 0), (3, [], .own 1 (allL (l.take i.1)).length), (18, [], .ls 4 (rcs l)), (19, [], .int .i64 l.length), (20, [], .int .i64 i.1)], [.cells [.ls 4 []], .arr 45 4 (allL (l.take i.1)).length (rcs (allL (l.take i.1)))]⟩)
  (fun i => l.length - i.1) ?_ ⟨0, Nat.zero_le _⟩ (by simp [allL, rcs])
 rintro ⟨i, hi⟩ I ih
 dsimp only at hi |-
 dsimp only [c_band_Of, kN, jn,jH,jO,jq,jF,jJ,jo,jG,jI,iteR,regK,jh,jc,jk,jj,jb,ji,blkK,kp,kd,jd,ja,jx,fpOk,foot,km,allN,memN,jK,jl,jr,jv,jt,ju,jf,jg,je,newN,jw,jN,jP,jY,jQ,jM,jS,jz,jA,jC,jD,jE,jm,jB,evX,evL,evB,rd,get,subG,memG,jT,jV,hyps,gob,impP,allP,j1,jX,j3,kj,nth,j8,kh,jU,lenB,kg,jR,entN,setE,jZ,addE,setL,setN,putE,env0,eqCs,j6,eqC,bA,bO,bN,bE,negB,kEq,ke,j5,lend,frz,frzL,zRow,j9,j7,closed,jy,jW,binI,remP,remI,retK,retG,ko,retD,ki,resL,resD,oneD,renD,renL,renE,j0,rho,jL,j4,zla,zlb,zlc,zld,zca,zcb,o1,o0,og,Nat.reduceBEq,Nat.reduceAdd,Nat.beq]
 refine ⟨fun hlt => ?_, fun hge => ?_⟩
 ·have hl : i < l.length := by simpa using hlt
  obtain ⟨r, hr⟩ : ∃ r, l[i]? = some r := ⟨_, List.getElem?_eq_getElem hl⟩
  have hI := hin r (List.mem_of_getElem? hr)
  refine ⟨⟨by omega, by rw [ku]; omega⟩, ky (rD r) (rD r) (qx (by simpa using hr)) rfl ?_⟩
  dsimp only [c_band_Of, kN, rD, jn,jH,jO,jq,jF,jJ,jo,jG,jI,iteR,regK,jh,jc,jk,jj,jb,ji,blkK,kp,kd,jd,ja,jx,fpOk,foot,km,allN,memN,jK,jl,jr,jv,jt,ju,jf,jg,je,newN,jw,jN,jP,jY,jQ,jM,jS,jz,jA,jC,jD,jE,jm,jB,evX,evL,evB,rd,get,subG,memG,jT,jV,hyps,gob,impP,allP,j1,jX,j3,kj,nth,j8,kh,jU,lenB,kg,jR,entN,setE,jZ,addE,setL,setN,putE,env0,eqCs,j6,eqC,bA,bO,bN,bE,negB,kEq,ke,j5,lend,frz,frzL,zRow,j9,j7,closed,jy,jW,binI,remP,remI,retK,retG,ko,retD,ki,resL,resD,oneD,renD,renL,renE,j0,rho,jL,j4,zla,zlb,zlc,zld,zca,zcb,o1,o0,og,Nat.reduceBEq,Nat.reduceAdd,Nat.beq]
  refine kq (Yn hI) ?_
  dsimp only [c_band_Of, kN, rD, jn,jH,jO,jq,jF,jJ,jo,jG,jI,iteR,regK,jh,jc,jk,jj,jb,ji,blkK,kp,kd,jd,ja,jx,fpOk,foot,km,allN,memN,jK,jl,jr,jv,jt,ju,jf,jg,je,newN,jw,jN,jP,jY,jQ,jM,jS,jz,jA,jC,jD,jE,jm,jB,evX,evL,evB,rd,get,subG,memG,jT,jV,hyps,gob,impP,allP,j1,jX,j3,kj,nth,j8,kh,jU,lenB,kg,jR,entN,setE,jZ,addE,setL,setN,putE,env0,eqCs,j6,eqC,bA,bO,bN,bE,negB,kEq,ke,j5,lend,frz,frzL,zRow,j9,j7,closed,jy,jW,binI,remP,remI,retK,retG,ko,retD,ki,resL,resD,oneD,renD,renL,renE,j0,rho,jL,j4,zla,zlb,zlc,zld,zca,zcb,o1,o0,og,Nat.reduceBEq,Nat.reduceAdd,Nat.beq]
  have ht : l.take (i + 1) = l.take i ++ [r] := by rw [List.take_add_one, hr]; rfl
  have hal : (allL (l.take i)).length <= l.length := Nat.le_trans (List.length_filter_le _ _) (by rw [List.length_take]; omega)
  refine ⟨fun hc => ⟨⟨rfl, rfl, rfl, rfl, by rw [ku]; simp only [List.length_cons, List.length_nil]; omega, by rw [ku]; simp only [List.length_cons, List.length_nil]; omega⟩, by simp only [fits]; omega, ?_⟩, fun hc => ⟨by simp only [fits]; omega, ?_⟩⟩
  ·have he : allL (l.take (i + 1)) = allL (l.take i) ++ [r] := by rw [ht]; simp [allL, List.filter_append, hc]
   refine qa (ih ⟨i + 1, by omega⟩ (by dsimp only; omega)) ⟨rfl, ?_, rfl, rfl, rfl, trivial⟩ ⟨rfl, ?_, trivial⟩ rfl rfl
   ·simp only [he, List.length_append, List.length_cons, List.length_nil]; rfl
   ·simp only [he, List.length_append, List.length_cons, List.length_nil, rcs, List.map_append]; rfl
  ·have he : allL (l.take (i + 1)) = allL (l.take i) := by rw [ht]; simp [allL, List.filter_append, hc]
   refine qa (ih ⟨i + 1, by omega⟩ (by dsimp only; omega)) ⟨rfl, ?_, rfl, rfl, rfl, trivial⟩ ⟨rfl, ?_, trivial⟩ rfl rfl
   ·simp only [he]; rfl
   ·simp only [he]
 ·have hil : i = l.length := by simp at hge; omega
  subst hil
  rw [List.take_length]
  have hall : (allL l).length <= l.length := List.length_filter_le _ _
  refine kX [1] (jO7 (l := allL l) (ver := (allL l).length) (by omega)) rfl rfl ?_
  dsimp only [c_band_Of, kN, jn,jH,jO,jq,jF,jJ,jo,jG,jI,iteR,regK,jh,jc,jk,jj,jb,ji,blkK,kp,kd,jd,ja,jx,fpOk,foot,km,allN,memN,jK,jl,jr,jv,jt,ju,jf,jg,je,newN,jw,jN,jP,jY,jQ,jM,jS,jz,jA,jC,jD,jE,jm,jB,evX,evL,evB,rd,get,subG,memG,jT,jV,hyps,gob,impP,allP,j1,jX,j3,kj,nth,j8,kh,jU,lenB,kg,jR,entN,setE,jZ,addE,setL,setN,putE,env0,eqCs,j6,eqC,bA,bO,bN,bE,negB,kEq,ke,j5,lend,frz,frzL,zRow,j9,j7,closed,jy,jW,binI,remP,remI,retK,retG,ko,retD,ki,resL,resD,oneD,renD,renL,renE,j0,rho,jL,j4,zla,zlb,zlc,zld,zca,zcb,o1,o0,og,Nat.reduceBEq,Nat.reduceAdd,Nat.beq]
  have hvr : ∀ r ∈ srt1 (allL l), Vr r := fun r hr => Vg.1 (List.mem_filter.1 ((KK (allL l)).2.1.subset hr)).2
  have hal : (srt1 (allL l)).length <= 1073741824 := by rw [(KK (allL l)).1]; omega
  refine KY [1] (jO5 (l := srt1 (allL l)) (ver := (allL l).length) hvr (by omega)) rfl rfl rfl ?_
  dsimp only [c_band_Of, kN, jn,jH,jO,jq,jF,jJ,jo,jG,jI,iteR,regK,jh,jc,jk,jj,jb,ji,blkK,kp,kd,jd,ja,jx,fpOk,foot,km,allN,memN,jK,jl,jr,jv,jt,ju,jf,jg,je,newN,jw,jN,jP,jY,jQ,jM,jS,jz,jA,jC,jD,jE,jm,jB,evX,evL,evB,rd,get,subG,memG,jT,jV,hyps,gob,impP,allP,j1,jX,j3,kj,nth,j8,kh,jU,lenB,kg,jR,entN,setE,jZ,addE,setL,setN,putE,env0,eqCs,j6,eqC,bA,bO,bN,bE,negB,kEq,ke,j5,lend,frz,frzL,zRow,j9,j7,closed,jy,jW,binI,remP,remI,retK,retG,ko,retD,ki,resL,resD,oneD,renD,renL,renE,j0,rho,jL,j4,zla,zlb,zlc,zld,zca,zcb,o1,o0,og,Nat.reduceBEq,Nat.reduceAdd,Nat.beq]
  generalize (allL l).length = v1
  have hsort : (srt1 (allL l)).Pairwise fun a b => a.y <= b.y := (KK (allL l)).2.2.imp fun h => by omega
  have hptall : ∀ x y, pts (srt1 (allL l)) x y ↔ pts (allL l) x y := fun x y => jF0 fun r => (KK (allL l)).2.1.mem_iff
  generalize hA : srt1 (allL l) = all at *
  obtain ⟨hebd, hell⟩ := Xw hvr
  refine kG (α := {p : BD // BInv all (kQ all) p.i p.row p.next p.above p.B})
   (fun p => ⟨[(2, [], .box 0 0), (3, [], .own 1 v1), (6, [], .ls 1 (iI (kQ all))), (7, [], .box 2 0), (8, [], .own 4 p.1.vr), (9, [], .int .i64 p.1.above), (10, [], .int .i64 p.1.next), (11, [], .int .i64 p.1.i)],
     [.cells [.ls 4 []], .arr 45 4 v1 (rcs all), .cells [.own 3 p.1.vo], .arr 45 4 p.1.vo (rcs (qr p.1.B.reverse)), .arr 45 4 p.1.vr (rcs p.1.row)]⟩)
   (fun p => (kQ all).length - p.1.i) ?_ ⟨⟨0, [], 0, 0, [], 0, 0⟩, jw5 hvr⟩ rfl
  clear ih
  rintro ⟨⟨i, row, next, above, B, vo, vr⟩, hB⟩ J ih
  dsimp only at hB |-
  dsimp only [c_band_Of, kN, jn,jH,jO,jq,jF,jJ,jo,jG,jI,iteR,regK,jh,jc,jk,jj,jb,ji,blkK,kp,kd,jd,ja,jx,fpOk,foot,km,allN,memN,jK,jl,jr,jv,jt,ju,jf,jg,je,newN,jw,jN,jP,jY,jQ,jM,jS,jz,jA,jC,jD,jE,jm,jB,evX,evL,evB,rd,get,subG,memG,jT,jV,hyps,gob,impP,allP,j1,jX,j3,kj,nth,j8,kh,jU,lenB,kg,jR,entN,setE,jZ,addE,setL,setN,putE,env0,eqCs,j6,eqC,bA,bO,bN,bE,negB,kEq,ke,j5,lend,frz,frzL,zRow,j9,j7,closed,jy,jW,binI,remP,remI,retK,retG,ko,retD,ki,resL,resD,oneD,renD,renL,renE,j0,rho,jL,j4,zla,zlb,zlc,zld,zca,zcb,o1,o0,og,Nat.reduceBEq,Nat.reduceAdd,Nat.beq]
  have hiv : (i : Int) <= 2097153 := by have := hB.il; omega
  refine ⟨by simp only [fits]; omega, fun hlt => ?_, fun hge => ?_⟩
  ·rw [qZ] at hlt
   have hl : i + 1 < (kQ all).length := by simp at hlt; omega
   obtain ⟨y, hy⟩ : ∃ y, (kQ all)[i]? = some y := ⟨_, List.getElem?_eq_getElem (by omega)⟩
   obtain ⟨b, hb⟩ : ∃ b, (kQ all)[i + 1]? = some b := ⟨_, List.getElem?_eq_getElem hl⟩
   have hI := hB.at' y hy
   refine ⟨⟨rfl, by omega, by rw [qZ]; omega⟩, ky (.int .i64 y) (.int .i64 y) (VQ (by simpa using hy)) rfl ?_⟩
   dsimp only [c_band_Of, kN, jn,jH,jO,jq,jF,jJ,jo,jG,jI,iteR,regK,jh,jc,jk,jj,jb,ji,blkK,kp,kd,jd,ja,jx,fpOk,foot,km,allN,memN,jK,jl,jr,jv,jt,ju,jf,jg,je,newN,jw,jN,jP,jY,jQ,jM,jS,jz,jA,jC,jD,jE,jm,jB,evX,evL,evB,rd,get,subG,memG,jT,jV,hyps,gob,impP,allP,j1,jX,j3,kj,nth,j8,kh,jU,lenB,kg,jR,entN,setE,jZ,addE,setL,setN,putE,env0,eqCs,j6,eqC,bA,bO,bN,bE,negB,kEq,ke,j5,lend,frz,frzL,zRow,j9,j7,closed,jy,jW,binI,remP,remI,retK,retG,ko,retD,ki,resL,resD,oneD,renD,renL,renE,j0,rho,jL,j4,zla,zlb,zlc,zld,zca,zcb,o1,o0,og,Nat.reduceBEq,Nat.reduceAdd,Nat.beq]
   refine ⟨by simp only [fits]; omega, ⟨rfl, by omega, by rw [qZ]; omega⟩, ky (.int .i64 b) (.int .i64 b) (VQ (by rw [show ((i : Int) + 1).toNat = i + 1 from by omega]; exact hb)) rfl ?_⟩
   dsimp only [c_band_Of, kN, jn,jH,jO,jq,jF,jJ,jo,jG,jI,iteR,regK,jh,jc,jk,jj,jb,ji,blkK,kp,kd,jd,ja,jx,fpOk,foot,km,allN,memN,jK,jl,jr,jv,jt,ju,jf,jg,je,newN,jw,jN,jP,jY,jQ,jM,jS,jz,jA,jC,jD,jE,jm,jB,evX,evL,evB,rd,get,subG,memG,jT,jV,hyps,gob,impP,allP,j1,jX,j3,kj,nth,j8,kh,jU,lenB,kg,jR,entN,setE,jZ,addE,setL,setN,putE,env0,eqCs,j6,eqC,bA,bO,bN,bE,negB,kEq,ke,j5,lend,frz,frzL,zRow,j9,j7,closed,jy,jW,binI,remP,remI,retK,retG,ko,retD,ki,resL,resD,oneD,renD,renL,renE,j0,rho,jL,j4,zla,zlb,zlc,zld,zca,zcb,o1,o0,og,Nat.reduceBEq,Nat.reduceAdd,Nat.beq]
   have hrV : ∀ r ∈ row, Vr r := fun r hr => hvr r (List.mem_of_mem_take (hI.sub r hr))
   have hrl : row.length <= 1073741824 := Nat.le_trans hI.rl (Nat.le_trans hI.nx hal)
   refine kX [4, 5] (jc6 (l := row) (ver := vr) (y := y) hrV (by omega)) rfl rfl ?_
   dsimp only [c_band_Of, kN, jn,jH,jO,jq,jF,jJ,jo,jG,jI,iteR,regK,jh,jc,jk,jj,jb,ji,blkK,kp,kd,jd,ja,jx,fpOk,foot,km,allN,memN,jK,jl,jr,jv,jt,ju,jf,jg,je,newN,jw,jN,jP,jY,jQ,jM,jS,jz,jA,jC,jD,jE,jm,jB,evX,evL,evB,rd,get,subG,memG,jT,jV,hyps,gob,impP,allP,j1,jX,j3,kj,nth,j8,kh,jU,lenB,kg,jR,entN,setE,jZ,addE,setL,setN,putE,env0,eqCs,j6,eqC,bA,bO,bN,bE,negB,kEq,ke,j5,lend,frz,frzL,zRow,j9,j7,closed,jy,jW,binI,remP,remI,retK,retG,ko,retD,ki,resL,resD,oneD,renD,renL,renE,j0,rho,jL,j4,zla,zlb,zlc,zld,zca,zcb,o1,o0,og,Nat.reduceBEq,Nat.reduceAdd,Nat.beq]
   generalize delV y row vr = vr1
   generalize hr1 : vL y row = row1
   generalize hcm : ((all.drop next).takeWhile fun r => decide (r.y = y)) = cm
   obtain ⟨hcl, hcg, hcg2, hcy, hct, hcd⟩ := V6 hsort hI.nx hI.hi hcm
   have hr1l : row1.length <= next := by rw [<- hr1]; exact Nat.le_trans (List.length_filter_le _ _) hI.rl
   generalize hK4 : blkK 4 _ = K4
   have hrest : K4 (.exit 4) ⟨[(2, [], .box 0 0), (3, [], .own 1 v1), (6, [], .ls 1 (iI (kQ all))), (7, [], .box 2 0), (8, [], .own 4 (vr1 + cm.length)), (9, [], .int .i64 above), (10, [], .int .i64 ((next + cm.length : Nat) : Int)), (11, [], .int .i64 i), (12, [], .box 5 0), (13, [], .box 6 0), (14, [], .int .i64 next), (67, [], .bool false)],
     [.cells [.ls 4 []], .arr 45 4 v1 (rcs all), .cells [.own 3 vo], .arr 45 4 vo (rcs (qr B.reverse)), .arr 45 4 (vr1 + cm.length) (rcs (row1 ++ cm)), .cells [.int .i64 y], .cells [.int .i64 b]]⟩ := by
    rw [<- hK4]
    dsimp only [blkK, Nat.beq, cond, jh, Nat.reduceBEq]
    rw [jF]
    rw [jI1]
    generalize hK6 : Zk TSpC gtab 0 (C.seq (C.seq (C.reg false _ _) (C.blk 6 _)) _) _ = K6
    have hrest2 : ∀ (row3 : List Rc) (vr3 : Nat), row3.Perm (row1 ++ cm) -> row3.Pairwise (fun a b => a.x <= b.x) -> K6 .nrm ⟨[(2, [], .box 0 0), (3, [], .own 1 v1), (6, [], .ls 1 (iI (kQ all))), (7, [], .box 2 0), (8, [], .own 4 vr3), (9, [], .int .i64 above), (10, [], .int .i64 ((next + cm.length : Nat) : Int)), (11, [], .int .i64 i), (12, [], .box 5 0), (13, [], .box 6 0), (15, [], .int .i64 (qr B.reverse).length)],
     [.cells [.ls 4 []], .arr 45 4 v1 (rcs all), .cells [.own 3 vo], .arr 45 4 vo (rcs (qr B.reverse)), .arr 45 4 vr3 (rcs row3), .cells [.int .i64 y], .cells [.int .i64 b]]⟩ := by
     intro row3 vr3 hp3 hs3
     have hl3 : row3.length <= 2147483648 := by rw [hp3.length_eq, List.length_append]; omega
     have hV3 : ∀ r ∈ row3, Vr r := fun r hr => by
      rcases List.mem_append.1 (hp3.mem_iff.1 hr) with h | h
      ·rw [<- hr1] at h; exact hrV r (jg5.1 h).1
      ·exact hvr r (List.mem_of_mem_take (i := next + cm.length) (by rw [hct]; exact List.mem_append_right _ h))
     have hyb : (-1048576 <= y /\ y < b) /\ b <= 1048576 := ⟨⟨(hebd y (List.mem_of_getElem? hy)).1, (zR (yI all) hy hb (List.mem_of_getElem? hy)).2.2⟩, (hebd b (List.mem_of_getElem? hb)).2⟩
     obtain ⟨hsb, hsl⟩ := Zy hV3 hs3
     have hol : (qr B.reverse).length <= 2199024304128 := Nat.le_trans hB.len (by omega)
     rw [<- hK6]
     rw [jh, jF]
     generalize hK7 : Zk TSpC gtab 0 (C.seq (C.reg true _ _) _) _ = K7
     generalize hsp : zq (row3.map sp1) = sls at *
     generalize hot : qr B.reverse = out at *
     have hrest3 : K7 .nrm ⟨[(2, [], .box 0 0), (3, [], .own 1 v1), (6, [], .ls 1 (iI (kQ all))), (7, [], .box 2 0), (8, [], .own 4 vr3), (9, [], .int .i64 above), (10, [], .int .i64 ((next + cm.length : Nat) : Int)), (11, [], .int .i64 i), (12, [], .box 5 0), (13, [], .box 6 0), (15, [], .int .i64 out.length), (85, [], .fn 128 [.box 7 0])],
      [.cells [.ls 4 []], .arr 45 4 v1 (rcs all), .cells [.own 3 (vo + sls.length)], .arr 45 4 (vo + sls.length) (rcs (out ++ qF y (b - y) sls)), .arr 45 4 vr3 (rcs row3), .cells [.int .i64 y], .cells [.int .i64 b], .cells [.own 4 vr3]]⟩ := by
      rw [<- hK7]
      clear hK7
      dsimp only [c_band_Of, kN, jn,jH,jO,jq,jF,jJ,jo,jG,jI,iteR,regK,jh,jc,jk,jj,jb,ji,blkK,kp,kd,jd,ja,jx,fpOk,foot,km,allN,memN,jK,jl,jr,jv,jt,ju,jf,jg,je,newN,jw,jN,jP,jY,jQ,jM,jS,jz,jA,jC,jD,jE,jm,jB,evX,evL,evB,rd,get,subG,memG,jT,jV,hyps,gob,impP,allP,j1,jX,j3,kj,nth,j8,kh,jU,lenB,kg,jR,entN,setE,jZ,addE,setL,setN,putE,env0,eqCs,j6,eqC,bA,bO,bN,bE,negB,kEq,ke,j5,lend,frz,frzL,zRow,j9,j7,closed,jy,jW,binI,remP,remI,retK,retG,ko,retD,ki,resL,resD,oneD,renD,renL,renE,j0,rho,jL,j4,zla,zlb,zlc,zld,zca,zcb,o1,o0,og,Nat.reduceBEq,Nat.reduceAdd,Nat.beq]
      obtain ⟨hab1, hab2⟩ := ab_part hB hy
      have hgi := jT4 (h := b - y) (S := sls) hB hy
      have hgo2 := jz2 (h := b - y) (S := sls) hB hy
      have hpn := Kk (h := b - y) (S := sls) (B := B) (y := y)
      have hst : ∀ a', ((Goes B y sls /\ a' = above) \/ (¬ Goes B y sls /\ a' = out.length)) -> BInv all (kQ all) (i + 1) row3 (next + cm.length) a' (zW y (b - y) sls B) := fun a' h => by
       have := jo2 (above' := a') hsort hvr hB hy hb hcm (row3 := row3) (by rw [hr1]; exact hp3) hs3
       rw [hsp, hot] at this
       exact this h
      rw [hot] at hab1 hab2 hgi hgo2 hpn
      have hsr : (qF y (b - y) sls).length = sls.length := by simp [qF]
      refine kO _ (pr_sub yU Vn rfl (by omega) (by omega) (by rw [ku, List.length_append]; omega)) ?_
      dsimp only [c_band_Of, kN, jn,jH,jO,jq,jF,jJ,jo,jG,jI,iteR,regK,jh,jc,jk,jj,jb,ji,blkK,kp,kd,jd,ja,jx,fpOk,foot,km,allN,memN,jK,jl,jr,jv,jt,ju,jf,jg,je,newN,jw,jN,jP,jY,jQ,jM,jS,jz,jA,jC,jD,jE,jm,jB,evX,evL,evB,rd,get,subG,memG,jT,jV,hyps,gob,impP,allP,j1,jX,j3,kj,nth,j8,kh,jU,lenB,kg,jR,entN,setE,jZ,addE,setL,setN,putE,env0,eqCs,j6,eqC,bA,bO,bN,bE,negB,kEq,ke,j5,lend,frz,frzL,zRow,j9,j7,closed,jy,jW,binI,remP,remI,retK,retG,ko,retD,ki,resL,resD,oneD,renD,renL,renE,j0,rho,jL,j4,zla,zlb,zlc,zld,zca,zcb,o1,o0,og,Nat.reduceBEq,Nat.reduceAdd,Nat.beq]
      refine kO _ (jF1 yU Vn rfl (by omega) (by rw [ku, List.length_append]; omega)) ?_
      dsimp only [c_band_Of, kN, jn,jH,jO,jq,jF,jJ,jo,jG,jI,iteR,regK,jh,jc,jk,jj,jb,ji,blkK,kp,kd,jd,ja,jx,fpOk,foot,km,allN,memN,jK,jl,jr,jv,jt,ju,jf,jg,je,newN,jw,jN,jP,jY,jQ,jM,jS,jz,jA,jC,jD,jE,jm,jB,evX,evL,evB,rd,get,subG,memG,jT,jV,hyps,gob,impP,allP,j1,jX,j3,kj,nth,j8,kh,jU,lenB,kg,jR,entN,setE,jZ,addE,setL,setN,putE,env0,eqCs,j6,eqC,bA,bO,bN,bE,negB,kEq,ke,j5,lend,frz,frzL,zRow,j9,j7,closed,jy,jW,binI,remP,remI,retK,retG,ko,retD,ki,resL,resD,oneD,renD,renL,renE,j0,rho,jL,j4,zla,zlb,zlc,zld,zca,zcb,o1,o0,og,Nat.reduceBEq,Nat.reduceAdd,Nat.beq]
      have e1 : ((rcs (out ++ qF y (b - y) sls)).take ((above : Int).toNat + ((out.length : Int).toNat - (above : Int).toNat))).drop (above : Int).toNat = rcs (out.drop above) := by
       rw [Int.toNat_natCast, Int.toNat_natCast, show above + (out.length - above) = out.length by omega, Kc, List.take_left, Yw]
      have e2 : ((rcs (out ++ qF y (b - y) sls)).take ((out.length : Int).toNat + ((rcs (out ++ qF y (b - y) sls)).length - (out.length : Int).toNat))).drop (out.length : Int).toNat = rcs (qF y (b - y) sls) := by
       rw [Int.toNat_natCast, List.take_of_length_le (by omega), Yw, List.drop_left]
      have hA := jN6 (a := out.drop above) (b := qF y (b - y) sls) (fun q hq => by have := hab2 q hq; simp only [fits]; omega) (by rw [List.length_drop]; omega)
      rw [<- e1, <- e2] at hA
      refine jL9 hA rfl ⟨⟨rfl, rfl, by rw [ku, List.length_append]; omega⟩, ⟨rfl, rfl, by rw [ku, List.length_append]; omega⟩, trivial⟩ rfl ?_
      dsimp only [c_band_Of, kN, jn,jH,jO,jq,jF,jJ,jo,jG,jI,iteR,regK,jh,jc,jk,jj,jb,ji,blkK,kp,kd,jd,ja,jx,fpOk,foot,km,allN,memN,jK,jl,jr,jv,jt,ju,jf,jg,je,newN,jw,jN,jP,jY,jQ,jM,jS,jz,jA,jC,jD,jE,jm,jB,evX,evL,evB,rd,get,subG,memG,jT,jV,hyps,gob,impP,allP,j1,jX,j3,kj,nth,j8,kh,jU,lenB,kg,jR,entN,setE,jZ,addE,setL,setN,putE,env0,eqCs,j6,eqC,bA,bO,bN,bE,negB,kEq,ke,j5,lend,frz,frzL,zRow,j9,j7,closed,jy,jW,binI,remP,remI,retK,retG,ko,retD,ki,resL,resD,oneD,renD,renL,renE,j0,rho,jL,j4,zla,zlb,zlc,zld,zca,zcb,o1,o0,og,Nat.reduceBEq,Nat.reduceAdd,Nat.beq]
      clear hA e1 e2
      refine ⟨fun hc => ?_, fun hc => ?_⟩
      ·have hg := hgi.1 hc
       have hgf := hgo2 hg
       have hst1 := hst above (.inl ⟨hg, rfl⟩)
       clear hst hgo2 hpn hgi
       generalize zW y (b - y) sls B = B2 at hgf hst1
       obtain ⟨T, hT⟩ : ∃ T, T = qF y (b - y) sls := ⟨_, rfl⟩
       rw [<- hT] at hsr |-
       clear hT
       obtain ⟨A, hA⟩ : ∃ A, A = out.take above := ⟨_, rfl⟩
       obtain ⟨N, hN⟩ : ∃ N, N = out.drop above := ⟨_, rfl⟩
       have hAN : out = A ++ N := by rw [hA, hN, List.take_append_drop]
       have hAl : A.length = above := by rw [hA, List.length_take]; omega
       rw [<- hA, <- hN] at hgf
       rw [<- hN] at hab2
       have hol2 : out.length = above + N.length := by rw [hAN, List.length_append, hAl]
       rw [show out ++ T = upL (hUp (b - y)) A N T 0 from by rw [hAN]; simp [upL], hol2]
       rw [hol2] at hol
       clear hol2 hAN hot hN hA
       refine kG (α := {k : Nat // k <= N.length})
        (fun k => ⟨[(2, [], .box 0 0), (3, [], .own 1 v1), (6, [], .ls 1 (iI (kQ all))), (7, [], .box 2 0), (8, [], .own 4 vr3), (9, [], .int .i64 above), (10, [], .int .i64 ((next + cm.length : Nat) : Int)), (11, [], .int .i64 i), (12, [], .box 5 0), (13, [], .box 6 0), (15, [], .int .i64 ((above + N.length : Nat) : Int)), (17, [], .int .i64 ((above + k.1 : Nat) : Int))],
          [.cells [.ls 4 []], .arr 45 4 v1 (rcs all), .cells [.own 3 (vo + sls.length)], .arr 45 4 (vo + sls.length) (rcs (upL (hUp (b - y)) A N T k.1)), .arr 45 4 vr3 (rcs row3), .cells [.int .i64 y], .cells [.int .i64 b], .cells [.own 4 vr3]]⟩)
        (fun k => N.length - k.1) ?_ ⟨0, Nat.zero_le _⟩ (by simp)
       rintro ⟨k, hk⟩ I4 ih4
       dsimp only at hk |-
       dsimp only [c_band_Of, kN, jn,jH,jO,jq,jF,jJ,jo,jG,jI,iteR,regK,jh,jc,jk,jj,jb,ji,blkK,kp,kd,jd,ja,jx,fpOk,foot,km,allN,memN,jK,jl,jr,jv,jt,ju,jf,jg,je,newN,jw,jN,jP,jY,jQ,jM,jS,jz,jA,jC,jD,jE,jm,jB,evX,evL,evB,rd,get,subG,memG,jT,jV,hyps,gob,impP,allP,j1,jX,j3,kj,nth,j8,kh,jU,lenB,kg,jR,entN,setE,jZ,addE,setL,setN,putE,env0,eqCs,j6,eqC,bA,bO,bN,bE,negB,kEq,ke,j5,lend,frz,frzL,zRow,j9,j7,closed,jy,jW,binI,remP,remI,retK,retG,ko,retD,ki,resL,resD,oneD,renD,renL,renE,j0,rho,jL,j4,zla,zlb,zlc,zld,zca,zcb,o1,o0,og,Nat.reduceBEq,Nat.reduceAdd,Nat.beq]
       refine ⟨fun hlt => ?_, fun hge => ?_⟩
       ·have hkl : k < N.length := by simp only [decide_eq_true_eq] at hlt; omega
        obtain ⟨q, hq⟩ : ∃ q, N[k]? = some q := ⟨_, List.getElem?_eq_getElem hkl⟩
        have hqb := hab2 q (List.mem_of_getElem? hq)
        have hqg := upL_get (f := hUp (b - y)) (A := A) (T := T) hq
        rw [hAl] at hqg
        have hul : (rcs (upL (hUp (b - y)) A N T k)).length = above + (N.length + T.length) := by rw [ku, jD0, hAl]
        have hix : (0 : Int) <= ((above + k : Nat) : Int) /\ (((above + k : Nat) : Int)) < ((rcs (upL (hUp (b - y)) A N T k)).length : Int) := by rw [hul]; omega
        have hrq : (rcs (upL (hUp (b - y)) A N T k))[((above + k : Nat) : Int).toNat]? = some (rD q) := qx (by rw [Int.toNat_natCast]; exact hqg)
        refine ⟨⟨rfl, rfl, hix⟩, ⟨rfl, rfl⟩, ky (rD q) (.int .i64 q.h) hrq rfl ?_⟩
        dsimp only [c_band_Of, kN, jn,jH,jO,jq,jF,jJ,jo,jG,jI,iteR,regK,jh,jc,jk,jj,jb,ji,blkK,kp,kd,jd,ja,jx,fpOk,foot,km,allN,memN,jK,jl,jr,jv,jt,ju,jf,jg,je,newN,jw,jN,jP,jY,jQ,jM,jS,jz,jA,jC,jD,jE,jm,jB,evX,evL,evB,rd,get,subG,memG,jT,jV,hyps,gob,impP,allP,j1,jX,j3,kj,nth,j8,kh,jU,lenB,kg,jR,entN,setE,jZ,addE,setL,setN,putE,env0,eqCs,j6,eqC,bA,bO,bN,bE,negB,kEq,ke,j5,lend,frz,frzL,zRow,j9,j7,closed,jy,jW,binI,remP,remI,retK,retG,ko,retD,ki,resL,resD,oneD,renD,renL,renE,j0,rho,jL,j4,zla,zlb,zlc,zld,zca,zcb,o1,o0,og,Nat.reduceBEq,Nat.reduceAdd,Nat.beq]
        refine ⟨by simp only [fits]; omega, by simp only [fits]; omega, ⟨rfl, rfl, hix⟩, ⟨rfl, rfl⟩, zf (hs := []) (rD q) (rD (hUp (b - y) q)) hrq rfl ?_⟩
        dsimp only [c_band_Of, kN, jn,jH,jO,jq,jF,jJ,jo,jG,jI,iteR,regK,jh,jc,jk,jj,jb,ji,blkK,kp,kd,jd,ja,jx,fpOk,foot,km,allN,memN,jK,jl,jr,jv,jt,ju,jf,jg,je,newN,jw,jN,jP,jY,jQ,jM,jS,jz,jA,jC,jD,jE,jm,jB,evX,evL,evB,rd,get,subG,memG,jT,jV,hyps,gob,impP,allP,j1,jX,j3,kj,nth,j8,kh,jU,lenB,kg,jR,entN,setE,jZ,addE,setL,setN,putE,env0,eqCs,j6,eqC,bA,bO,bN,bE,negB,kEq,ke,j5,lend,frz,frzL,zRow,j9,j7,closed,jy,jW,binI,remP,remI,retK,retG,ko,retD,ki,resL,resD,oneD,renD,renL,renE,j0,rho,jL,j4,zla,zlb,zlc,zld,zca,zcb,o1,o0,og,Nat.reduceBEq,Nat.reduceAdd,Nat.beq]
        rw [js6, Int.toNat_natCast, <- hAl, upL_set hq, hAl]
        refine ⟨by simp only [fits]; omega, ?_⟩
        exact qa (ih4 ⟨k + 1, by omega⟩ (by dsimp only; omega)) ⟨rfl, rfl, rfl, rfl, rfl, rfl, rfl, rfl, rfl, rfl, rfl, rfl, trivial⟩ ⟨rfl, rfl, rfl, rfl, rfl, rfl, rfl, rfl, trivial⟩ rfl rfl
       ·have hke : k = N.length := by simp only [decide_eq_false_iff_not] at hge; omega
        subst hke
        refine qh _ _ (jP9 yU Vn (kb := .i64) (b := ((above + N.length : Nat) : Int)) rfl (by omega) (by rw [ku, jD0]; omega)) ?_
        dsimp only [c_band_Of, kN, jn,jH,jO,jq,jF,jJ,jo,jG,jI,iteR,regK,jh,jc,jk,jj,jb,ji,blkK,kp,kd,jd,ja,jx,fpOk,foot,km,allN,memN,jK,jl,jr,jv,jt,ju,jf,jg,je,newN,jw,jN,jP,jY,jQ,jM,jS,jz,jA,jC,jD,jE,jm,jB,evX,evL,evB,rd,get,subG,memG,jT,jV,hyps,gob,impP,allP,j1,jX,j3,kj,nth,j8,kh,jU,lenB,kg,jR,entN,setE,jZ,addE,setL,setN,putE,env0,eqCs,j6,eqC,bA,bO,bN,bE,negB,kEq,ke,j5,lend,frz,frzL,zRow,j9,j7,closed,jy,jW,binI,remP,remI,retK,retG,ko,retD,ki,resL,resD,oneD,renD,renL,renE,j0,rho,jL,j4,zla,zlb,zlc,zld,zca,zcb,o1,o0,og,Nat.reduceBEq,Nat.reduceAdd,Nat.beq]
        refine ⟨by simp only [fits]; omega, ?_⟩
        refine qa (ih ⟨⟨i + 1, row3, next + cm.length, above, B2, vo + sls.length + 1, vr3⟩, hst1⟩ (by dsimp only; omega)) ⟨rfl, rfl, rfl, rfl, rfl, rfl, rfl, rfl, trivial⟩ ⟨rfl, rfl, rfl, ?_, rfl, trivial⟩ rfl rfl
        dsimp only
        rw [hgf, Int.toNat_natCast, Kc, <- hAl, show (upL (hUp (b - y)) A N T N.length).take (A.length + N.length) = A ++ N.map (hUp (b - y)) from by
         unfold upL
         rw [List.take_length, List.drop_length, List.nil_append, <- List.append_assoc]
         exact List.take_left' (by simp)]
      ·have hg : ¬ Goes B y sls := fun h => by rw [hgi.2 h] at hc; cases hc
       obtain ⟨hgf, _⟩ := hpn hg
       refine ⟨by simp only [fits]; omega, ?_⟩
       refine qa (ih ⟨⟨i + 1, row3, next + cm.length, out.length, zW y (b - y) sls B, vo + sls.length, vr3⟩, hst _ (.inr ⟨hg, rfl⟩)⟩ (by dsimp only; omega)) ⟨rfl, rfl, rfl, rfl, rfl, rfl, rfl, rfl, trivial⟩ ⟨rfl, rfl, rfl, ?_, rfl, trivial⟩ rfl rfl
       rw [hgf]
     clear hK7
     dsimp only [c_band_Of, kN, jn,jH,jO,jq,jF,jJ,jo,jG,jI,iteR,regK,jh,jc,jk,jj,jb,ji,blkK,kp,kd,jd,ja,jx,fpOk,foot,km,allN,memN,jK,jl,jr,jv,jt,ju,jf,jg,je,newN,jw,jN,jP,jY,jQ,jM,jS,jz,jA,jC,jD,jE,jm,jB,evX,evL,evB,rd,get,subG,memG,jT,jV,hyps,gob,impP,allP,j1,jX,j3,kj,nth,j8,kh,jU,lenB,kg,jR,entN,setE,jZ,addE,setL,setN,putE,env0,eqCs,j6,eqC,bA,bO,bN,bE,negB,kEq,ke,j5,lend,frz,frzL,zRow,j9,j7,closed,jy,jW,binI,remP,remI,retK,retG,ko,retD,ki,resL,resD,oneD,renD,renL,renE,j0,rho,jL,j4,zla,zlb,zlc,zld,zca,zcb,o1,o0,og,Nat.reduceBEq,Nat.reduceAdd,Nat.beq]
     refine kX [4] (jO3 (l := rcs row3) (ver := vr3)) rfl rfl ?_
     dsimp only [c_band_Of, kN, jn,jH,jO,jq,jF,jJ,jo,jG,jI,iteR,regK,jh,jc,jk,jj,jb,ji,blkK,kp,kd,jd,ja,jx,fpOk,foot,km,allN,memN,jK,jl,jr,jv,jt,ju,jf,jg,je,newN,jw,jN,jP,jY,jQ,jM,jS,jz,jA,jC,jD,jE,jm,jB,evX,evL,evB,rd,get,subG,memG,jT,jV,hyps,gob,impP,allP,j1,jX,j3,kj,nth,j8,kh,jU,lenB,kg,jR,entN,setE,jZ,addE,setL,setN,putE,env0,eqCs,j6,eqC,bA,bO,bN,bE,negB,kEq,ke,j5,lend,frz,frzL,zRow,j9,j7,closed,jy,jW,binI,remP,remI,retK,retG,ko,retD,ki,resL,resD,oneD,renD,renL,renE,j0,rho,jL,j4,zla,zlb,zlc,zld,zca,zcb,o1,o0,og,Nat.reduceBEq,Nat.reduceAdd,Nat.beq]
     have hspl : ∀ s ∈ sls, (-1048576 <= s.1 /\ s.1 < s.2) /\ s.2 <= 1048576 := hsb
     have hit := jS9 (l := row3) (ver := vr3) hV3 (by omega)
     rw [hsp] at hit
     refine ZK rfl rfl (sls.map spnD) (SpnK vr3 row3) (fun i => [.cells [.ls 4 []], .arr 45 4 v1 (rcs all), .cells [.own 3 (vo + i)], .arr 45 4 (vo + i) (rcs (out ++ qF y (b - y) (sls.take i))), .arr 45 4 vr3 (rcs row3), .cells [.int .i64 y], .cells [.int .i64 b], .cells [.own 4 vr3]]) (sls.map spnD).length ?_
     refine ⟨hit, rfl, fun x hx => ?_, Nat.le_refl _, fun i _ => ⟨rfl, rfl, _, _, _, _, _, _, rfl⟩, ?_, fun i x o hi hx => ?_, fun h => absurd h (Nat.lt_irrefl _), fun _ => ?_⟩
     ·obtain ⟨s, _, rfl⟩ := List.mem_map.1 hx
      rfl
     ·simp [qF]
     ·rw [List.length_map] at hi
      obtain ⟨s, hs⟩ : ∃ s, sls[i]? = some s := ⟨_, List.getElem?_eq_getElem hi⟩
      have hx' : x = spnD s := by simpa [hs] using hx.symm
      subst hx'
      have hsv := hspl s (List.mem_of_getElem? hs)
      have htl : (sls.take i).length <= 1048576 := by rw [List.length_take]; omega
      dsimp only [c_band_Of, kN, midK, goK, xn, spnD, za, jn,jH,jO,jq,jF,jJ,jo,jG,jI,iteR,regK,jh,jc,jk,jj,jb,ji,blkK,kp,kd,jd,ja,jx,fpOk,foot,km,allN,memN,jK,jl,jr,jv,jt,ju,jf,jg,je,newN,jw,jN,jP,jY,jQ,jM,jS,jz,jA,jC,jD,jE,jm,jB,evX,evL,evB,rd,get,subG,memG,jT,jV,hyps,gob,impP,allP,j1,jX,j3,kj,nth,j8,kh,jU,lenB,kg,jR,entN,setE,jZ,addE,setL,setN,putE,env0,eqCs,j6,eqC,bA,bO,bN,bE,negB,kEq,ke,j5,lend,frz,frzL,zRow,j9,j7,closed,jy,jW,binI,remP,remI,retK,retG,ko,retD,ki,resL,resD,oneD,renD,renL,renE,j0,rho,jL,j4,zla,zlb,zlc,zld,zca,zcb,o1,o0,og,Nat.reduceBEq,Nat.reduceAdd,Nat.beq]
      have hll : (rcs (out ++ qF y (b - y) (sls.take i))).length <= 2199025352704 := by rw [ku, List.length_append, qF, List.length_map]; omega
      refine ⟨rfl, fun o' => ⟨by simp only [fits]; omega, by simp only [fits]; omega, ⟨rfl, rfl, rfl, rfl, by simp only [List.length_cons, List.length_nil]; omega, by simp only [List.length_cons, List.length_nil]; omega⟩, rfl, ?_⟩⟩
      have e1 : rcs (out ++ qF y (b - y) (sls.take (i + 1))) = rcs (out ++ qF y (b - y) (sls.take i)) ++ [rD ⟨s.1, y, s.2 - s.1, b - y⟩] := by
       rw [List.take_add_one, hs]
       simp [qF, rcs]
      rw [e1]
      rfl
     ·rw [List.length_map, List.take_length]
      exact hrest3
    clear hK6
    dsimp only [c_band_Of, kN, jn,jH,jO,jq,jF,jJ,jo,jG,jI,iteR,regK,jh,jc,jk,jj,jb,ji,blkK,kp,kd,jd,ja,jx,fpOk,foot,km,allN,memN,jK,jl,jr,jv,jt,ju,jf,jg,je,newN,jw,jN,jP,jY,jQ,jM,jS,jz,jA,jC,jD,jE,jm,jB,evX,evL,evB,rd,get,subG,memG,jT,jV,hyps,gob,impP,allP,j1,jX,j3,kj,nth,j8,kh,jU,lenB,kg,jR,entN,setE,jZ,addE,setL,setN,putE,env0,eqCs,j6,eqC,bA,bO,bN,bE,negB,kEq,ke,j5,lend,frz,frzL,zRow,j9,j7,closed,jy,jW,binI,remP,remI,retK,retG,ko,retD,ki,resL,resD,oneD,renD,renL,renE,j0,rho,jL,j4,zla,zlb,zlc,zld,zca,zcb,o1,o0,og,Nat.reduceBEq,Nat.reduceAdd,Nat.beq]
    refine ⟨fun hc => ?_, fun hc => ?_⟩
    ·refine kX [4] (jO6 (l := row1 ++ cm) (ver := vr1 + cm.length) (by rw [List.length_append]; omega)) rfl rfl ?_
     dsimp only [c_band_Of, kN, jn,jH,jO,jq,jF,jJ,jo,jG,jI,iteR,regK,jh,jc,jk,jj,jb,ji,blkK,kp,kd,jd,ja,jx,fpOk,foot,km,allN,memN,jK,jl,jr,jv,jt,ju,jf,jg,je,newN,jw,jN,jP,jY,jQ,jM,jS,jz,jA,jC,jD,jE,jm,jB,evX,evL,evB,rd,get,subG,memG,jT,jV,hyps,gob,impP,allP,j1,jX,j3,kj,nth,j8,kh,jU,lenB,kg,jR,entN,setE,jZ,addE,setL,setN,putE,env0,eqCs,j6,eqC,bA,bO,bN,bE,negB,kEq,ke,j5,lend,frz,frzL,zRow,j9,j7,closed,jy,jW,binI,remP,remI,retK,retG,ko,retD,ki,resL,resD,oneD,renD,renL,renE,j0,rho,jL,j4,zla,zlb,zlc,zld,zca,zcb,o1,o0,og,Nat.reduceBEq,Nat.reduceAdd,Nat.beq]
     rw [ku]
     exact ⟨rfl, hrest2 _ _ (je0 _).2.1 (je0 _).2.2⟩
    ·have hc0 : cm = [] := by
      cases cm with
      | nil => rfl
      | cons a r => simp at hc; omega
     subst hc0
     rw [ku, <- hr1, List.append_nil]
     exact ⟨rfl, hrest2 _ _ (by rw [List.append_nil, hr1]) (hI.srt.sublist (List.filter_sublist ..))⟩
   clear hK4
   refine kG (α := {k : Nat // k <= cm.length})
    (fun k => ⟨[(2, [], .box 0 0), (3, [], .own 1 v1), (6, [], .ls 1 (iI (kQ all))), (7, [], .box 2 0), (8, [], .own 4 (vr1 + k.1)), (9, [], .int .i64 above), (10, [], .int .i64 ((next + k.1 : Nat) : Int)), (11, [], .int .i64 i), (12, [], .box 5 0), (13, [], .box 6 0), (14, [], .int .i64 next)],
      [.cells [.ls 4 []], .arr 45 4 v1 (rcs all), .cells [.own 3 vo], .arr 45 4 vo (rcs (qr B.reverse)), .arr 45 4 (vr1 + k.1) (rcs (row1 ++ cm.take k.1)), .cells [.int .i64 y], .cells [.int .i64 b]]⟩)
    (fun k => cm.length - k.1) ?_ ⟨0, Nat.zero_le _⟩ (by simp)
   rintro ⟨k, hk⟩ I3 ih3
   dsimp only at hk |-
   dsimp only [c_band_Of, kN, jn,jH,jO,jq,jF,jJ,jo,jG,jI,iteR,regK,jh,jc,jk,jj,jb,ji,blkK,kp,kd,jd,ja,jx,fpOk,foot,km,allN,memN,jK,jl,jr,jv,jt,ju,jf,jg,je,newN,jw,jN,jP,jY,jQ,jM,jS,jz,jA,jC,jD,jE,jm,jB,evX,evL,evB,rd,get,subG,memG,jT,jV,hyps,gob,impP,allP,j1,jX,j3,kj,nth,j8,kh,jU,lenB,kg,jR,entN,setE,jZ,addE,setL,setN,putE,env0,eqCs,j6,eqC,bA,bO,bN,bE,negB,kEq,ke,j5,lend,frz,frzL,zRow,j9,j7,closed,jy,jW,binI,remP,remI,retK,retG,ko,retD,ki,resL,resD,oneD,renD,renL,renE,j0,rho,jL,j4,zla,zlb,zlc,zld,zca,zcb,o1,o0,og,Nat.reduceBEq,Nat.reduceAdd,Nat.beq]
   rw [ku]
   obtain ⟨r0, hr0⟩ : ∃ r0, next + k < all.length -> all[next + k]? = some r0 := by
    by_cases h : next + k < all.length
    ·exact ⟨_, fun _ => List.getElem?_eq_getElem h⟩
    ·exact ⟨.o, fun h' => absurd h' h⟩
   refine ⟨rfl, fun h => ⟨rfl, rfl, by omega, by simpa using h⟩, fun _ => ⟨rfl, rfl⟩, ky (rD r0) (.int .i64 r0.y) (fun h => qx (by rw [Int.toNat_natCast]; exact hr0 (by simp only [decide_eq_true_eq] at h; omega))) rfl ?_⟩
   dsimp only [c_band_Of, kN, jn,jH,jO,jq,jF,jJ,jo,jG,jI,iteR,regK,jh,jc,jk,jj,jb,ji,blkK,kp,kd,jd,ja,jx,fpOk,foot,km,allN,memN,jK,jl,jr,jv,jt,ju,jf,jg,je,newN,jw,jN,jP,jY,jQ,jM,jS,jz,jA,jC,jD,jE,jm,jB,evX,evL,evB,rd,get,subG,memG,jT,jV,hyps,gob,impP,allP,j1,jX,j3,kj,nth,j8,kh,jU,lenB,kg,jR,entN,setE,jZ,addE,setL,setN,putE,env0,eqCs,j6,eqC,bA,bO,bN,bE,negB,kEq,ke,j5,lend,frz,frzL,zRow,j9,j7,closed,jy,jW,binI,remP,remI,retK,retG,ko,retD,ki,resL,resD,oneD,renD,renL,renE,j0,rho,jL,j4,zla,zlb,zlc,zld,zca,zcb,o1,o0,og,Nat.reduceBEq,Nat.reduceAdd,Nat.beq]
   refine ⟨fun hc => ?_, fun hc => ?_⟩
   ·rw [Bool.and_eq_true, decide_eq_true_eq, decide_eq_true_eq] at hc
    have hlt2 : next + k < all.length := by omega
    have hr00 := hr0 hlt2
    have hk1 := (hcg k r0 hk hr00).1 hc.2
    refine ⟨⟨rfl, rfl, by omega, by rw [ku]; omega⟩, ⟨rfl, rfl⟩, ky (rD r0) (rD r0) (qx (by rw [Int.toNat_natCast]; exact hr00)) rfl ?_⟩
    dsimp only [c_band_Of, kN, rD, jn,jH,jO,jq,jF,jJ,jo,jG,jI,iteR,regK,jh,jc,jk,jj,jb,ji,blkK,kp,kd,jd,ja,jx,fpOk,foot,km,allN,memN,jK,jl,jr,jv,jt,ju,jf,jg,je,newN,jw,jN,jP,jY,jQ,jM,jS,jz,jA,jC,jD,jE,jm,jB,evX,evL,evB,rd,get,subG,memG,jT,jV,hyps,gob,impP,allP,j1,jX,j3,kj,nth,j8,kh,jU,lenB,kg,jR,entN,setE,jZ,addE,setL,setN,putE,env0,eqCs,j6,eqC,bA,bO,bN,bE,negB,kEq,ke,j5,lend,frz,frzL,zRow,j9,j7,closed,jy,jW,binI,remP,remI,retK,retG,ko,retD,ki,resL,resD,oneD,renD,renL,renE,j0,rho,jL,j4,zla,zlb,zlc,zld,zca,zcb,o1,o0,og,Nat.reduceBEq,Nat.reduceAdd,Nat.beq]
    have hlk : (rcs (row1 ++ cm.take k)).length <= 2147483648 := by rw [ku, List.length_append, List.length_take]; omega
    refine ⟨⟨rfl, rfl, rfl, rfl, by simp only [List.length_cons, List.length_nil]; omega, by simp only [List.length_cons, List.length_nil]; omega⟩, by simp only [fits]; omega, ?_⟩
    refine qa (ih3 ⟨k + 1, by omega⟩ (by dsimp only; omega)) ⟨rfl, rfl, rfl, rfl, rfl, rfl, rfl, rfl, rfl, rfl, rfl, trivial⟩ ⟨rfl, rfl, rfl, rfl, ?_, rfl, rfl, trivial⟩ rfl rfl
    rw [hcg2 k r0 hk1 hr00, <- List.append_assoc]
    simp only [rcs, List.map_append]
    rfl
   ·have hke : k = cm.length := by
     by_cases h : next + k < all.length
     ·have h2 := hcg k r0 hk (hr0 h)
      have h3 : ¬ r0.y = y := fun e => by
       rw [show decide (((next + k : Nat) : Int) < (all.length : Int)) = true from by rw [decide_eq_true_eq]; omega, Bool.true_and, decide_eq_false_iff_not] at hc
       exact hc e
      omega
     ·omega
    subst hke
    rw [hc, List.take_length]
    exact hrest
  ·rw [qZ] at hge
   refine Vi rfl ⟨rfl, trivial⟩ (Sp.lift sp_Clip rfl) ?_
   dsimp only [c_band_Of, kN, jn,jH,jO,jq,jF,jJ,jo,jG,jI,iteR,regK,jh,jc,jk,jj,jb,ji,blkK,kp,kd,jd,ja,jx,fpOk,foot,km,allN,memN,jK,jl,jr,jv,jt,ju,jf,jg,je,newN,jw,jN,jP,jY,jQ,jM,jS,jz,jA,jC,jD,jE,jm,jB,evX,evL,evB,rd,get,subG,memG,jT,jV,hyps,gob,impP,allP,j1,jX,j3,kj,nth,j8,kh,jU,lenB,kg,jR,entN,setE,jZ,addE,setL,setN,putE,env0,eqCs,j6,eqC,bA,bO,bN,bE,negB,kEq,ke,j5,lend,frz,frzL,zRow,j9,j7,closed,jy,jW,binI,remP,remI,retK,retG,ko,retD,ki,resL,resD,oneD,renD,renL,renE,j0,rho,jL,j4,zla,zlb,zlc,zld,zca,zcb,o1,o0,og,Nat.reduceBEq,Nat.reduceAdd,Nat.beq]
   have hge' : ¬ i + 1 < (kQ all).length := by simp only [decide_eq_false_iff_not] at hge; omega
   rw [show qr B.reverse = reg (pts (allL l)) from (Yv (jC2 hB hge').1 fun x y => ((jC2 hB hge').2 x y).trans (hptall x y)).symm]
end Go.AM
