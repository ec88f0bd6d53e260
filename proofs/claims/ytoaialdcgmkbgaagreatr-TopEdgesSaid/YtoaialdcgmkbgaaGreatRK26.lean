import Derived.Test.YtoaialdcgmkbgaaGreatRK23

set_option linter.all false
namespace Go.AM
open Go Go.Proofs
def psL (l : List (Pt × Pt)) (y : Int) : List Pt := l.filterMap fun e => ze e.1 e.2 y
theorem psL_snoc (l : List (Pt × Pt)) (e : Pt × Pt) (y : Int) : psL (l ++ [e]) y = psL l y ++ (ze e.1 e.2 y).toList := by
 unfold psL
 rw [List.filterMap_append]
 cases h : ze e.1 e.2 y <;> simp [h]
theorem Z2 (l : List (Pt × Pt)) (y : Int) : (psL l y).length ≤ l.length := List.length_filterMap_le _ _
theorem edgL_ok {l : List Pt} (h : ∀ p ∈ l, Pok2 p) : ∀ e ∈ edgL l, Pok2 e.1 ∧ Pok2 e.2 := fun e he => by
 obtain ⟨i, hi, rfl⟩ := List.mem_map.1 he
 have hi := List.mem_range.1 hi
 have hm : (i + 1) % l.length < l.length := Nat.mod_lt _ (by omega)
 exact ⟨h _ (List.mem_of_getElem? (kX hi)), h _ (List.mem_of_getElem? (kX hm))⟩
/-! ### What a row is told as -/
def lstR (l : List Rc) : Rc := (l[l.length - 1]?).getD .o
theorem VN {l : List Rc} (h : 0 < l.length) : l[l.length - 1]? = some (lstR l) := by
 unfold lstR
 rw [List.getElem?_eq_getElem (by omega)]; rfl
theorem lst_set {l : List Rc} (h : 0 < l.length) (r : Rc) : ∃ m, l = m ++ [lstR l] ∧ l.set (l.length - 1) r = m ++ [r] := by
 rcases List.eq_nil_or_concat l with rfl | ⟨m, a, rfl⟩
 ·simp at h
 ·rw [List.concat_eq_append] at *
  have : lstR (m ++ [a]) = a := by simp [lstR]
  refine ⟨m, by rw [this], ?_⟩
  simp
def addW (lv : List Rc × Nat) (x w y : Int) : List Rc × Nat :=
 if (decide ((0 : Int) < lv.1.length) && decide ((lstR lv.1).x + (lstR lv.1).w = x)) = true then
  (lv.1.set (lv.1.length - 1) ⟨(lstR lv.1).x, (lstR lv.1).y, (lstR lv.1).w + w, (lstR lv.1).h⟩, lv.2)
 else (lv.1 ++ [⟨x, y, w, 1⟩], lv.2 + 1)
def ptA (A : List Pt) (i : Nat) : Pt := A.getD i (0, 0)
theorem yM {A : List Pt} {i : Nat} (h : i < A.length) : A[i]? = some (ptA A i) := kX h
def rowB (A : List Pt) (i : Nat) (t : Int) : Bool := (decide ((i : Int) + 1 = A.length) || decide ((ptA A (i + 1)).1 = (ptA A i).1)) || !(!decide (Int.tmod t 2 = 0))
def Z1 (A : List Pt) (y : Int) (i : Nat) (s : (List Rc × Nat) × Int) : (List Rc × Nat) × Int :=
 if rowB A i (s.2 + (ptA A i).2) = true then (s.1, s.2 + (ptA A i).2) else (addW s.1 (ptA A i).1 ((ptA A (i + 1)).1 - (ptA A i).1) y, s.2 + (ptA A i).2)
def rwS (A : List Pt) (y : Int) : Nat → (List Rc × Nat) × Int
 | 0 => (([], 0), 0)
 | i + 1 => Z1 A y i (rwS A y i)
structure SrtOk (A : List Pt) : Prop where
 b : ∀ p ∈ A, (0 ≤ p.1 ∧ p.1 ≤ 64) ∧ (p.2 = 1 ∨ p.2 = -1)
 s : ∀ i j, i < j → j < A.length → (ptA A i).1 ≤ (ptA A j).1
structure RowW (A : List Pt) (y : Int) (i : Nat) (s : (List Rc × Nat) × Int) : Prop where
 t : -(i : Int) ≤ s.2 ∧ s.2 ≤ i
 e : (Int.tmod s.2 2 = 0) ↔ i % 2 = 0
 n : s.1.1.length ≤ i
 b : ∀ r ∈ s.1.1, (0 ≤ r.x ∧ r.x + r.w ≤ 64) ∧ 1 ≤ r.w ∧ r.y = y ∧ r.h = 1
 p : ∀ X, pts s.1.1 X y ↔ ∃ j, j < i ∧ j + 1 < A.length ∧ j % 2 = 0 ∧ (ptA A j).1 ≤ X ∧ X < (ptA A (j + 1)).1
theorem tmod2 {n : Int} : Int.tmod n 2 = 0 ↔ n % 2 = 0 := by
 rw [← Int.dvd_iff_tmod_eq_zero, Int.dvd_iff_emod_eq_zero]
theorem VA {A : List Pt} {y : Int} (hA : SrtOk A) : ∀ i, i ≤ A.length → RowW A y i (rwS A y i)
 | 0, _ => ⟨by simp [rwS], by simp [rwS], by simp [rwS], by simp [rwS], fun X => by simp [rwS, pts]⟩
 | i + 1, hi => by
   have ih := VA (y := y) hA i (by omega)
   have hpi := hA.b (ptA A i) (List.mem_of_getElem? (yM (by omega)))
   simp only [rwS]
   generalize rwS A y i = s at ih ⊢
   obtain ⟨⟨l, v⟩, t⟩ := s
   obtain ⟨it, ie, inn, ib, ip⟩ := ih
   dsimp only at it ie inn ib ip
   have het : (Int.tmod (t + (ptA A i).2) 2 = 0) ↔ (i + 1) % 2 = 0 := by
    rw [tmod2] at ie ⊢
    rcases hpi.2 with h | h <;> rw [h] <;> omega
   unfold Z1
   dsimp only
   split
   ·rename_i hB
    refine ⟨by dsimp only; omega, het, by dsimp only; omega, ib, fun X => ?_⟩
    dsimp only
    rw [ip]
    constructor
    ·rintro ⟨j, h1, h2⟩; exact ⟨j, by omega, h2⟩
    ·rintro ⟨j, h1, h2, h3, h4⟩
     by_cases hji : j = i
     ·exfalso
      subst hji
      unfold rowB at hB
      simp only [Bool.or_eq_true, decide_eq_true_eq, Bool.not_eq_true', Bool.not_eq_false'] at hB
      rcases hB with (hB | hB) | hB
      ·omega
      ·omega
      ·have := het.1 hB; omega
     ·exact ⟨j, by omega, h2, h3, h4⟩
   ·rename_i hB
    unfold rowB at hB
    simp only [Bool.or_eq_true, decide_eq_true_eq, Bool.not_eq_true', Bool.not_eq_false', not_or] at hB
    obtain ⟨⟨hB1, hB2⟩, hB3⟩ := hB
    have hi1 : i + 1 < A.length := by omega
    have hp1 := hA.b (ptA A (i + 1)) (List.mem_of_getElem? (yM hi1))
    have hs := hA.s i (i + 1) (by omega) hi1
    have hev : i % 2 = 0 := by have := mt het.2 hB3; omega
    have key : ∀ (Q : Int → Prop), (∀ X, Q X ↔ pts l X y ∨ ((ptA A i).1 ≤ X ∧ X < (ptA A (i + 1)).1)) → ∀ X, Q X ↔ ∃ j, j < i + 1 ∧ j + 1 < A.length ∧ j % 2 = 0 ∧ (ptA A j).1 ≤ X ∧ X < (ptA A (j + 1)).1 := fun Q hQ X => by
     rw [hQ, ip]
     constructor
     ·rintro (⟨j, h1, h2⟩ | h)
      ·exact ⟨j, by omega, h2⟩
      ·exact ⟨i, by omega, hi1, hev, h⟩
     ·rintro ⟨j, h1, h2, h3, h4⟩
      by_cases hji : j = i
      ·subst hji; exact .inr h4
      ·exact .inl ⟨j, by omega, h2, h3, h4⟩
    unfold addW
    dsimp only
    split
    ·rename_i hc
     simp only [Bool.and_eq_true, decide_eq_true_eq] at hc
     have h0 : 0 < l.length := by omega
     obtain ⟨m, e1, e2⟩ := lst_set h0 ⟨(lstR l).x, (lstR l).y, (lstR l).w + ((ptA A (i + 1)).1 - (ptA A i).1), (lstR l).h⟩
     have hlb := ib (lstR l) (List.mem_of_getElem? (VN h0))
     refine ⟨by dsimp only; omega, het, by dsimp only; rw [List.length_set]; omega, fun r hr => ?_, ?_⟩
     ·dsimp only at hr
      rw [e2] at hr
      rcases List.mem_append.1 hr with hr | hr
      ·exact ib r (by rw [e1]; exact List.mem_append_left _ hr)
      ·rw [List.mem_singleton.1 hr]
       dsimp only
       omega
     ·dsimp only
      rw [e2]
      refine key (fun X => pts (m ++ [_]) X y) fun X => ?_
      rw [ptsA, ptsO]
      have : pts l X y ↔ pts m X y ∨ (lstR l).has X y := by
       have h : pts (m ++ [lstR l]) X y ↔ pts m X y ∨ (lstR l).has X y := by rw [ptsA, ptsO]
       rwa [← e1] at h
      rw [this]
      unfold Rc.has
      dsimp only
      constructor
      ·rintro (h | h)
       ·exact .inl (.inl h)
       ·by_cases hX : X < (lstR l).x + (lstR l).w
        ·exact .inl (.inr (by omega))
        ·exact .inr (by omega)
      ·rintro ((h | h) | h)
       ·exact .inl h
       ·exact .inr (by omega)
       ·exact .inr (by omega)
    ·refine ⟨by dsimp only; omega, het, by dsimp only; rw [List.length_append, List.length_singleton]; omega, fun r hr => ?_, ?_⟩
     ·rcases List.mem_append.1 hr with hr | hr
      ·exact ib r hr
      ·rw [List.mem_singleton.1 hr]
       dsimp only
       omega
     ·dsimp only
      refine key (fun X => pts (l ++ [_]) X y) fun X => ?_
      rw [ptsA, ptsO]
      unfold Rc.has
      dsimp only
      exact or_congr Iff.rfl ⟨fun h => by omega, fun h => by omega⟩
def psS (l : List Pt) (y : Int) : List Pt := srtP (psL (edgL l) y)
def rowR (l : List Pt) (y : Int) : List Rc × Nat := (rwS (psS l y) y (psS l y).length).1
theorem sm_prow {l : List Pt} {y : Int} (hl : l.length ≤ 64) (hp : ∀ p ∈ l, Pok2 p) (hy : 0 ≤ y ∧ y ≤ 64) (hA : SrtOk (psS l y)) :
  TSpM 149 [.int .i64 0, .int .i64 y, .ls 2 (pds l)] [] (.own 0 (rowR l y).2) [.arr 45 4 (rowR l y).2 (rcs (rowR l y).1)] := by
 refine Yv (by rfl) ?_
 dsimp only [c_poly_row, qk, jo,jK,jT,jr,jI,jM,jq,jJ,jL,iteR,regK,ji,jc,jl,jk,jb,jj,blkK,kt,kh,jd,ja,jy,fpOk,foot,kq,allN,memN,jN,jm,js,jw,jv,jt,ju,jg,jh,jf,je,newN,jx,jS,jU,jX,jO,jP,jQ,jz,jA,jE,jB,jC,jn,jD,jF,jG,j7,evX,evL,evB,rd,get,subG,memG,jY,jW,hyps,gob,impP,allP,j5,j2,j4,kp,nth,ke,km,jZ,lenB,kj,jV,entN,setE,j0,addE,setL,setN,putE,env0,eqCs,j9,eqC,bA,bO,bN,bE,negB,kEq,ki,j8,lend,frz,frzL,zRow,kg,kd,closed,jH,j1,binI,remP,remI,retK,retG,kr,retD,ko,resL,resD,oneD,renD,renL,renE,j3,rho,jR,j6,List.append,List.nil_append,List.cons_append,List.append_nil,cond,Nat.reduceBEq,Nat.reduceAdd,Nat.beq]
 refine qm [] (sm_edges2 (l := l)) rfl rfl ?_
 dsimp only [c_poly_row, qk, jo,jK,jT,jr,jI,jM,jq,jJ,jL,iteR,regK,ji,jc,jl,jk,jb,jj,blkK,kt,kh,jd,ja,jy,fpOk,foot,kq,allN,memN,jN,jm,js,jw,jv,jt,ju,jg,jh,jf,je,newN,jx,jS,jU,jX,jO,jP,jQ,jz,jA,jE,jB,jC,jn,jD,jF,jG,j7,evX,evL,evB,rd,get,subG,memG,jY,jW,hyps,gob,impP,allP,j5,j2,j4,kp,nth,ke,km,jZ,lenB,kj,jV,entN,setE,j0,addE,setL,setN,putE,env0,eqCs,j9,eqC,bA,bO,bN,bE,negB,kEq,ki,j8,lend,frz,frzL,zRow,kg,kd,closed,jH,j1,binI,remP,remI,retK,retG,kr,retD,ko,resL,resD,oneD,renD,renL,renE,j3,rho,jR,j6,List.append,List.nil_append,List.cons_append,List.append_nil,cond,Nat.reduceBEq,Nat.reduceAdd,Nat.beq]
 have hit := it_edges (l := l) (by omega)
 have hel := JI l
 have hek := edgL_ok hp
 unfold rowR psS
 unfold psS at hA
 generalize edgL l = E at *
 refine Qj rfl rfl (E.map eD) (EdK l) (fun i => [.cells [.int .i64 y], .arr 45 4 0 [], .cells [.own 3 (psL (E.take i) y).length], .arr 285 2 (psL (E.take i) y).length (pds (psL (E.take i) y)), .cells [.ls 2 (pds l)]]) (E.map eD).length ?_
 refine ⟨hit, rfl, fun x hx => ?_, Nat.le_refl _, fun i _ => ⟨rfl, rfl, _, _, _, _, rfl⟩, rfl, fun i x o hi hx => ?_, fun h => absurd h (Nat.lt_irrefl _), fun _ => ?_⟩
 ·obtain ⟨q, _, rfl⟩ := List.mem_map.1 hx
  rfl
 ·rw [List.length_map] at hi
  obtain ⟨q, hq⟩ : ∃ q, E[i]? = some q := ⟨_, List.getElem?_eq_getElem hi⟩
  have hx' : x = eD q := by simpa [hq] using hx.symm
  subst hx'
  have hqb := hek q (List.mem_of_getElem? hq)
  have htk : E.take (i + 1) = E.take i ++ [q] := by rw [List.take_add_one, hq]; rfl
  rw [htk, psL_snoc]
  have htl : (psL (E.take i) y).length ≤ 64 := Nat.le_trans (Z2 _ _) (by rw [List.length_take]; omega)
  generalize psL (E.take i) y = L at *
  dsimp only [c_poly_row, qk, midK, goK, Jw, eD, pD, zW, jo,jK,jT,jr,jI,jM,jq,jJ,jL,iteR,regK,ji,jc,jl,jk,jb,jj,blkK,kt,kh,jd,ja,jy,fpOk,foot,kq,allN,memN,jN,jm,js,jw,jv,jt,ju,jg,jh,jf,je,newN,jx,jS,jU,jX,jO,jP,jQ,jz,jA,jE,jB,jC,jn,jD,jF,jG,j7,evX,evL,evB,rd,get,subG,memG,jY,jW,hyps,gob,impP,allP,j5,j2,j4,kp,nth,ke,km,jZ,lenB,kj,jV,entN,setE,j0,addE,setL,setN,putE,env0,eqCs,j9,eqC,bA,bO,bN,bE,negB,kEq,ki,j8,lend,frz,frzL,zRow,kg,kd,closed,jH,j1,binI,remP,remI,retK,retG,kr,retD,ko,resL,resD,oneD,renD,renL,renE,j3,rho,jR,j6,List.append,List.nil_append,List.cons_append,List.append_nil,cond,Nat.reduceBEq,Nat.reduceAdd,Nat.beq]
  refine ⟨rfl, fun o' => ?_⟩
  refine kx (sp_passes hqb.1 hqb.2 hy) ?_
  dsimp only [c_poly_row, qk, midK, goK, Jw, eD, pD, zW, jo,jK,jT,jr,jI,jM,jq,jJ,jL,iteR,regK,ji,jc,jl,jk,jb,jj,blkK,kt,kh,jd,ja,jy,fpOk,foot,kq,allN,memN,jN,jm,js,jw,jv,jt,ju,jg,jh,jf,je,newN,jx,jS,jU,jX,jO,jP,jQ,jz,jA,jE,jB,jC,jn,jD,jF,jG,j7,evX,evL,evB,rd,get,subG,memG,jY,jW,hyps,gob,impP,allP,j5,j2,j4,kp,nth,ke,km,jZ,lenB,kj,jV,entN,setE,j0,addE,setL,setN,putE,env0,eqCs,j9,eqC,bA,bO,bN,bE,negB,kEq,ki,j8,lend,frz,frzL,zRow,kg,kd,closed,jH,j1,binI,remP,remI,retK,retG,kr,retD,ko,resL,resD,oneD,renD,renL,renE,j3,rho,jR,j6,List.append,List.nil_append,List.cons_append,List.append_nil,cond,Nat.reduceBEq,Nat.reduceAdd,Nat.beq]
  cases hps : ze q.1 q.2 y with
  | none =>
    refine ⟨fun h => absurd h (by simp), fun _ => ?_⟩
    simp
  | some p =>
    refine ⟨fun _ => ?_, fun h => absurd h (by simp)⟩
    have hll : (pds L).length ≤ 64 := by rw [kV]; exact htl
    refine ⟨⟨rfl, rfl, rfl, rfl, by simp only [List.length_cons, List.length_nil]; omega, by simp only [List.length_cons, List.length_nil]; omega⟩, ?_⟩
    simp [pds, pD]
 ·rw [List.length_map, List.take_length]
  dsimp only [c_poly_row, qk, jo,jK,jT,jr,jI,jM,jq,jJ,jL,iteR,regK,ji,jc,jl,jk,jb,jj,blkK,kt,kh,jd,ja,jy,fpOk,foot,kq,allN,memN,jN,jm,js,jw,jv,jt,ju,jg,jh,jf,je,newN,jx,jS,jU,jX,jO,jP,jQ,jz,jA,jE,jB,jC,jn,jD,jF,jG,j7,evX,evL,evB,rd,get,subG,memG,jY,jW,hyps,gob,impP,allP,j5,j2,j4,kp,nth,ke,km,jZ,lenB,kj,jV,entN,setE,j0,addE,setL,setN,putE,env0,eqCs,j9,eqC,bA,bO,bN,bE,negB,kEq,ki,j8,lend,frz,frzL,zRow,kg,kd,closed,jH,j1,binI,remP,remI,retK,retG,kr,retD,ko,resL,resD,oneD,renD,renL,renE,j3,rho,jR,j6,List.append,List.nil_append,List.cons_append,List.append_nil,cond,Nat.reduceBEq,Nat.reduceAdd,Nat.beq]
  refine qm [3] (sm_SortP (l := psL E y) (ver := (psL E y).length) (by have := Z2 E y; omega)) rfl rfl ?_
  dsimp only [c_poly_row, qk, jo,jK,jT,jr,jI,jM,jq,jJ,jL,iteR,regK,ji,jc,jl,jk,jb,jj,blkK,kt,kh,jd,ja,jy,fpOk,foot,kq,allN,memN,jN,jm,js,jw,jv,jt,ju,jg,jh,jf,je,newN,jx,jS,jU,jX,jO,jP,jQ,jz,jA,jE,jB,jC,jn,jD,jF,jG,j7,evX,evL,evB,rd,get,subG,memG,jY,jW,hyps,gob,impP,allP,j5,j2,j4,kp,nth,ke,km,jZ,lenB,kj,jV,entN,setE,j0,addE,setL,setN,putE,env0,eqCs,j9,eqC,bA,bO,bN,bE,negB,kEq,ki,j8,lend,frz,frzL,zRow,kg,kd,closed,jH,j1,binI,remP,remI,retK,retG,kr,retD,ko,resL,resD,oneD,renD,renL,renE,j3,rho,jR,j6,List.append,List.nil_append,List.cons_append,List.append_nil,cond,Nat.reduceBEq,Nat.reduceAdd,Nat.beq]
  have hAl : (srtP (psL E y)).length ≤ 64 := by rw [(JU _).1]; have := Z2 E y; omega
  obtain ⟨ver, hver⟩ : ∃ ver, (psL E y).length = ver := ⟨_, rfl⟩
  rw [hver]
  generalize srtP (psL E y) = A at *
  clear hver hit hek hel
  rw [kV]
  refine ⟨rfl, ?_⟩
  refine kH (α := {i : Nat // i ≤ A.length})
   (fun i => ⟨[(0, [], .int .i64 0), (4, [], .box 0 0), (7, [], .box 2 0), (12, [], .own 5 (rwS A y i.1).1.2), (13, [], .int .i64 (rwS A y i.1).2), (36, [], .own 3 ver), (37, [], .int .i64 A.length), (38, [], .int .i64 i.1)],
     [.cells [.int .i64 y], .arr 45 4 0 [], .cells [.own 3 ver], .arr 285 2 ver (pds A), .cells [.ls 2 (pds l)], .arr 45 4 (rwS A y i.1).1.2 (rcs (rwS A y i.1).1.1)]⟩)
   (fun i => A.length - i.1) ?_ ⟨0, Nat.zero_le _⟩ rfl
  rintro ⟨i, hi⟩ I ih
  dsimp only at hi ⊢
  dsimp only [c_poly_row, qk, jo,jK,jT,jr,jI,jM,jq,jJ,jL,iteR,regK,ji,jc,jl,jk,jb,jj,blkK,kt,kh,jd,ja,jy,fpOk,foot,kq,allN,memN,jN,jm,js,jw,jv,jt,ju,jg,jh,jf,je,newN,jx,jS,jU,jX,jO,jP,jQ,jz,jA,jE,jB,jC,jn,jD,jF,jG,j7,evX,evL,evB,rd,get,subG,memG,jY,jW,hyps,gob,impP,allP,j5,j2,j4,kp,nth,ke,km,jZ,lenB,kj,jV,entN,setE,j0,addE,setL,setN,putE,env0,eqCs,j9,eqC,bA,bO,bN,bE,negB,kEq,ki,j8,lend,frz,frzL,zRow,kg,kd,closed,jH,j1,binI,remP,remI,retK,retG,kr,retD,ko,resL,resD,oneD,renD,renL,renE,j3,rho,jR,j6,List.append,List.nil_append,List.cons_append,List.append_nil,cond,Nat.reduceBEq,Nat.reduceAdd,Nat.beq]
  refine ⟨fun hlt => ?_, fun hge => ?_⟩
  ·have hil : i < A.length := by simpa using hlt
   have hro := VA (y := y) hA i hi
   have hag := fun h1 => ih ⟨i + 1, hil⟩ h1
   have hsc : rwS A y (i + 1) = Z1 A y i (rwS A y i) := rfl
   dsimp only at hag
   rw [hsc] at hag
   generalize rwS A y i = s at *
   obtain ⟨⟨R, v⟩, tt⟩ := s
   obtain ⟨hrt, hre, hrn, hrb, hrp⟩ := hro
   dsimp only at hrt hre hrn hrb hag ⊢
   have hpi := hA.b (ptA A i) (List.mem_of_getElem? (yM hil))
   refine ⟨⟨rfl, rfl, by omega, by rw [kV]; omega⟩, ⟨rfl, rfl⟩, kB (pD (ptA A i)) (pD (ptA A i)) (vL (by simpa using yM hil)) rfl ?_⟩
   dsimp only [c_poly_row, qk, pD, jo,jK,jT,jr,jI,jM,jq,jJ,jL,iteR,regK,ji,jc,jl,jk,jb,jj,blkK,kt,kh,jd,ja,jy,fpOk,foot,kq,allN,memN,jN,jm,js,jw,jv,jt,ju,jg,jh,jf,je,newN,jx,jS,jU,jX,jO,jP,jQ,jz,jA,jE,jB,jC,jn,jD,jF,jG,j7,evX,evL,evB,rd,get,subG,memG,jY,jW,hyps,gob,impP,allP,j5,j2,j4,kp,nth,ke,km,jZ,lenB,kj,jV,entN,setE,j0,addE,setL,setN,putE,env0,eqCs,j9,eqC,bA,bO,bN,bE,negB,kEq,ki,j8,lend,frz,frzL,zRow,kg,kd,closed,jH,j1,binI,remP,remI,retK,retG,kr,retD,ko,resL,resD,oneD,renD,renL,renE,j3,rho,jR,j6,List.append,List.nil_append,List.cons_append,List.append_nil,cond,Nat.reduceBEq,Nat.reduceAdd,Nat.beq]
   rw [kV]
   have hnx : decide ((i : Int) + 1 = (A.length : Int)) = false → i + 1 < A.length := fun h => by simp only [decide_eq_false_iff_not] at h; omega
   refine ⟨by simp only [fits]; omega, by simp only [fits]; omega, rfl, fun h => by simp only [fits]; omega, fun h => ⟨rfl, rfl, by omega, by have := hnx h; omega⟩, fun h => ⟨rfl, rfl⟩, kB (pD (ptA A (i + 1))) (.int .i64 (ptA A (i + 1)).1) (fun h => vL (by have := yM (hnx h); rw [← this]; congr 1)) rfl ?_⟩
   dsimp only [c_poly_row, qk, pD, jo,jK,jT,jr,jI,jM,jq,jJ,jL,iteR,regK,ji,jc,jl,jk,jb,jj,blkK,kt,kh,jd,ja,jy,fpOk,foot,kq,allN,memN,jN,jm,js,jw,jv,jt,ju,jg,jh,jf,je,newN,jx,jS,jU,jX,jO,jP,jQ,jz,jA,jE,jB,jC,jn,jD,jF,jG,j7,evX,evL,evB,rd,get,subG,memG,jY,jW,hyps,gob,impP,allP,j5,j2,j4,kp,nth,ke,km,jZ,lenB,kj,jV,entN,setE,j0,addE,setL,setN,putE,env0,eqCs,j9,eqC,bA,bO,bN,bE,negB,kEq,ki,j8,lend,frz,frzL,zRow,kg,kd,closed,jH,j1,binI,remP,remI,retK,retG,kr,retD,ko,resL,resD,oneD,renD,renL,renE,j3,rho,jR,j6,List.append,List.nil_append,List.cons_append,List.append_nil,cond,Nat.reduceBEq,Nat.reduceAdd,Nat.beq]
   refine kx (fun _ => sp_pinside) ?_
   dsimp only [c_poly_row, qk, pD, jo,jK,jT,jr,jI,jM,jq,jJ,jL,iteR,regK,ji,jc,jl,jk,jb,jj,blkK,kt,kh,jd,ja,jy,fpOk,foot,kq,allN,memN,jN,jm,js,jw,jv,jt,ju,jg,jh,jf,je,newN,jx,jS,jU,jX,jO,jP,jQ,jz,jA,jE,jB,jC,jn,jD,jF,jG,j7,evX,evL,evB,rd,get,subG,memG,jY,jW,hyps,gob,impP,allP,j5,j2,j4,kp,nth,ke,km,jZ,lenB,kj,jV,entN,setE,j0,addE,setL,setN,putE,env0,eqCs,j9,eqC,bA,bO,bN,bE,negB,kEq,ki,j8,lend,frz,frzL,zRow,kg,kd,closed,jH,j1,binI,remP,remI,retK,retG,kr,retD,ko,resL,resD,oneD,renD,renL,renE,j3,rho,jR,j6,List.append,List.nil_append,List.cons_append,List.append_nil,cond,Nat.reduceBEq,Nat.reduceAdd,Nat.beq]
   unfold Z1 rowB at hag
   dsimp only at hag
   refine ⟨fun hB => ?_, fun hB => ?_⟩
   ·rw [if_pos hB] at hag
    exact ⟨by simp only [fits]; omega, k9 (hag (by omega)) ⟨rfl, rfl, rfl, rfl, rfl, rfl, rfl, by simp [get], trivial⟩ ⟨rfl, rfl, rfl, rfl, rfl, rfl, trivial⟩ rfl rfl⟩
   ·rw [if_neg (by rw [hB]; simp)] at hag
    have hi1 : i + 1 < A.length := hnx (by simp only [Bool.or_eq_false_iff] at hB; exact hB.1.1)
    have hp1 := hA.b (ptA A (i + 1)) (List.mem_of_getElem? (yM hi1))
    have hsr := hA.s i (i + 1) (by omega) hi1
    refine ⟨by simp only [fits]; omega, ⟨rfl, rfl, by omega, by rw [kV]; omega⟩, ⟨rfl, rfl⟩, kB (pD (ptA A (i + 1))) (.int .i64 (ptA A (i + 1)).1) (vL (by have := yM hi1; rw [← this]; congr 1)) rfl ?_⟩
    dsimp only [c_poly_row, qk, pD, jo,jK,jT,jr,jI,jM,jq,jJ,jL,iteR,regK,ji,jc,jl,jk,jb,jj,blkK,kt,kh,jd,ja,jy,fpOk,foot,kq,allN,memN,jN,jm,js,jw,jv,jt,ju,jg,jh,jf,je,newN,jx,jS,jU,jX,jO,jP,jQ,jz,jA,jE,jB,jC,jn,jD,jF,jG,j7,evX,evL,evB,rd,get,subG,memG,jY,jW,hyps,gob,impP,allP,j5,j2,j4,kp,nth,ke,km,jZ,lenB,kj,jV,entN,setE,j0,addE,setL,setN,putE,env0,eqCs,j9,eqC,bA,bO,bN,bE,negB,kEq,ki,j8,lend,frz,frzL,zRow,kg,kd,closed,jH,j1,binI,remP,remI,retK,retG,kr,retD,ko,resL,resD,oneD,renD,renL,renE,j3,rho,jR,j6,List.append,List.nil_append,List.cons_append,List.append_nil,cond,Nat.reduceBEq,Nat.reduceAdd,Nat.beq]
    rw [ky]
    have hrq : 0 < R.length → (rcs R)[((R.length : Int) - 1).toNat]? = some (rD (lstR R)) := fun h => qo (by rw [show ((R.length : Int) - 1).toNat = R.length - 1 by omega]; exact VN h)
    have hgl : (decide ((0 : Int) < R.length)) = true → 0 < R.length := fun h => by simp only [decide_eq_true_eq] at h; omega
    have hlb : 0 < R.length → (0 ≤ (lstR R).x ∧ (lstR R).x + (lstR R).w ≤ 64) ∧ 1 ≤ (lstR R).w := fun h => by
     have := hrb (lstR R) (List.mem_of_getElem? (VN h)); omega
    refine ⟨by simp only [fits]; omega, rfl, fun h => by simp only [fits]; omega, fun h => ⟨rfl, rfl, by have := hgl h; omega, by omega⟩, fun _ => ⟨rfl, rfl⟩, kB (rD (lstR R)) (.int .i64 (lstR R).x) (fun h => hrq (hgl h)) rfl ?_⟩
    dsimp only [c_poly_row, qk, pD, jo,jK,jT,jr,jI,jM,jq,jJ,jL,iteR,regK,ji,jc,jl,jk,jb,jj,blkK,kt,kh,jd,ja,jy,fpOk,foot,kq,allN,memN,jN,jm,js,jw,jv,jt,ju,jg,jh,jf,je,newN,jx,jS,jU,jX,jO,jP,jQ,jz,jA,jE,jB,jC,jn,jD,jF,jG,j7,evX,evL,evB,rd,get,subG,memG,jY,jW,hyps,gob,impP,allP,j5,j2,j4,kp,nth,ke,km,jZ,lenB,kj,jV,entN,setE,j0,addE,setL,setN,putE,env0,eqCs,j9,eqC,bA,bO,bN,bE,negB,kEq,ki,j8,lend,frz,frzL,zRow,kg,kd,closed,jH,j1,binI,remP,remI,retK,retG,kr,retD,ko,resL,resD,oneD,renD,renL,renE,j3,rho,jR,j6,List.append,List.nil_append,List.cons_append,List.append_nil,cond,Nat.reduceBEq,Nat.reduceAdd,Nat.beq]
    rw [ky]
    refine ⟨fun h => by simp only [fits]; omega, fun h => ⟨rfl, rfl, by have := hgl h; omega, by omega⟩, fun _ => ⟨rfl, rfl⟩, kB (rD (lstR R)) (.int .i64 (lstR R).w) (fun h => hrq (hgl h)) rfl ?_⟩
    dsimp only [c_poly_row, qk, pD, jo,jK,jT,jr,jI,jM,jq,jJ,jL,iteR,regK,ji,jc,jl,jk,jb,jj,blkK,kt,kh,jd,ja,jy,fpOk,foot,kq,allN,memN,jN,jm,js,jw,jv,jt,ju,jg,jh,jf,je,newN,jx,jS,jU,jX,jO,jP,jQ,jz,jA,jE,jB,jC,jn,jD,jF,jG,j7,evX,evL,evB,rd,get,subG,memG,jY,jW,hyps,gob,impP,allP,j5,j2,j4,kp,nth,ke,km,jZ,lenB,kj,jV,entN,setE,j0,addE,setL,setN,putE,env0,eqCs,j9,eqC,bA,bO,bN,bE,negB,kEq,ki,j8,lend,frz,frzL,zRow,kg,kd,closed,jH,j1,binI,remP,remI,retK,retG,kr,retD,ko,resL,resD,oneD,renD,renL,renE,j3,rho,jR,j6,List.append,List.nil_append,List.cons_append,List.append_nil,cond,Nat.reduceBEq,Nat.reduceAdd,Nat.beq]
    unfold addW at hag
    dsimp only at hag
    refine ⟨fun h => by have := hlb (hgl h); simp only [fits]; omega, fun hc => ?_, fun hc => ?_⟩
    ·rw [if_pos hc] at hag
     have hl0 : 0 < R.length := by simp only [Bool.and_eq_true, decide_eq_true_eq] at hc; omega
     have hlb0 := hlb hl0
     have hrq0 := hrq hl0
     have hix : (0 : Int) ≤ (R.length : Int) - 1 ∧ (R.length : Int) - 1 < ((rcs R).length : Int) := by rw [ky]; omega
     refine ⟨by simp only [fits]; omega, ⟨rfl, rfl, hix⟩, ⟨rfl, rfl⟩, kB (rD (lstR R)) (.int .i64 (lstR R).w) hrq0 rfl ?_⟩
     dsimp only [c_poly_row, qk, pD, jo,jK,jT,jr,jI,jM,jq,jJ,jL,iteR,regK,ji,jc,jl,jk,jb,jj,blkK,kt,kh,jd,ja,jy,fpOk,foot,kq,allN,memN,jN,jm,js,jw,jv,jt,ju,jg,jh,jf,je,newN,jx,jS,jU,jX,jO,jP,jQ,jz,jA,jE,jB,jC,jn,jD,jF,jG,j7,evX,evL,evB,rd,get,subG,memG,jY,jW,hyps,gob,impP,allP,j5,j2,j4,kp,nth,ke,km,jZ,lenB,kj,jV,entN,setE,j0,addE,setL,setN,putE,env0,eqCs,j9,eqC,bA,bO,bN,bE,negB,kEq,ki,j8,lend,frz,frzL,zRow,kg,kd,closed,jH,j1,binI,remP,remI,retK,retG,kr,retD,ko,resL,resD,oneD,renD,renL,renE,j3,rho,jR,j6,List.append,List.nil_append,List.cons_append,List.append_nil,cond,Nat.reduceBEq,Nat.reduceAdd,Nat.beq]
     refine ⟨by simp only [fits]; omega, ⟨rfl, rfl, hix⟩, ⟨rfl, rfl⟩, zd (hs := []) (rD (lstR R)) (rD ⟨(lstR R).x, (lstR R).y, (lstR R).w + ((ptA A (i + 1)).1 - (ptA A i).1), (lstR R).h⟩) hrq0 rfl ?_⟩
     dsimp only [c_poly_row, qk, pD, jo,jK,jT,jr,jI,jM,jq,jJ,jL,iteR,regK,ji,jc,jl,jk,jb,jj,blkK,kt,kh,jd,ja,jy,fpOk,foot,kq,allN,memN,jN,jm,js,jw,jv,jt,ju,jg,jh,jf,je,newN,jx,jS,jU,jX,jO,jP,jQ,jz,jA,jE,jB,jC,jn,jD,jF,jG,j7,evX,evL,evB,rd,get,subG,memG,jY,jW,hyps,gob,impP,allP,j5,j2,j4,kp,nth,ke,km,jZ,lenB,kj,jV,entN,setE,j0,addE,setL,setN,putE,env0,eqCs,j9,eqC,bA,bO,bN,bE,negB,kEq,ki,j8,lend,frz,frzL,zRow,kg,kd,closed,jH,j1,binI,remP,remI,retK,retG,kr,retD,ko,resL,resD,oneD,renD,renL,renE,j3,rho,jR,j6,List.append,List.nil_append,List.cons_append,List.append_nil,cond,Nat.reduceBEq,Nat.reduceAdd,Nat.beq]
     refine ⟨by simp only [fits]; omega, k9 (hag (by omega)) ⟨rfl, rfl, rfl, rfl, rfl, rfl, rfl, by simp [get], trivial⟩ ⟨rfl, rfl, rfl, rfl, rfl, ?_, trivial⟩ rfl rfl⟩
     dsimp only
     rw [Qi, show ((R.length : Int) - 1).toNat = R.length - 1 by omega]
    ·rw [if_neg (by rw [hc]; simp)] at hag
     have hll : (rcs R).length ≤ 64 := by rw [ky]; omega
     refine ⟨⟨rfl, rfl, rfl, rfl, by simp only [List.length_cons, List.length_nil]; omega, by simp only [List.length_cons, List.length_nil]; omega⟩, by simp only [fits]; omega, k9 (hag (by omega)) ⟨rfl, rfl, rfl, rfl, rfl, rfl, rfl, by simp [get], trivial⟩ ⟨rfl, rfl, rfl, rfl, rfl, ?_, trivial⟩ rfl rfl⟩
     simp [rcs, rD]
  ·have hil : i = A.length := by have : ¬ i < A.length := by simpa using hge
                                 omega
   subst hil
   exact Rt.pick [5] rfl rfl rfl
end Go.AM

