import Derived.Test.YtoaialdcgmkbgaaGreatRK27
import Derived.Test.YtoaialdcgmkbgaaGreatRA36

set_option linter.all false
namespace Go.AM
open Go Go.Proofs
def alkW (a b : Rc) : Bool := decide (a.x = b.x) && decide (a.w = b.w)
theorem sp_rects_1 {a b : Rc} : TSp 182 [rD a, rD b] (.bool (alkW a b)) := by
 refine QR (by rfl) ?_
 dsimp only [c_poly_rects_1, xN, rD, jo,jK,jT,jr,jI,jM,jq,jJ,jL,iteR,regK,ji,jc,jl,jk,jb,jj,blkK,kt,kh,jd,ja,jy,fpOk,foot,kq,allN,memN,jN,jm,js,jw,jv,jt,ju,jg,jh,jf,je,newN,jx,jS,jU,jX,jO,jP,jQ,jz,jA,jE,jB,jC,jn,jD,jF,jG,j7,evX,evL,evB,rd,get,subG,memG,jY,jW,hyps,gob,impP,allP,j5,j2,j4,kp,nth,ke,km,jZ,lenB,kj,jV,entN,setE,j0,addE,setL,setN,putE,env0,eqCs,j9,eqC,bA,bO,bN,bE,negB,kEq,ki,j8,lend,frz,frzL,zRow,kg,kd,closed,jH,j1,binI,remP,remI,retK,retG,kr,retD,ko,resL,resD,oneD,renD,renL,renE,j3,rho,jR,j6,List.append,List.nil_append,List.cons_append,List.append_nil,cond,Nat.reduceBEq,Nat.reduceAdd,Nat.beq]
 rfl
def eqW : List Rc → List Rc → Bool
 | [], [] => true
 | a :: l, b :: r => alkW a b && eqW l r
 | _, _ => false
theorem eqW_len : ∀ {a b : List Rc}, eqW a b = true → a.length = b.length
 | [], [], _ => rfl
 | a :: l, b :: r, h => by simp only [eqW, Bool.and_eq_true] at h; simp [eqW_len h.2]
 | [], _ :: _, h => by simp [eqW] at h
 | _ :: _, [], h => by simp [eqW] at h
theorem XR {a b : List Rc} (hl : a.length ≤ 4611686018427387904) :
  TSp 129 [.ls 4 (rcs a), .ls 4 (rcs b), .fn 182 []] (.bool (eqW a b)) := by
 refine qa (by rfl) ?_
 dsimp only [c_slices_EqualFunc_api_Rect_api_Rect_api_Rect_api_Rect, ku, jo,jK,jT,jr,jI,jM,jq,jJ,jL,iteR,regK,ji,jc,jl,jk,jb,jj,blkK,kt,kh,jd,ja,jy,fpOk,foot,kq,allN,memN,jN,jm,js,jw,jv,jt,ju,jg,jh,jf,je,newN,jx,jS,jU,jX,jO,jP,jQ,jz,jA,jE,jB,jC,jn,jD,jF,jG,j7,evX,evL,evB,rd,get,subG,memG,jY,jW,hyps,gob,impP,allP,j5,j2,j4,kp,nth,ke,km,jZ,lenB,kj,jV,entN,setE,j0,addE,setL,setN,putE,env0,eqCs,j9,eqC,bA,bO,bN,bE,negB,kEq,ki,j8,lend,frz,frzL,zRow,kg,kd,closed,jH,j1,binI,remP,remI,retK,retG,kr,retD,ko,resL,resD,oneD,renD,renL,renE,j3,rho,jR,j6,List.append,List.nil_append,List.cons_append,List.append_nil,cond,Nat.reduceBEq,Nat.reduceAdd,Nat.beq]
 rw [ky, ky]
 refine ⟨fun h => ?_, fun h => ?_⟩
 ·have : eqW a b = false := by
   rw [Bool.eq_false_iff]; intro h1
   have := eqW_len h1
   simp at h; omega
  rw [this]
 have hlen : a.length = b.length := by simp at h; omega
 refine kH (α := {i : Nat // i ≤ a.length ∧ eqW a b = eqW (a.drop i) (b.drop i)}) (fun i => ⟨[(1, [], .ls 4 (rcs b)), (2, [], .fn 182 []), (15, [], .ls 4 (rcs a)), (16, [], .int .i64 a.length), (17, [], .int .i64 i.1)], []⟩)
  (fun i => a.length - i.1) ?_ ⟨0, by simp⟩ rfl
 rintro ⟨i, hi, he⟩ I ih
 dsimp only [c_slices_EqualFunc_api_Rect_api_Rect_api_Rect_api_Rect, ku, jo,jK,jT,jr,jI,jM,jq,jJ,jL,iteR,regK,ji,jc,jl,jk,jb,jj,blkK,kt,kh,jd,ja,jy,fpOk,foot,kq,allN,memN,jN,jm,js,jw,jv,jt,ju,jg,jh,jf,je,newN,jx,jS,jU,jX,jO,jP,jQ,jz,jA,jE,jB,jC,jn,jD,jF,jG,j7,evX,evL,evB,rd,get,subG,memG,jY,jW,hyps,gob,impP,allP,j5,j2,j4,kp,nth,ke,km,jZ,lenB,kj,jV,entN,setE,j0,addE,setL,setN,putE,env0,eqCs,j9,eqC,bA,bO,bN,bE,negB,kEq,ki,j8,lend,frz,frzL,zRow,kg,kd,closed,jH,j1,binI,remP,remI,retK,retG,kr,retD,ko,resL,resD,oneD,renD,renL,renE,j3,rho,jR,j6,List.append,List.nil_append,List.cons_append,List.append_nil,cond,Nat.reduceBEq,Nat.reduceAdd,Nat.beq]
 refine ⟨fun hlt => ?_, fun hge => ?_⟩
 ·have hl : i < a.length := by simpa using hlt
  obtain ⟨r, hr⟩ : ∃ r, a[i]? = some r := ⟨_, List.getElem?_eq_getElem hl⟩
  obtain ⟨q, hq⟩ : ∃ q, b[i]? = some q := ⟨_, List.getElem?_eq_getElem (by omega)⟩
  refine ⟨⟨rfl, by omega, by rw [ky]; omega⟩, kB (rD r) (rD r) (qo (by simpa using hr)) rfl ?_⟩
  dsimp only [c_slices_EqualFunc_api_Rect_api_Rect_api_Rect_api_Rect, ku, rD, jo,jK,jT,jr,jI,jM,jq,jJ,jL,iteR,regK,ji,jc,jl,jk,jb,jj,blkK,kt,kh,jd,ja,jy,fpOk,foot,kq,allN,memN,jN,jm,js,jw,jv,jt,ju,jg,jh,jf,je,newN,jx,jS,jU,jX,jO,jP,jQ,jz,jA,jE,jB,jC,jn,jD,jF,jG,j7,evX,evL,evB,rd,get,subG,memG,jY,jW,hyps,gob,impP,allP,j5,j2,j4,kp,nth,ke,km,jZ,lenB,kj,jV,entN,setE,j0,addE,setL,setN,putE,env0,eqCs,j9,eqC,bA,bO,bN,bE,negB,kEq,ki,j8,lend,frz,frzL,zRow,kg,kd,closed,jH,j1,binI,remP,remI,retK,retG,kr,retD,ko,resL,resD,oneD,renD,renL,renE,j3,rho,jR,j6,List.append,List.nil_append,List.cons_append,List.append_nil,cond,Nat.reduceBEq,Nat.reduceAdd,Nat.beq]
  refine ⟨⟨rfl, by omega, by rw [ky]; omega⟩, kB (rD q) (rD q) (qo (by simpa using hq)) rfl ?_⟩
  dsimp only [c_slices_EqualFunc_api_Rect_api_Rect_api_Rect_api_Rect, ku, rD, jo,jK,jT,jr,jI,jM,jq,jJ,jL,iteR,regK,ji,jc,jl,jk,jb,jj,blkK,kt,kh,jd,ja,jy,fpOk,foot,kq,allN,memN,jN,jm,js,jw,jv,jt,ju,jg,jh,jf,je,newN,jx,jS,jU,jX,jO,jP,jQ,jz,jA,jE,jB,jC,jn,jD,jF,jG,j7,evX,evL,evB,rd,get,subG,memG,jY,jW,hyps,gob,impP,allP,j5,j2,j4,kp,nth,ke,km,jZ,lenB,kj,jV,entN,setE,j0,addE,setL,setN,putE,env0,eqCs,j9,eqC,bA,bO,bN,bE,negB,kEq,ki,j8,lend,frz,frzL,zRow,kg,kd,closed,jH,j1,binI,remP,remI,retK,retG,kr,retD,ko,resL,resD,oneD,renD,renL,renE,j3,rho,jR,j6,List.append,List.nil_append,List.cons_append,List.append_nil,cond,Nat.reduceBEq,Nat.reduceAdd,Nat.beq]
  refine kx (sp_rects_1 (a := r) (b := q)) ?_
  dsimp only [c_slices_EqualFunc_api_Rect_api_Rect_api_Rect_api_Rect, ku, jo,jK,jT,jr,jI,jM,jq,jJ,jL,iteR,regK,ji,jc,jl,jk,jb,jj,blkK,kt,kh,jd,ja,jy,fpOk,foot,kq,allN,memN,jN,jm,js,jw,jv,jt,ju,jg,jh,jf,je,newN,jx,jS,jU,jX,jO,jP,jQ,jz,jA,jE,jB,jC,jn,jD,jF,jG,j7,evX,evL,evB,rd,get,subG,memG,jY,jW,hyps,gob,impP,allP,j5,j2,j4,kp,nth,ke,km,jZ,lenB,kj,jV,entN,setE,j0,addE,setL,setN,putE,env0,eqCs,j9,eqC,bA,bO,bN,bE,negB,kEq,ki,j8,lend,frz,frzL,zRow,kg,kd,closed,jH,j1,binI,remP,remI,retK,retG,kr,retD,ko,resL,resD,oneD,renD,renL,renE,j3,rho,jR,j6,List.append,List.nil_append,List.cons_append,List.append_nil,cond,Nat.reduceBEq,Nat.reduceAdd,Nat.beq]
  have hda : a.drop i = r :: a.drop (i + 1) := by
   rw [List.drop_eq_getElem_cons hl]; congr 1; rw [List.getElem?_eq_getElem hl] at hr; exact Option.some.inj hr
  have hdb : b.drop i = q :: b.drop (i + 1) := by
   rw [List.drop_eq_getElem_cons (by omega)]; congr 1; rw [List.getElem?_eq_getElem (by omega)] at hq; exact Option.some.inj hq
  rw [hda, hdb] at he
  simp only [eqW] at he
  refine ⟨fun h1 => ?_, fun h1 => ⟨by simp only [fits]; omega, ?_⟩⟩
  ·have h2 : alkW r q = false := by simpa using h1
   rw [he, h2]; rfl
  ·have h2 : alkW r q = true := by simpa using h1
   rw [h2, Bool.true_and] at he
   exact k9 (ih ⟨i + 1, hl, he⟩ (by dsimp only; omega)) ⟨rfl, rfl, rfl, rfl, by simp [get], trivial⟩ trivial rfl rfl
 ·have hl : ¬ i < a.length := by simpa using hge
  rw [List.drop_eq_nil_of_le (by omega), List.drop_eq_nil_of_le (by omega)] at he
  rw [he]; rfl
/-! ### What comes of the rows -/
def incH (r : Rc) : Rc := ⟨r.x, r.y, r.w, r.h + 1⟩
def Q1 (nx : List Rc) (s : List Rc × List Rc) : List Rc × List Rc := if eqW s.2 nx = true then (s.1, s.2.map incH) else (s.1 ++ s.2, nx)
def rcS (l : List Pt) (y0 : Int) : Nat → List Rc × List Rc
 | 0 => ([], [])
 | k + 1 => Q1 (rowR l (y0 + k)).1 (rcS l y0 k)
structure RcW (l : List Pt) (y0 : Int) (k : Nat) (s : List Rc × List Rc) : Prop where
 n : s.1.length + s.2.length ≤ k * 64
 b : ∀ r ∈ s.1 ++ s.2, (0 ≤ r.x ∧ r.x + r.w ≤ 64) ∧ 1 ≤ r.w ∧ y0 ≤ r.y ∧ r.y + r.h ≤ y0 + k ∧ 1 ≤ r.h
 t : ∀ r ∈ s.2, r.y + r.h = y0 + k
 p : ∀ X Y, pts (s.1 ++ s.2) X Y ↔ (y0 ≤ Y ∧ Y < y0 + k) ∧ Ins l X Y
theorem eqW_pts {y : Int} : ∀ {a b : List Rc}, eqW a b = true → (∀ r ∈ a, 1 ≤ r.h ∧ r.y + r.h = y) → (∀ r ∈ b, r.y = y ∧ r.h = 1) → ∀ X Y, pts (a.map incH) X Y ↔ pts a X Y ∨ pts b X Y
 | [], [], _, _, _, X, Y => by simp [pts]
 | a :: l, b :: r, h, h1, h2, X, Y => by
   simp only [eqW, Bool.and_eq_true] at h
   have ih := eqW_pts h.2 (fun q hq => h1 q (by simp [hq])) (fun q hq => h2 q (by simp [hq])) X Y
   have e1 := h1 a (by simp)
   have e2 := h2 b (by simp)
   have e3 := h.1
   simp only [alkW, Bool.and_eq_true, decide_eq_true_eq] at e3
   have c : ∀ (x : Rc) (m : List Rc), pts (x :: m) X Y ↔ x.has X Y ∨ pts m X Y := fun x m => by simp [pts]
   rw [List.map_cons, c, c, c, ih]
   have key : (incH a).has X Y ↔ a.has X Y ∨ b.has X Y := by
    unfold Rc.has incH
    dsimp only
    omega
   rw [key]
   constructor
   ·rintro ((g | g) | (g | g))
    ·exact .inl (.inl g)
    ·exact .inr (.inl g)
    ·exact .inl (.inr g)
    ·exact .inr (.inr g)
   ·rintro ((g | g) | (g | g))
    ·exact .inl (.inl g)
    ·exact .inr (.inl g)
    ·exact .inl (.inr g)
    ·exact .inr (.inr g)
 | [], _ :: _, h, _, _, _, _ => by simp [eqW] at h
 | _ :: _, [], h, _, _, _, _ => by simp [eqW] at h
theorem rc_ok {l : List Pt} {y0 : Int} (hl : ∀ q ∈ l, Pok2 q) (hn : l.length ≤ 64) : ∀ k, RcW l y0 k (rcS l y0 k)
 | 0 => ⟨by simp [rcS], by simp [rcS], by simp [rcS], fun X Y => by simp [rcS, pts]; omega⟩
 | k + 1 => by
   have ih := rc_ok (y0 := y0) hl hn k
   have hnb := row_b (y := y0 + k) hl
   have hnl := row_len (y := y0 + k) hl
   have hnp : ∀ X Y, pts (rowR l (y0 + k)).1 X Y ↔ Y = y0 + k ∧ Ins l X Y := fun X Y => by
    constructor
    ·intro h
     obtain ⟨r, hr, hh⟩ := h
     have := hnb r hr
     have hY : Y = y0 + k := by unfold Rc.has at hh; omega
     subst hY
     exact ⟨rfl, (row_pts hl).1 ⟨r, hr, hh⟩⟩
    ·rintro ⟨rfl, h⟩; exact (row_pts hl).2 h
   show RcW l y0 (k + 1) (Q1 (rowR l (y0 + k)).1 (rcS l y0 k))
   generalize (rowR l (y0 + k)).1 = nx at *
   generalize rcS l y0 k = s at ih ⊢
   obtain ⟨out, last⟩ := s
   obtain ⟨i1, i2, i3, i4⟩ := ih
   dsimp only at i1 i2 i3 i4
   unfold Q1
   dsimp only
   split
   ·rename_i he
    refine ⟨by dsimp only; rw [List.length_map]; omega, fun r hr => ?_, fun r hr => ?_, fun X Y => ?_⟩
    ·dsimp only at hr
     rcases List.mem_append.1 hr with hr | hr
     ·have := i2 r (List.mem_append_left _ hr); omega
     ·obtain ⟨q, hq, rfl⟩ := List.mem_map.1 hr
      have := i2 q (List.mem_append_right _ hq)
      have := i3 q hq
      unfold incH
      dsimp only
      omega
    ·obtain ⟨q, hq, rfl⟩ := List.mem_map.1 hr
     have := i3 q hq
     unfold incH
     dsimp only
     omega
    ·dsimp only
     have h1 := eqW_pts he (fun r hr => ⟨(i2 r (List.mem_append_right _ hr)).2.2.2.2, i3 r hr⟩) (fun r hr => (hnb r hr).2.2) X Y
     rw [ptsA, h1, ← or_assoc, ← ptsA, i4, hnp]
     constructor
     ·rintro (⟨g1, g2⟩ | ⟨g1, g2⟩)
      ·exact ⟨by omega, g2⟩
      ·exact ⟨by omega, g2⟩
     ·rintro ⟨g1, g2⟩
      by_cases hY : Y = y0 + k
      ·exact .inr ⟨hY, g2⟩
      ·exact .inl ⟨by omega, g2⟩
   ·refine ⟨by dsimp only; rw [List.length_append]; omega, fun r hr => ?_, fun r hr => ?_, fun X Y => ?_⟩
    ·dsimp only at hr
     rcases List.mem_append.1 hr with hr | hr
     ·have := i2 r hr; omega
     ·have := hnb r hr; omega
    ·have := hnb r hr; omega
    ·dsimp only
     rw [ptsA, i4, hnp]
     constructor
     ·rintro (⟨g1, g2⟩ | ⟨g1, g2⟩)
      ·exact ⟨by omega, g2⟩
      ·exact ⟨by omega, g2⟩
     ·rintro ⟨g1, g2⟩
      by_cases hY : Y = y0 + k
      ·exact .inr ⟨hY, g2⟩
      ·exact .inl ⟨by omega, g2⟩
/-! ### The walk -/
theorem sm_Region1 {l : List Pt} {y : Int} (hl : l.length ≤ 64) (hp : ∀ p ∈ l, Pok2 p) (hy : 0 ≤ y ∧ y ≤ 64) :
  TSpM 148 [.int .i64 y, .box 0 0, .box 1 0] [.cells [.int .i64 0], .cells [.ls 2 (pds l)]] (.own 2 1) [.cells [.int .i64 0], .cells [.ls 2 (pds l)], .arr 45 4 1 (rcs (rowR l y).1)] := by
 refine KZ (by rfl) ?_
 dsimp only [c_poly_Region_1, vh, jo,jK,jT,jr,jI,jM,jq,jJ,jL,iteR,regK,ji,jc,jl,jk,jb,jj,blkK,kt,kh,jd,ja,jy,fpOk,foot,kq,allN,memN,jN,jm,js,jw,jv,jt,ju,jg,jh,jf,je,newN,jx,jS,jU,jX,jO,jP,jQ,jz,jA,jE,jB,jC,jn,jD,jF,jG,j7,evX,evL,evB,rd,get,subG,memG,jY,jW,hyps,gob,impP,allP,j5,j2,j4,kp,nth,ke,km,jZ,lenB,kj,jV,entN,setE,j0,addE,setL,setN,putE,env0,eqCs,j9,eqC,bA,bO,bN,bE,negB,kEq,ki,j8,lend,frz,frzL,zRow,kg,kd,closed,jH,j1,binI,remP,remI,retK,retG,kr,retD,ko,resL,resD,oneD,renD,renL,renE,j3,rho,jR,j6,List.append,List.nil_append,List.cons_append,List.append_nil,cond,Nat.reduceBEq,Nat.reduceAdd,Nat.beq]
 refine qm [] (sm_prow hl hp hy (Yt hp)) rfl rfl ?_
 dsimp only [c_poly_Region_1, vh, jo,jK,jT,jr,jI,jM,jq,jJ,jL,iteR,regK,ji,jc,jl,jk,jb,jj,blkK,kt,kh,jd,ja,jy,fpOk,foot,kq,allN,memN,jN,jm,js,jw,jv,jt,ju,jg,jh,jf,je,newN,jx,jS,jU,jX,jO,jP,jQ,jz,jA,jE,jB,jC,jn,jD,jF,jG,j7,evX,evL,evB,rd,get,subG,memG,jY,jW,hyps,gob,impP,allP,j5,j2,j4,kp,nth,ke,km,jZ,lenB,kj,jV,entN,setE,j0,addE,setL,setN,putE,env0,eqCs,j9,eqC,bA,bO,bN,bE,negB,kEq,ki,j8,lend,frz,frzL,zRow,kg,kd,closed,jH,j1,binI,remP,remI,retK,retG,kr,retD,ko,resL,resD,oneD,renD,renL,renE,j3,rho,jR,j6,List.append,List.nil_append,List.cons_append,List.append_nil,cond,Nat.reduceBEq,Nat.reduceAdd,Nat.beq]
 exact Rt.into (bx := [.cells [.int .i64 0], .cells [.ls 2 (pds l)], .arr 45 4 0 []]) (k := 2) rfl (by show 2 ≤ 3; omega) rfl
def incT (l : List Rc) (i : Nat) : List Rc := (l.take i).map incH ++ l.drop i
theorem incT_len (l : List Rc) (i : Nat) : (incT l i).length = l.length := by
 unfold incT
 rw [List.length_append, List.length_map, List.length_take, List.length_drop]; omega
theorem incT_get {l : List Rc} {i : Nat} {r : Rc} (h : l[i]? = some r) : (incT l i)[i]? = some r := by
 have hlt := (List.getElem?_eq_some_iff.1 h).1
 unfold incT
 rw [List.getElem?_append_right (by rw [List.length_map, List.length_take]; omega), List.length_map, List.length_take, Nat.min_eq_left (by omega), Nat.sub_self, List.getElem?_drop, Nat.add_zero]
 exact h
theorem incT_set {l : List Rc} {i : Nat} {r : Rc} (h : l[i]? = some r) : (incT l i).set i (incH r) = incT l (i + 1) := by
 have hlt := (List.getElem?_eq_some_iff.1 h).1
 have hr : l[i] = r := (List.getElem?_eq_some_iff.1 h).2
 unfold incT
 rw [List.set_append_right _ _ (by rw [List.length_map, List.length_take]; omega), List.length_map, List.length_take, Nat.min_eq_left (by omega), Nat.sub_self, List.drop_eq_getElem_cons hlt, List.set_cons_zero, List.take_add_one, h, List.map_append]
 simp
theorem incT_all (l : List Rc) : incT l l.length = l.map incH := by unfold incT; rw [List.take_length, List.drop_length, List.append_nil]
def rcSt (l : List Pt) (yt y : Int) (b : Bool) (out last : List Rc) (vo vl vg : Nat) (g : List D) : St :=
 match b with
 | false => ⟨[(1, [], .int .i64 yt), (2, [], .fn 148 [.box 0 0, .box 1 0]), (7, [], .own 3 vo), (8, [], .own 4 vl), (9, [], .int .i64 y)],
    [.cells [.int .i64 0], .cells [.ls 2 (pds l)], .arr 45 4 vg g, .arr 45 4 vo (rcs out), .arr 45 4 vl (rcs last)]⟩
 | true => ⟨[(1, [], .int .i64 yt), (2, [], .fn 148 [.box 0 0, .box 1 0]), (7, [], .own 3 vo), (8, [], .own 2 vl), (9, [], .int .i64 y)],
    [.cells [.int .i64 0], .cells [.ls 2 (pds l)], .arr 45 4 vl (rcs last), .arr 45 4 vo (rcs out), .arr 45 4 vg g]⟩
theorem sm_rects {l : List Pt} {y0 yt : Int} {n : Nat} (hl : l.length ≤ 64) (hp : ∀ p ∈ l, Pok2 p) (hy0 : 0 ≤ y0) (hyt : yt = y0 + n) (hy : yt ≤ 64) :
  TSpM 147 [.int .i64 y0, .int .i64 yt, .fn 148 [.box 0 0, .box 1 0]] [.cells [.int .i64 0], .cells [.ls 2 (pds l)]] (.ls 4 (rcs ((rcS l y0 n).1 ++ (rcS l y0 n).2))) [.cells [.int .i64 0], .cells [.ls 2 (pds l)]] := by
 refine Vl (by rfl) ?_
 dsimp only [c_poly_rects, qb, jo,jK,jT,jr,jI,jM,jq,jJ,jL,iteR,regK,ji,jc,jl,jk,jb,jj,blkK,kt,kh,jd,ja,jy,fpOk,foot,kq,allN,memN,jN,jm,js,jw,jv,jt,ju,jg,jh,jf,je,newN,jx,jS,jU,jX,jO,jP,jQ,jz,jA,jE,jB,jC,jn,jD,jF,jG,j7,evX,evL,evB,rd,get,subG,memG,jY,jW,hyps,gob,impP,allP,j5,j2,j4,kp,nth,ke,km,jZ,lenB,kj,jV,entN,setE,j0,addE,setL,setN,putE,env0,eqCs,j9,eqC,bA,bO,bN,bE,negB,kEq,ki,j8,lend,frz,frzL,zRow,kg,kd,closed,jH,j1,binI,remP,remI,retK,retG,kr,retD,ko,resL,resD,oneD,renD,renL,renE,j3,rho,jR,j6,List.append,List.nil_append,List.cons_append,List.append_nil,cond,Nat.reduceBEq,Nat.reduceAdd,Nat.beq]
 refine kH (α := {s : Nat × Bool × Nat × Nat × Nat × List D // s.1 ≤ n})
  (fun s => rcSt l yt (y0 + s.1.1) s.1.2.1 (rcS l y0 s.1.1).1 (rcS l y0 s.1.1).2 s.1.2.2.1 s.1.2.2.2.1 s.1.2.2.2.2.1 s.1.2.2.2.2.2)
  (fun s => n - s.1.1) ?_ ⟨(0, false, 0, 0, 0, []), Nat.zero_le _⟩ (by simp [rcSt, rcS, rcs])
 rintro ⟨⟨k, b, vo, vl, vg, g⟩, hk⟩ I ih
 dsimp only at hk ⊢
 have hrk := rc_ok (y0 := y0) hp hl k
 have hag : ∀ b' vo' vl' vg' g', k < n → I (rcSt l yt (y0 + ((k + 1 : Nat) : Int)) b' (Q1 (rowR l (y0 + k)).1 (rcS l y0 k)).1 (Q1 (rowR l (y0 + k)).1 (rcS l y0 k)).2 vo' vl' vg' g') := fun b' vo' vl' vg' g' h => ih ⟨(k + 1, b', vo', vl', vg', g'), h⟩ (by dsimp only; omega)
 have hnl := row_len (y := y0 + k) hp
 have hR1 := fun (h : k < n) => sm_Region1 (y := y0 + k) hl hp (by omega)
 unfold Q1 at hag
 have hfin : k = n → rcS l y0 k = rcS l y0 n := fun h => by rw [h]
 generalize rcS l y0 k = s at *
 obtain ⟨out, last⟩ := s
 obtain ⟨i1, i2, i3, i4⟩ := hrk
 dsimp only at i1 i2 i3 i4 hag ⊢
 generalize (rowR l (y0 + k)).1 = nx at *
 cases b with
 | false =>
   dsimp only [rcSt]
   dsimp only [c_poly_rects, qb, jo,jK,jT,jr,jI,jM,jq,jJ,jL,iteR,regK,ji,jc,jl,jk,jb,jj,blkK,kt,kh,jd,ja,jy,fpOk,foot,kq,allN,memN,jN,jm,js,jw,jv,jt,ju,jg,jh,jf,je,newN,jx,jS,jU,jX,jO,jP,jQ,jz,jA,jE,jB,jC,jn,jD,jF,jG,j7,evX,evL,evB,rd,get,subG,memG,jY,jW,hyps,gob,impP,allP,j5,j2,j4,kp,nth,ke,km,jZ,lenB,kj,jV,entN,setE,j0,addE,setL,setN,putE,env0,eqCs,j9,eqC,bA,bO,bN,bE,negB,kEq,ki,j8,lend,frz,frzL,zRow,kg,kd,closed,jH,j1,binI,remP,remI,retK,retG,kr,retD,ko,resL,resD,oneD,renD,renL,renE,j3,rho,jR,j6,List.append,List.nil_append,List.cons_append,List.append_nil,cond,Nat.reduceBEq,Nat.reduceAdd,Nat.beq]
   refine ⟨fun hlt => ?_, fun hge => ?_⟩
   ·have hkn : k < n := by simp only [decide_eq_true_eq] at hlt; omega
    have hcall : TSpM 148 [.int .i64 (y0 + k), .box 0 0, .box 1 0] [.cells [.int .i64 0], .cells [.ls 2 (pds l)], .arr 45 4 vg g, .arr 45 4 vo (rcs out), .arr 45 4 vl (rcs last)] (.own 2 (vg + 1)) [.cells [.int .i64 0], .cells [.ls 2 (pds l)], .arr 45 4 (vg + 1) (rcs nx), .arr 45 4 vo (rcs out), .arr 45 4 vl (rcs last)] := (SpM.own (bx := [.cells [.int .i64 0], .cells [.ls 2 (pds l)], .arr 45 4 vg g, .arr 45 4 vo (rcs out), .arr 45 4 vl (rcs last)]) (hR1 hkn) [0, 1] rfl rfl rfl).to
     (Rt.into (bx := [.cells [.int .i64 0], .cells [.ls 2 (pds l)], .arr 45 4 vg g, .arr 45 4 vo (rcs out), .arr 45 4 vl (rcs last)]) (k := 2) rfl (by show 5 ≤ 5; omega) rfl)
    refine call_mem _ _ hcall nofun ?_
    dsimp only [c_poly_rects, qb, jo,jK,jT,jr,jI,jM,jq,jJ,jL,iteR,regK,ji,jc,jl,jk,jb,jj,blkK,kt,kh,jd,ja,jy,fpOk,foot,kq,allN,memN,jN,jm,js,jw,jv,jt,ju,jg,jh,jf,je,newN,jx,jS,jU,jX,jO,jP,jQ,jz,jA,jE,jB,jC,jn,jD,jF,jG,j7,evX,evL,evB,rd,get,subG,memG,jY,jW,hyps,gob,impP,allP,j5,j2,j4,kp,nth,ke,km,jZ,lenB,kj,jV,entN,setE,j0,addE,setL,setN,putE,env0,eqCs,j9,eqC,bA,bO,bN,bE,negB,kEq,ki,j8,lend,frz,frzL,zRow,kg,kd,closed,jH,j1,binI,remP,remI,retK,retG,kr,retD,ko,resL,resD,oneD,renD,renL,renE,j3,rho,jR,j6,List.append,List.nil_append,List.cons_append,List.append_nil,cond,Nat.reduceBEq,Nat.reduceAdd,Nat.beq]
    refine Zn (XR (a := last) (b := nx) (by omega)) rfl ⟨rfl, rfl, trivial⟩ rfl ?_
    dsimp only [c_poly_rects, qb, jo,jK,jT,jr,jI,jM,jq,jJ,jL,iteR,regK,ji,jc,jl,jk,jb,jj,blkK,kt,kh,jd,ja,jy,fpOk,foot,kq,allN,memN,jN,jm,js,jw,jv,jt,ju,jg,jh,jf,je,newN,jx,jS,jU,jX,jO,jP,jQ,jz,jA,jE,jB,jC,jn,jD,jF,jG,j7,evX,evL,evB,rd,get,subG,memG,jY,jW,hyps,gob,impP,allP,j5,j2,j4,kp,nth,ke,km,jZ,lenB,kj,jV,entN,setE,j0,addE,setL,setN,putE,env0,eqCs,j9,eqC,bA,bO,bN,bE,negB,kEq,ki,j8,lend,frz,frzL,zRow,kg,kd,closed,jH,j1,binI,remP,remI,retK,retG,kr,retD,ko,resL,resD,oneD,renD,renL,renE,j3,rho,jR,j6,List.append,List.nil_append,List.cons_append,List.append_nil,cond,Nat.reduceBEq,Nat.reduceAdd,Nat.beq]
    refine ⟨fun he => ?_, fun he => ?_⟩
    ·rw [if_pos he] at hag
     refine ⟨rfl, ?_⟩
     rw [ky]
     refine kH (α := {i : Nat // i ≤ last.length})
      (fun i => ⟨[(1, [], .int .i64 yt), (2, [], .fn 148 [.box 0 0, .box 1 0]), (7, [], .own 3 vo), (8, [], .own 4 vl), (9, [], .int .i64 (y0 + k)), (25, [], .int .i64 last.length), (26, [], .int .i64 i.1)], [.cells [.int .i64 0], .cells [.ls 2 (pds l)], .arr 45 4 (vg + 1) (rcs nx), .arr 45 4 vo (rcs out), .arr 45 4 vl (rcs (incT last i.1))]⟩)
      (fun i => last.length - i.1) ?_ ⟨0, Nat.zero_le _⟩ (by simp [incT])
     rintro ⟨i, hi⟩ I2 ih2
     dsimp only at hi ⊢
     dsimp only [c_poly_rects, qb, jo,jK,jT,jr,jI,jM,jq,jJ,jL,iteR,regK,ji,jc,jl,jk,jb,jj,blkK,kt,kh,jd,ja,jy,fpOk,foot,kq,allN,memN,jN,jm,js,jw,jv,jt,ju,jg,jh,jf,je,newN,jx,jS,jU,jX,jO,jP,jQ,jz,jA,jE,jB,jC,jn,jD,jF,jG,j7,evX,evL,evB,rd,get,subG,memG,jY,jW,hyps,gob,impP,allP,j5,j2,j4,kp,nth,ke,km,jZ,lenB,kj,jV,entN,setE,j0,addE,setL,setN,putE,env0,eqCs,j9,eqC,bA,bO,bN,bE,negB,kEq,ki,j8,lend,frz,frzL,zRow,kg,kd,closed,jH,j1,binI,remP,remI,retK,retG,kr,retD,ko,resL,resD,oneD,renD,renL,renE,j3,rho,jR,j6,List.append,List.nil_append,List.cons_append,List.append_nil,cond,Nat.reduceBEq,Nat.reduceAdd,Nat.beq]
     refine ⟨fun hlt2 => ?_, fun hge2 => ?_⟩
     ·have hil : i < last.length := by simpa using hlt2
      obtain ⟨r, hr⟩ : ∃ r, last[i]? = some r := ⟨_, List.getElem?_eq_getElem hil⟩
      have hrb := i2 r (List.mem_append_right _ (List.mem_of_getElem? hr))
      have hgr : (rcs (incT last i))[((i : Nat) : Int).toNat]? = some (rD r) := by rw [Int.toNat_natCast]; exact qo (incT_get hr)
      have hix : (0 : Int) ≤ (i : Int) ∧ (i : Int) < ((rcs (incT last i)).length : Int) := by rw [ky, incT_len]; omega
      refine ⟨⟨rfl, rfl, hix⟩, ⟨rfl, rfl⟩, kB (rD r) (.int .i64 r.h) hgr rfl ?_⟩
      dsimp only [c_poly_rects, qb, jo,jK,jT,jr,jI,jM,jq,jJ,jL,iteR,regK,ji,jc,jl,jk,jb,jj,blkK,kt,kh,jd,ja,jy,fpOk,foot,kq,allN,memN,jN,jm,js,jw,jv,jt,ju,jg,jh,jf,je,newN,jx,jS,jU,jX,jO,jP,jQ,jz,jA,jE,jB,jC,jn,jD,jF,jG,j7,evX,evL,evB,rd,get,subG,memG,jY,jW,hyps,gob,impP,allP,j5,j2,j4,kp,nth,ke,km,jZ,lenB,kj,jV,entN,setE,j0,addE,setL,setN,putE,env0,eqCs,j9,eqC,bA,bO,bN,bE,negB,kEq,ki,j8,lend,frz,frzL,zRow,kg,kd,closed,jH,j1,binI,remP,remI,retK,retG,kr,retD,ko,resL,resD,oneD,renD,renL,renE,j3,rho,jR,j6,List.append,List.nil_append,List.cons_append,List.append_nil,cond,Nat.reduceBEq,Nat.reduceAdd,Nat.beq]
      refine ⟨by simp only [fits]; omega, ⟨rfl, rfl, hix⟩, ⟨rfl, rfl⟩, zd (hs := []) (rD r) (rD (incH r)) hgr rfl ?_⟩
      dsimp only [c_poly_rects, qb, jo,jK,jT,jr,jI,jM,jq,jJ,jL,iteR,regK,ji,jc,jl,jk,jb,jj,blkK,kt,kh,jd,ja,jy,fpOk,foot,kq,allN,memN,jN,jm,js,jw,jv,jt,ju,jg,jh,jf,je,newN,jx,jS,jU,jX,jO,jP,jQ,jz,jA,jE,jB,jC,jn,jD,jF,jG,j7,evX,evL,evB,rd,get,subG,memG,jY,jW,hyps,gob,impP,allP,j5,j2,j4,kp,nth,ke,km,jZ,lenB,kj,jV,entN,setE,j0,addE,setL,setN,putE,env0,eqCs,j9,eqC,bA,bO,bN,bE,negB,kEq,ki,j8,lend,frz,frzL,zRow,kg,kd,closed,jH,j1,binI,remP,remI,retK,retG,kr,retD,ko,resL,resD,oneD,renD,renL,renE,j3,rho,jR,j6,List.append,List.nil_append,List.cons_append,List.append_nil,cond,Nat.reduceBEq,Nat.reduceAdd,Nat.beq]
      have hset : (rcs (incT last i)).set ((i : Nat) : Int).toNat (rD (incH r)) = rcs (incT last (i + 1)) := by rw [Qi, Int.toNat_natCast, incT_set hr]
      rw [hset]
      exact ⟨by simp only [fits]; omega, k9 (ih2 ⟨i + 1, hil⟩ (by dsimp only; omega)) ⟨rfl, rfl, rfl, rfl, rfl, rfl, by simp [get], trivial⟩ ⟨rfl, rfl, rfl, rfl, rfl, trivial⟩ rfl rfl⟩
     ·have hil : i = last.length := by have : ¬ i < last.length := by simpa using hge2
                                       omega
      subst hil
      rw [incT_all]
      exact ⟨by simp only [fits]; omega, k9 (hag false vo vl (vg + 1) (rcs nx) hkn) (by simp [rcSt, subE, get]; omega) ⟨rfl, rfl, rfl, rfl, rfl, trivial⟩ rfl rfl⟩
    ·rw [if_neg (by rw [he]; simp)] at hag
     refine ⟨⟨rfl, rfl, rfl, rfl, rfl, by rw [ky, ky]; omega, by rw [ky, ky]; omega⟩, by simp only [fits]; omega, ?_⟩
     have happ : rcs out ++ rcs last = rcs (out ++ last) := by simp [rcs]
     rw [happ]
     exact k9 (hag true (vo + 1) (vg + 1) vl (rcs last) hkn) (by simp [rcSt, subE, get]; omega) ⟨rfl, rfl, rfl, rfl, rfl, trivial⟩ rfl rfl
   ·have hkn : k = n := by simp only [decide_eq_false_iff_not] at hge; omega
    rw [← hfin hkn]
    refine ⟨⟨rfl, rfl, rfl, rfl, rfl, by rw [ky, ky]; omega, by rw [ky, ky]; omega⟩, ?_⟩
    have happ : rcs out ++ rcs last = rcs (out ++ last) := by simp [rcs]
    rw [happ]
    refine Rt.trans (Rt.frz rfl (by simp)) (Rt.cut (Nat.le_refl _) ⟨rfl, rfl, trivial⟩ rfl rfl)
 | true =>
   dsimp only [rcSt]
   dsimp only [c_poly_rects, qb, jo,jK,jT,jr,jI,jM,jq,jJ,jL,iteR,regK,ji,jc,jl,jk,jb,jj,blkK,kt,kh,jd,ja,jy,fpOk,foot,kq,allN,memN,jN,jm,js,jw,jv,jt,ju,jg,jh,jf,je,newN,jx,jS,jU,jX,jO,jP,jQ,jz,jA,jE,jB,jC,jn,jD,jF,jG,j7,evX,evL,evB,rd,get,subG,memG,jY,jW,hyps,gob,impP,allP,j5,j2,j4,kp,nth,ke,km,jZ,lenB,kj,jV,entN,setE,j0,addE,setL,setN,putE,env0,eqCs,j9,eqC,bA,bO,bN,bE,negB,kEq,ki,j8,lend,frz,frzL,zRow,kg,kd,closed,jH,j1,binI,remP,remI,retK,retG,kr,retD,ko,resL,resD,oneD,renD,renL,renE,j3,rho,jR,j6,List.append,List.nil_append,List.cons_append,List.append_nil,cond,Nat.reduceBEq,Nat.reduceAdd,Nat.beq]
   refine ⟨fun hlt => ?_, fun hge => ?_⟩
   ·have hkn : k < n := by simp only [decide_eq_true_eq] at hlt; omega
    have hcall : TSpM 148 [.int .i64 (y0 + k), .box 0 0, .box 1 0] [.cells [.int .i64 0], .cells [.ls 2 (pds l)], .arr 45 4 vl (rcs last), .arr 45 4 vo (rcs out), .arr 45 4 vg g] (.own 4 (vg + 1)) [.cells [.int .i64 0], .cells [.ls 2 (pds l)], .arr 45 4 vl (rcs last), .arr 45 4 vo (rcs out), .arr 45 4 (vg + 1) (rcs nx)] := (SpM.own (bx := [.cells [.int .i64 0], .cells [.ls 2 (pds l)], .arr 45 4 vl (rcs last), .arr 45 4 vo (rcs out), .arr 45 4 vg g]) (hR1 hkn) [0, 1] rfl rfl rfl).to
     (Rt.into (bx := [.cells [.int .i64 0], .cells [.ls 2 (pds l)], .arr 45 4 vl (rcs last), .arr 45 4 vo (rcs out), .arr 45 4 vg g]) (k := 4) rfl (by show 5 ≤ 5; omega) rfl)
    refine call_mem _ _ hcall nofun ?_
    dsimp only [c_poly_rects, qb, jo,jK,jT,jr,jI,jM,jq,jJ,jL,iteR,regK,ji,jc,jl,jk,jb,jj,blkK,kt,kh,jd,ja,jy,fpOk,foot,kq,allN,memN,jN,jm,js,jw,jv,jt,ju,jg,jh,jf,je,newN,jx,jS,jU,jX,jO,jP,jQ,jz,jA,jE,jB,jC,jn,jD,jF,jG,j7,evX,evL,evB,rd,get,subG,memG,jY,jW,hyps,gob,impP,allP,j5,j2,j4,kp,nth,ke,km,jZ,lenB,kj,jV,entN,setE,j0,addE,setL,setN,putE,env0,eqCs,j9,eqC,bA,bO,bN,bE,negB,kEq,ki,j8,lend,frz,frzL,zRow,kg,kd,closed,jH,j1,binI,remP,remI,retK,retG,kr,retD,ko,resL,resD,oneD,renD,renL,renE,j3,rho,jR,j6,List.append,List.nil_append,List.cons_append,List.append_nil,cond,Nat.reduceBEq,Nat.reduceAdd,Nat.beq]
    refine Zn (XR (a := last) (b := nx) (by omega)) rfl ⟨rfl, rfl, trivial⟩ rfl ?_
    dsimp only [c_poly_rects, qb, jo,jK,jT,jr,jI,jM,jq,jJ,jL,iteR,regK,ji,jc,jl,jk,jb,jj,blkK,kt,kh,jd,ja,jy,fpOk,foot,kq,allN,memN,jN,jm,js,jw,jv,jt,ju,jg,jh,jf,je,newN,jx,jS,jU,jX,jO,jP,jQ,jz,jA,jE,jB,jC,jn,jD,jF,jG,j7,evX,evL,evB,rd,get,subG,memG,jY,jW,hyps,gob,impP,allP,j5,j2,j4,kp,nth,ke,km,jZ,lenB,kj,jV,entN,setE,j0,addE,setL,setN,putE,env0,eqCs,j9,eqC,bA,bO,bN,bE,negB,kEq,ki,j8,lend,frz,frzL,zRow,kg,kd,closed,jH,j1,binI,remP,remI,retK,retG,kr,retD,ko,resL,resD,oneD,renD,renL,renE,j3,rho,jR,j6,List.append,List.nil_append,List.cons_append,List.append_nil,cond,Nat.reduceBEq,Nat.reduceAdd,Nat.beq]
    refine ⟨fun he => ?_, fun he => ?_⟩
    ·rw [if_pos he] at hag
     refine ⟨rfl, ?_⟩
     rw [ky]
     refine kH (α := {i : Nat // i ≤ last.length})
      (fun i => ⟨[(1, [], .int .i64 yt), (2, [], .fn 148 [.box 0 0, .box 1 0]), (7, [], .own 3 vo), (8, [], .own 2 vl), (9, [], .int .i64 (y0 + k)), (25, [], .int .i64 last.length), (26, [], .int .i64 i.1)], [.cells [.int .i64 0], .cells [.ls 2 (pds l)], .arr 45 4 vl (rcs (incT last i.1)), .arr 45 4 vo (rcs out), .arr 45 4 (vg + 1) (rcs nx)]⟩)
      (fun i => last.length - i.1) ?_ ⟨0, Nat.zero_le _⟩ (by simp [incT])
     rintro ⟨i, hi⟩ I2 ih2
     dsimp only at hi ⊢
     dsimp only [c_poly_rects, qb, jo,jK,jT,jr,jI,jM,jq,jJ,jL,iteR,regK,ji,jc,jl,jk,jb,jj,blkK,kt,kh,jd,ja,jy,fpOk,foot,kq,allN,memN,jN,jm,js,jw,jv,jt,ju,jg,jh,jf,je,newN,jx,jS,jU,jX,jO,jP,jQ,jz,jA,jE,jB,jC,jn,jD,jF,jG,j7,evX,evL,evB,rd,get,subG,memG,jY,jW,hyps,gob,impP,allP,j5,j2,j4,kp,nth,ke,km,jZ,lenB,kj,jV,entN,setE,j0,addE,setL,setN,putE,env0,eqCs,j9,eqC,bA,bO,bN,bE,negB,kEq,ki,j8,lend,frz,frzL,zRow,kg,kd,closed,jH,j1,binI,remP,remI,retK,retG,kr,retD,ko,resL,resD,oneD,renD,renL,renE,j3,rho,jR,j6,List.append,List.nil_append,List.cons_append,List.append_nil,cond,Nat.reduceBEq,Nat.reduceAdd,Nat.beq]
     refine ⟨fun hlt2 => ?_, fun hge2 => ?_⟩
     ·have hil : i < last.length := by simpa using hlt2
      obtain ⟨r, hr⟩ : ∃ r, last[i]? = some r := ⟨_, List.getElem?_eq_getElem hil⟩
      have hrb := i2 r (List.mem_append_right _ (List.mem_of_getElem? hr))
      have hgr : (rcs (incT last i))[((i : Nat) : Int).toNat]? = some (rD r) := by rw [Int.toNat_natCast]; exact qo (incT_get hr)
      have hix : (0 : Int) ≤ (i : Int) ∧ (i : Int) < ((rcs (incT last i)).length : Int) := by rw [ky, incT_len]; omega
      refine ⟨⟨rfl, rfl, hix⟩, ⟨rfl, rfl⟩, kB (rD r) (.int .i64 r.h) hgr rfl ?_⟩
      dsimp only [c_poly_rects, qb, jo,jK,jT,jr,jI,jM,jq,jJ,jL,iteR,regK,ji,jc,jl,jk,jb,jj,blkK,kt,kh,jd,ja,jy,fpOk,foot,kq,allN,memN,jN,jm,js,jw,jv,jt,ju,jg,jh,jf,je,newN,jx,jS,jU,jX,jO,jP,jQ,jz,jA,jE,jB,jC,jn,jD,jF,jG,j7,evX,evL,evB,rd,get,subG,memG,jY,jW,hyps,gob,impP,allP,j5,j2,j4,kp,nth,ke,km,jZ,lenB,kj,jV,entN,setE,j0,addE,setL,setN,putE,env0,eqCs,j9,eqC,bA,bO,bN,bE,negB,kEq,ki,j8,lend,frz,frzL,zRow,kg,kd,closed,jH,j1,binI,remP,remI,retK,retG,kr,retD,ko,resL,resD,oneD,renD,renL,renE,j3,rho,jR,j6,List.append,List.nil_append,List.cons_append,List.append_nil,cond,Nat.reduceBEq,Nat.reduceAdd,Nat.beq]
      refine ⟨by simp only [fits]; omega, ⟨rfl, rfl, hix⟩, ⟨rfl, rfl⟩, zd (hs := []) (rD r) (rD (incH r)) hgr rfl ?_⟩
      dsimp only [c_poly_rects, qb, jo,jK,jT,jr,jI,jM,jq,jJ,jL,iteR,regK,ji,jc,jl,jk,jb,jj,blkK,kt,kh,jd,ja,jy,fpOk,foot,kq,allN,memN,jN,jm,js,jw,jv,jt,ju,jg,jh,jf,je,newN,jx,jS,jU,jX,jO,jP,jQ,jz,jA,jE,jB,jC,jn,jD,jF,jG,j7,evX,evL,evB,rd,get,subG,memG,jY,jW,hyps,gob,impP,allP,j5,j2,j4,kp,nth,ke,km,jZ,lenB,kj,jV,entN,setE,j0,addE,setL,setN,putE,env0,eqCs,j9,eqC,bA,bO,bN,bE,negB,kEq,ki,j8,lend,frz,frzL,zRow,kg,kd,closed,jH,j1,binI,remP,remI,retK,retG,kr,retD,ko,resL,resD,oneD,renD,renL,renE,j3,rho,jR,j6,List.append,List.nil_append,List.cons_append,List.append_nil,cond,Nat.reduceBEq,Nat.reduceAdd,Nat.beq]
      have hset : (rcs (incT last i)).set ((i : Nat) : Int).toNat (rD (incH r)) = rcs (incT last (i + 1)) := by rw [Qi, Int.toNat_natCast, incT_set hr]
      rw [hset]
      exact ⟨by simp only [fits]; omega, k9 (ih2 ⟨i + 1, hil⟩ (by dsimp only; omega)) ⟨rfl, rfl, rfl, rfl, rfl, rfl, by simp [get], trivial⟩ ⟨rfl, rfl, rfl, rfl, rfl, trivial⟩ rfl rfl⟩
     ·have hil : i = last.length := by have : ¬ i < last.length := by simpa using hge2
                                       omega
      subst hil
      rw [incT_all]
      exact ⟨by simp only [fits]; omega, k9 (hag true vo vl (vg + 1) (rcs nx) hkn) (by simp [rcSt, subE, get]; omega) ⟨rfl, rfl, rfl, rfl, rfl, trivial⟩ rfl rfl⟩
    ·rw [if_neg (by rw [he]; simp)] at hag
     refine ⟨⟨rfl, rfl, rfl, rfl, rfl, by rw [ky, ky]; omega, by rw [ky, ky]; omega⟩, by simp only [fits]; omega, ?_⟩
     have happ : rcs out ++ rcs last = rcs (out ++ last) := by simp [rcs]
     rw [happ]
     exact k9 (hag false (vo + 1) (vg + 1) vl (rcs last) hkn) (by simp [rcSt, subE, get]; omega) ⟨rfl, rfl, rfl, rfl, rfl, trivial⟩ rfl rfl
   ·have hkn : k = n := by simp only [decide_eq_false_iff_not] at hge; omega
    rw [← hfin hkn]
    refine ⟨⟨rfl, rfl, rfl, rfl, rfl, by rw [ky, ky]; omega, by rw [ky, ky]; omega⟩, ?_⟩
    have happ : rcs out ++ rcs last = rcs (out ++ last) := by simp [rcs]
    rw [happ]
    refine Rt.trans (Rt.frz rfl (by simp)) (Rt.cut (Nat.le_refl _) ⟨rfl, rfl, trivial⟩ rfl rfl)
end Go.AM

