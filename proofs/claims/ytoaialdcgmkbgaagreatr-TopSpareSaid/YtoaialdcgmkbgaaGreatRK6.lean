import Derived.Test.YtoaialdcgmkbgaaGreatRK3
import Derived.Test.YtoaialdcgmkbgaaGreatRQ1

set_option linter.all false
namespace Go.AM
open Go Go.Proofs
theorem sm_spans3 {w h : Nat} {l : List Rc} {F : Nat} {R : (Int → Int → Prop) → List D} {p : Int} (hw : w ≤ 128) (hh : h ≤ 128) (hv : ∀ r ∈ l, Vr r) (hl : l.length ≤ 1048576)
    (hcb : ∀ (Q : Int → Int → Prop) (y a b : Int), 0 ≤ y ∧ y < h → 0 ≤ a ∧ a < b ∧ b ≤ w → TSpM F [.int .i64 y, .int .i64 a, .int .i64 b, .box 0 0, .box 2 0] [.cells [.int .u8 p], .arr 51 1 1 (R Q), .cells [.int .i64 w, .int .i64 h, .own 1 1]] (.tup []) [.cells [.int .u8 p], .arr 51 1 1 (R (fun X Y => Q X Y ∨ (Y = y ∧ a ≤ X ∧ X < b))), .cells [.int .i64 w, .int .i64 h, .own 1 1]]) :
    TSpM 79 [.agg [.int .i64 w, .int .i64 h, .own 1 1], .agg [.ls 4 (rcs l)], .fn F [.box 0 0, .box 2 0]] [.cells [.int .u8 p], .arr 51 1 1 (R (fun _ _ => False)), .cells [.int .i64 w, .int .i64 h, .own 1 1]] (.tup []) [.cells [.int .u8 p], .arr 51 1 1 (R (fun X Y => pts l X Y ∧ inP w h X Y)), .cells [.int .i64 w, .int .i64 h, .own 1 1]] := by
  refine xr (by rfl) ?_
  dsimp only [c_grid_Grid_spans, kM, jo,jK,jT,jr,jI,jM,jq,jJ,jL,iteR,regK,ji,jc,jl,jk,jb,jj,blkK,kr,kh,jd,ja,jy,fpOk,foot,kp,allN,memN,jN,jm,js,jw,jv,jt,ju,jg,jh,jf,je,newN,jx,jS,jU,j2,jO,jP,jQ,jz,jA,jE,jB,jC,jn,jD,jF,jG,j7,evX,evL,evB,rd,get,subG,memG,jW,jY,hyps,gob,impP,allP,j6,j1,j4,ko,nth,ke,km,jX,lenB,kj,jV,entN,setE,jZ,addE,setL,setN,putE,env0,eqCs,j9,eqC,bA,bO,bN,bE,negB,kEq,ki,j8,lend,frz,frzL,zRow,kg,kd,closed,jH,j0,binI,remP,remI,retK,retG,kq,retD,kn,resL,resD,oneD,renD,renL,renE,j3,rho,jR,j5,List.append,List.nil_append,List.cons_append,List.append_nil,cond,Nat.reduceBEq,Nat.reduceAdd,Nat.beq]
  refine kt (x7 (l := rcs l) (by rw [ky]; omega)) ?_
  dsimp only [c_grid_Grid_spans, kM, jo,jK,jT,jr,jI,jM,jq,jJ,jL,iteR,regK,ji,jc,jl,jk,jb,jj,blkK,kr,kh,jd,ja,jy,fpOk,foot,kp,allN,memN,jN,jm,js,jw,jv,jt,ju,jg,jh,jf,je,newN,jx,jS,jU,j2,jO,jP,jQ,jz,jA,jE,jB,jC,jn,jD,jF,jG,j7,evX,evL,evB,rd,get,subG,memG,jW,jY,hyps,gob,impP,allP,j6,j1,j4,ko,nth,ke,km,jX,lenB,kj,jV,entN,setE,jZ,addE,setL,setN,putE,env0,eqCs,j9,eqC,bA,bO,bN,bE,negB,kEq,ki,j8,lend,frz,frzL,zRow,kg,kd,closed,jH,j0,binI,remP,remI,retK,retG,kq,retD,kn,resL,resD,oneD,renD,renL,renE,j3,rho,jR,j5,List.append,List.nil_append,List.cons_append,List.append_nil,cond,Nat.reduceBEq,Nat.reduceAdd,Nat.beq]
  rw [ky]
  have e0 : (fun _ _ => False : Int → Int → Prop) = fun X Y => pts (l.take 0) X Y ∧ inP w h X Y := qf fun x y => by simp [pts]
  rw [e0]
  refine kE (α := {i : Nat // i ≤ l.length})
    (fun i => ⟨[(2, [], .fn F [.box 0 0, .box 2 0]), (3, [], .box 3 0), (12, [], .ls 4 (rcs l)), (13, [], .int .i64 l.length), (14, [], .int .i64 i.1)],
      [.cells [.int .u8 p], .arr 51 1 1 (R (fun X Y => pts (l.take i.1) X Y ∧ inP w h X Y)), .cells [.int .i64 w, .int .i64 h, .own 1 1], .cells [.int .i64 w, .int .i64 h, .own 1 1], .cells [.ls 4 (rcs l)]]⟩)
    (fun i => l.length - i.1) ?_ ⟨0, Nat.zero_le _⟩ rfl
  rintro ⟨i, hi⟩ I ih
  dsimp only at hi ⊢
  dsimp only [c_grid_Grid_spans, kM, jo,jK,jT,jr,jI,jM,jq,jJ,jL,iteR,regK,ji,jc,jl,jk,jb,jj,blkK,kr,kh,jd,ja,jy,fpOk,foot,kp,allN,memN,jN,jm,js,jw,jv,jt,ju,jg,jh,jf,je,newN,jx,jS,jU,j2,jO,jP,jQ,jz,jA,jE,jB,jC,jn,jD,jF,jG,j7,evX,evL,evB,rd,get,subG,memG,jW,jY,hyps,gob,impP,allP,j6,j1,j4,ko,nth,ke,km,jX,lenB,kj,jV,entN,setE,jZ,addE,setL,setN,putE,env0,eqCs,j9,eqC,bA,bO,bN,bE,negB,kEq,ki,j8,lend,frz,frzL,zRow,kg,kd,closed,jH,j0,binI,remP,remI,retK,retG,kq,retD,kn,resL,resD,oneD,renD,renL,renE,j3,rho,jR,j5,List.append,List.nil_append,List.cons_append,List.append_nil,cond,Nat.reduceBEq,Nat.reduceAdd,Nat.beq]
  refine ⟨fun hlt => ?_, fun hge => ?_⟩
  · have hil : i < l.length := by simpa using hlt
    obtain ⟨r, hr⟩ : ∃ r, l[i]? = some r := ⟨_, List.getElem?_eq_getElem hil⟩
    have hV := hv r (List.mem_of_getElem? hr)
    unfold Vr at hV
    have htk : ∀ X Y, pts (l.take (i + 1)) X Y ↔ pts (l.take i) X Y ∨ r.has X Y := fun X Y => by rw [List.take_add_one, hr, Option.toList, ptsA, ptsO]
    have hnext : ∀ Q : Int → Int → Prop, (∀ X Y, Q X Y ↔ pts (l.take (i + 1)) X Y ∧ inP w h X Y) → some' 3 I ⟨[(2, [], .fn F [.box 0 0, .box 2 0]), (3, [], .box 3 0), (12, [], .ls 4 (rcs l)), (13, [], .int .i64 l.length), (14, [], .int .i64 ((i : Int) + 1))], [.cells [.int .u8 p], .arr 51 1 1 (R Q), .cells [.int .i64 w, .int .i64 h, .own 1 1], .cells [.int .i64 w, .int .i64 h, .own 1 1], .cells [.ls 4 (rcs l)], .cells [.int .i64 r.x, .int .i64 r.y, .int .i64 r.w, .int .i64 r.h]]⟩ := fun Q hQ => by
      rw [qf hQ]
      exact qj (ih ⟨i + 1, hil⟩ (by dsimp only; omega)) ⟨rfl, rfl, rfl, rfl, by simp [get], trivial⟩ ⟨rfl, rfl, rfl, rfl, rfl, trivial⟩ rfl rfl
    refine ⟨⟨rfl, by omega, by rw [ky]; omega⟩, kA (rD r) (rD r) (qv (by simpa using hr)) rfl ?_⟩
    dsimp only [c_grid_Grid_spans, kM, rD, jo,jK,jT,jr,jI,jM,jq,jJ,jL,iteR,regK,ji,jc,jl,jk,jb,jj,blkK,kr,kh,jd,ja,jy,fpOk,foot,kp,allN,memN,jN,jm,js,jw,jv,jt,ju,jg,jh,jf,je,newN,jx,jS,jU,j2,jO,jP,jQ,jz,jA,jE,jB,jC,jn,jD,jF,jG,j7,evX,evL,evB,rd,get,subG,memG,jW,jY,hyps,gob,impP,allP,j6,j1,j4,ko,nth,ke,km,jX,lenB,kj,jV,entN,setE,jZ,addE,setL,setN,putE,env0,eqCs,j9,eqC,bA,bO,bN,bE,negB,kEq,ki,j8,lend,frz,frzL,zRow,kg,kd,closed,jH,j0,binI,remP,remI,retK,retG,kq,retD,kn,resL,resD,oneD,renD,renL,renE,j3,rho,jR,j5,List.append,List.nil_append,List.cons_append,List.append_nil,cond,Nat.reduceBEq,Nat.reduceAdd,Nat.beq]
    refine ⟨by simp only [fits]; omega, fun hge => ⟨by simp only [fits]; omega, hnext _ fun X Y => ?_⟩, fun hlt => ?_⟩
    · simp only [decide_eq_true_eq] at hge
      rw [htk]; unfold Rc.has inP
      constructor
      · rintro ⟨h1, h2⟩; exact ⟨.inl h1, h2⟩
      · rintro ⟨h1 | h1, h2⟩
        · exact ⟨h1, h2⟩
        · omega
    have hab : max r.x 0 < min (r.x + r.w) w := by simp only [decide_eq_false_iff_not] at hlt; omega
    have e1 : (fun X Y => pts (l.take i) X Y ∧ inP w h X Y) = fun X Y => (pts (l.take i) X Y ∨ (r.has X Y ∧ Y < max r.y 0)) ∧ inP w h X Y := qf fun X Y => by
      unfold Rc.has inP
      constructor
      · rintro ⟨h1, h2⟩; exact ⟨.inl h1, h2⟩
      · rintro ⟨h1 | h1, h2⟩
        · exact ⟨h1, h2⟩
        · omega
    rw [e1]
    refine kE (α := {y : Int // max r.y 0 ≤ y})
      (fun y => ⟨[(2, [], .fn F [.box 0 0, .box 2 0]), (3, [], .box 3 0), (7, [], .box 5 0), (8, [], .int .i64 (max r.x 0)), (9, [], .int .i64 (min (r.x + r.w) w)), (10, [], .int .i64 y.1), (12, [], .ls 4 (rcs l)), (13, [], .int .i64 l.length), (14, [], .int .i64 i)],
        [.cells [.int .u8 p], .arr 51 1 1 (R (fun X Y => (pts (l.take i) X Y ∨ (r.has X Y ∧ Y < y.1)) ∧ inP w h X Y)), .cells [.int .i64 w, .int .i64 h, .own 1 1], .cells [.int .i64 w, .int .i64 h, .own 1 1], .cells [.ls 4 (rcs l)], .cells [.int .i64 r.x, .int .i64 r.y, .int .i64 r.w, .int .i64 r.h]]⟩)
      (fun y => (r.y + r.h - y.1).toNat) ?_ ⟨max r.y 0, Int.le_refl _⟩ rfl
    rintro ⟨y, hy⟩ I2 ih2
    dsimp only at hy ⊢
    dsimp only [c_grid_Grid_spans, kM, jo,jK,jT,jr,jI,jM,jq,jJ,jL,iteR,regK,ji,jc,jl,jk,jb,jj,blkK,kr,kh,jd,ja,jy,fpOk,foot,kp,allN,memN,jN,jm,js,jw,jv,jt,ju,jg,jh,jf,je,newN,jx,jS,jU,j2,jO,jP,jQ,jz,jA,jE,jB,jC,jn,jD,jF,jG,j7,evX,evL,evB,rd,get,subG,memG,jW,jY,hyps,gob,impP,allP,j6,j1,j4,ko,nth,ke,km,jX,lenB,kj,jV,entN,setE,jZ,addE,setL,setN,putE,env0,eqCs,j9,eqC,bA,bO,bN,bE,negB,kEq,ki,j8,lend,frz,frzL,zRow,kg,kd,closed,jH,j0,binI,remP,remI,retK,retG,kq,retD,kn,resL,resD,oneD,renD,renL,renE,j3,rho,jR,j5,List.append,List.nil_append,List.cons_append,List.append_nil,cond,Nat.reduceBEq,Nat.reduceAdd,Nat.beq]
    refine ⟨by simp only [fits]; omega, fun hlt => ⟨fun hge => ⟨by simp only [fits]; omega, hnext _ fun X Y => ?_⟩, fun hlt2 => ?_⟩, fun hge => ⟨by simp only [fits]; omega, hnext _ fun X Y => ?_⟩⟩
    · simp only [decide_eq_true_eq] at hge
      rw [htk]; unfold Rc.has inP
      constructor
      · rintro ⟨h1 | h1, h2⟩
        · exact ⟨.inl h1, h2⟩
        · exact ⟨.inr h1.1, h2⟩
      · rintro ⟨h1 | h1, h2⟩
        · exact ⟨.inl h1, h2⟩
        · exact ⟨.inr ⟨h1, by omega⟩, h2⟩
    · simp only [decide_eq_true_eq, decide_eq_false_iff_not] at hlt hlt2
      refine qe [0, 1, 2] (hcb _ y _ _ ⟨by omega, by omega⟩ ⟨by omega, hab, by omega⟩) rfl rfl ?_
      dsimp only [c_grid_Grid_spans, kM, jo,jK,jT,jr,jI,jM,jq,jJ,jL,iteR,regK,ji,jc,jl,jk,jb,jj,blkK,kr,kh,jd,ja,jy,fpOk,foot,kp,allN,memN,jN,jm,js,jw,jv,jt,ju,jg,jh,jf,je,newN,jx,jS,jU,j2,jO,jP,jQ,jz,jA,jE,jB,jC,jn,jD,jF,jG,j7,evX,evL,evB,rd,get,subG,memG,jW,jY,hyps,gob,impP,allP,j6,j1,j4,ko,nth,ke,km,jX,lenB,kj,jV,entN,setE,jZ,addE,setL,setN,putE,env0,eqCs,j9,eqC,bA,bO,bN,bE,negB,kEq,ki,j8,lend,frz,frzL,zRow,kg,kd,closed,jH,j0,binI,remP,remI,retK,retG,kq,retD,kn,resL,resD,oneD,renD,renL,renE,j3,rho,jR,j5,List.append,List.nil_append,List.cons_append,List.append_nil,cond,Nat.reduceBEq,Nat.reduceAdd,Nat.beq]
      refine ⟨by simp only [fits]; omega, ?_⟩
      have e2 : (fun X Y => ((pts (l.take i) X Y ∨ (r.has X Y ∧ Y < y)) ∧ inP w h X Y) ∨ (Y = y ∧ max r.x 0 ≤ X ∧ X < min (r.x + r.w) w)) = fun X Y => (pts (l.take i) X Y ∨ (r.has X Y ∧ Y < y + 1)) ∧ inP w h X Y := qf fun X Y => by
        unfold Rc.has inP
        constructor
        · rintro (⟨h1 | h1, h2⟩ | h1)
          · exact ⟨.inl h1, h2⟩
          · exact ⟨.inr ⟨h1.1, by omega⟩, h2⟩
          · exact ⟨.inr ⟨by omega, by omega⟩, by omega⟩
        · rintro ⟨h1 | h1, h2⟩
          · exact .inl ⟨.inl h1, h2⟩
          · by_cases hY : Y = y
            · exact .inr ⟨hY, by omega⟩
            · exact .inl ⟨.inr ⟨h1.1, by omega⟩, h2⟩
      rw [e2]
      exact qj (ih2 ⟨y + 1, by omega⟩ (by dsimp only; omega)) ⟨rfl, rfl, rfl, rfl, rfl, by simp [get], rfl, rfl, rfl, trivial⟩ ⟨rfl, rfl, rfl, rfl, rfl, rfl, trivial⟩ rfl rfl
    · simp only [decide_eq_false_iff_not] at hge
      rw [htk]; unfold Rc.has inP
      constructor
      · rintro ⟨h1 | h1, h2⟩
        · exact ⟨.inl h1, h2⟩
        · exact ⟨.inr h1.1, h2⟩
      · rintro ⟨h1 | h1, h2⟩
        · exact ⟨.inl h1, h2⟩
        · exact ⟨.inr ⟨h1, by omega⟩, h2⟩
  · have hil : i = l.length := by have : ¬ i < l.length := by simpa using hge
                                  omega
    subst hil
    rw [List.take_length]
    exact Rt.cut (Nat.le_refl _) (qX [.cells [.int .u8 p], .arr 51 1 1 (R (fun X Y => pts l X Y ∧ inP w h X Y)), .cells [.int .i64 w, .int .i64 h, .own 1 1]] _) rfl rfl
theorem sm_spans5 {w h : Nat} {l : List Rc} {F : Nat} {R : (Int → Int → Prop) → List D} {w2 h2 x0 y0 : Int} {pix : List D} (hw : w ≤ 128) (hh : h ≤ 128) (hv : ∀ r ∈ l, Vr r) (hl : l.length ≤ 1048576)
    (hcb : ∀ (Q : Int → Int → Prop) (y a b : Int), 0 ≤ y ∧ y < h → 0 ≤ a ∧ a < b ∧ b ≤ w → TSpM F [.int .i64 y, .int .i64 a, .int .i64 b, .box 0 0, .box 1 0, .box 2 0, .box 4 0] [.cells [.int .i64 w2, .int .i64 h2, .ls 1 pix], .cells [.int .i64 x0], .cells [.int .i64 y0], .arr 51 1 1 (R Q), .cells [.int .i64 w, .int .i64 h, .own 3 1]] (.tup []) [.cells [.int .i64 w2, .int .i64 h2, .ls 1 pix], .cells [.int .i64 x0], .cells [.int .i64 y0], .arr 51 1 1 (R (fun X Y => Q X Y ∨ (Y = y ∧ a ≤ X ∧ X < b))), .cells [.int .i64 w, .int .i64 h, .own 3 1]]) :
    TSpM 79 [.agg [.int .i64 w, .int .i64 h, .own 3 1], .agg [.ls 4 (rcs l)], .fn F [.box 0 0, .box 1 0, .box 2 0, .box 4 0]] [.cells [.int .i64 w2, .int .i64 h2, .ls 1 pix], .cells [.int .i64 x0], .cells [.int .i64 y0], .arr 51 1 1 (R (fun _ _ => False)), .cells [.int .i64 w, .int .i64 h, .own 3 1]] (.tup []) [.cells [.int .i64 w2, .int .i64 h2, .ls 1 pix], .cells [.int .i64 x0], .cells [.int .i64 y0], .arr 51 1 1 (R (fun X Y => pts l X Y ∧ inP w h X Y)), .cells [.int .i64 w, .int .i64 h, .own 3 1]] := by
  refine xr (by rfl) ?_
  dsimp only [c_grid_Grid_spans, kM, jo,jK,jT,jr,jI,jM,jq,jJ,jL,iteR,regK,ji,jc,jl,jk,jb,jj,blkK,kr,kh,jd,ja,jy,fpOk,foot,kp,allN,memN,jN,jm,js,jw,jv,jt,ju,jg,jh,jf,je,newN,jx,jS,jU,j2,jO,jP,jQ,jz,jA,jE,jB,jC,jn,jD,jF,jG,j7,evX,evL,evB,rd,get,subG,memG,jW,jY,hyps,gob,impP,allP,j6,j1,j4,ko,nth,ke,km,jX,lenB,kj,jV,entN,setE,jZ,addE,setL,setN,putE,env0,eqCs,j9,eqC,bA,bO,bN,bE,negB,kEq,ki,j8,lend,frz,frzL,zRow,kg,kd,closed,jH,j0,binI,remP,remI,retK,retG,kq,retD,kn,resL,resD,oneD,renD,renL,renE,j3,rho,jR,j5,List.append,List.nil_append,List.cons_append,List.append_nil,cond,Nat.reduceBEq,Nat.reduceAdd,Nat.beq]
  refine kt (x7 (l := rcs l) (by rw [ky]; omega)) ?_
  dsimp only [c_grid_Grid_spans, kM, jo,jK,jT,jr,jI,jM,jq,jJ,jL,iteR,regK,ji,jc,jl,jk,jb,jj,blkK,kr,kh,jd,ja,jy,fpOk,foot,kp,allN,memN,jN,jm,js,jw,jv,jt,ju,jg,jh,jf,je,newN,jx,jS,jU,j2,jO,jP,jQ,jz,jA,jE,jB,jC,jn,jD,jF,jG,j7,evX,evL,evB,rd,get,subG,memG,jW,jY,hyps,gob,impP,allP,j6,j1,j4,ko,nth,ke,km,jX,lenB,kj,jV,entN,setE,jZ,addE,setL,setN,putE,env0,eqCs,j9,eqC,bA,bO,bN,bE,negB,kEq,ki,j8,lend,frz,frzL,zRow,kg,kd,closed,jH,j0,binI,remP,remI,retK,retG,kq,retD,kn,resL,resD,oneD,renD,renL,renE,j3,rho,jR,j5,List.append,List.nil_append,List.cons_append,List.append_nil,cond,Nat.reduceBEq,Nat.reduceAdd,Nat.beq]
  rw [ky]
  have e0 : (fun _ _ => False : Int → Int → Prop) = fun X Y => pts (l.take 0) X Y ∧ inP w h X Y := qf fun x y => by simp [pts]
  rw [e0]
  refine kE (α := {i : Nat // i ≤ l.length})
    (fun i => ⟨[(2, [], .fn F [.box 0 0, .box 1 0, .box 2 0, .box 4 0]), (3, [], .box 5 0), (12, [], .ls 4 (rcs l)), (13, [], .int .i64 l.length), (14, [], .int .i64 i.1)],
      [.cells [.int .i64 w2, .int .i64 h2, .ls 1 pix], .cells [.int .i64 x0], .cells [.int .i64 y0], .arr 51 1 1 (R (fun X Y => pts (l.take i.1) X Y ∧ inP w h X Y)), .cells [.int .i64 w, .int .i64 h, .own 3 1], .cells [.int .i64 w, .int .i64 h, .own 3 1], .cells [.ls 4 (rcs l)]]⟩)
    (fun i => l.length - i.1) ?_ ⟨0, Nat.zero_le _⟩ rfl
  rintro ⟨i, hi⟩ I ih
  dsimp only at hi ⊢
  dsimp only [c_grid_Grid_spans, kM, jo,jK,jT,jr,jI,jM,jq,jJ,jL,iteR,regK,ji,jc,jl,jk,jb,jj,blkK,kr,kh,jd,ja,jy,fpOk,foot,kp,allN,memN,jN,jm,js,jw,jv,jt,ju,jg,jh,jf,je,newN,jx,jS,jU,j2,jO,jP,jQ,jz,jA,jE,jB,jC,jn,jD,jF,jG,j7,evX,evL,evB,rd,get,subG,memG,jW,jY,hyps,gob,impP,allP,j6,j1,j4,ko,nth,ke,km,jX,lenB,kj,jV,entN,setE,jZ,addE,setL,setN,putE,env0,eqCs,j9,eqC,bA,bO,bN,bE,negB,kEq,ki,j8,lend,frz,frzL,zRow,kg,kd,closed,jH,j0,binI,remP,remI,retK,retG,kq,retD,kn,resL,resD,oneD,renD,renL,renE,j3,rho,jR,j5,List.append,List.nil_append,List.cons_append,List.append_nil,cond,Nat.reduceBEq,Nat.reduceAdd,Nat.beq]
  refine ⟨fun hlt => ?_, fun hge => ?_⟩
  · have hil : i < l.length := by simpa using hlt
    obtain ⟨r, hr⟩ : ∃ r, l[i]? = some r := ⟨_, List.getElem?_eq_getElem hil⟩
    have hV := hv r (List.mem_of_getElem? hr)
    unfold Vr at hV
    have htk : ∀ X Y, pts (l.take (i + 1)) X Y ↔ pts (l.take i) X Y ∨ r.has X Y := fun X Y => by rw [List.take_add_one, hr, Option.toList, ptsA, ptsO]
    have hnext : ∀ Q : Int → Int → Prop, (∀ X Y, Q X Y ↔ pts (l.take (i + 1)) X Y ∧ inP w h X Y) → some' 5 I ⟨[(2, [], .fn F [.box 0 0, .box 1 0, .box 2 0, .box 4 0]), (3, [], .box 5 0), (12, [], .ls 4 (rcs l)), (13, [], .int .i64 l.length), (14, [], .int .i64 ((i : Int) + 1))], [.cells [.int .i64 w2, .int .i64 h2, .ls 1 pix], .cells [.int .i64 x0], .cells [.int .i64 y0], .arr 51 1 1 (R Q), .cells [.int .i64 w, .int .i64 h, .own 3 1], .cells [.int .i64 w, .int .i64 h, .own 3 1], .cells [.ls 4 (rcs l)], .cells [.int .i64 r.x, .int .i64 r.y, .int .i64 r.w, .int .i64 r.h]]⟩ := fun Q hQ => by
      rw [qf hQ]
      exact qj (ih ⟨i + 1, hil⟩ (by dsimp only; omega)) ⟨rfl, rfl, rfl, rfl, by simp [get], trivial⟩ ⟨rfl, rfl, rfl, rfl, rfl, rfl, rfl, trivial⟩ rfl rfl
    refine ⟨⟨rfl, by omega, by rw [ky]; omega⟩, kA (rD r) (rD r) (qv (by simpa using hr)) rfl ?_⟩
    dsimp only [c_grid_Grid_spans, kM, rD, jo,jK,jT,jr,jI,jM,jq,jJ,jL,iteR,regK,ji,jc,jl,jk,jb,jj,blkK,kr,kh,jd,ja,jy,fpOk,foot,kp,allN,memN,jN,jm,js,jw,jv,jt,ju,jg,jh,jf,je,newN,jx,jS,jU,j2,jO,jP,jQ,jz,jA,jE,jB,jC,jn,jD,jF,jG,j7,evX,evL,evB,rd,get,subG,memG,jW,jY,hyps,gob,impP,allP,j6,j1,j4,ko,nth,ke,km,jX,lenB,kj,jV,entN,setE,jZ,addE,setL,setN,putE,env0,eqCs,j9,eqC,bA,bO,bN,bE,negB,kEq,ki,j8,lend,frz,frzL,zRow,kg,kd,closed,jH,j0,binI,remP,remI,retK,retG,kq,retD,kn,resL,resD,oneD,renD,renL,renE,j3,rho,jR,j5,List.append,List.nil_append,List.cons_append,List.append_nil,cond,Nat.reduceBEq,Nat.reduceAdd,Nat.beq]
    refine ⟨by simp only [fits]; omega, fun hge => ⟨by simp only [fits]; omega, hnext _ fun X Y => ?_⟩, fun hlt => ?_⟩
    · simp only [decide_eq_true_eq] at hge
      rw [htk]; unfold Rc.has inP
      constructor
      · rintro ⟨h1, h2⟩; exact ⟨.inl h1, h2⟩
      · rintro ⟨h1 | h1, h2⟩
        · exact ⟨h1, h2⟩
        · omega
    have hab : max r.x 0 < min (r.x + r.w) w := by simp only [decide_eq_false_iff_not] at hlt; omega
    have e1 : (fun X Y => pts (l.take i) X Y ∧ inP w h X Y) = fun X Y => (pts (l.take i) X Y ∨ (r.has X Y ∧ Y < max r.y 0)) ∧ inP w h X Y := qf fun X Y => by
      unfold Rc.has inP
      constructor
      · rintro ⟨h1, h2⟩; exact ⟨.inl h1, h2⟩
      · rintro ⟨h1 | h1, h2⟩
        · exact ⟨h1, h2⟩
        · omega
    rw [e1]
    refine kE (α := {y : Int // max r.y 0 ≤ y})
      (fun y => ⟨[(2, [], .fn F [.box 0 0, .box 1 0, .box 2 0, .box 4 0]), (3, [], .box 5 0), (7, [], .box 7 0), (8, [], .int .i64 (max r.x 0)), (9, [], .int .i64 (min (r.x + r.w) w)), (10, [], .int .i64 y.1), (12, [], .ls 4 (rcs l)), (13, [], .int .i64 l.length), (14, [], .int .i64 i)],
        [.cells [.int .i64 w2, .int .i64 h2, .ls 1 pix], .cells [.int .i64 x0], .cells [.int .i64 y0], .arr 51 1 1 (R (fun X Y => (pts (l.take i) X Y ∨ (r.has X Y ∧ Y < y.1)) ∧ inP w h X Y)), .cells [.int .i64 w, .int .i64 h, .own 3 1], .cells [.int .i64 w, .int .i64 h, .own 3 1], .cells [.ls 4 (rcs l)], .cells [.int .i64 r.x, .int .i64 r.y, .int .i64 r.w, .int .i64 r.h]]⟩)
      (fun y => (r.y + r.h - y.1).toNat) ?_ ⟨max r.y 0, Int.le_refl _⟩ rfl
    rintro ⟨y, hy⟩ I2 ih2
    dsimp only at hy ⊢
    dsimp only [c_grid_Grid_spans, kM, jo,jK,jT,jr,jI,jM,jq,jJ,jL,iteR,regK,ji,jc,jl,jk,jb,jj,blkK,kr,kh,jd,ja,jy,fpOk,foot,kp,allN,memN,jN,jm,js,jw,jv,jt,ju,jg,jh,jf,je,newN,jx,jS,jU,j2,jO,jP,jQ,jz,jA,jE,jB,jC,jn,jD,jF,jG,j7,evX,evL,evB,rd,get,subG,memG,jW,jY,hyps,gob,impP,allP,j6,j1,j4,ko,nth,ke,km,jX,lenB,kj,jV,entN,setE,jZ,addE,setL,setN,putE,env0,eqCs,j9,eqC,bA,bO,bN,bE,negB,kEq,ki,j8,lend,frz,frzL,zRow,kg,kd,closed,jH,j0,binI,remP,remI,retK,retG,kq,retD,kn,resL,resD,oneD,renD,renL,renE,j3,rho,jR,j5,List.append,List.nil_append,List.cons_append,List.append_nil,cond,Nat.reduceBEq,Nat.reduceAdd,Nat.beq]
    refine ⟨by simp only [fits]; omega, fun hlt => ⟨fun hge => ⟨by simp only [fits]; omega, hnext _ fun X Y => ?_⟩, fun hlt2 => ?_⟩, fun hge => ⟨by simp only [fits]; omega, hnext _ fun X Y => ?_⟩⟩
    · simp only [decide_eq_true_eq] at hge
      rw [htk]; unfold Rc.has inP
      constructor
      · rintro ⟨h1 | h1, h2⟩
        · exact ⟨.inl h1, h2⟩
        · exact ⟨.inr h1.1, h2⟩
      · rintro ⟨h1 | h1, h2⟩
        · exact ⟨.inl h1, h2⟩
        · exact ⟨.inr ⟨h1, by omega⟩, h2⟩
    · simp only [decide_eq_true_eq, decide_eq_false_iff_not] at hlt hlt2
      refine qe [0, 1, 2, 3, 4] (hcb _ y _ _ ⟨by omega, by omega⟩ ⟨by omega, hab, by omega⟩) rfl rfl ?_
      dsimp only [c_grid_Grid_spans, kM, jo,jK,jT,jr,jI,jM,jq,jJ,jL,iteR,regK,ji,jc,jl,jk,jb,jj,blkK,kr,kh,jd,ja,jy,fpOk,foot,kp,allN,memN,jN,jm,js,jw,jv,jt,ju,jg,jh,jf,je,newN,jx,jS,jU,j2,jO,jP,jQ,jz,jA,jE,jB,jC,jn,jD,jF,jG,j7,evX,evL,evB,rd,get,subG,memG,jW,jY,hyps,gob,impP,allP,j6,j1,j4,ko,nth,ke,km,jX,lenB,kj,jV,entN,setE,jZ,addE,setL,setN,putE,env0,eqCs,j9,eqC,bA,bO,bN,bE,negB,kEq,ki,j8,lend,frz,frzL,zRow,kg,kd,closed,jH,j0,binI,remP,remI,retK,retG,kq,retD,kn,resL,resD,oneD,renD,renL,renE,j3,rho,jR,j5,List.append,List.nil_append,List.cons_append,List.append_nil,cond,Nat.reduceBEq,Nat.reduceAdd,Nat.beq]
      refine ⟨by simp only [fits]; omega, ?_⟩
      have e2 : (fun X Y => ((pts (l.take i) X Y ∨ (r.has X Y ∧ Y < y)) ∧ inP w h X Y) ∨ (Y = y ∧ max r.x 0 ≤ X ∧ X < min (r.x + r.w) w)) = fun X Y => (pts (l.take i) X Y ∨ (r.has X Y ∧ Y < y + 1)) ∧ inP w h X Y := qf fun X Y => by
        unfold Rc.has inP
        constructor
        · rintro (⟨h1 | h1, h2⟩ | h1)
          · exact ⟨.inl h1, h2⟩
          · exact ⟨.inr ⟨h1.1, by omega⟩, h2⟩
          · exact ⟨.inr ⟨by omega, by omega⟩, by omega⟩
        · rintro ⟨h1 | h1, h2⟩
          · exact .inl ⟨.inl h1, h2⟩
          · by_cases hY : Y = y
            · exact .inr ⟨hY, by omega⟩
            · exact .inl ⟨.inr ⟨h1.1, by omega⟩, h2⟩
      rw [e2]
      exact qj (ih2 ⟨y + 1, by omega⟩ (by dsimp only; omega)) ⟨rfl, rfl, rfl, rfl, rfl, by simp [get], rfl, rfl, rfl, trivial⟩ ⟨rfl, rfl, rfl, rfl, rfl, rfl, rfl, rfl, trivial⟩ rfl rfl
    · simp only [decide_eq_false_iff_not] at hge
      rw [htk]; unfold Rc.has inP
      constructor
      · rintro ⟨h1 | h1, h2⟩
        · exact ⟨.inl h1, h2⟩
        · exact ⟨.inr h1.1, h2⟩
      · rintro ⟨h1 | h1, h2⟩
        · exact ⟨.inl h1, h2⟩
        · exact ⟨.inr ⟨h1, by omega⟩, h2⟩
  · have hil : i = l.length := by have : ¬ i < l.length := by simpa using hge
                                  omega
    subst hil
    rw [List.take_length]
    exact Rt.cut (Nat.le_refl _) (qX [.cells [.int .i64 w2, .int .i64 h2, .ls 1 pix], .cells [.int .i64 x0], .cells [.int .i64 y0], .arr 51 1 1 (R (fun X Y => pts l X Y ∧ inP w h X Y)), .cells [.int .i64 w, .int .i64 h, .own 3 1]] _) rfl rfl
end Go.AM

