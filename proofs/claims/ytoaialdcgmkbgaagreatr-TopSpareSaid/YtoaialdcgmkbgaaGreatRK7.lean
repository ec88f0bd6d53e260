import Derived.Test.YtoaialdcgmkbgaaGreatRK6
import Derived.Test.YtoaialdcgmkbgaaGreatRK2

set_option linter.all false
namespace Go.AM
open Go Go.Proofs
theorem onX_congr {Q Q' : Int → Int → Prop} {s f : Px} {x y : Int} (h : Q x y ↔ Q' x y) : onX Q s f x y = onX Q' s f x y := by
  by_cases hq : Q x y
  · rw [zy hq, zy (h.1 hq)]
  · rw [zk hq, zk fun h2 => hq (h.2 h2)]
theorem sm_Fill_1 {w h : Nat} {f : Px} {p : Int} (hw : w ≤ 128) (hh : h ≤ 128) (Q : Int → Int → Prop) (y a b : Int) (hy : 0 ≤ y ∧ y < h) (hab : 0 ≤ a ∧ a < b ∧ b ≤ w) :
    TSpM 163 [.int .i64 y, .int .i64 a, .int .i64 b, .box 0 0, .box 2 0] [.cells [.int .u8 p], .arr 51 1 1 (gl w h (onX Q (fun _ _ => p) f)), .cells [.int .i64 w, .int .i64 h, .own 1 1]] (.tup [])
      [.cells [.int .u8 p], .arr 51 1 1 (gl w h (onX (fun X Y => Q X Y ∨ (Y = y ∧ a ≤ X ∧ X < b)) (fun _ _ => p) f)), .cells [.int .i64 w, .int .i64 h, .own 1 1]] := by
  have hm := kW hw hh
  refine spm_grid_Grid_Fill_1 (by rfl) ?_
  dsimp only [c_grid_Grid_Fill_1, qY, jo,jK,jT,jr,jI,jM,jq,jJ,jL,iteR,regK,ji,jc,jl,jk,jb,jj,blkK,kr,kh,jd,ja,jy,fpOk,foot,kp,allN,memN,jN,jm,js,jw,jv,jt,ju,jg,jh,jf,je,newN,jx,jS,jU,j2,jO,jP,jQ,jz,jA,jE,jB,jC,jn,jD,jF,jG,j7,evX,evL,evB,rd,get,subG,memG,jW,jY,hyps,gob,impP,allP,j6,j1,j4,ko,nth,ke,km,jX,lenB,kj,jV,entN,setE,jZ,addE,setL,setN,putE,env0,eqCs,j9,eqC,bA,bO,bN,bE,negB,kEq,ki,j8,lend,frz,frzL,zRow,kg,kd,closed,jH,j0,binI,remP,remI,retK,retG,kq,retD,kn,resL,resD,oneD,renD,renL,renE,j3,rho,jR,j5,List.append,List.nil_append,List.cons_append,List.append_nil,cond,Nat.reduceBEq,Nat.reduceAdd,Nat.beq]
  have e0 : Q = fun X Y => Q X Y ∨ (Y = y ∧ a ≤ X ∧ X < a) := qf fun X Y => ⟨.inl, fun h => h.elim id fun h => by omega⟩
  refine kE (α := {x : Int // a ≤ x ∧ x ≤ b})
    (fun x => ⟨[(0, [], .int .i64 y), (2, [], .int .i64 b), (3, [], .box 0 0), (4, [], .box 2 0), (8, [], .int .i64 x.1)], [.cells [.int .u8 p], .arr 51 1 1 (gl w h (onX (fun X Y => Q X Y ∨ (Y = y ∧ a ≤ X ∧ X < x.1)) (fun _ _ => p) f)), .cells [.int .i64 w, .int .i64 h, .own 1 1]]⟩)
    (fun x => (b - x.1).toNat) ?_ ⟨a, by omega⟩ (by dsimp only; rw [← e0])
  rintro ⟨x, hx⟩ I ih
  dsimp only at hx ⊢
  dsimp only [c_grid_Grid_Fill_1, qY, jo,jK,jT,jr,jI,jM,jq,jJ,jL,iteR,regK,ji,jc,jl,jk,jb,jj,blkK,kr,kh,jd,ja,jy,fpOk,foot,kp,allN,memN,jN,jm,js,jw,jv,jt,ju,jg,jh,jf,je,newN,jx,jS,jU,j2,jO,jP,jQ,jz,jA,jE,jB,jC,jn,jD,jF,jG,j7,evX,evL,evB,rd,get,subG,memG,jW,jY,hyps,gob,impP,allP,j6,j1,j4,ko,nth,ke,km,jX,lenB,kj,jV,entN,setE,jZ,addE,setL,setN,putE,env0,eqCs,j9,eqC,bA,bO,bN,bE,negB,kEq,ki,j8,lend,frz,frzL,zRow,kg,kd,closed,jH,j0,binI,remP,remI,retK,retG,kq,retD,kn,resL,resD,oneD,renD,renL,renE,j3,rho,jR,j5,List.append,List.nil_append,List.cons_append,List.append_nil,cond,Nat.reduceBEq,Nat.reduceAdd,Nat.beq]
  refine ⟨fun hlt => ?_, fun hge => ?_⟩
  · simp only [decide_eq_true_eq] at hlt
    have hp : inP w h x y := ⟨by omega, hy⟩
    obtain ⟨h1, h2, h3, h4⟩ := xK hp
    refine ⟨by simp only [fits]; omega, by simp only [fits]; omega, ⟨rfl, rfl, h1, by rw [zf]; exact h2⟩, ⟨rfl, rfl⟩, qD (hs := []) _ _ (gl_get hp) rfl ?_⟩
    dsimp only [c_grid_Grid_Fill_1, qY, jo,jK,jT,jr,jI,jM,jq,jJ,jL,iteR,regK,ji,jc,jl,jk,jb,jj,blkK,kr,kh,jd,ja,jy,fpOk,foot,kp,allN,memN,jN,jm,js,jw,jv,jt,ju,jg,jh,jf,je,newN,jx,jS,jU,j2,jO,jP,jQ,jz,jA,jE,jB,jC,jn,jD,jF,jG,j7,evX,evL,evB,rd,get,subG,memG,jW,jY,hyps,gob,impP,allP,j6,j1,j4,ko,nth,ke,km,jX,lenB,kj,jV,entN,setE,jZ,addE,setL,setN,putE,env0,eqCs,j9,eqC,bA,bO,bN,bE,negB,kEq,ki,j8,lend,frz,frzL,zRow,kg,kd,closed,jH,j0,binI,remP,remI,retK,retG,kq,retD,kn,resL,resD,oneD,renD,renL,renE,j3,rho,jR,j5,List.append,List.nil_append,List.cons_append,List.append_nil,cond,Nat.reduceBEq,Nat.reduceAdd,Nat.beq]
    have e1 := onX_upd (Q := fun X Y => Q X Y ∨ (Y = y ∧ a ≤ X ∧ X < x)) (s := fun _ _ => p) (f := f) (x := x) (y := y)
    rw [gl_set hp, e1]
    have e2 : (fun X Y => (Q X Y ∨ (Y = y ∧ a ≤ X ∧ X < x)) ∨ (Y = y ∧ X = x)) = fun X Y => Q X Y ∨ (Y = y ∧ a ≤ X ∧ X < x + 1) := qf fun X Y => by
      constructor
      · rintro ((h | h) | h)
        · exact .inl h
        · exact .inr (by omega)
        · exact .inr (by omega)
      · rintro (h | h)
        · exact .inl (.inl h)
        · by_cases hX : X = x
          · exact .inr (by omega)
          · exact .inl (.inr (by omega))
    rw [e2]
    exact ⟨by simp only [fits]; omega, qj (ih ⟨x + 1, by omega⟩ (by dsimp only; omega)) ⟨rfl, rfl, rfl, rfl, by simp [get], trivial⟩ ⟨rfl, rfl, rfl, trivial⟩ rfl rfl⟩
  · simp only [decide_eq_false_iff_not] at hge
    have : x = b := by omega
    subst this
    exact Rt.id
theorem sp_Fill {w h : Nat} {f : Px} {p : Int} {P : Int → Int → Prop} (hw : w ≤ 128) (hh : h ≤ 128) (hP : Bdd P) (hl : (reg P).length ≤ 1048576) :
    TSp 113 [gD w h f, .agg [.ls 4 (rcs (reg P))], .int .u8 p] (gD w h (onX P (fun _ _ => p) f)) := by
  have hm := kW hw hh
  refine spo_grid_Grid_Fill (by rfl) ?_
  dsimp only [c_grid_Grid_Fill, zd, jo,jK,jT,jr,jI,jM,jq,jJ,jL,iteR,regK,ji,jc,jl,jk,jb,jj,blkK,kr,kh,jd,ja,jy,fpOk,foot,kp,allN,memN,jN,jm,js,jw,jv,jt,ju,jg,jh,jf,je,newN,jx,jS,jU,j2,jO,jP,jQ,jz,jA,jE,jB,jC,jn,jD,jF,jG,j7,evX,evL,evB,rd,get,subG,memG,jW,jY,hyps,gob,impP,allP,j6,j1,j4,ko,nth,ke,km,jX,lenB,kj,jV,entN,setE,jZ,addE,setL,setN,putE,env0,eqCs,j9,eqC,bA,bO,bN,bE,negB,kEq,ki,j8,lend,frz,frzL,zRow,kg,kd,closed,jH,j0,binI,remP,remI,retK,retG,kq,retD,kn,resL,resD,oneD,renD,renL,renE,j3,rho,jR,j5,List.append,List.nil_append,List.cons_append,List.append_nil,cond,Nat.reduceBEq,Nat.reduceAdd,Nat.beq]
  refine qe [] (sm_twin hw hh) rfl rfl ?_
  dsimp only [c_grid_Grid_Fill, zd, jo,jK,jT,jr,jI,jM,jq,jJ,jL,iteR,regK,ji,jc,jl,jk,jb,jj,blkK,kr,kh,jd,ja,jy,fpOk,foot,kp,allN,memN,jN,jm,js,jw,jv,jt,ju,jg,jh,jf,je,newN,jx,jS,jU,j2,jO,jP,jQ,jz,jA,jE,jB,jC,jn,jD,jF,jG,j7,evX,evL,evB,rd,get,subG,memG,jW,jY,hyps,gob,impP,allP,j6,j1,j4,ko,nth,ke,km,jX,lenB,kj,jV,entN,setE,jZ,addE,setL,setN,putE,env0,eqCs,j9,eqC,bA,bO,bN,bE,negB,kEq,ki,j8,lend,frz,frzL,zRow,kg,kd,closed,jH,j0,binI,remP,remI,retK,retG,kq,retD,kn,resL,resD,oneD,renD,renL,renE,j3,rho,jR,j5,List.append,List.nil_append,List.cons_append,List.append_nil,cond,Nat.reduceBEq,Nat.reduceAdd,Nat.beq]
  have hsp := sm_spans3 (R := fun Q => gl w h (onX Q (fun _ _ => p) f)) (p := p) hw hh (reg_Vr hP) hl (fun Q y a b hy hab => sm_Fill_1 hw hh Q y a b hy hab)
  rw [onX_no] at hsp
  refine qe [2, 4, 5] hsp rfl rfl ?_
  dsimp only [c_grid_Grid_Fill, zd, jo,jK,jT,jr,jI,jM,jq,jJ,jL,iteR,regK,ji,jc,jl,jk,jb,jj,blkK,kr,kh,jd,ja,jy,fpOk,foot,kp,allN,memN,jN,jm,js,jw,jv,jt,ju,jg,jh,jf,je,newN,jx,jS,jU,j2,jO,jP,jQ,jz,jA,jE,jB,jC,jn,jD,jF,jG,j7,evX,evL,evB,rd,get,subG,memG,jW,jY,hyps,gob,impP,allP,j6,j1,j4,ko,nth,ke,km,jX,lenB,kj,jV,entN,setE,jZ,addE,setL,setN,putE,env0,eqCs,j9,eqC,bA,bO,bN,bE,negB,kEq,ki,j8,lend,frz,frzL,zRow,kg,kd,closed,jH,j0,binI,remP,remI,retK,retG,kq,retD,kn,resL,resD,oneD,renD,renL,renE,j3,rho,jR,j5,List.append,List.nil_append,List.cons_append,List.append_nil,cond,Nat.reduceBEq,Nat.reduceAdd,Nat.beq]
  have : gl w h (onX (fun X Y => pts (reg P) X Y ∧ inP w h X Y) (fun _ _ => p) f) = gl w h (onX P (fun _ _ => p) f) := xT fun x y hp => by
    exact onX_congr (by (try dsimp only); rw [z8 hP]; exact ⟨fun h => h.1, fun h => ⟨h, hp⟩⟩)
  rw [this]
  exact ⟨rfl, rfl⟩
noncomputable def layX (w2 h2 : Nat) (f2 : Px) (x0 y0 : Int) (Q : Int → Int → Prop) (f : Px) : Px := onX (fun X Y => Q X Y ∧ inP w2 h2 (X - x0) (Y - y0)) (fun X Y => f2 (X - x0) (Y - y0)) f
theorem sm_Lay_1 {w h w2 h2 : Nat} {f f2 : Px} {x0 y0 : Int} (hw : w ≤ 128) (hh : h ≤ 128) (hw2 : w2 ≤ 128) (hh2 : h2 ≤ 128) (hx0 : -1048576 ≤ x0 ∧ x0 ≤ 1048576) (hy0 : -1048576 ≤ y0 ∧ y0 ≤ 1048576) (Q : Int → Int → Prop) (y a b : Int) (hy : 0 ≤ y ∧ y < h) (hab : 0 ≤ a ∧ a < b ∧ b ≤ w) :
    TSpM 80 [.int .i64 y, .int .i64 a, .int .i64 b, .box 0 0, .box 1 0, .box 2 0, .box 4 0]
      [.cells [.int .i64 w2, .int .i64 h2, .ls 1 (gl w2 h2 f2)], .cells [.int .i64 x0], .cells [.int .i64 y0], .arr 51 1 1 (gl w h (layX w2 h2 f2 x0 y0 Q f)), .cells [.int .i64 w, .int .i64 h, .own 3 1]] (.tup [])
      [.cells [.int .i64 w2, .int .i64 h2, .ls 1 (gl w2 h2 f2)], .cells [.int .i64 x0], .cells [.int .i64 y0], .arr 51 1 1 (gl w h (layX w2 h2 f2 x0 y0 (fun X Y => Q X Y ∨ (Y = y ∧ a ≤ X ∧ X < b)) f)), .cells [.int .i64 w, .int .i64 h, .own 3 1]] := by
  have hm := kW hw hh
  refine spm_grid_Grid_Lay_1 (by rfl) ?_
  dsimp only [c_grid_Grid_Lay_1, qC, jo,jK,jT,jr,jI,jM,jq,jJ,jL,iteR,regK,ji,jc,jl,jk,jb,jj,blkK,kr,kh,jd,ja,jy,fpOk,foot,kp,allN,memN,jN,jm,js,jw,jv,jt,ju,jg,jh,jf,je,newN,jx,jS,jU,j2,jO,jP,jQ,jz,jA,jE,jB,jC,jn,jD,jF,jG,j7,evX,evL,evB,rd,get,subG,memG,jW,jY,hyps,gob,impP,allP,j6,j1,j4,ko,nth,ke,km,jX,lenB,kj,jV,entN,setE,jZ,addE,setL,setN,putE,env0,eqCs,j9,eqC,bA,bO,bN,bE,negB,kEq,ki,j8,lend,frz,frzL,zRow,kg,kd,closed,jH,j0,binI,remP,remI,retK,retG,kq,retD,kn,resL,resD,oneD,renD,renL,renE,j3,rho,jR,j5,List.append,List.nil_append,List.cons_append,List.append_nil,cond,Nat.reduceBEq,Nat.reduceAdd,Nat.beq]
  have e0 : Q = fun X Y => Q X Y ∨ (Y = y ∧ a ≤ X ∧ X < a) := qf fun X Y => ⟨.inl, fun h => h.elim id fun h => by omega⟩
  refine kE (α := {x : Int // a ≤ x ∧ x ≤ b})
    (fun x => ⟨[(0, [], .int .i64 y), (2, [], .int .i64 b), (3, [], .box 0 0), (4, [], .box 1 0), (5, [], .box 2 0), (6, [], .box 4 0), (10, [], .int .i64 x.1)],
      [.cells [.int .i64 w2, .int .i64 h2, .ls 1 (gl w2 h2 f2)], .cells [.int .i64 x0], .cells [.int .i64 y0], .arr 51 1 1 (gl w h (layX w2 h2 f2 x0 y0 (fun X Y => Q X Y ∨ (Y = y ∧ a ≤ X ∧ X < x.1)) f)), .cells [.int .i64 w, .int .i64 h, .own 3 1]]⟩)
    (fun x => (b - x.1).toNat) ?_ ⟨a, by omega⟩ (by dsimp only; rw [← e0])
  rintro ⟨x, hx⟩ I ih
  dsimp only at hx ⊢
  dsimp only [c_grid_Grid_Lay_1, qC, jo,jK,jT,jr,jI,jM,jq,jJ,jL,iteR,regK,ji,jc,jl,jk,jb,jj,blkK,kr,kh,jd,ja,jy,fpOk,foot,kp,allN,memN,jN,jm,js,jw,jv,jt,ju,jg,jh,jf,je,newN,jx,jS,jU,j2,jO,jP,jQ,jz,jA,jE,jB,jC,jn,jD,jF,jG,j7,evX,evL,evB,rd,get,subG,memG,jW,jY,hyps,gob,impP,allP,j6,j1,j4,ko,nth,ke,km,jX,lenB,kj,jV,entN,setE,jZ,addE,setL,setN,putE,env0,eqCs,j9,eqC,bA,bO,bN,bE,negB,kEq,ki,j8,lend,frz,frzL,zRow,kg,kd,closed,jH,j0,binI,remP,remI,retK,retG,kq,retD,kn,resL,resD,oneD,renD,renL,renE,j3,rho,jR,j5,List.append,List.nil_append,List.cons_append,List.append_nil,cond,Nat.reduceBEq,Nat.reduceAdd,Nat.beq]
  have e2 : (fun X Y => (Q X Y ∨ (Y = y ∧ a ≤ X ∧ X < x)) ∨ (Y = y ∧ X = x)) = fun X Y => Q X Y ∨ (Y = y ∧ a ≤ X ∧ X < x + 1) := qf fun X Y => by
    constructor
    · rintro ((h | h) | h)
      · exact .inl h
      · exact .inr (by omega)
      · exact .inr (by omega)
    · rintro (h | h)
      · exact .inl (.inl h)
      · by_cases hX : X = x
        · exact .inr (by omega)
        · exact .inl (.inr (by omega))
  refine ⟨fun hlt => ?_, fun hge => ?_⟩
  · simp only [decide_eq_true_eq] at hlt
    have hp : inP w h x y := ⟨by omega, hy⟩
    obtain ⟨g1, g2, g3, g4⟩ := xK hp
    refine ⟨by simp only [fits]; omega, by simp only [fits]; omega, kt sp_has ?_⟩
    dsimp only [c_grid_Grid_Lay_1, qC, jo,jK,jT,jr,jI,jM,jq,jJ,jL,iteR,regK,ji,jc,jl,jk,jb,jj,blkK,kr,kh,jd,ja,jy,fpOk,foot,kp,allN,memN,jN,jm,js,jw,jv,jt,ju,jg,jh,jf,je,newN,jx,jS,jU,j2,jO,jP,jQ,jz,jA,jE,jB,jC,jn,jD,jF,jG,j7,evX,evL,evB,rd,get,subG,memG,jW,jY,hyps,gob,impP,allP,j6,j1,j4,ko,nth,ke,km,jX,lenB,kj,jV,entN,setE,jZ,addE,setL,setN,putE,env0,eqCs,j9,eqC,bA,bO,bN,bE,negB,kEq,ki,j8,lend,frz,frzL,zRow,kg,kd,closed,jH,j0,binI,remP,remI,retK,retG,kq,retD,kn,resL,resD,oneD,renD,renL,renE,j3,rho,jR,j5,List.append,List.nil_append,List.cons_append,List.append_nil,cond,Nat.reduceBEq,Nat.reduceAdd,Nat.beq]
    refine ⟨fun hyes => ?_, fun hno => ?_⟩
    · have hp2 := has_iff.1 hyes
      refine ⟨by simp only [fits]; omega, by simp only [fits]; omega, by simp only [fits]; omega, by simp only [fits]; omega, kt (sp_At hw2 hh2 hp2) ?_⟩
      dsimp only [c_grid_Grid_Lay_1, qC, jo,jK,jT,jr,jI,jM,jq,jJ,jL,iteR,regK,ji,jc,jl,jk,jb,jj,blkK,kr,kh,jd,ja,jy,fpOk,foot,kp,allN,memN,jN,jm,js,jw,jv,jt,ju,jg,jh,jf,je,newN,jx,jS,jU,j2,jO,jP,jQ,jz,jA,jE,jB,jC,jn,jD,jF,jG,j7,evX,evL,evB,rd,get,subG,memG,jW,jY,hyps,gob,impP,allP,j6,j1,j4,ko,nth,ke,km,jX,lenB,kj,jV,entN,setE,jZ,addE,setL,setN,putE,env0,eqCs,j9,eqC,bA,bO,bN,bE,negB,kEq,ki,j8,lend,frz,frzL,zRow,kg,kd,closed,jH,j0,binI,remP,remI,retK,retG,kq,retD,kn,resL,resD,oneD,renD,renL,renE,j3,rho,jR,j5,List.append,List.nil_append,List.cons_append,List.append_nil,cond,Nat.reduceBEq,Nat.reduceAdd,Nat.beq]
      refine ⟨⟨rfl, rfl, g1, by rw [zf]; exact g2⟩, ⟨rfl, rfl⟩, qD (hs := []) _ _ (gl_get hp) rfl ?_⟩
      dsimp only [c_grid_Grid_Lay_1, qC, jo,jK,jT,jr,jI,jM,jq,jJ,jL,iteR,regK,ji,jc,jl,jk,jb,jj,blkK,kr,kh,jd,ja,jy,fpOk,foot,kp,allN,memN,jN,jm,js,jw,jv,jt,ju,jg,jh,jf,je,newN,jx,jS,jU,j2,jO,jP,jQ,jz,jA,jE,jB,jC,jn,jD,jF,jG,j7,evX,evL,evB,rd,get,subG,memG,jW,jY,hyps,gob,impP,allP,j6,j1,j4,ko,nth,ke,km,jX,lenB,kj,jV,entN,setE,jZ,addE,setL,setN,putE,env0,eqCs,j9,eqC,bA,bO,bN,bE,negB,kEq,ki,j8,lend,frz,frzL,zRow,kg,kd,closed,jH,j0,binI,remP,remI,retK,retG,kq,retD,kn,resL,resD,oneD,renD,renL,renE,j3,rho,jR,j5,List.append,List.nil_append,List.cons_append,List.append_nil,cond,Nat.reduceBEq,Nat.reduceAdd,Nat.beq]
      have e1 : updX (layX w2 h2 f2 x0 y0 (fun X Y => Q X Y ∨ (Y = y ∧ a ≤ X ∧ X < x)) f) x y (f2 (x - x0) (y - y0)) = layX w2 h2 f2 x0 y0 (fun X Y => Q X Y ∨ (Y = y ∧ a ≤ X ∧ X < x + 1)) f := by
        unfold layX
        have := onX_upd (Q := fun X Y => (Q X Y ∨ (Y = y ∧ a ≤ X ∧ X < x)) ∧ inP w2 h2 (X - x0) (Y - y0)) (s := fun X Y => f2 (X - x0) (Y - y0)) (f := f) (x := x) (y := y)
        rw [this, ← e2]
        congr 1
        refine qf fun X Y => ?_
        constructor
        · rintro (⟨h5, h6⟩ | h5)
          · exact ⟨.inl h5, h6⟩
          · obtain ⟨rfl, rfl⟩ := h5
            exact ⟨.inr ⟨rfl, rfl⟩, hp2⟩
        · rintro ⟨h5 | h5, h6⟩
          · exact .inl ⟨h5, h6⟩
          · exact .inr h5
      rw [gl_set hp, e1]
      exact ⟨by simp only [fits]; omega, qj (ih ⟨x + 1, by omega⟩ (by dsimp only; omega)) ⟨rfl, rfl, rfl, rfl, rfl, rfl, by simp [get], trivial⟩ ⟨rfl, rfl, rfl, rfl, rfl, trivial⟩ rfl rfl⟩
    · have hp2 : ¬ inP w2 h2 (x - x0) (y - y0) := fun hp2 => by rw [has_yes hp2] at hno; cases hno
      have e1 : layX w2 h2 f2 x0 y0 (fun X Y => Q X Y ∨ (Y = y ∧ a ≤ X ∧ X < x)) f = layX w2 h2 f2 x0 y0 (fun X Y => Q X Y ∨ (Y = y ∧ a ≤ X ∧ X < x + 1)) f := by
        unfold layX
        rw [← e2]
        congr 1
        refine qf fun X Y => ?_
        constructor
        · rintro ⟨h5, h6⟩; exact ⟨.inl h5, h6⟩
        · rintro ⟨h5 | h5, h6⟩
          · exact ⟨h5, h6⟩
          · obtain ⟨rfl, rfl⟩ := h5
            exact absurd h6 hp2
      rw [e1]
      exact ⟨by simp only [fits]; omega, qj (ih ⟨x + 1, by omega⟩ (by dsimp only; omega)) ⟨rfl, rfl, rfl, rfl, rfl, rfl, by simp [get], trivial⟩ ⟨rfl, rfl, rfl, rfl, rfl, trivial⟩ rfl rfl⟩
  · simp only [decide_eq_false_iff_not] at hge
    have : x = b := by omega
    subst this
    exact Rt.id
theorem sp_Lay {w h w2 h2 : Nat} {f f2 : Px} {x0 y0 : Int} {P : Int → Int → Prop} (hw : w ≤ 128) (hh : h ≤ 128) (hw2 : w2 ≤ 128) (hh2 : h2 ≤ 128) (hx0 : -1048576 ≤ x0 ∧ x0 ≤ 1048576) (hy0 : -1048576 ≤ y0 ∧ y0 ≤ 1048576) (hP : Bdd P) (hl : (reg P).length ≤ 1048576) :
    TSp 21 [gD w h f, gD w2 h2 f2, .int .i64 x0, .int .i64 y0, .agg [.ls 4 (rcs (reg P))]] (gD w h (layX w2 h2 f2 x0 y0 P f)) := by
  have hm := kW hw hh
  refine spo_grid_Grid_Lay (by rfl) ?_
  dsimp only [c_grid_Grid_Lay, qQ, jo,jK,jT,jr,jI,jM,jq,jJ,jL,iteR,regK,ji,jc,jl,jk,jb,jj,blkK,kr,kh,jd,ja,jy,fpOk,foot,kp,allN,memN,jN,jm,js,jw,jv,jt,ju,jg,jh,jf,je,newN,jx,jS,jU,j2,jO,jP,jQ,jz,jA,jE,jB,jC,jn,jD,jF,jG,j7,evX,evL,evB,rd,get,subG,memG,jW,jY,hyps,gob,impP,allP,j6,j1,j4,ko,nth,ke,km,jX,lenB,kj,jV,entN,setE,jZ,addE,setL,setN,putE,env0,eqCs,j9,eqC,bA,bO,bN,bE,negB,kEq,ki,j8,lend,frz,frzL,zRow,kg,kd,closed,jH,j0,binI,remP,remI,retK,retG,kq,retD,kn,resL,resD,oneD,renD,renL,renE,j3,rho,jR,j5,List.append,List.nil_append,List.cons_append,List.append_nil,cond,Nat.reduceBEq,Nat.reduceAdd,Nat.beq]
  refine kt sp_gcoord ?_
  dsimp only [c_grid_Grid_Lay, qQ, jo,jK,jT,jr,jI,jM,jq,jJ,jL,iteR,regK,ji,jc,jl,jk,jb,jj,blkK,kr,kh,jd,ja,jy,fpOk,foot,kp,allN,memN,jN,jm,js,jw,jv,jt,ju,jg,jh,jf,je,newN,jx,jS,jU,j2,jO,jP,jQ,jz,jA,jE,jB,jC,jn,jD,jF,jG,j7,evX,evL,evB,rd,get,subG,memG,jW,jY,hyps,gob,impP,allP,j6,j1,j4,ko,nth,ke,km,jX,lenB,kj,jV,entN,setE,jZ,addE,setL,setN,putE,env0,eqCs,j9,eqC,bA,bO,bN,bE,negB,kEq,ki,j8,lend,frz,frzL,zRow,kg,kd,closed,jH,j0,binI,remP,remI,retK,retG,kq,retD,kn,resL,resD,oneD,renD,renL,renE,j3,rho,jR,j5,List.append,List.nil_append,List.cons_append,List.append_nil,cond,Nat.reduceBEq,Nat.reduceAdd,Nat.beq]
  refine kt (fun _ => sp_gcoord) ?_
  dsimp only [c_grid_Grid_Lay, qQ, jo,jK,jT,jr,jI,jM,jq,jJ,jL,iteR,regK,ji,jc,jl,jk,jb,jj,blkK,kr,kh,jd,ja,jy,fpOk,foot,kp,allN,memN,jN,jm,js,jw,jv,jt,ju,jg,jh,jf,je,newN,jx,jS,jU,j2,jO,jP,jQ,jz,jA,jE,jB,jC,jn,jD,jF,jG,j7,evX,evL,evB,rd,get,subG,memG,jW,jY,hyps,gob,impP,allP,j6,j1,j4,ko,nth,ke,km,jX,lenB,kj,jV,entN,setE,jZ,addE,setL,setN,putE,env0,eqCs,j9,eqC,bA,bO,bN,bE,negB,kEq,ki,j8,lend,frz,frzL,zRow,kg,kd,closed,jH,j0,binI,remP,remI,retK,retG,kq,retD,kn,resL,resD,oneD,renD,renL,renE,j3,rho,jR,j5,List.append,List.nil_append,List.cons_append,List.append_nil,cond,Nat.reduceBEq,Nat.reduceAdd,Nat.beq]
  refine ⟨fun hc => ?_, fun _ => ?_⟩
  · simp only [Bool.or_eq_true, Bool.not_eq_true', Bool.and_eq_false_iff, decide_eq_false_iff_not] at hc; omega
  refine qe [] (sm_twin hw hh) rfl rfl ?_
  dsimp only [c_grid_Grid_Lay, qQ, jo,jK,jT,jr,jI,jM,jq,jJ,jL,iteR,regK,ji,jc,jl,jk,jb,jj,blkK,kr,kh,jd,ja,jy,fpOk,foot,kp,allN,memN,jN,jm,js,jw,jv,jt,ju,jg,jh,jf,je,newN,jx,jS,jU,j2,jO,jP,jQ,jz,jA,jE,jB,jC,jn,jD,jF,jG,j7,evX,evL,evB,rd,get,subG,memG,jW,jY,hyps,gob,impP,allP,j6,j1,j4,ko,nth,ke,km,jX,lenB,kj,jV,entN,setE,jZ,addE,setL,setN,putE,env0,eqCs,j9,eqC,bA,bO,bN,bE,negB,kEq,ki,j8,lend,frz,frzL,zRow,kg,kd,closed,jH,j0,binI,remP,remI,retK,retG,kq,retD,kn,resL,resD,oneD,renD,renL,renE,j3,rho,jR,j5,List.append,List.nil_append,List.cons_append,List.append_nil,cond,Nat.reduceBEq,Nat.reduceAdd,Nat.beq]
  have hsp := sm_spans5 (R := fun Q => gl w h (layX w2 h2 f2 x0 y0 Q f)) (w2 := w2) (h2 := h2) (x0 := x0) (y0 := y0) (pix := gl w2 h2 f2) hw hh (reg_Vr hP) hl (fun Q y a b hy hab => sm_Lay_1 hw hh hw2 hh2 hx0 hy0 Q y a b hy hab)
  have e0 : layX w2 h2 f2 x0 y0 (fun _ _ => False) f = f := by
    unfold layX
    rw [show (fun X Y : Int => False ∧ inP w2 h2 (X - x0) (Y - y0)) = fun _ _ => False from qf fun _ _ => ⟨fun h => h.1, fun h => h.elim⟩, onX_no]
  rw [e0] at hsp
  refine qe [1, 2, 3, 6, 7] hsp rfl rfl ?_
  dsimp only [c_grid_Grid_Lay, qQ, jo,jK,jT,jr,jI,jM,jq,jJ,jL,iteR,regK,ji,jc,jl,jk,jb,jj,blkK,kr,kh,jd,ja,jy,fpOk,foot,kp,allN,memN,jN,jm,js,jw,jv,jt,ju,jg,jh,jf,je,newN,jx,jS,jU,j2,jO,jP,jQ,jz,jA,jE,jB,jC,jn,jD,jF,jG,j7,evX,evL,evB,rd,get,subG,memG,jW,jY,hyps,gob,impP,allP,j6,j1,j4,ko,nth,ke,km,jX,lenB,kj,jV,entN,setE,jZ,addE,setL,setN,putE,env0,eqCs,j9,eqC,bA,bO,bN,bE,negB,kEq,ki,j8,lend,frz,frzL,zRow,kg,kd,closed,jH,j0,binI,remP,remI,retK,retG,kq,retD,kn,resL,resD,oneD,renD,renL,renE,j3,rho,jR,j5,List.append,List.nil_append,List.cons_append,List.append_nil,cond,Nat.reduceBEq,Nat.reduceAdd,Nat.beq]
  have : gl w h (layX w2 h2 f2 x0 y0 (fun X Y => pts (reg P) X Y ∧ inP w h X Y) f) = gl w h (layX w2 h2 f2 x0 y0 P f) := xT fun x y hp => by
    exact onX_congr (by (try dsimp only); rw [z8 hP]; exact ⟨fun h => ⟨h.1.1, h.2⟩, fun h => ⟨⟨h.1, hp⟩, h.2⟩⟩)
  rw [this]
  exact ⟨rfl, rfl⟩
end Go.AM


set_option linter.all false
namespace Go.AM
open Go Go.Proofs
theorem sp_known {n : Int} : TSp 208 [.int .i64 n] (.bool (decide (0 ≤ n) && decide (n ≤ 15))) := by
  refine spo_rop_known (by rfl) ?_
  dsimp only [c_rop_known, r_rop_known, jo,jK,jT,jr,jI,jM,jq,jJ,jL,iteR,regK,ji,jc,jl,jk,jb,jj,blkK,kr,kh,jd,ja,jy,fpOk,foot,kp,allN,memN,jN,jm,js,jw,jv,jt,ju,jg,jh,jf,je,newN,jx,jS,jU,j2,jO,jP,jQ,jz,jA,jE,jB,jC,jn,jD,jF,jG,j7,evX,evL,evB,rd,get,subG,memG,jW,jY,hyps,gob,impP,allP,j6,j1,j4,ko,nth,ke,km,jX,lenB,kj,jV,entN,setE,jZ,addE,setL,setN,putE,env0,eqCs,j9,eqC,bA,bO,bN,bE,negB,kEq,ki,j8,lend,frz,frzL,zRow,kg,kd,closed,jH,j0,binI,remP,remI,retK,retG,kq,retD,kn,resL,resD,oneD,renD,renL,renE,j3,rho,jR,j5,List.append,List.nil_append,List.cons_append,List.append_nil,cond,Nat.reduceBEq,Nat.reduceAdd,Nat.beq]
def wgt (a b : Bool) : Int := if a then (if b then 1 else 2) else if b then 4 else 8
theorem sp_weight {a b : Bool} : TSp 211 [.bool a, .bool b] (.int .i64 (wgt a b)) := by
  refine spo_rop_weight (by rfl) ?_
  dsimp only [c_rop_weight, ym, jo,jK,jT,jr,jI,jM,jq,jJ,jL,iteR,regK,ji,jc,jl,jk,jb,jj,blkK,kr,kh,jd,ja,jy,fpOk,foot,kp,allN,memN,jN,jm,js,jw,jv,jt,ju,jg,jh,jf,je,newN,jx,jS,jU,j2,jO,jP,jQ,jz,jA,jE,jB,jC,jn,jD,jF,jG,j7,evX,evL,evB,rd,get,subG,memG,jW,jY,hyps,gob,impP,allP,j6,j1,j4,ko,nth,ke,km,jX,lenB,kj,jV,entN,setE,jZ,addE,setL,setN,putE,env0,eqCs,j9,eqC,bA,bO,bN,bE,negB,kEq,ki,j8,lend,frz,frzL,zRow,kg,kd,closed,jH,j0,binI,remP,remI,retK,retG,kq,retD,kn,resL,resD,oneD,renD,renL,renE,j3,rho,jR,j5,List.append,List.nil_append,List.cons_append,List.append_nil,cond,Nat.reduceBEq,Nat.reduceAdd,Nat.beq]
  cases a <;> cases b <;> simp [wgt]
theorem sm_function : TSpM 180 [.int .i64 3] [] (.fn 210 [.box 0 0]) [.cells [.int .i64 3]] := by
  refine spm_rop_function (by rfl) ?_
  dsimp only [c_rop_function, vv, jo,jK,jT,jr,jI,jM,jq,jJ,jL,iteR,regK,ji,jc,jl,jk,jb,jj,blkK,kr,kh,jd,ja,jy,fpOk,foot,kp,allN,memN,jN,jm,js,jw,jv,jt,ju,jg,jh,jf,je,newN,jx,jS,jU,j2,jO,jP,jQ,jz,jA,jE,jB,jC,jn,jD,jF,jG,j7,evX,evL,evB,rd,get,subG,memG,jW,jY,hyps,gob,impP,allP,j6,j1,j4,ko,nth,ke,km,jX,lenB,kj,jV,entN,setE,jZ,addE,setL,setN,putE,env0,eqCs,j9,eqC,bA,bO,bN,bE,negB,kEq,ki,j8,lend,frz,frzL,zRow,kg,kd,closed,jH,j0,binI,remP,remI,retK,retG,kq,retD,kn,resL,resD,oneD,renD,renL,renE,j3,rho,jR,j5,List.append,List.nil_append,List.cons_append,List.append_nil,cond,Nat.reduceBEq,Nat.reduceAdd,Nat.beq]
  refine kt sp_known ?_
  dsimp only [c_rop_function, vv, jo,jK,jT,jr,jI,jM,jq,jJ,jL,iteR,regK,ji,jc,jl,jk,jb,jj,blkK,kr,kh,jd,ja,jy,fpOk,foot,kp,allN,memN,jN,jm,js,jw,jv,jt,ju,jg,jh,jf,je,newN,jx,jS,jU,j2,jO,jP,jQ,jz,jA,jE,jB,jC,jn,jD,jF,jG,j7,evX,evL,evB,rd,get,subG,memG,jW,jY,hyps,gob,impP,allP,j6,j1,j4,ko,nth,ke,km,jX,lenB,kj,jV,entN,setE,jZ,addE,setL,setN,putE,env0,eqCs,j9,eqC,bA,bO,bN,bE,negB,kEq,ki,j8,lend,frz,frzL,zRow,kg,kd,closed,jH,j0,binI,remP,remI,retK,retG,kq,retD,kn,resL,resD,oneD,renD,renL,renE,j3,rho,jR,j5,List.append,List.nil_append,List.cons_append,List.append_nil,cond,Nat.reduceBEq,Nat.reduceAdd,Nat.beq]
  exact ⟨fun h => absurd h (by decide), fun _ => Rt.id⟩
theorem sm_function_2 {a b : Bool} : TSpM 210 [.bool a, .bool b, .box 0 0] [.cells [.int .i64 3]] (.bool a) [.cells [.int .i64 3]] := by
  refine spm_rop_function_2 (by rfl) ?_
  dsimp only [c_rop_function_2, zJ, jo,jK,jT,jr,jI,jM,jq,jJ,jL,iteR,regK,ji,jc,jl,jk,jb,jj,blkK,kr,kh,jd,ja,jy,fpOk,foot,kp,allN,memN,jN,jm,js,jw,jv,jt,ju,jg,jh,jf,je,newN,jx,jS,jU,j2,jO,jP,jQ,jz,jA,jE,jB,jC,jn,jD,jF,jG,j7,evX,evL,evB,rd,get,subG,memG,jW,jY,hyps,gob,impP,allP,j6,j1,j4,ko,nth,ke,km,jX,lenB,kj,jV,entN,setE,jZ,addE,setL,setN,putE,env0,eqCs,j9,eqC,bA,bO,bN,bE,negB,kEq,ki,j8,lend,frz,frzL,zRow,kg,kd,closed,jH,j0,binI,remP,remI,retK,retG,kq,retD,kn,resL,resD,oneD,renD,renL,renE,j3,rho,jR,j5,List.append,List.nil_append,List.cons_append,List.append_nil,cond,Nat.reduceBEq,Nat.reduceAdd,Nat.beq]
  refine kt sp_weight ?_
  dsimp only [c_rop_function_2, zJ, jo,jK,jT,jr,jI,jM,jq,jJ,jL,iteR,regK,ji,jc,jl,jk,jb,jj,blkK,kr,kh,jd,ja,jy,fpOk,foot,kp,allN,memN,jN,jm,js,jw,jv,jt,ju,jg,jh,jf,je,newN,jx,jS,jU,j2,jO,jP,jQ,jz,jA,jE,jB,jC,jn,jD,jF,jG,j7,evX,evL,evB,rd,get,subG,memG,jW,jY,hyps,gob,impP,allP,j6,j1,j4,ko,nth,ke,km,jX,lenB,kj,jV,entN,setE,jZ,addE,setL,setN,putE,env0,eqCs,j9,eqC,bA,bO,bN,bE,negB,kEq,ki,j8,lend,frz,frzL,zRow,kg,kd,closed,jH,j0,binI,remP,remI,retK,retG,kq,retD,kn,resL,resD,oneD,renD,renL,renE,j3,rho,jR,j5,List.append,List.nil_append,List.cons_append,List.append_nil,cond,Nat.reduceBEq,Nat.reduceAdd,Nat.beq]
  refine ⟨⟨by omega, by cases a <;> cases b <;> decide, by simp [fits], by cases a <;> cases b <;> simp [wgt, fits]⟩, ?_⟩
  have : (!decide (Int.ofNat (Int.toNat 3 &&& (wgt a b).toNat) = 0)) = a := by cases a <;> cases b <;> rfl
  rw [this]
  exact Rt.id
theorem mix_bit : ∀ s : Nat, s < 256 → ∀ i : Nat, i < 8 → (!decide (Int.ofNat (s &&& 2 ^ i) = 0)) = s.testBit i := by decide +kernel
theorem mix_next : ∀ s : Nat, s < 256 → ∀ i : Nat, i < 8 → s % 2 ^ (i + 1) = if s.testBit i then (s % 2 ^ i) ||| 2 ^ i else s % 2 ^ i := by decide +kernel
theorem mix_mask : ∀ i : Nat, i < 8 → (!decide (Int.ofNat (255 &&& 2 ^ i) = 0)) = true := by decide +kernel
theorem mix_none : ∀ d : Nat, d < 256 → (d ^^^ 255) &&& d = 0 := by decide +kernel
theorem sp_Mix {s d : Int} (hs : 0 ≤ s ∧ s ≤ 255) (hd : 0 ≤ d ∧ d ≤ 255) : TSp 143 [.int .i64 3, .int .u8 s, .int .u8 d, .int .u8 255] (.int .u8 s) := by
  obtain ⟨s, rfl⟩ : ∃ n : Nat, s = n := ⟨s.toNat, by omega⟩
  obtain ⟨d, rfl⟩ : ∃ n : Nat, d = n := ⟨d.toNat, by omega⟩
  have hs' : s < 256 := by omega
  refine spo_rop_Mix (by rfl) ?_
  dsimp only [c_rop_Mix, xx, jo,jK,jT,jr,jI,jM,jq,jJ,jL,iteR,regK,ji,jc,jl,jk,jb,jj,blkK,kr,kh,jd,ja,jy,fpOk,foot,kp,allN,memN,jN,jm,js,jw,jv,jt,ju,jg,jh,jf,je,newN,jx,jS,jU,j2,jO,jP,jQ,jz,jA,jE,jB,jC,jn,jD,jF,jG,j7,evX,evL,evB,rd,get,subG,memG,jW,jY,hyps,gob,impP,allP,j6,j1,j4,ko,nth,ke,km,jX,lenB,kj,jV,entN,setE,jZ,addE,setL,setN,putE,env0,eqCs,j9,eqC,bA,bO,bN,bE,negB,kEq,ki,j8,lend,frz,frzL,zRow,kg,kd,closed,jH,j0,binI,remP,remI,retK,retG,kq,retD,kn,resL,resD,oneD,renD,renL,renE,j3,rho,jR,j5,List.append,List.nil_append,List.cons_append,List.append_nil,cond,Nat.reduceBEq,Nat.reduceAdd,Nat.beq]
  refine qe [] sm_function rfl rfl ?_
  dsimp only [c_rop_Mix, xx, jo,jK,jT,jr,jI,jM,jq,jJ,jL,iteR,regK,ji,jc,jl,jk,jb,jj,blkK,kr,kh,jd,ja,jy,fpOk,foot,kp,allN,memN,jN,jm,js,jw,jv,jt,ju,jg,jh,jf,je,newN,jx,jS,jU,j2,jO,jP,jQ,jz,jA,jE,jB,jC,jn,jD,jF,jG,j7,evX,evL,evB,rd,get,subG,memG,jW,jY,hyps,gob,impP,allP,j6,j1,j4,ko,nth,ke,km,jX,lenB,kj,jV,entN,setE,jZ,addE,setL,setN,putE,env0,eqCs,j9,eqC,bA,bO,bN,bE,negB,kEq,ki,j8,lend,frz,frzL,zRow,kg,kd,closed,jH,j0,binI,remP,remI,retK,retG,kq,retD,kn,resL,resD,oneD,renD,renL,renE,j3,rho,jR,j5,List.append,List.nil_append,List.cons_append,List.append_nil,cond,Nat.reduceBEq,Nat.reduceAdd,Nat.beq]
  have h0 : Int.ofNat (((d : Int).toNat ^^^ (255 : Int).toNat) &&& (d : Int).toNat) = 0 := by
    rw [Int.toNat_natCast, show (255 : Int).toNat = 255 from rfl, mix_none d (by omega)]; rfl
  rw [h0]
  refine ⟨⟨by omega, by omega, by simp only [fits]; omega, by simp [fits]⟩, ?_⟩
  refine kE (α := {i : Nat // i ≤ 8})
    (fun i => ⟨[(1, [], .int .u8 s), (2, [], .int .u8 d), (3, [], .int .u8 255), (9, [], .fn 210 [.box 0 0]), (10, [], .int .u8 ((s % 2 ^ i.1 : Nat) : Int)), (18, [], .int .i64 i.1)], [.cells [.int .i64 3]]⟩)
    (fun i => 8 - i.1) ?_ ⟨0, by omega⟩ (by simp [Nat.mod_one])
  rintro ⟨i, hi⟩ I ih
  dsimp only at hi ⊢
  dsimp only [c_rop_Mix, xx, jo,jK,jT,jr,jI,jM,jq,jJ,jL,iteR,regK,ji,jc,jl,jk,jb,jj,blkK,kr,kh,jd,ja,jy,fpOk,foot,kp,allN,memN,jN,jm,js,jw,jv,jt,ju,jg,jh,jf,je,newN,jx,jS,jU,j2,jO,jP,jQ,jz,jA,jE,jB,jC,jn,jD,jF,jG,j7,evX,evL,evB,rd,get,subG,memG,jW,jY,hyps,gob,impP,allP,j6,j1,j4,ko,nth,ke,km,jX,lenB,kj,jV,entN,setE,jZ,addE,setL,setN,putE,env0,eqCs,j9,eqC,bA,bO,bN,bE,negB,kEq,ki,j8,lend,frz,frzL,zRow,kg,kd,closed,jH,j0,binI,remP,remI,retK,retG,kq,retD,kn,resL,resD,oneD,renD,renL,renE,j3,rho,jR,j5,List.append,List.nil_append,List.cons_append,List.append_nil,cond,Nat.reduceBEq,Nat.reduceAdd,Nat.beq]
  refine ⟨fun hlt => ?_, fun hge => ?_⟩
  · have hil : i < 8 := by simp only [decide_eq_true_eq] at hlt; omega
    have e1 : (1 : Int) * 2 ^ ((i : Nat) : Int).toNat = ((2 ^ i : Nat) : Int) := by rw [Int.toNat_natCast]; simp
    have hp : 2 ^ i ≤ 128 := by
      have : 2 ^ i ≤ 2 ^ 7 := Nat.pow_le_pow_right (by omega) (by omega)
      simpa using this
    rw [e1]
    have hb1 : (!decide (Int.ofNat ((255 : Int).toNat &&& ((2 ^ i : Nat) : Int).toNat) = 0)) = true := by
      rw [Int.toNat_natCast]; exact mix_mask i hil
    have hb2 : (!decide (Int.ofNat ((s : Int).toNat &&& ((2 ^ i : Nat) : Int).toNat) = 0)) = s.testBit i := by
      rw [Int.toNat_natCast, Int.toNat_natCast]; exact mix_bit s hs' i hil
    rw [hb1, hb2]
    have hf : ∀ n : Nat, n ≤ 255 → fits .u8 (n : Int) := fun n hn => by simp only [fits]; omega
    have hsm : s % 2 ^ i ≤ 255 := Nat.le_trans (Nat.mod_le _ _) (by omega)
    refine ⟨⟨by omega, by simp only [IntKind.bits]; omega, hf _ (by omega)⟩, ⟨by omega, by omega, by simp [fits], hf _ (by omega)⟩, fun _ => ⟨by omega, by omega, hf _ (by omega), hf _ (by omega)⟩, fun _ => ⟨by omega, by omega, hf _ (by omega), hf _ (by omega)⟩, qF [0] (fun _ => sm_function_2) rfl rfl rfl ?_⟩
    dsimp only [c_rop_Mix, xx, jo,jK,jT,jr,jI,jM,jq,jJ,jL,iteR,regK,ji,jc,jl,jk,jb,jj,blkK,kr,kh,jd,ja,jy,fpOk,foot,kp,allN,memN,jN,jm,js,jw,jv,jt,ju,jg,jh,jf,je,newN,jx,jS,jU,j2,jO,jP,jQ,jz,jA,jE,jB,jC,jn,jD,jF,jG,j7,evX,evL,evB,rd,get,subG,memG,jW,jY,hyps,gob,impP,allP,j6,j1,j4,ko,nth,ke,km,jX,lenB,kj,jV,entN,setE,jZ,addE,setL,setN,putE,env0,eqCs,j9,eqC,bA,bO,bN,bE,negB,kEq,ki,j8,lend,frz,frzL,zRow,kg,kd,closed,jH,j0,binI,remP,remI,retK,retG,kq,retD,kn,resL,resD,oneD,renD,renL,renE,j3,rho,jR,j5,List.append,List.nil_append,List.cons_append,List.append_nil,cond,Nat.reduceBEq,Nat.reduceAdd,Nat.beq]
    have hn := mix_next s hs' i hil
    refine ⟨fun ht => ?_, fun ht => ?_⟩
    · rw [if_pos (by simpa using ht)] at hn
      rw [Int.toNat_natCast, Int.toNat_natCast, show Int.ofNat (s % 2 ^ i ||| 2 ^ i) = ((s % 2 ^ (i + 1) : Nat) : Int) from by rw [hn]; rfl]
      refine ⟨⟨by omega, by omega, hf _ hsm, hf _ (by omega)⟩, by simp only [fits]; omega, ?_⟩
      exact qj (ih ⟨i + 1, hil⟩ (by dsimp only; omega)) ⟨rfl, rfl, rfl, rfl, rfl, by simp [get], trivial⟩ ⟨rfl, trivial⟩ rfl rfl
    · rw [if_neg (by simpa using ht)] at hn
      rw [← hn]
      refine ⟨by simp only [fits]; omega, ?_⟩
      exact qj (ih ⟨i + 1, hil⟩ (by dsimp only; omega)) ⟨rfl, rfl, rfl, rfl, rfl, by simp [get], trivial⟩ ⟨rfl, trivial⟩ rfl rfl
  · have : i = 8 := by simp only [decide_eq_false_iff_not] at hge; omega
    subst this
    rw [Nat.mod_eq_of_lt (by simpa using hs')]
theorem sp_isFunc {n : Int} : TSp 139 [.int .i64 n] (.bool (decide (0 ≤ n) && decide (n ≤ 15))) := by
  refine spo_pen_isFunc (by rfl) ?_
  dsimp only [c_pen_isFunc, yn, jo,jK,jT,jr,jI,jM,jq,jJ,jL,iteR,regK,ji,jc,jl,jk,jb,jj,blkK,kr,kh,jd,ja,jy,fpOk,foot,kp,allN,memN,jN,jm,js,jw,jv,jt,ju,jg,jh,jf,je,newN,jx,jS,jU,j2,jO,jP,jQ,jz,jA,jE,jB,jC,jn,jD,jF,jG,j7,evX,evL,evB,rd,get,subG,memG,jW,jY,hyps,gob,impP,allP,j6,j1,j4,ko,nth,ke,km,jX,lenB,kj,jV,entN,setE,jZ,addE,setL,setN,putE,env0,eqCs,j9,eqC,bA,bO,bN,bE,negB,kEq,ki,j8,lend,frz,frzL,zRow,kg,kd,closed,jH,j0,binI,remP,remI,retK,retG,kq,retD,kn,resL,resD,oneD,renD,renL,renE,j3,rho,jR,j5,List.append,List.nil_append,List.cons_append,List.append_nil,cond,Nat.reduceBEq,Nat.reduceAdd,Nat.beq]
theorem sp_isPlace {n : Int} : TSp 140 [.int .i64 n] (.bool (decide (-32768 ≤ n) && decide (n ≤ 32767))) := by
  refine spo_pen_isPlace (by rfl) ?_
  dsimp only [c_pen_isPlace, xQ, jo,jK,jT,jr,jI,jM,jq,jJ,jL,iteR,regK,ji,jc,jl,jk,jb,jj,blkK,kr,kh,jd,ja,jy,fpOk,foot,kp,allN,memN,jN,jm,js,jw,jv,jt,ju,jg,jh,jf,je,newN,jx,jS,jU,j2,jO,jP,jQ,jz,jA,jE,jB,jC,jn,jD,jF,jG,j7,evX,evL,evB,rd,get,subG,memG,jW,jY,hyps,gob,impP,allP,j6,j1,j4,ko,nth,ke,km,jX,lenB,kj,jV,entN,setE,jZ,addE,setL,setN,putE,env0,eqCs,j9,eqC,bA,bO,bN,bE,negB,kEq,ki,j8,lend,frz,frzL,zRow,kg,kd,closed,jH,j0,binI,remP,remI,retK,retG,kq,retD,kn,resL,resD,oneD,renD,renL,renE,j3,rho,jR,j5,List.append,List.nil_append,List.cons_append,List.append_nil,cond,Nat.reduceBEq,Nat.reduceAdd,Nat.beq]
abbrev penC : List D := [.int .i64 3, .int .u8 255, .int .u8 0, .int .u8 1, .int .u32 0, .int .i64 0, .int .i64 0, .bool false, .ls 4 []]
theorem sp_penNew : TSp 16 [] (.agg penC) := by
  refine spo_pen_New (by rfl) ?_
  dsimp only [c_pen_New, r_pen_New, jo,jK,jT,jr,jI,jM,jq,jJ,jL,iteR,regK,ji,jc,jl,jk,jb,jj,blkK,kr,kh,jd,ja,jy,fpOk,foot,kp,allN,memN,jN,jm,js,jw,jv,jt,ju,jg,jh,jf,je,newN,jx,jS,jU,j2,jO,jP,jQ,jz,jA,jE,jB,jC,jn,jD,jF,jG,j7,evX,evL,evB,rd,get,subG,memG,jW,jY,hyps,gob,impP,allP,j6,j1,j4,ko,nth,ke,km,jX,lenB,kj,jV,entN,setE,jZ,addE,setL,setN,putE,env0,eqCs,j9,eqC,bA,bO,bN,bE,negB,kEq,ki,j8,lend,frz,frzL,zRow,kg,kd,closed,jH,j0,binI,remP,remI,retK,retG,kq,retD,kn,resL,resD,oneD,renD,renL,renE,j3,rho,jR,j5,List.append,List.nil_append,List.cons_append,List.append_nil,cond,Nat.reduceBEq,Nat.reduceAdd,Nat.beq]
theorem sp_penCheck : TSp 83 [.agg penC] (.int .i64 0) := by
  refine spo_pen_Pen_Check (by rfl) ?_
  dsimp only [c_pen_Pen_Check, qP, jo,jK,jT,jr,jI,jM,jq,jJ,jL,iteR,regK,ji,jc,jl,jk,jb,jj,blkK,kr,kh,jd,ja,jy,fpOk,foot,kp,allN,memN,jN,jm,js,jw,jv,jt,ju,jg,jh,jf,je,newN,jx,jS,jU,j2,jO,jP,jQ,jz,jA,jE,jB,jC,jn,jD,jF,jG,j7,evX,evL,evB,rd,get,subG,memG,jW,jY,hyps,gob,impP,allP,j6,j1,j4,ko,nth,ke,km,jX,lenB,kj,jV,entN,setE,jZ,addE,setL,setN,putE,env0,eqCs,j9,eqC,bA,bO,bN,bE,negB,kEq,ki,j8,lend,frz,frzL,zRow,kg,kd,closed,jH,j0,binI,remP,remI,retK,retG,kq,retD,kn,resL,resD,oneD,renD,renL,renE,j3,rho,jR,j5,List.append,List.nil_append,List.cons_append,List.append_nil,cond,Nat.reduceBEq,Nat.reduceAdd,Nat.beq]
  refine kt sp_isFunc ?_
  dsimp only [c_pen_Pen_Check, qP, jo,jK,jT,jr,jI,jM,jq,jJ,jL,iteR,regK,ji,jc,jl,jk,jb,jj,blkK,kr,kh,jd,ja,jy,fpOk,foot,kp,allN,memN,jN,jm,js,jw,jv,jt,ju,jg,jh,jf,je,newN,jx,jS,jU,j2,jO,jP,jQ,jz,jA,jE,jB,jC,jn,jD,jF,jG,j7,evX,evL,evB,rd,get,subG,memG,jW,jY,hyps,gob,impP,allP,j6,j1,j4,ko,nth,ke,km,jX,lenB,kj,jV,entN,setE,jZ,addE,setL,setN,putE,env0,eqCs,j9,eqC,bA,bO,bN,bE,negB,kEq,ki,j8,lend,frz,frzL,zRow,kg,kd,closed,jH,j0,binI,remP,remI,retK,retG,kq,retD,kn,resL,resD,oneD,renD,renL,renE,j3,rho,jR,j5,List.append,List.nil_append,List.cons_append,List.append_nil,cond,Nat.reduceBEq,Nat.reduceAdd,Nat.beq]
  refine ⟨fun h => absurd h (by decide), fun _ => ?_⟩
  refine kt sp_isPlace ?_
  dsimp only [c_pen_Pen_Check, qP, jo,jK,jT,jr,jI,jM,jq,jJ,jL,iteR,regK,ji,jc,jl,jk,jb,jj,blkK,kr,kh,jd,ja,jy,fpOk,foot,kp,allN,memN,jN,jm,js,jw,jv,jt,ju,jg,jh,jf,je,newN,jx,jS,jU,j2,jO,jP,jQ,jz,jA,jE,jB,jC,jn,jD,jF,jG,j7,evX,evL,evB,rd,get,subG,memG,jW,jY,hyps,gob,impP,allP,j6,j1,j4,ko,nth,ke,km,jX,lenB,kj,jV,entN,setE,jZ,addE,setL,setN,putE,env0,eqCs,j9,eqC,bA,bO,bN,bE,negB,kEq,ki,j8,lend,frz,frzL,zRow,kg,kd,closed,jH,j0,binI,remP,remI,retK,retG,kq,retD,kn,resL,resD,oneD,renD,renL,renE,j3,rho,jR,j5,List.append,List.nil_append,List.cons_append,List.append_nil,cond,Nat.reduceBEq,Nat.reduceAdd,Nat.beq]
  refine kt (fun _ => sp_isPlace) ?_
  dsimp only [c_pen_Pen_Check, qP, jo,jK,jT,jr,jI,jM,jq,jJ,jL,iteR,regK,ji,jc,jl,jk,jb,jj,blkK,kr,kh,jd,ja,jy,fpOk,foot,kp,allN,memN,jN,jm,js,jw,jv,jt,ju,jg,jh,jf,je,newN,jx,jS,jU,j2,jO,jP,jQ,jz,jA,jE,jB,jC,jn,jD,jF,jG,j7,evX,evL,evB,rd,get,subG,memG,jW,jY,hyps,gob,impP,allP,j6,j1,j4,ko,nth,ke,km,jX,lenB,kj,jV,entN,setE,jZ,addE,setL,setN,putE,env0,eqCs,j9,eqC,bA,bO,bN,bE,negB,kEq,ki,j8,lend,frz,frzL,zRow,kg,kd,closed,jH,j0,binI,remP,remI,retK,retG,kq,retD,kn,resL,resD,oneD,renD,renL,renE,j3,rho,jR,j5,List.append,List.nil_append,List.cons_append,List.append_nil,cond,Nat.reduceBEq,Nat.reduceAdd,Nat.beq]
  refine ⟨fun h => absurd h (by decide), fun _ => ⟨fun h => absurd h (by decide), fun _ => ⟨fun h => absurd h (by decide), fun _ => ?_⟩⟩⟩
  refine run_unroll ?_
  dsimp only [c_pen_Pen_Check, qP, jo,jK,jT,jr,jI,jM,jq,jJ,jL,iteR,regK,ji,jc,jl,jk,jb,jj,blkK,kr,kh,jd,ja,jy,fpOk,foot,kp,allN,memN,jN,jm,js,jw,jv,jt,ju,jg,jh,jf,je,newN,jx,jS,jU,j2,jO,jP,jQ,jz,jA,jE,jB,jC,jn,jD,jF,jG,j7,evX,evL,evB,rd,get,subG,memG,jW,jY,hyps,gob,impP,allP,j6,j1,j4,ko,nth,ke,km,jX,lenB,kj,jV,entN,setE,jZ,addE,setL,setN,putE,env0,eqCs,j9,eqC,bA,bO,bN,bE,negB,kEq,ki,j8,lend,frz,frzL,zRow,kg,kd,closed,jH,j0,binI,remP,remI,retK,retG,kq,retD,kn,resL,resD,oneD,renD,renL,renE,j3,rho,jR,j5,List.append,List.nil_append,List.cons_append,List.append_nil,cond,Nat.reduceBEq,Nat.reduceAdd,Nat.beq]
  exact ⟨fun h => absurd h (by decide), fun _ => rfl⟩
end Go.AM


set_option linter.all false
namespace Go.AM
open Go Go.Proofs
theorem SpM.rt {P : Program} {gt : Nat → Option (List D)} {f : Nat} {ds : List D} {bx bx1 bx' : List Ent} {d1 d : D} (h : SpM P gt f ds bx d1 bx1) (hr : Rt bx.length bx1 d1 d bx') : SpM P gt f ds bx d bx' :=
  ⟨h.1, fun K pl w vs a b c e => (h.2 K pl w vs a b c e).mono fun ex w' ⟨v, K', pl', h1, hI, h2⟩ => by
    obtain ⟨K2, pl2, h3, h4⟩ := hr _ K' pl' w' v rfl hI h2
    exact ⟨v, K2, pl2, h1, h3, h4⟩⟩
abbrev plC (w h : Nat) (f : Px) (d1 d2 : D) : List D := [.int .i64 w, .int .i64 h, d1, d2, .int .i64 w, .int .i64 h, .ls 1 (gl w h f)]
abbrev plE (w h : Nat) (f g : Px) : List Ent := [.cells (plC w h f (.own 1 (w * h + 1)) (.own 2 1)), .arr 51 1 (w * h + 1) (gl w h f), .arr 51 1 1 (gl w h g)]
abbrev plF (w h : Nat) (f : Px) : D := .el 7 [.agg (plC w h f (.ls 1 (gl w h f)) (.ls 1 (gl w h f)))] 0 0
theorem sm_plRect {w h : Nat} {f g : Px} : TSpM 85 [.box 0 0] (plE w h f g) (rD ⟨0, 0, w, h⟩) (plE w h f g) := by
  refine spm_plane_Plane_Rect (by rfl) ?_
  dsimp only [c_plane_Plane_Rect, qm, rD, jo,jK,jT,jr,jI,jM,jq,jJ,jL,iteR,regK,ji,jc,jl,jk,jb,jj,blkK,kr,kh,jd,ja,jy,fpOk,foot,kp,allN,memN,jN,jm,js,jw,jv,jt,ju,jg,jh,jf,je,newN,jx,jS,jU,j2,jO,jP,jQ,jz,jA,jE,jB,jC,jn,jD,jF,jG,j7,evX,evL,evB,rd,get,subG,memG,jW,jY,hyps,gob,impP,allP,j6,j1,j4,ko,nth,ke,km,jX,lenB,kj,jV,entN,setE,jZ,addE,setL,setN,putE,env0,eqCs,j9,eqC,bA,bO,bN,bE,negB,kEq,ki,j8,lend,frz,frzL,zRow,kg,kd,closed,jH,j0,binI,remP,remI,retK,retG,kq,retD,kn,resL,resD,oneD,renD,renL,renE,j3,rho,jR,j5,List.append,List.nil_append,List.cons_append,List.append_nil,cond,Nat.reduceBEq,Nat.reduceAdd,Nat.beq]
  exact Rt.cut (Nat.le_refl _) (qX (plE w h f g) _) rfl rfl
theorem sp_plRect {w h : Nat} {f : Px} : TSp 85 [plF w h f] (rD ⟨0, 0, w, h⟩) := by
  refine spo_plane_Plane_Rect (by rfl) ?_
  dsimp only [c_plane_Plane_Rect, qm, rD, jo,jK,jT,jr,jI,jM,jq,jJ,jL,iteR,regK,ji,jc,jl,jk,jb,jj,blkK,kr,kh,jd,ja,jy,fpOk,foot,kp,allN,memN,jN,jm,js,jw,jv,jt,ju,jg,jh,jf,je,newN,jx,jS,jU,j2,jO,jP,jQ,jz,jA,jE,jB,jC,jn,jD,jF,jG,j7,evX,evL,evB,rd,get,subG,memG,jW,jY,hyps,gob,impP,allP,j6,j1,j4,ko,nth,ke,km,jX,lenB,kj,jV,entN,setE,jZ,addE,setL,setN,putE,env0,eqCs,j9,eqC,bA,bO,bN,bE,negB,kEq,ki,j8,lend,frz,frzL,zRow,kg,kd,closed,jH,j0,binI,remP,remI,retK,retG,kq,retD,kn,resL,resD,oneD,renD,renL,renE,j3,rho,jR,j5,List.append,List.nil_append,List.cons_append,List.append_nil,cond,Nat.reduceBEq,Nat.reduceAdd,Nat.beq]
  refine kA _ _ rfl rfl ?_
  dsimp only [c_plane_Plane_Rect, qm, rD, jo,jK,jT,jr,jI,jM,jq,jJ,jL,iteR,regK,ji,jc,jl,jk,jb,jj,blkK,kr,kh,jd,ja,jy,fpOk,foot,kp,allN,memN,jN,jm,js,jw,jv,jt,ju,jg,jh,jf,je,newN,jx,jS,jU,j2,jO,jP,jQ,jz,jA,jE,jB,jC,jn,jD,jF,jG,j7,evX,evL,evB,rd,get,subG,memG,jW,jY,hyps,gob,impP,allP,j6,j1,j4,ko,nth,ke,km,jX,lenB,kj,jV,entN,setE,jZ,addE,setL,setN,putE,env0,eqCs,j9,eqC,bA,bO,bN,bE,negB,kEq,ki,j8,lend,frz,frzL,zRow,kg,kd,closed,jH,j0,binI,remP,remI,retK,retG,kq,retD,kn,resL,resD,oneD,renD,renL,renE,j3,rho,jR,j5,List.append,List.nil_append,List.cons_append,List.append_nil,cond,Nat.reduceBEq,Nat.reduceAdd,Nat.beq]
  refine kA _ _ rfl rfl ?_
  dsimp only [c_plane_Plane_Rect, qm, rD, jo,jK,jT,jr,jI,jM,jq,jJ,jL,iteR,regK,ji,jc,jl,jk,jb,jj,blkK,kr,kh,jd,ja,jy,fpOk,foot,kp,allN,memN,jN,jm,js,jw,jv,jt,ju,jg,jh,jf,je,newN,jx,jS,jU,j2,jO,jP,jQ,jz,jA,jE,jB,jC,jn,jD,jF,jG,j7,evX,evL,evB,rd,get,subG,memG,jW,jY,hyps,gob,impP,allP,j6,j1,j4,ko,nth,ke,km,jX,lenB,kj,jV,entN,setE,jZ,addE,setL,setN,putE,env0,eqCs,j9,eqC,bA,bO,bN,bE,negB,kEq,ki,j8,lend,frz,frzL,zRow,kg,kd,closed,jH,j0,binI,remP,remI,retK,retG,kq,retD,kn,resL,resD,oneD,renD,renL,renE,j3,rho,jR,j5,List.append,List.nil_append,List.cons_append,List.append_nil,cond,Nat.reduceBEq,Nat.reduceAdd,Nat.beq]
theorem sm_plWas {w h : Nat} {f g : Px} {x y : Int} (hw : w ≤ 128) (hh : h ≤ 128) (hp : inP w h x y) : TSpM 88 [.box 0 0, .int .i64 x, .int .i64 y] (plE w h f g) (.int .u8 (f x y)) (plE w h f g) := by
  have hm := kW hw hh
  obtain ⟨h1, h2, h3, h4⟩ := xK hp
  refine spm_plane_Plane_Was (by rfl) ?_
  dsimp only [c_plane_Plane_Was, k8, jo,jK,jT,jr,jI,jM,jq,jJ,jL,iteR,regK,ji,jc,jl,jk,jb,jj,blkK,kr,kh,jd,ja,jy,fpOk,foot,kp,allN,memN,jN,jm,js,jw,jv,jt,ju,jg,jh,jf,je,newN,jx,jS,jU,j2,jO,jP,jQ,jz,jA,jE,jB,jC,jn,jD,jF,jG,j7,evX,evL,evB,rd,get,subG,memG,jW,jY,hyps,gob,impP,allP,j6,j1,j4,ko,nth,ke,km,jX,lenB,kj,jV,entN,setE,jZ,addE,setL,setN,putE,env0,eqCs,j9,eqC,bA,bO,bN,bE,negB,kEq,ki,j8,lend,frz,frzL,zRow,kg,kd,closed,jH,j0,binI,remP,remI,retK,retG,kq,retD,kn,resL,resD,oneD,renD,renL,renE,j3,rho,jR,j5,List.append,List.nil_append,List.cons_append,List.append_nil,cond,Nat.reduceBEq,Nat.reduceAdd,Nat.beq]
  refine ⟨by simp only [fits]; omega, by simp only [fits]; omega, ⟨rfl, rfl, h1, by rw [zf]; exact h2⟩, ⟨rfl, rfl⟩, kA _ _ (gl_get hp) rfl ?_⟩
  dsimp only [c_plane_Plane_Was, k8, jo,jK,jT,jr,jI,jM,jq,jJ,jL,iteR,regK,ji,jc,jl,jk,jb,jj,blkK,kr,kh,jd,ja,jy,fpOk,foot,kp,allN,memN,jN,jm,js,jw,jv,jt,ju,jg,jh,jf,je,newN,jx,jS,jU,j2,jO,jP,jQ,jz,jA,jE,jB,jC,jn,jD,jF,jG,j7,evX,evL,evB,rd,get,subG,memG,jW,jY,hyps,gob,impP,allP,j6,j1,j4,ko,nth,ke,km,jX,lenB,kj,jV,entN,setE,jZ,addE,setL,setN,putE,env0,eqCs,j9,eqC,bA,bO,bN,bE,negB,kEq,ki,j8,lend,frz,frzL,zRow,kg,kd,closed,jH,j0,binI,remP,remI,retK,retG,kq,retD,kn,resL,resD,oneD,renD,renL,renE,j3,rho,jR,j5,List.append,List.nil_append,List.cons_append,List.append_nil,cond,Nat.reduceBEq,Nat.reduceAdd,Nat.beq]
  exact Rt.id
theorem sm_plNow {w h : Nat} {f g : Px} {x y : Int} (hw : w ≤ 128) (hh : h ≤ 128) (hp : inP w h x y) : TSpM 181 [.box 0 0, .int .i64 x, .int .i64 y] (plE w h f g) (.int .u8 (g x y)) (plE w h f g) := by
  have hm := kW hw hh
  obtain ⟨h1, h2, h3, h4⟩ := xK hp
  refine spm_plane_Plane_Now (by rfl) ?_
  dsimp only [c_plane_Plane_Now, zx, jo,jK,jT,jr,jI,jM,jq,jJ,jL,iteR,regK,ji,jc,jl,jk,jb,jj,blkK,kr,kh,jd,ja,jy,fpOk,foot,kp,allN,memN,jN,jm,js,jw,jv,jt,ju,jg,jh,jf,je,newN,jx,jS,jU,j2,jO,jP,jQ,jz,jA,jE,jB,jC,jn,jD,jF,jG,j7,evX,evL,evB,rd,get,subG,memG,jW,jY,hyps,gob,impP,allP,j6,j1,j4,ko,nth,ke,km,jX,lenB,kj,jV,entN,setE,jZ,addE,setL,setN,putE,env0,eqCs,j9,eqC,bA,bO,bN,bE,negB,kEq,ki,j8,lend,frz,frzL,zRow,kg,kd,closed,jH,j0,binI,remP,remI,retK,retG,kq,retD,kn,resL,resD,oneD,renD,renL,renE,j3,rho,jR,j5,List.append,List.nil_append,List.cons_append,List.append_nil,cond,Nat.reduceBEq,Nat.reduceAdd,Nat.beq]
  refine ⟨by simp only [fits]; omega, by simp only [fits]; omega, ⟨rfl, rfl, h1, by rw [zf]; exact h2⟩, ⟨rfl, rfl⟩, kA _ _ (gl_get hp) rfl ?_⟩
  dsimp only [c_plane_Plane_Now, zx, jo,jK,jT,jr,jI,jM,jq,jJ,jL,iteR,regK,ji,jc,jl,jk,jb,jj,blkK,kr,kh,jd,ja,jy,fpOk,foot,kp,allN,memN,jN,jm,js,jw,jv,jt,ju,jg,jh,jf,je,newN,jx,jS,jU,j2,jO,jP,jQ,jz,jA,jE,jB,jC,jn,jD,jF,jG,j7,evX,evL,evB,rd,get,subG,memG,jW,jY,hyps,gob,impP,allP,j6,j1,j4,ko,nth,ke,km,jX,lenB,kj,jV,entN,setE,jZ,addE,setL,setN,putE,env0,eqCs,j9,eqC,bA,bO,bN,bE,negB,kEq,ki,j8,lend,frz,frzL,zRow,kg,kd,closed,jH,j0,binI,remP,remI,retK,retG,kq,retD,kn,resL,resD,oneD,renD,renL,renE,j3,rho,jR,j5,List.append,List.nil_append,List.cons_append,List.append_nil,cond,Nat.reduceBEq,Nat.reduceAdd,Nat.beq]
  exact Rt.id
theorem sp_plWas {w h : Nat} {f : Px} {x y : Int} (hw : w ≤ 128) (hh : h ≤ 128) (hp : inP w h x y) : TSp 88 [plF w h f, .int .i64 x, .int .i64 y] (.int .u8 (f x y)) := by
  have hm := kW hw hh
  obtain ⟨h1, h2, h3, h4⟩ := xK hp
  refine spo_plane_Plane_Was (by rfl) ?_
  dsimp only [c_plane_Plane_Was, k8, jo,jK,jT,jr,jI,jM,jq,jJ,jL,iteR,regK,ji,jc,jl,jk,jb,jj,blkK,kr,kh,jd,ja,jy,fpOk,foot,kp,allN,memN,jN,jm,js,jw,jv,jt,ju,jg,jh,jf,je,newN,jx,jS,jU,j2,jO,jP,jQ,jz,jA,jE,jB,jC,jn,jD,jF,jG,j7,evX,evL,evB,rd,get,subG,memG,jW,jY,hyps,gob,impP,allP,j6,j1,j4,ko,nth,ke,km,jX,lenB,kj,jV,entN,setE,jZ,addE,setL,setN,putE,env0,eqCs,j9,eqC,bA,bO,bN,bE,negB,kEq,ki,j8,lend,frz,frzL,zRow,kg,kd,closed,jH,j0,binI,remP,remI,retK,retG,kq,retD,kn,resL,resD,oneD,renD,renL,renE,j3,rho,jR,j5,List.append,List.nil_append,List.cons_append,List.append_nil,cond,Nat.reduceBEq,Nat.reduceAdd,Nat.beq]
  refine kA _ _ rfl rfl ?_
  dsimp only [c_plane_Plane_Was, k8, jo,jK,jT,jr,jI,jM,jq,jJ,jL,iteR,regK,ji,jc,jl,jk,jb,jj,blkK,kr,kh,jd,ja,jy,fpOk,foot,kp,allN,memN,jN,jm,js,jw,jv,jt,ju,jg,jh,jf,je,newN,jx,jS,jU,j2,jO,jP,jQ,jz,jA,jE,jB,jC,jn,jD,jF,jG,j7,evX,evL,evB,rd,get,subG,memG,jW,jY,hyps,gob,impP,allP,j6,j1,j4,ko,nth,ke,km,jX,lenB,kj,jV,entN,setE,jZ,addE,setL,setN,putE,env0,eqCs,j9,eqC,bA,bO,bN,bE,negB,kEq,ki,j8,lend,frz,frzL,zRow,kg,kd,closed,jH,j0,binI,remP,remI,retK,retG,kq,retD,kn,resL,resD,oneD,renD,renL,renE,j3,rho,jR,j5,List.append,List.nil_append,List.cons_append,List.append_nil,cond,Nat.reduceBEq,Nat.reduceAdd,Nat.beq]
  refine kA _ _ rfl rfl ?_
  dsimp only [c_plane_Plane_Was, k8, jo,jK,jT,jr,jI,jM,jq,jJ,jL,iteR,regK,ji,jc,jl,jk,jb,jj,blkK,kr,kh,jd,ja,jy,fpOk,foot,kp,allN,memN,jN,jm,js,jw,jv,jt,ju,jg,jh,jf,je,newN,jx,jS,jU,j2,jO,jP,jQ,jz,jA,jE,jB,jC,jn,jD,jF,jG,j7,evX,evL,evB,rd,get,subG,memG,jW,jY,hyps,gob,impP,allP,j6,j1,j4,ko,nth,ke,km,jX,lenB,kj,jV,entN,setE,jZ,addE,setL,setN,putE,env0,eqCs,j9,eqC,bA,bO,bN,bE,negB,kEq,ki,j8,lend,frz,frzL,zRow,kg,kd,closed,jH,j0,binI,remP,remI,retK,retG,kq,retD,kn,resL,resD,oneD,renD,renL,renE,j3,rho,jR,j5,List.append,List.nil_append,List.cons_append,List.append_nil,cond,Nat.reduceBEq,Nat.reduceAdd,Nat.beq]
  refine ⟨by simp only [fits]; omega, by simp only [fits]; omega, ⟨rfl, h1, by rw [zf]; exact h2⟩, kA _ _ (gl_get hp) rfl ?_⟩
  dsimp only [c_plane_Plane_Was, k8, jo,jK,jT,jr,jI,jM,jq,jJ,jL,iteR,regK,ji,jc,jl,jk,jb,jj,blkK,kr,kh,jd,ja,jy,fpOk,foot,kp,allN,memN,jN,jm,js,jw,jv,jt,ju,jg,jh,jf,je,newN,jx,jS,jU,j2,jO,jP,jQ,jz,jA,jE,jB,jC,jn,jD,jF,jG,j7,evX,evL,evB,rd,get,subG,memG,jW,jY,hyps,gob,impP,allP,j6,j1,j4,ko,nth,ke,km,jX,lenB,kj,jV,entN,setE,jZ,addE,setL,setN,putE,env0,eqCs,j9,eqC,bA,bO,bN,bE,negB,kEq,ki,j8,lend,frz,frzL,zRow,kg,kd,closed,jH,j0,binI,remP,remI,retK,retG,kq,retD,kn,resL,resD,oneD,renD,renL,renE,j3,rho,jR,j5,List.append,List.nil_append,List.cons_append,List.append_nil,cond,Nat.reduceBEq,Nat.reduceAdd,Nat.beq]
theorem sm_plSet {w h : Nat} {f g : Px} {x y v : Int} (hw : w ≤ 128) (hh : h ≤ 128) (hp : inP w h x y) : TSpM 142 [.box 0 0, .int .i64 x, .int .i64 y, .int .u8 v] (plE w h f g) (.tup []) (plE w h f (updX g x y v)) := by
  have hm := kW hw hh
  obtain ⟨h1, h2, h3, h4⟩ := xK hp
  refine spm_plane_Plane_Set (by rfl) ?_
  dsimp only [c_plane_Plane_Set, zw, jo,jK,jT,jr,jI,jM,jq,jJ,jL,iteR,regK,ji,jc,jl,jk,jb,jj,blkK,kr,kh,jd,ja,jy,fpOk,foot,kp,allN,memN,jN,jm,js,jw,jv,jt,ju,jg,jh,jf,je,newN,jx,jS,jU,j2,jO,jP,jQ,jz,jA,jE,jB,jC,jn,jD,jF,jG,j7,evX,evL,evB,rd,get,subG,memG,jW,jY,hyps,gob,impP,allP,j6,j1,j4,ko,nth,ke,km,jX,lenB,kj,jV,entN,setE,jZ,addE,setL,setN,putE,env0,eqCs,j9,eqC,bA,bO,bN,bE,negB,kEq,ki,j8,lend,frz,frzL,zRow,kg,kd,closed,jH,j0,binI,remP,remI,retK,retG,kq,retD,kn,resL,resD,oneD,renD,renL,renE,j3,rho,jR,j5,List.append,List.nil_append,List.cons_append,List.append_nil,cond,Nat.reduceBEq,Nat.reduceAdd,Nat.beq]
  refine ⟨by simp only [fits]; omega, by simp only [fits]; omega, ⟨rfl, rfl, h1, by rw [zf]; exact h2⟩, ⟨rfl, rfl⟩, qD (hs := []) _ _ (gl_get hp) rfl ?_⟩
  dsimp only [c_plane_Plane_Set, zw, jo,jK,jT,jr,jI,jM,jq,jJ,jL,iteR,regK,ji,jc,jl,jk,jb,jj,blkK,kr,kh,jd,ja,jy,fpOk,foot,kp,allN,memN,jN,jm,js,jw,jv,jt,ju,jg,jh,jf,je,newN,jx,jS,jU,j2,jO,jP,jQ,jz,jA,jE,jB,jC,jn,jD,jF,jG,j7,evX,evL,evB,rd,get,subG,memG,jW,jY,hyps,gob,impP,allP,j6,j1,j4,ko,nth,ke,km,jX,lenB,kj,jV,entN,setE,jZ,addE,setL,setN,putE,env0,eqCs,j9,eqC,bA,bO,bN,bE,negB,kEq,ki,j8,lend,frz,frzL,zRow,kg,kd,closed,jH,j0,binI,remP,remI,retK,retG,kq,retD,kn,resL,resD,oneD,renD,renL,renE,j3,rho,jR,j5,List.append,List.nil_append,List.cons_append,List.append_nil,cond,Nat.reduceBEq,Nat.reduceAdd,Nat.beq]
  rw [gl_set hp]
  exact Rt.id
theorem sm_plOf {w h : Nat} {f : Px} (hw : w ≤ 128) (hh : h ≤ 128) (hf : Pok f) : TSpM 84 [gD w h f] [] (.box 0 0) (plE w h f f) := by
  have hm := kW hw hh
  refine spm_plane_Of (by rfl) ?_
  dsimp only [c_plane_Of, va, jo,jK,jT,jr,jI,jM,jq,jJ,jL,iteR,regK,ji,jc,jl,jk,jb,jj,blkK,kr,kh,jd,ja,jy,fpOk,foot,kp,allN,memN,jN,jm,js,jw,jv,jt,ju,jg,jh,jf,je,newN,jx,jS,jU,j2,jO,jP,jQ,jz,jA,jE,jB,jC,jn,jD,jF,jG,j7,evX,evL,evB,rd,get,subG,memG,jW,jY,hyps,gob,impP,allP,j6,j1,j4,ko,nth,ke,km,jX,lenB,kj,jV,entN,setE,jZ,addE,setL,setN,putE,env0,eqCs,j9,eqC,bA,bO,bN,bE,negB,kEq,ki,j8,lend,frz,frzL,zRow,kg,kd,closed,jH,j0,binI,remP,remI,retK,retG,kq,retD,kn,resL,resD,oneD,renD,renL,renE,j3,rho,jR,j5,List.append,List.nil_append,List.cons_append,List.append_nil,cond,Nat.reduceBEq,Nat.reduceAdd,Nat.beq]
  refine kt sp_Size ?_
  dsimp only [c_plane_Of, va, jo,jK,jT,jr,jI,jM,jq,jJ,jL,iteR,regK,ji,jc,jl,jk,jb,jj,blkK,kr,kh,jd,ja,jy,fpOk,foot,kp,allN,memN,jN,jm,js,jw,jv,jt,ju,jg,jh,jf,je,newN,jx,jS,jU,j2,jO,jP,jQ,jz,jA,jE,jB,jC,jn,jD,jF,jG,j7,evX,evL,evB,rd,get,subG,memG,jW,jY,hyps,gob,impP,allP,j6,j1,j4,ko,nth,ke,km,jX,lenB,kj,jV,entN,setE,jZ,addE,setL,setN,putE,env0,eqCs,j9,eqC,bA,bO,bN,bE,negB,kEq,ki,j8,lend,frz,frzL,zRow,kg,kd,closed,jH,j0,binI,remP,remI,retK,retG,kq,retD,kn,resL,resD,oneD,renD,renL,renE,j3,rho,jR,j5,List.append,List.nil_append,List.cons_append,List.append_nil,cond,Nat.reduceBEq,Nat.reduceAdd,Nat.beq]
  rw [natMul]
  refine ⟨by simp only [fits]; omega, ⟨by omega, by omega, by omega⟩, ?_⟩
  refine kE (α := {j : Nat // j ≤ h})
    (fun j => ⟨[(1, [], .box 0 0), (5, [], .box 1 0), (26, [], .int .i64 h), (27, [], .int .i64 j.1)],
      [.cells [.int .i64 w, .int .i64 h, .ls 1 (gl w h f)], .cells (plC w h f (.own 2 (j.1 * w + 1)) (.ls 1 [])), .arr 51 1 (j.1 * w + 1) (gk (j.1 * w) w f)]⟩)
    (fun j => h - j.1) ?_ ⟨0, Nat.zero_le _⟩ (by simp [gk])
  rintro ⟨j, hj⟩ I ih
  dsimp only at hj ⊢
  dsimp only [c_plane_Of, va, jo,jK,jT,jr,jI,jM,jq,jJ,jL,iteR,regK,ji,jc,jl,jk,jb,jj,blkK,kr,kh,jd,ja,jy,fpOk,foot,kp,allN,memN,jN,jm,js,jw,jv,jt,ju,jg,jh,jf,je,newN,jx,jS,jU,j2,jO,jP,jQ,jz,jA,jE,jB,jC,jn,jD,jF,jG,j7,evX,evL,evB,rd,get,subG,memG,jW,jY,hyps,gob,impP,allP,j6,j1,j4,ko,nth,ke,km,jX,lenB,kj,jV,entN,setE,jZ,addE,setL,setN,putE,env0,eqCs,j9,eqC,bA,bO,bN,bE,negB,kEq,ki,j8,lend,frz,frzL,zRow,kg,kd,closed,jH,j0,binI,remP,remI,retK,retG,kq,retD,kn,resL,resD,oneD,renD,renL,renE,j3,rho,jR,j5,List.append,List.nil_append,List.cons_append,List.append_nil,cond,Nat.reduceBEq,Nat.reduceAdd,Nat.beq]
  refine ⟨fun hlt => ?_, fun hge => ?_⟩
  · have hjl : j < h := by simpa using hlt
    refine kt (sp_Row hw hh hjl hf) ?_
    dsimp only [c_plane_Of, va, jo,jK,jT,jr,jI,jM,jq,jJ,jL,iteR,regK,ji,jc,jl,jk,jb,jj,blkK,kr,kh,jd,ja,jy,fpOk,foot,kp,allN,memN,jN,jm,js,jw,jv,jt,ju,jg,jh,jf,je,newN,jx,jS,jU,j2,jO,jP,jQ,jz,jA,jE,jB,jC,jn,jD,jF,jG,j7,evX,evL,evB,rd,get,subG,memG,jW,jY,hyps,gob,impP,allP,j6,j1,j4,ko,nth,ke,km,jX,lenB,kj,jV,entN,setE,jZ,addE,setL,setN,putE,env0,eqCs,j9,eqC,bA,bO,bN,bE,negB,kEq,ki,j8,lend,frz,frzL,zRow,kg,kd,closed,jH,j0,binI,remP,remI,retK,retG,kq,retD,kn,resL,resD,oneD,renD,renL,renE,j3,rho,jR,j5,List.append,List.nil_append,List.cons_append,List.append_nil,cond,Nat.reduceBEq,Nat.reduceAdd,Nat.beq]
    rw [rowS_len]
    refine kE (α := {i : Nat // i ≤ w})
      (fun i => ⟨[(1, [], .box 0 0), (5, [], .box 1 0), (7, [], .str (rowS w f j)), (26, [], .int .i64 h), (27, [], .int .i64 j), (34, [], .int .i64 w), (35, [], .int .i64 i.1)],
        [.cells [.int .i64 w, .int .i64 h, .ls 1 (gl w h f)], .cells (plC w h f (.own 2 (j * w + i.1 + 1)) (.ls 1 [])), .arr 51 1 (j * w + i.1 + 1) (gk (j * w + i.1) w f)]⟩)
      (fun i => w - i.1) ?_ ⟨0, Nat.zero_le _⟩ rfl
    rintro ⟨i, hi⟩ I2 ih2
    dsimp only at hi ⊢
    dsimp only [c_plane_Of, va, jo,jK,jT,jr,jI,jM,jq,jJ,jL,iteR,regK,ji,jc,jl,jk,jb,jj,blkK,kr,kh,jd,ja,jy,fpOk,foot,kp,allN,memN,jN,jm,js,jw,jv,jt,ju,jg,jh,jf,je,newN,jx,jS,jU,j2,jO,jP,jQ,jz,jA,jE,jB,jC,jn,jD,jF,jG,j7,evX,evL,evB,rd,get,subG,memG,jW,jY,hyps,gob,impP,allP,j6,j1,j4,ko,nth,ke,km,jX,lenB,kj,jV,entN,setE,jZ,addE,setL,setN,putE,env0,eqCs,j9,eqC,bA,bO,bN,bE,negB,kEq,ki,j8,lend,frz,frzL,zRow,kg,kd,closed,jH,j0,binI,remP,remI,retK,retG,kq,retD,kn,resL,resD,oneD,renD,renL,renE,j3,rho,jR,j5,List.append,List.nil_append,List.cons_append,List.append_nil,cond,Nat.reduceBEq,Nat.reduceAdd,Nat.beq]
    refine ⟨fun hlt => ?_, fun hge => ?_⟩
    · have hil : i < w := by simpa using hlt
      have hidx := idx_lt hil hjl
      have hb : ((rowS w f j).getD ((i : Nat) : Int).toNat 0).toNat = (f i j).toNat := by
        have := hf i j
        rw [Int.toNat_natCast, List.getD_eq_getElem?_getD]
        simp only [rowS, List.getElem?_map, List.getElem?_range hil, Option.map_some, Option.getD_some]
        rw [UInt8.toNat_ofNat']; omega
      have hfi := hf i j
      rw [hb, gk_len, show (((f i j).toNat : Nat) : Int) = f i j by omega]
      refine ⟨⟨by omega, by rw [rowS_len]; omega⟩, ⟨rfl, rfl, rfl, rfl, by simp only [List.length_cons, List.length_nil]; omega, by simp only [List.length_cons, List.length_nil]; omega⟩, by simp only [fits]; omega, ?_⟩
      have := gk_succ (j * w + i) w f
      rw [glK_at hil] at this
      rw [← this]
      exact qj (ih2 ⟨i + 1, hil⟩ (by dsimp only; omega)) ⟨rfl, rfl, rfl, rfl, rfl, rfl, by simp [get], trivial⟩ ⟨rfl, rfl, rfl, trivial⟩ rfl rfl
    · have hil : i = w := by have : ¬ i < w := by simpa using hge
                             omega
      subst hil
      refine ⟨by simp only [fits]; omega, ?_⟩
      have e : j * i + i = (j + 1) * i := by rw [Nat.add_mul]; omega
      rw [e]
      exact qj (ih ⟨j + 1, hjl⟩ (by dsimp only; omega)) ⟨rfl, rfl, rfl, by simp [get], trivial⟩ ⟨rfl, rfl, rfl, trivial⟩ rfl rfl
  · have hjl : j = h := by have : ¬ j < h := by simpa using hge
                           omega
    subst hjl
    have e : gk (j * w) w f = gl w j f := by unfold gl; rw [Nat.mul_comm]
    rw [e, zf, Nat.mul_comm j w]
    have hov : over (List.replicate ((w * j : Nat) : Int).toNat (.int .u8 0)) (gl w j f) = gl w j f := by
      unfold over
      rw [Int.toNat_natCast, List.length_replicate, List.take_of_length_le (by rw [zf]; omega), List.drop_eq_nil_of_le (by rw [List.length_replicate, zf]; unfold minN; split <;> omega), List.append_nil]
    rw [hov]
    exact ⟨rfl, ⟨by omega, by omega, by omega⟩, ⟨rfl, rfl, rfl, rfl, rfl⟩, Rt.pick [1, 2, 3] rfl rfl rfl⟩
theorem sp_plOf {w h : Nat} {f : Px} (hw : w ≤ 128) (hh : h ≤ 128) (hf : Pok f) : TSp 84 [gD w h f] (plF w h f) := by
  refine (sm_plOf hw hh hf).rt ?_
  have h1 := Rt.give (n0 := 0) (bx := plE w h f f) (d := .box 0 0) (k := 0) (j := 1) (i := 2) rfl rfl rfl
  have h2 := Rt.give (n0 := 0) (bx := [.cells (plC w h f (.ls 1 (gl w h f)) (.own 2 1)), .gone, .arr 51 1 1 (gl w h f)]) (d := .box 0 0) (k := 0) (j := 2) (i := 3) rfl rfl rfl
  have h3 := Rt.cellsEl (n0 := 0) (bx := [.cells (plC w h f (.ls 1 (gl w h f)) (.ls 1 (gl w h f))), .gone, .gone]) (k := 0) rfl rfl
  exact ((h1.trans h2).trans h3).trans (Rt.cut (Nat.zero_le _) (by trivial) rfl rfl)
end Go.AM


set_option linter.all false
namespace Go.AM
open Go Go.Proofs
theorem tRectss : Tryz.prog.underlying 240 = some (.slice 40) := by kernel_rfl
theorem iRects : (Tryz.prog.info? 40).map (fun i => (i.zero, i.size, Nat.ble i.bytes 65536)) = some (some (.slice none 0 0), 1, true) := by kernel_rfl
def tabT (R : Nat → List Rc) : Nat → Nat × List D := fun v => ((R v).length, rcs (R v))
theorem tabT_set {R : Nat → List Rc} {v : Nat} {r : Rc} : setT (tabT R) v ((R v).length + 1, rcs (R v) ++ [rD r]) = tabT (setR R v (R v ++ [r])) := by
  funext i
  unfold setT tabT setR
  split <;> simp [rcs]
theorem tbl_low {n : Nat} {T : Nat → Nat × List D} {m : Nat} : lowB n (tblE 45 4 T m) = true := by
  unfold tblE
  generalize List.range m = l
  induction l with
  | nil => rfl
  | cons a l ih => simpa only [List.map_cons, lowB] using ih
theorem owns_low {n k : Nat} {T : Nat → Nat × List D} {m : Nat} (h : m + k ≤ n) : lowL n (owns k T m) = true := by
  have key : ∀ l : List Nat, (∀ i ∈ l, i < m) → lowL n (l.map fun i => D.own (i + k) (T i).1) = true := fun l => by
    induction l with
    | nil => intro _; rfl
    | cons a l ih =>
      intro hl
      simp only [List.map_cons, lowL, low, Bool.and_eq_true]
      have := hl a (by simp)
      exact ⟨by rw [qN]; omega, ih fun i hi => hl i (by simp [hi])⟩
  exact key _ fun i hi => List.mem_range.1 hi
theorem sizeT {T : Nat → Nat × List D} {m : Nat} : jZ (tblE 45 4 T m) = m := by rw [kR, tblE_len]
theorem setL_one {l : List D} {o : Nat} {d : D} (h : o < l.length) : setL l o [d] = some (l.set o d) := by
  have key : ∀ (l : List D) (o : Nat), o < l.length → setN l o d = some (l.set o d) := fun l => by
    induction l with
    | nil => intro o h; simp at h
    | cons x l ih =>
      intro o h
      cases o with
      | zero => rfl
      | succ o => simp only [setN]; rw [ih o (by simpa using h)]; rfl
  simp only [setL]
  rw [key l o h]
abbrev chE (w h : Nat) (f g : Px) (R : Nat → List Rc) : List Ent := .cells (plC w h f (.own 1 (w * h + 1)) (.own 2 1)) :: .arr 51 1 (w * h + 1) (gl w h f) :: .arr 51 1 1 (gl w h g) :: .cells (owns 4 (tabT R) 256) :: tblE 45 4 (tabT R) 256
theorem chE_size {w h : Nat} {f g : Px} {R : Nat → List Rc} : jZ (chE w h f g R) = 260 := by
  simp only [chE, jZ, sizeT]
theorem chE_low {w h : Nat} {f g : Px} {R : Nat → List Rc} : lowB 260 (chE w h f g R) = true := by
  simp only [chE, lowB, Bool.and_eq_true]
  exact ⟨rfl, owns_low (by omega), tbl_low⟩
theorem chAgain {w h : Nat} {f g : Px} {R : Nat → List Rc} {I : St → Prop} {env env' : Env} (h0 : I ⟨env', chE w h f g R⟩) (h1 : subE env env') (h2 : lowE 260 env' = true) : some' 3 I ⟨env, chE w h f g R⟩ :=
  .inr ⟨⟨env', chE w h f g R⟩, ⟨by show Nat.ble 3 (jZ (chE w h f g R)) = true; rw [chE_size]; rfl, h1, subB_self _, by show lowE (jZ (chE w h f g R)) env' = true; rw [chE_size]; exact h2, by show lowB (jZ (chE w h f g R)) (chE w h f g R) = true; rw [chE_size]; exact chE_low⟩, h0⟩
theorem sm_changed {w h : Nat} {f g : Px} (hw : w ≤ 128) (hh : h ≤ 128) (hg : Pok g) :
    TSpM 144 [.box 0 0] (plE w h f g) (.ls 1 (lsT 4 (tabT (allF w h f g 0 fun _ => [])) 256)) (plE w h f g) := by
  have hm := kW hw hh
  obtain ⟨Rf, hRf⟩ : ∃ Rf, Rf = allF w h f g 0 fun _ => [] := ⟨_, rfl⟩
  rw [← hRf]
  refine x5 (by rfl) ?_
  dsimp only [c_plane_Plane_changed, kH, jo,jK,jT,jr,jI,jM,jq,jJ,jL,iteR,regK,ji,jc,jl,jk,jb,jj,blkK,kr,kh,jd,ja,jy,fpOk,foot,kp,allN,memN,jN,jm,js,jw,jv,jt,ju,jg,jh,jf,je,newN,jx,jS,jU,j2,jO,jP,jQ,jz,jA,jE,jB,jC,jn,jD,jF,jG,j7,evX,evL,evB,rd,get,subG,memG,jW,jY,hyps,gob,impP,allP,j6,j1,j4,ko,nth,ke,km,jX,lenB,kj,jV,entN,setE,jZ,addE,setL,setN,putE,env0,eqCs,j9,eqC,bA,bO,bN,bE,negB,kEq,ki,j8,lend,frz,frzL,zRow,kg,kd,closed,jH,j0,binI,remP,remI,retK,retG,kq,retD,kn,resL,resD,oneD,renD,renL,renE,j3,rho,jR,j5,List.append,List.nil_append,List.cons_append,List.append_nil,cond,Nat.reduceBEq,Nat.reduceAdd,Nat.beq]
  obtain ⟨inf, hi1, hi2⟩ := Option.map_eq_some_iff.1 iRects
  simp only [Prod.mk.injEq] at hi2
  refine prm_eff _ _ (pr_mkd (e2 := 45) (sz2 := 4) (n := 256) tRectss hi1 hi2.1 hi2.2.1 (by have := hi2.2.2; simpa using this) (by omega)) ?_
  dsimp only [c_plane_Plane_changed, kH, jo,jK,jT,jr,jI,jM,jq,jJ,jL,iteR,regK,ji,jc,jl,jk,jb,jj,blkK,kr,kh,jd,ja,jy,fpOk,foot,kp,allN,memN,jN,jm,js,jw,jv,jt,ju,jg,jh,jf,je,newN,jx,jS,jU,j2,jO,jP,jQ,jz,jA,jE,jB,jC,jn,jD,jF,jG,j7,evX,evL,evB,rd,get,subG,memG,jW,jY,hyps,gob,impP,allP,j6,j1,j4,ko,nth,ke,km,jX,lenB,kj,jV,entN,setE,jZ,addE,setL,setN,putE,env0,eqCs,j9,eqC,bA,bO,bN,bE,negB,kEq,ki,j8,lend,frz,frzL,zRow,kg,kd,closed,jH,j0,binI,remP,remI,retK,retG,kq,retD,kn,resL,resD,oneD,renD,renL,renE,j3,rho,jR,j5,List.append,List.nil_append,List.cons_append,List.append_nil,cond,Nat.reduceBEq,Nat.reduceAdd,Nat.beq]
  refine kE (α := {p : Nat × (Nat → List Rc) // p.1 ≤ h ∧ CT w h f g p.1 0 p.2 ∧ allF w h f g p.1 p.2 = Rf})
    (fun p => ⟨[(0, [], .box 0 0), (3, [], .bsl 3 0 1 256), (12, [], .int .i64 h), (13, [], .int .i64 p.1.1)], chE w h f g p.1.2⟩) (fun p => h - p.1.1) ?_ ⟨(0, fun _ => []), Nat.zero_le _, CT_nil _ _ _ _, hRf.symm⟩ rfl
  rintro ⟨⟨y, R⟩, hy, hc, hf⟩ I ih
  dsimp only at hy hc hf ⊢
  dsimp only [c_plane_Plane_changed, kH, jo,jK,jT,jr,jI,jM,jq,jJ,jL,iteR,regK,ji,jc,jl,jk,jb,jj,blkK,kr,kh,jd,ja,jy,fpOk,foot,kp,allN,memN,jN,jm,js,jw,jv,jt,ju,jg,jh,jf,je,newN,jx,jS,jU,j2,jO,jP,jQ,jz,jA,jE,jB,jC,jn,jD,jF,jG,j7,evX,evL,evB,rd,get,subG,memG,jW,jY,hyps,gob,impP,allP,j6,j1,j4,ko,nth,ke,km,jX,lenB,kj,jV,entN,setE,jZ,addE,setL,setN,putE,env0,eqCs,j9,eqC,bA,bO,bN,bE,negB,kEq,ki,j8,lend,frz,frzL,zRow,kg,kd,closed,jH,j0,binI,remP,remI,retK,retG,kq,retD,kn,resL,resD,oneD,renD,renL,renE,j3,rho,jR,j5,List.append,List.nil_append,List.cons_append,List.append_nil,cond,Nat.reduceBEq,Nat.reduceAdd,Nat.beq]
  refine ⟨fun hlt => ?_, fun hge => ?_⟩
  · have hyl : y < h := by simpa using hlt
    refine kE (α := {p : Nat × (Nat → List Rc) // p.1 ≤ w ∧ CT w h f g y p.1 p.2 ∧ allF w h f g (y + 1) (rowF w f g y p.1 p.2) = Rf})
      (fun p => ⟨[(0, [], .box 0 0), (3, [], .bsl 3 0 1 256), (4, [], .int .i64 y), (5, [], .int .i64 p.1.1), (12, [], .int .i64 h), (13, [], .int .i64 y)], chE w h f g p.1.2⟩) (fun p => w - p.1.1) ?_ ⟨(0, R), Nat.zero_le _, hc, by rw [← allF_go hyl]; exact hf⟩ rfl
    rintro ⟨⟨x, R2⟩, hx, hc2, hf2⟩ I2 ih2
    dsimp only at hx hc2 hf2 ⊢
    dsimp only [c_plane_Plane_changed, kH, jo,jK,jT,jr,jI,jM,jq,jJ,jL,iteR,regK,ji,jc,jl,jk,jb,jj,blkK,kr,kh,jd,ja,jy,fpOk,foot,kp,allN,memN,jN,jm,js,jw,jv,jt,ju,jg,jh,jf,je,newN,jx,jS,jU,j2,jO,jP,jQ,jz,jA,jE,jB,jC,jn,jD,jF,jG,j7,evX,evL,evB,rd,get,subG,memG,jW,jY,hyps,gob,impP,allP,j6,j1,j4,ko,nth,ke,km,jX,lenB,kj,jV,entN,setE,jZ,addE,setL,setN,putE,env0,eqCs,j9,eqC,bA,bO,bN,bE,negB,kEq,ki,j8,lend,frz,frzL,zRow,kg,kd,closed,jH,j0,binI,remP,remI,retK,retG,kq,retD,kn,resL,resD,oneD,renD,renL,renE,j3,rho,jR,j5,List.append,List.nil_append,List.cons_append,List.append_nil,cond,Nat.reduceBEq,Nat.reduceAdd,Nat.beq]
    refine ⟨fun hlt => ?_, fun hge => ?_⟩
    · have hxl : x < w := by simpa using hlt
      have hp : ∀ z : Nat, z < w → inP w h z y := fun z hz => ⟨by omega, by omega⟩
      refine qF [0, 1, 2] (sm_plNow (f := f) (g := g) hw hh (hp x hxl)) rfl rfl (v6 rfl) ?_
      dsimp only [c_plane_Plane_changed, kH, jo,jK,jT,jr,jI,jM,jq,jJ,jL,iteR,regK,ji,jc,jl,jk,jb,jj,blkK,kr,kh,jd,ja,jy,fpOk,foot,kp,allN,memN,jN,jm,js,jw,jv,jt,ju,jg,jh,jf,je,newN,jx,jS,jU,j2,jO,jP,jQ,jz,jA,jE,jB,jC,jn,jD,jF,jG,j7,evX,evL,evB,rd,get,subG,memG,jW,jY,hyps,gob,impP,allP,j6,j1,j4,ko,nth,ke,km,jX,lenB,kj,jV,entN,setE,jZ,addE,setL,setN,putE,env0,eqCs,j9,eqC,bA,bO,bN,bE,negB,kEq,ki,j8,lend,frz,frzL,zRow,kg,kd,closed,jH,j0,binI,remP,remI,retK,retG,kq,retD,kn,resL,resD,oneD,renD,renL,renE,j3,rho,jR,j5,List.append,List.nil_append,List.cons_append,List.append_nil,cond,Nat.reduceBEq,Nat.reduceAdd,Nat.beq]
      refine kE (α := {z : Nat // x ≤ z ∧ z ≤ w ∧ runZ w f g y (g x y) z = runZ w f g y (g x y) x})
        (fun z => ⟨[(0, [], .box 0 0), (3, [], .bsl 3 0 1 256), (4, [], .int .i64 y), (5, [], .int .i64 z.1), (6, [], .int .u8 (g x y)), (7, [], .int .i64 x), (12, [], .int .i64 h), (13, [], .int .i64 y)], chE w h f g R2⟩) (fun z => w - z.1) ?_ ⟨x, Nat.le_refl _, hx, rfl⟩ rfl
      rintro ⟨z, hz1, hz2, hz3⟩ I3 ih3
      dsimp only at hz1 hz2 hz3 ⊢
      dsimp only [c_plane_Plane_changed, kH, jo,jK,jT,jr,jI,jM,jq,jJ,jL,iteR,regK,ji,jc,jl,jk,jb,jj,blkK,kr,kh,jd,ja,jy,fpOk,foot,kp,allN,memN,jN,jm,js,jw,jv,jt,ju,jg,jh,jf,je,newN,jx,jS,jU,j2,jO,jP,jQ,jz,jA,jE,jB,jC,jn,jD,jF,jG,j7,evX,evL,evB,rd,get,subG,memG,jW,jY,hyps,gob,impP,allP,j6,j1,j4,ko,nth,ke,km,jX,lenB,kj,jV,entN,setE,jZ,addE,setL,setN,putE,env0,eqCs,j9,eqC,bA,bO,bN,bE,negB,kEq,ki,j8,lend,frz,frzL,zRow,kg,kd,closed,jH,j0,binI,remP,remI,retK,retG,kq,retD,kn,resL,resD,oneD,renD,renL,renE,j3,rho,jR,j5,List.append,List.nil_append,List.cons_append,List.append_nil,cond,Nat.reduceBEq,Nat.reduceAdd,Nat.beq]
      refine qF [0, 1, 2] (fun hlt => sm_plNow (f := f) (g := g) hw hh (hp z (by simpa using hlt))) rfl rfl (v6 rfl) ?_
      dsimp only [c_plane_Plane_changed, kH, jo,jK,jT,jr,jI,jM,jq,jJ,jL,iteR,regK,ji,jc,jl,jk,jb,jj,blkK,kr,kh,jd,ja,jy,fpOk,foot,kp,allN,memN,jN,jm,js,jw,jv,jt,ju,jg,jh,jf,je,newN,jx,jS,jU,j2,jO,jP,jQ,jz,jA,jE,jB,jC,jn,jD,jF,jG,j7,evX,evL,evB,rd,get,subG,memG,jW,jY,hyps,gob,impP,allP,j6,j1,j4,ko,nth,ke,km,jX,lenB,kj,jV,entN,setE,jZ,addE,setL,setN,putE,env0,eqCs,j9,eqC,bA,bO,bN,bE,negB,kEq,ki,j8,lend,frz,frzL,zRow,kg,kd,closed,jH,j0,binI,remP,remI,retK,retG,kq,retD,kn,resL,resD,oneD,renD,renL,renE,j3,rho,jR,j5,List.append,List.nil_append,List.cons_append,List.append_nil,cond,Nat.reduceBEq,Nat.reduceAdd,Nat.beq]
      refine qF [0, 1, 2] (fun hlt => sm_plWas (f := f) (g := g) hw hh (hp z (by simp only [Bool.and_eq_true, decide_eq_true_eq] at hlt; omega))) rfl rfl (v6 rfl) ?_
      dsimp only [c_plane_Plane_changed, kH, jo,jK,jT,jr,jI,jM,jq,jJ,jL,iteR,regK,ji,jc,jl,jk,jb,jj,blkK,kr,kh,jd,ja,jy,fpOk,foot,kp,allN,memN,jN,jm,js,jw,jv,jt,ju,jg,jh,jf,je,newN,jx,jS,jU,j2,jO,jP,jQ,jz,jA,jE,jB,jC,jn,jD,jF,jG,j7,evX,evL,evB,rd,get,subG,memG,jW,jY,hyps,gob,impP,allP,j6,j1,j4,ko,nth,ke,km,jX,lenB,kj,jV,entN,setE,jZ,addE,setL,setN,putE,env0,eqCs,j9,eqC,bA,bO,bN,bE,negB,kEq,ki,j8,lend,frz,frzL,zRow,kg,kd,closed,jH,j0,binI,remP,remI,retK,retG,kq,retD,kn,resL,resD,oneD,renD,renL,renE,j3,rho,jR,j5,List.append,List.nil_append,List.cons_append,List.append_nil,cond,Nat.reduceBEq,Nat.reduceAdd,Nat.beq]
      have hbnd := hg x y
      obtain ⟨v, hv⟩ : ∃ v, (g x y).toNat = v := ⟨_, rfl⟩
      have hv256 : v < 256 := by omega
      refine ⟨fun hgo => ⟨by simp only [fits]; omega, ?_⟩, fun hstop => ⟨fun heq => ⟨by simp only [fits]; omega, ?_⟩, fun hne => ⟨⟨rfl, by omega, by omega⟩, ?_⟩⟩⟩
      · simp only [Bool.and_eq_true, decide_eq_true_eq, Bool.not_eq_true', decide_eq_false_iff_not] at hgo
        have hz4 : z < w := by omega
        refine chAgain (ih3 ⟨z + 1, by omega, by omega, by rw [← runZ_go ⟨hz4, hgo.1.2, hgo.2⟩]; exact hz3⟩ (by dsimp only; omega)) ⟨rfl, rfl, rfl, by simp [get], rfl, rfl, rfl, rfl, trivial⟩ rfl
      · have hzx : z = x := by simp only [decide_eq_true_eq] at heq; omega
        subst hzx
        have hno : ¬ z < runZ w f g y (g z y) z := by
          rw [runZ_no]
          · omega
          · rintro ⟨h1, h2, h3⟩
            rw [Bool.eq_false_iff] at hstop
            exact hstop (by simp only [Bool.and_eq_true, decide_eq_true_eq, Bool.not_eq_true', decide_eq_false_iff_not]; exact ⟨⟨by omega, trivial⟩, h3⟩)
        refine chAgain (ih2 ⟨(z + 1, R2), by omega, CT_skip' hc2 hxl hno, by rw [← rowF_skip hxl hno]; exact hf2⟩ (by dsimp only; omega)) ⟨rfl, rfl, rfl, by simp [get], rfl, rfl, trivial⟩ rfl
      · have hzx : x < z := by simp only [decide_eq_false_iff_not] at hne; omega
        have hZ : runZ w f g y (g x y) x = z := by
          rw [← hz3, runZ_no]
          rintro ⟨h1, h2, h3⟩
          rw [Bool.eq_false_iff] at hstop
          exact hstop (by simp only [Bool.and_eq_true, decide_eq_true_eq, Bool.not_eq_true', decide_eq_false_iff_not]; exact ⟨⟨by omega, h2⟩, h3⟩)
        have hent : entN (tblE 45 4 (tabT R2) 256) v = some (.arr 45 4 (R2 v).length (rcs (R2 v))) := by rw [kN]; exact tblE_get hv256
        have e1 : 0 + (g x y).toNat * 1 = v := by omega
        have hlen := hc2.n v hv256
        have hidx := idx_lt hxl hyl
        rw [e1]
        refine arr_intro (.own (v + 4) (R2 v).length) (show nth _ _ = _ by rw [nth_eq]; exact owns_get hv256) ?_
        dsimp only [c_plane_Plane_changed, kH, jo,jK,jT,jr,jI,jM,jq,jJ,jL,iteR,regK,ji,jc,jl,jk,jb,jj,blkK,kr,kh,jd,ja,jy,fpOk,foot,kp,allN,memN,jN,jm,js,jw,jv,jt,ju,jg,jh,jf,je,newN,jx,jS,jU,j2,jO,jP,jQ,jz,jA,jE,jB,jC,jn,jD,jF,jG,j7,evX,evL,evB,rd,get,subG,memG,jW,jY,hyps,gob,impP,allP,j6,j1,j4,ko,nth,ke,km,jX,lenB,kj,jV,entN,setE,jZ,addE,setL,setN,putE,env0,eqCs,j9,eqC,bA,bO,bN,bE,negB,kEq,ki,j8,lend,frz,frzL,zRow,kg,kd,closed,jH,j0,binI,remP,remI,retK,retG,kq,retD,kn,resL,resD,oneD,renD,renL,renE,j3,rho,jR,j5,List.append,List.nil_append,List.cons_append,List.append_nil,cond,Nat.reduceBEq,Nat.reduceAdd,Nat.beq]
        rw [hent]
        dsimp only [c_plane_Plane_changed, kH, jo,jK,jT,jr,jI,jM,jq,jJ,jL,iteR,regK,ji,jc,jl,jk,jb,jj,blkK,kr,kh,jd,ja,jy,fpOk,foot,kp,allN,memN,jN,jm,js,jw,jv,jt,ju,jg,jh,jf,je,newN,jx,jS,jU,j2,jO,jP,jQ,jz,jA,jE,jB,jC,jn,jD,jF,jG,j7,evX,evL,evB,rd,get,subG,memG,jW,jY,hyps,gob,impP,allP,j6,j1,j4,ko,nth,ke,km,jX,lenB,kj,jV,entN,setE,jZ,addE,setL,setN,putE,env0,eqCs,j9,eqC,bA,bO,bN,bE,negB,kEq,ki,j8,lend,frz,frzL,zRow,kg,kd,closed,jH,j0,binI,remP,remI,retK,retG,kq,retD,kn,resL,resD,oneD,renD,renL,renE,j3,rho,jR,j5,List.append,List.nil_append,List.cons_append,List.append_nil,cond,Nat.reduceBEq,Nat.reduceAdd,Nat.beq]
        rw [ky]
        refine ⟨by simp only [fits]; omega, ?_⟩
        have hset : setE (tblE 45 4 (tabT R2) 256) v (.arr 45 4 ((R2 v).length + 1) (rcs (R2 v) ++ [rD ⟨x, y, (z : Int) - x, 1⟩])) = tblE 45 4 (tabT (setR R2 v (R2 v ++ [⟨x, y, (z : Int) - x, 1⟩]))) 256 := by
          rw [qJ, ← tabT_set]; exact tblE_set ((R2 v).length + 1, rcs (R2 v) ++ [rD ⟨x, y, (z : Int) - x, 1⟩])
        have howns : (owns 4 (tabT R2) 256).set v (.own (v + 4) ((R2 v).length + 1)) = owns 4 (tabT (setR R2 v (R2 v ++ [⟨x, y, (z : Int) - x, 1⟩]))) 256 := by
          rw [← tabT_set]; exact owns_set (k := 4) (n := 256) (i := v) ((R2 v).length + 1, rcs (R2 v) ++ [rD ⟨x, y, (z : Int) - x, 1⟩])
        refine ⟨⟨rfl, rfl, rfl, rfl, by simp only [List.length_cons, List.length_nil]; omega, by simp only [List.length_cons, List.length_nil]; omega⟩, ⟨rfl, by omega, by omega⟩, put_intro (hs := []) ((owns 4 (tabT R2) 256).set v (.own (v + 4) ((R2 v).length + 1))) (show setL (owns 4 (tabT R2) 256) (0 + (g x y).toNat * 1) [.own (v + 4) ((R2 v).length + 1)] = _ by rw [e1]; exact setL_one (by simp [owns, hv256])) ?_⟩
        dsimp only [c_plane_Plane_changed, kH, jo,jK,jT,jr,jI,jM,jq,jJ,jL,iteR,regK,ji,jc,jl,jk,jb,jj,blkK,kr,kh,jd,ja,jy,fpOk,foot,kp,allN,memN,jN,jm,js,jw,jv,jt,ju,jg,jh,jf,je,newN,jx,jS,jU,j2,jO,jP,jQ,jz,jA,jE,jB,jC,jn,jD,jF,jG,j7,evX,evL,evB,rd,get,subG,memG,jW,jY,hyps,gob,impP,allP,j6,j1,j4,ko,nth,ke,km,jX,lenB,kj,jV,entN,setE,jZ,addE,setL,setN,putE,env0,eqCs,j9,eqC,bA,bO,bN,bE,negB,kEq,ki,j8,lend,frz,frzL,zRow,kg,kd,closed,jH,j0,binI,remP,remI,retK,retG,kq,retD,kn,resL,resD,oneD,renD,renL,renE,j3,rho,jR,j5,List.append,List.nil_append,List.cons_append,List.append_nil,cond,Nat.reduceBEq,Nat.reduceAdd,Nat.beq]
        have hC := CT_run' hg hc2 hyl hxl (by rw [hZ]; exact hzx)
        have hF := rowF_run (f := f) (g := g) (R := R2) (y := y) hxl (by rw [hZ]; exact hzx)
        rw [hZ, hv] at hC hF
        rw [hF] at hf2
        have hG := chAgain (w := w) (h := h) (f := f) (g := g) (ih2 ⟨(z, _), hz2, hC, hf2⟩ (by dsimp only; omega)) (env := [(0, [], .box 0 0), (3, [], .bsl 3 0 1 256), (4, [], .int .i64 y), (5, [], .int .i64 z), (12, [], .int .i64 h), (13, [], .int .i64 y)]) ⟨rfl, rfl, rfl, rfl, rfl, rfl, trivial⟩ rfl
        rw [howns]
        refine (congrArg (some' 3 I2) ?_).mp hG
        exact congrArg _ (congrArg (List.cons _) (congrArg (List.cons _) (congrArg (List.cons _) (congrArg (List.cons _) hset.symm))))
    · have hxw : x = w := by have : ¬ x < w := by simpa using hge
                             omega
      subst hxw
      rw [rowF_end (by omega)] at hf2
      exact ⟨by simp only [fits]; omega, chAgain (ih ⟨(y + 1, R2), hyl, CT_row hc2, hf2⟩ (by dsimp only; omega)) ⟨rfl, rfl, rfl, by simp [get], trivial⟩ rfl⟩
  · have hyh : y = h := by have : ¬ y < h := by simpa using hge
                           omega
    subst hyh
    rw [allF_end (by omega)] at hf
    subst hf
    exact Rt.table (pre := plE w y f g) (fun i => by
      have key : ∀ l : List Rc, jH (rcs l) = true := fun l => by
        induction l with
        | nil => rfl
        | cons r l ih => simp only [rcs, List.map_cons, jH, qI]; exact ⟨rfl, ih⟩
      exact key _) (Nat.le_refl _) rfl
end Go.AM

