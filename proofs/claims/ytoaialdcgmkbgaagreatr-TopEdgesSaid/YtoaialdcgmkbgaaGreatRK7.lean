import Derived.Test.YtoaialdcgmkbgaaGreatRQ1

set_option linter.all false
namespace Go.AM
open Go Go.Proofs
theorem X7 {Q Q' : Int → Int → Prop} {s f : Px} {x y : Int} (h : Q x y ↔ Q' x y) : onX Q s f x y = onX Q' s f x y := by
 by_cases hq : Q x y
 ·rw [zf hq, zf (h.1 hq)]
 ·rw [qX hq, qX fun h2 => hq (h.2 h2)]
theorem sm_Fill_1 {w h : Nat} {f : Px} {p : Int} (hw : w ≤ 128) (hh : h ≤ 128) (Q : Int → Int → Prop) (y a b : Int) (hy : 0 ≤ y ∧ y < h) (hab : 0 ≤ a ∧ a < b ∧ b ≤ w) :
  TSpM 163 [.int .i64 y, .int .i64 a, .int .i64 b, .box 0 0, .box 2 0] [.cells [.int .u8 p], .arr 51 1 1 (gl w h (onX Q (fun _ _ => p) f)), .cells [.int .i64 w, .int .i64 h, .own 1 1]] (.tup [])
   [.cells [.int .u8 p], .arr 51 1 1 (gl w h (onX (fun X Y => Q X Y ∨ (Y = y ∧ a ≤ X ∧ X < b)) (fun _ _ => p) f)), .cells [.int .i64 w, .int .i64 h, .own 1 1]] := by
 have hm := qQ hw hh
 refine Jj (by rfl) ?_
 dsimp only [c_grid_Grid_Fill_1, qT, jo,jK,jT,jr,jI,jM,jq,jJ,jL,iteR,regK,ji,jc,jl,jk,jb,jj,blkK,kt,kh,jd,ja,jy,fpOk,foot,kq,allN,memN,jN,jm,js,jw,jv,jt,ju,jg,jh,jf,je,newN,jx,jS,jU,jX,jO,jP,jQ,jz,jA,jE,jB,jC,jn,jD,jF,jG,j7,evX,evL,evB,rd,get,subG,memG,jY,jW,hyps,gob,impP,allP,j5,j2,j4,kp,nth,ke,km,jZ,lenB,kj,jV,entN,setE,j0,addE,setL,setN,putE,env0,eqCs,j9,eqC,bA,bO,bN,bE,negB,kEq,ki,j8,lend,frz,frzL,zRow,kg,kd,closed,jH,j1,binI,remP,remI,retK,retG,kr,retD,ko,resL,resD,oneD,renD,renL,renE,j3,rho,jR,j6,List.append,List.nil_append,List.cons_append,List.append_nil,cond,Nat.reduceBEq,Nat.reduceAdd,Nat.beq]
 have e0 : Q = fun X Y => Q X Y ∨ (Y = y ∧ a ≤ X ∧ X < a) := zb fun X Y => ⟨.inl, fun h => h.elim id fun h => by omega⟩
 refine kH (α := {x : Int // a ≤ x ∧ x ≤ b})
  (fun x => ⟨[(0, [], .int .i64 y), (2, [], .int .i64 b), (3, [], .box 0 0), (4, [], .box 2 0), (8, [], .int .i64 x.1)], [.cells [.int .u8 p], .arr 51 1 1 (gl w h (onX (fun X Y => Q X Y ∨ (Y = y ∧ a ≤ X ∧ X < x.1)) (fun _ _ => p) f)), .cells [.int .i64 w, .int .i64 h, .own 1 1]]⟩)
  (fun x => (b - x.1).toNat) ?_ ⟨a, by omega⟩ (by dsimp only; rw [← e0])
 rintro ⟨x, hx⟩ I ih
 dsimp only at hx ⊢
 dsimp only [c_grid_Grid_Fill_1, qT, jo,jK,jT,jr,jI,jM,jq,jJ,jL,iteR,regK,ji,jc,jl,jk,jb,jj,blkK,kt,kh,jd,ja,jy,fpOk,foot,kq,allN,memN,jN,jm,js,jw,jv,jt,ju,jg,jh,jf,je,newN,jx,jS,jU,jX,jO,jP,jQ,jz,jA,jE,jB,jC,jn,jD,jF,jG,j7,evX,evL,evB,rd,get,subG,memG,jY,jW,hyps,gob,impP,allP,j5,j2,j4,kp,nth,ke,km,jZ,lenB,kj,jV,entN,setE,j0,addE,setL,setN,putE,env0,eqCs,j9,eqC,bA,bO,bN,bE,negB,kEq,ki,j8,lend,frz,frzL,zRow,kg,kd,closed,jH,j1,binI,remP,remI,retK,retG,kr,retD,ko,resL,resD,oneD,renD,renL,renE,j3,rho,jR,j6,List.append,List.nil_append,List.cons_append,List.append_nil,cond,Nat.reduceBEq,Nat.reduceAdd,Nat.beq]
 refine ⟨fun hlt => ?_, fun hge => ?_⟩
 ·simp only [decide_eq_true_eq] at hlt
  have hp : inP w h x y := ⟨by omega, hy⟩
  obtain ⟨h1, h2, h3, h4⟩ := Z3 hp
  refine ⟨by simp only [fits]; omega, by simp only [fits]; omega, ⟨rfl, rfl, h1, by rw [zx]; exact h2⟩, ⟨rfl, rfl⟩, zd (hs := []) _ _ (Q6 hp) rfl ?_⟩
  dsimp only [c_grid_Grid_Fill_1, qT, jo,jK,jT,jr,jI,jM,jq,jJ,jL,iteR,regK,ji,jc,jl,jk,jb,jj,blkK,kt,kh,jd,ja,jy,fpOk,foot,kq,allN,memN,jN,jm,js,jw,jv,jt,ju,jg,jh,jf,je,newN,jx,jS,jU,jX,jO,jP,jQ,jz,jA,jE,jB,jC,jn,jD,jF,jG,j7,evX,evL,evB,rd,get,subG,memG,jY,jW,hyps,gob,impP,allP,j5,j2,j4,kp,nth,ke,km,jZ,lenB,kj,jV,entN,setE,j0,addE,setL,setN,putE,env0,eqCs,j9,eqC,bA,bO,bN,bE,negB,kEq,ki,j8,lend,frz,frzL,zRow,kg,kd,closed,jH,j1,binI,remP,remI,retK,retG,kr,retD,ko,resL,resD,oneD,renD,renL,renE,j3,rho,jR,j6,List.append,List.nil_append,List.cons_append,List.append_nil,cond,Nat.reduceBEq,Nat.reduceAdd,Nat.beq]
  have e1 := onX_upd (Q := fun X Y => Q X Y ∨ (Y = y ∧ a ≤ X ∧ X < x)) (s := fun _ _ => p) (f := f) (x := x) (y := y)
  rw [gl_set hp, e1]
  have e2 : (fun X Y => (Q X Y ∨ (Y = y ∧ a ≤ X ∧ X < x)) ∨ (Y = y ∧ X = x)) = fun X Y => Q X Y ∨ (Y = y ∧ a ≤ X ∧ X < x + 1) := zb fun X Y => by
   constructor
   ·rintro ((h | h) | h)
    ·exact .inl h
    ·exact .inr (by omega)
    ·exact .inr (by omega)
   ·rintro (h | h)
    ·exact .inl (.inl h)
    ·by_cases hX : X = x
     ·exact .inr (by omega)
     ·exact .inl (.inr (by omega))
  rw [e2]
  exact ⟨by simp only [fits]; omega, k9 (ih ⟨x + 1, by omega⟩ (by dsimp only; omega)) ⟨rfl, rfl, rfl, rfl, by simp [get], trivial⟩ ⟨rfl, rfl, rfl, trivial⟩ rfl rfl⟩
 ·simp only [decide_eq_false_iff_not] at hge
  have : x = b := by omega
  subst this
  exact Rt.id
theorem sp_Fill {w h : Nat} {f : Px} {p : Int} {P : Int → Int → Prop} (hw : w ≤ 128) (hh : h ≤ 128) (hP : Bdd P) (hl : (reg P).length ≤ 1048576) :
  TSp 113 [gD w h f, .agg [.ls 4 (rcs (reg P))], .int .u8 p] (gD w h (onX P (fun _ _ => p) f)) := by
 have hm := qQ hw hh
 refine Kr (by rfl) ?_
 dsimp only [c_grid_Grid_Fill, zm, jo,jK,jT,jr,jI,jM,jq,jJ,jL,iteR,regK,ji,jc,jl,jk,jb,jj,blkK,kt,kh,jd,ja,jy,fpOk,foot,kq,allN,memN,jN,jm,js,jw,jv,jt,ju,jg,jh,jf,je,newN,jx,jS,jU,jX,jO,jP,jQ,jz,jA,jE,jB,jC,jn,jD,jF,jG,j7,evX,evL,evB,rd,get,subG,memG,jY,jW,hyps,gob,impP,allP,j5,j2,j4,kp,nth,ke,km,jZ,lenB,kj,jV,entN,setE,j0,addE,setL,setN,putE,env0,eqCs,j9,eqC,bA,bO,bN,bE,negB,kEq,ki,j8,lend,frz,frzL,zRow,kg,kd,closed,jH,j1,binI,remP,remI,retK,retG,kr,retD,ko,resL,resD,oneD,renD,renL,renE,j3,rho,jR,j6,List.append,List.nil_append,List.cons_append,List.append_nil,cond,Nat.reduceBEq,Nat.reduceAdd,Nat.beq]
 refine qm [] (sm_twin hw hh) rfl rfl ?_
 dsimp only [c_grid_Grid_Fill, zm, jo,jK,jT,jr,jI,jM,jq,jJ,jL,iteR,regK,ji,jc,jl,jk,jb,jj,blkK,kt,kh,jd,ja,jy,fpOk,foot,kq,allN,memN,jN,jm,js,jw,jv,jt,ju,jg,jh,jf,je,newN,jx,jS,jU,jX,jO,jP,jQ,jz,jA,jE,jB,jC,jn,jD,jF,jG,j7,evX,evL,evB,rd,get,subG,memG,jY,jW,hyps,gob,impP,allP,j5,j2,j4,kp,nth,ke,km,jZ,lenB,kj,jV,entN,setE,j0,addE,setL,setN,putE,env0,eqCs,j9,eqC,bA,bO,bN,bE,negB,kEq,ki,j8,lend,frz,frzL,zRow,kg,kd,closed,jH,j1,binI,remP,remI,retK,retG,kr,retD,ko,resL,resD,oneD,renD,renL,renE,j3,rho,jR,j6,List.append,List.nil_append,List.cons_append,List.append_nil,cond,Nat.reduceBEq,Nat.reduceAdd,Nat.beq]
 have hsp := sm_spans3 (R := fun Q => gl w h (onX Q (fun _ _ => p) f)) (p := p) hw hh (vm hP) hl (fun Q y a b hy hab => sm_Fill_1 hw hh Q y a b hy hab)
 rw [onX_no] at hsp
 refine qm [2, 4, 5] hsp rfl rfl ?_
 dsimp only [c_grid_Grid_Fill, zm, jo,jK,jT,jr,jI,jM,jq,jJ,jL,iteR,regK,ji,jc,jl,jk,jb,jj,blkK,kt,kh,jd,ja,jy,fpOk,foot,kq,allN,memN,jN,jm,js,jw,jv,jt,ju,jg,jh,jf,je,newN,jx,jS,jU,jX,jO,jP,jQ,jz,jA,jE,jB,jC,jn,jD,jF,jG,j7,evX,evL,evB,rd,get,subG,memG,jY,jW,hyps,gob,impP,allP,j5,j2,j4,kp,nth,ke,km,jZ,lenB,kj,jV,entN,setE,j0,addE,setL,setN,putE,env0,eqCs,j9,eqC,bA,bO,bN,bE,negB,kEq,ki,j8,lend,frz,frzL,zRow,kg,kd,closed,jH,j1,binI,remP,remI,retK,retG,kr,retD,ko,resL,resD,oneD,renD,renL,renE,j3,rho,jR,j6,List.append,List.nil_append,List.cons_append,List.append_nil,cond,Nat.reduceBEq,Nat.reduceAdd,Nat.beq]
 have : gl w h (onX (fun X Y => pts (reg P) X Y ∧ inP w h X Y) (fun _ _ => p) f) = gl w h (onX P (fun _ _ => p) f) := JE fun x y hp => by
  exact X7 (by (try dsimp only); rw [yE hP]; exact ⟨fun h => h.1, fun h => ⟨h, hp⟩⟩)
 rw [this]
 exact ⟨rfl, rfl⟩
end Go.AM


set_option linter.all false
namespace Go.AM
open Go Go.Proofs
theorem sp_known {n : Int} : TSp 208 [.int .i64 n] (.bool (decide (0 ≤ n) && decide (n ≤ 15))) := by
 refine Xs (by rfl) ?_
 dsimp only [c_rop_known, Js, jo,jK,jT,jr,jI,jM,jq,jJ,jL,iteR,regK,ji,jc,jl,jk,jb,jj,blkK,kt,kh,jd,ja,jy,fpOk,foot,kq,allN,memN,jN,jm,js,jw,jv,jt,ju,jg,jh,jf,je,newN,jx,jS,jU,jX,jO,jP,jQ,jz,jA,jE,jB,jC,jn,jD,jF,jG,j7,evX,evL,evB,rd,get,subG,memG,jY,jW,hyps,gob,impP,allP,j5,j2,j4,kp,nth,ke,km,jZ,lenB,kj,jV,entN,setE,j0,addE,setL,setN,putE,env0,eqCs,j9,eqC,bA,bO,bN,bE,negB,kEq,ki,j8,lend,frz,frzL,zRow,kg,kd,closed,jH,j1,binI,remP,remI,retK,retG,kr,retD,ko,resL,resD,oneD,renD,renL,renE,j3,rho,jR,j6,List.append,List.nil_append,List.cons_append,List.append_nil,cond,Nat.reduceBEq,Nat.reduceAdd,Nat.beq]
def wgt (a b : Bool) : Int := if a then (if b then 1 else 2) else if b then 4 else 8
theorem sp_weight {a b : Bool} : TSp 211 [.bool a, .bool b] (.int .i64 (wgt a b)) := by
 refine Ve (by rfl) ?_
 dsimp only [c_rop_weight, yF, jo,jK,jT,jr,jI,jM,jq,jJ,jL,iteR,regK,ji,jc,jl,jk,jb,jj,blkK,kt,kh,jd,ja,jy,fpOk,foot,kq,allN,memN,jN,jm,js,jw,jv,jt,ju,jg,jh,jf,je,newN,jx,jS,jU,jX,jO,jP,jQ,jz,jA,jE,jB,jC,jn,jD,jF,jG,j7,evX,evL,evB,rd,get,subG,memG,jY,jW,hyps,gob,impP,allP,j5,j2,j4,kp,nth,ke,km,jZ,lenB,kj,jV,entN,setE,j0,addE,setL,setN,putE,env0,eqCs,j9,eqC,bA,bO,bN,bE,negB,kEq,ki,j8,lend,frz,frzL,zRow,kg,kd,closed,jH,j1,binI,remP,remI,retK,retG,kr,retD,ko,resL,resD,oneD,renD,renL,renE,j3,rho,jR,j6,List.append,List.nil_append,List.cons_append,List.append_nil,cond,Nat.reduceBEq,Nat.reduceAdd,Nat.beq]
 cases a <;> cases b <;> simp [wgt]
theorem mix_bit : ∀ s : Nat, s < 256 → ∀ i : Nat, i < 8 → (!decide (Int.ofNat (s &&& 2 ^ i) = 0)) = s.testBit i := by decide +kernel
theorem mix_next : ∀ s : Nat, s < 256 → ∀ i : Nat, i < 8 → s % 2 ^ (i + 1) = if s.testBit i then (s % 2 ^ i) ||| 2 ^ i else s % 2 ^ i := by decide +kernel
theorem mix_mask : ∀ i : Nat, i < 8 → (!decide (Int.ofNat (255 &&& 2 ^ i) = 0)) = true := by decide +kernel
theorem mix_none : ∀ d : Nat, d < 256 → (d ^^^ 255) &&& d = 0 := by decide +kernel
theorem sp_isFunc {n : Int} : TSp 139 [.int .i64 n] (.bool (decide (0 ≤ n) && decide (n ≤ 15))) := by
 refine Vi (by rfl) ?_
 dsimp only [c_pen_isFunc, yJ, jo,jK,jT,jr,jI,jM,jq,jJ,jL,iteR,regK,ji,jc,jl,jk,jb,jj,blkK,kt,kh,jd,ja,jy,fpOk,foot,kq,allN,memN,jN,jm,js,jw,jv,jt,ju,jg,jh,jf,je,newN,jx,jS,jU,jX,jO,jP,jQ,jz,jA,jE,jB,jC,jn,jD,jF,jG,j7,evX,evL,evB,rd,get,subG,memG,jY,jW,hyps,gob,impP,allP,j5,j2,j4,kp,nth,ke,km,jZ,lenB,kj,jV,entN,setE,j0,addE,setL,setN,putE,env0,eqCs,j9,eqC,bA,bO,bN,bE,negB,kEq,ki,j8,lend,frz,frzL,zRow,kg,kd,closed,jH,j1,binI,remP,remI,retK,retG,kr,retD,ko,resL,resD,oneD,renD,renL,renE,j3,rho,jR,j6,List.append,List.nil_append,List.cons_append,List.append_nil,cond,Nat.reduceBEq,Nat.reduceAdd,Nat.beq]
theorem Vs {n : Int} : TSp 140 [.int .i64 n] (.bool (decide (-32768 ≤ n) && decide (n ≤ 32767))) := by
 refine ZL (by rfl) ?_
 dsimp only [c_pen_isPlace, x8, jo,jK,jT,jr,jI,jM,jq,jJ,jL,iteR,regK,ji,jc,jl,jk,jb,jj,blkK,kt,kh,jd,ja,jy,fpOk,foot,kq,allN,memN,jN,jm,js,jw,jv,jt,ju,jg,jh,jf,je,newN,jx,jS,jU,jX,jO,jP,jQ,jz,jA,jE,jB,jC,jn,jD,jF,jG,j7,evX,evL,evB,rd,get,subG,memG,jY,jW,hyps,gob,impP,allP,j5,j2,j4,kp,nth,ke,km,jZ,lenB,kj,jV,entN,setE,j0,addE,setL,setN,putE,env0,eqCs,j9,eqC,bA,bO,bN,bE,negB,kEq,ki,j8,lend,frz,frzL,zRow,kg,kd,closed,jH,j1,binI,remP,remI,retK,retG,kr,retD,ko,resL,resD,oneD,renD,renL,renE,j3,rho,jR,j6,List.append,List.nil_append,List.cons_append,List.append_nil,cond,Nat.reduceBEq,Nat.reduceAdd,Nat.beq]
abbrev penC : List D := [.int .i64 3, .int .u8 255, .int .u8 0, .int .u8 1, .int .u32 0, .int .i64 0, .int .i64 0, .bool false, .ls 4 []]
theorem sp_penNew : TSp 16 [] (.agg penC) := by
 refine spo_pen_New (by rfl) ?_
 dsimp only [c_pen_New, Q2, jo,jK,jT,jr,jI,jM,jq,jJ,jL,iteR,regK,ji,jc,jl,jk,jb,jj,blkK,kt,kh,jd,ja,jy,fpOk,foot,kq,allN,memN,jN,jm,js,jw,jv,jt,ju,jg,jh,jf,je,newN,jx,jS,jU,jX,jO,jP,jQ,jz,jA,jE,jB,jC,jn,jD,jF,jG,j7,evX,evL,evB,rd,get,subG,memG,jY,jW,hyps,gob,impP,allP,j5,j2,j4,kp,nth,ke,km,jZ,lenB,kj,jV,entN,setE,j0,addE,setL,setN,putE,env0,eqCs,j9,eqC,bA,bO,bN,bE,negB,kEq,ki,j8,lend,frz,frzL,zRow,kg,kd,closed,jH,j1,binI,remP,remI,retK,retG,kr,retD,ko,resL,resD,oneD,renD,renL,renE,j3,rho,jR,j6,List.append,List.nil_append,List.cons_append,List.append_nil,cond,Nat.reduceBEq,Nat.reduceAdd,Nat.beq]
end Go.AM


set_option linter.all false
namespace Go.AM
open Go Go.Proofs
abbrev plC (w h : Nat) (f : Px) (d1 d2 : D) : List D := [.int .i64 w, .int .i64 h, d1, d2, .int .i64 w, .int .i64 h, .ls 1 (gl w h f)]
abbrev plE (w h : Nat) (f g : Px) : List Ent := [.cells (plC w h f (.own 1 (w * h + 1)) (.own 2 1)), .arr 51 1 (w * h + 1) (gl w h f), .arr 51 1 1 (gl w h g)]
theorem sm_plRect {w h : Nat} {f g : Px} : TSpM 85 [.box 0 0] (plE w h f g) (rD ⟨0, 0, w, h⟩) (plE w h f g) := by
 refine Jh (by rfl) ?_
 dsimp only [c_plane_Plane_Rect, vn, rD, jo,jK,jT,jr,jI,jM,jq,jJ,jL,iteR,regK,ji,jc,jl,jk,jb,jj,blkK,kt,kh,jd,ja,jy,fpOk,foot,kq,allN,memN,jN,jm,js,jw,jv,jt,ju,jg,jh,jf,je,newN,jx,jS,jU,jX,jO,jP,jQ,jz,jA,jE,jB,jC,jn,jD,jF,jG,j7,evX,evL,evB,rd,get,subG,memG,jY,jW,hyps,gob,impP,allP,j5,j2,j4,kp,nth,ke,km,jZ,lenB,kj,jV,entN,setE,j0,addE,setL,setN,putE,env0,eqCs,j9,eqC,bA,bO,bN,bE,negB,kEq,ki,j8,lend,frz,frzL,zRow,kg,kd,closed,jH,j1,binI,remP,remI,retK,retG,kr,retD,ko,resL,resD,oneD,renD,renL,renE,j3,rho,jR,j6,List.append,List.nil_append,List.cons_append,List.append_nil,cond,Nat.reduceBEq,Nat.reduceAdd,Nat.beq]
 exact Rt.cut (Nat.le_refl _) (qK (plE w h f g) _) rfl rfl
theorem sm_plWas {w h : Nat} {f g : Px} {x y : Int} (hw : w ≤ 128) (hh : h ≤ 128) (hp : inP w h x y) : TSpM 88 [.box 0 0, .int .i64 x, .int .i64 y] (plE w h f g) (.int .u8 (f x y)) (plE w h f g) := by
 have hm := qQ hw hh
 obtain ⟨h1, h2, h3, h4⟩ := Z3 hp
 refine J7 (by rfl) ?_
 dsimp only [c_plane_Plane_Was, zD, jo,jK,jT,jr,jI,jM,jq,jJ,jL,iteR,regK,ji,jc,jl,jk,jb,jj,blkK,kt,kh,jd,ja,jy,fpOk,foot,kq,allN,memN,jN,jm,js,jw,jv,jt,ju,jg,jh,jf,je,newN,jx,jS,jU,jX,jO,jP,jQ,jz,jA,jE,jB,jC,jn,jD,jF,jG,j7,evX,evL,evB,rd,get,subG,memG,jY,jW,hyps,gob,impP,allP,j5,j2,j4,kp,nth,ke,km,jZ,lenB,kj,jV,entN,setE,j0,addE,setL,setN,putE,env0,eqCs,j9,eqC,bA,bO,bN,bE,negB,kEq,ki,j8,lend,frz,frzL,zRow,kg,kd,closed,jH,j1,binI,remP,remI,retK,retG,kr,retD,ko,resL,resD,oneD,renD,renL,renE,j3,rho,jR,j6,List.append,List.nil_append,List.cons_append,List.append_nil,cond,Nat.reduceBEq,Nat.reduceAdd,Nat.beq]
 refine ⟨by simp only [fits]; omega, by simp only [fits]; omega, ⟨rfl, rfl, h1, by rw [zx]; exact h2⟩, ⟨rfl, rfl⟩, kB _ _ (Q6 hp) rfl ?_⟩
 dsimp only [c_plane_Plane_Was, zD, jo,jK,jT,jr,jI,jM,jq,jJ,jL,iteR,regK,ji,jc,jl,jk,jb,jj,blkK,kt,kh,jd,ja,jy,fpOk,foot,kq,allN,memN,jN,jm,js,jw,jv,jt,ju,jg,jh,jf,je,newN,jx,jS,jU,jX,jO,jP,jQ,jz,jA,jE,jB,jC,jn,jD,jF,jG,j7,evX,evL,evB,rd,get,subG,memG,jY,jW,hyps,gob,impP,allP,j5,j2,j4,kp,nth,ke,km,jZ,lenB,kj,jV,entN,setE,j0,addE,setL,setN,putE,env0,eqCs,j9,eqC,bA,bO,bN,bE,negB,kEq,ki,j8,lend,frz,frzL,zRow,kg,kd,closed,jH,j1,binI,remP,remI,retK,retG,kr,retD,ko,resL,resD,oneD,renD,renL,renE,j3,rho,jR,j6,List.append,List.nil_append,List.cons_append,List.append_nil,cond,Nat.reduceBEq,Nat.reduceAdd,Nat.beq]
 exact Rt.id
theorem Vv {w h : Nat} {f g : Px} {x y : Int} (hw : w ≤ 128) (hh : h ≤ 128) (hp : inP w h x y) : TSpM 181 [.box 0 0, .int .i64 x, .int .i64 y] (plE w h f g) (.int .u8 (g x y)) (plE w h f g) := by
 have hm := qQ hw hh
 obtain ⟨h1, h2, h3, h4⟩ := Z3 hp
 refine J9 (by rfl) ?_
 dsimp only [c_plane_Plane_Now, zF, jo,jK,jT,jr,jI,jM,jq,jJ,jL,iteR,regK,ji,jc,jl,jk,jb,jj,blkK,kt,kh,jd,ja,jy,fpOk,foot,kq,allN,memN,jN,jm,js,jw,jv,jt,ju,jg,jh,jf,je,newN,jx,jS,jU,jX,jO,jP,jQ,jz,jA,jE,jB,jC,jn,jD,jF,jG,j7,evX,evL,evB,rd,get,subG,memG,jY,jW,hyps,gob,impP,allP,j5,j2,j4,kp,nth,ke,km,jZ,lenB,kj,jV,entN,setE,j0,addE,setL,setN,putE,env0,eqCs,j9,eqC,bA,bO,bN,bE,negB,kEq,ki,j8,lend,frz,frzL,zRow,kg,kd,closed,jH,j1,binI,remP,remI,retK,retG,kr,retD,ko,resL,resD,oneD,renD,renL,renE,j3,rho,jR,j6,List.append,List.nil_append,List.cons_append,List.append_nil,cond,Nat.reduceBEq,Nat.reduceAdd,Nat.beq]
 refine ⟨by simp only [fits]; omega, by simp only [fits]; omega, ⟨rfl, rfl, h1, by rw [zx]; exact h2⟩, ⟨rfl, rfl⟩, kB _ _ (Q6 hp) rfl ?_⟩
 dsimp only [c_plane_Plane_Now, zF, jo,jK,jT,jr,jI,jM,jq,jJ,jL,iteR,regK,ji,jc,jl,jk,jb,jj,blkK,kt,kh,jd,ja,jy,fpOk,foot,kq,allN,memN,jN,jm,js,jw,jv,jt,ju,jg,jh,jf,je,newN,jx,jS,jU,jX,jO,jP,jQ,jz,jA,jE,jB,jC,jn,jD,jF,jG,j7,evX,evL,evB,rd,get,subG,memG,jY,jW,hyps,gob,impP,allP,j5,j2,j4,kp,nth,ke,km,jZ,lenB,kj,jV,entN,setE,j0,addE,setL,setN,putE,env0,eqCs,j9,eqC,bA,bO,bN,bE,negB,kEq,ki,j8,lend,frz,frzL,zRow,kg,kd,closed,jH,j1,binI,remP,remI,retK,retG,kr,retD,ko,resL,resD,oneD,renD,renL,renE,j3,rho,jR,j6,List.append,List.nil_append,List.cons_append,List.append_nil,cond,Nat.reduceBEq,Nat.reduceAdd,Nat.beq]
 exact Rt.id
theorem sm_plSet {w h : Nat} {f g : Px} {x y v : Int} (hw : w ≤ 128) (hh : h ≤ 128) (hp : inP w h x y) : TSpM 142 [.box 0 0, .int .i64 x, .int .i64 y, .int .u8 v] (plE w h f g) (.tup []) (plE w h f (updX g x y v)) := by
 have hm := qQ hw hh
 obtain ⟨h1, h2, h3, h4⟩ := Z3 hp
 refine J8 (by rfl) ?_
 dsimp only [c_plane_Plane_Set, zE, jo,jK,jT,jr,jI,jM,jq,jJ,jL,iteR,regK,ji,jc,jl,jk,jb,jj,blkK,kt,kh,jd,ja,jy,fpOk,foot,kq,allN,memN,jN,jm,js,jw,jv,jt,ju,jg,jh,jf,je,newN,jx,jS,jU,jX,jO,jP,jQ,jz,jA,jE,jB,jC,jn,jD,jF,jG,j7,evX,evL,evB,rd,get,subG,memG,jY,jW,hyps,gob,impP,allP,j5,j2,j4,kp,nth,ke,km,jZ,lenB,kj,jV,entN,setE,j0,addE,setL,setN,putE,env0,eqCs,j9,eqC,bA,bO,bN,bE,negB,kEq,ki,j8,lend,frz,frzL,zRow,kg,kd,closed,jH,j1,binI,remP,remI,retK,retG,kr,retD,ko,resL,resD,oneD,renD,renL,renE,j3,rho,jR,j6,List.append,List.nil_append,List.cons_append,List.append_nil,cond,Nat.reduceBEq,Nat.reduceAdd,Nat.beq]
 refine ⟨by simp only [fits]; omega, by simp only [fits]; omega, ⟨rfl, rfl, h1, by rw [zx]; exact h2⟩, ⟨rfl, rfl⟩, zd (hs := []) _ _ (Q6 hp) rfl ?_⟩
 dsimp only [c_plane_Plane_Set, zE, jo,jK,jT,jr,jI,jM,jq,jJ,jL,iteR,regK,ji,jc,jl,jk,jb,jj,blkK,kt,kh,jd,ja,jy,fpOk,foot,kq,allN,memN,jN,jm,js,jw,jv,jt,ju,jg,jh,jf,je,newN,jx,jS,jU,jX,jO,jP,jQ,jz,jA,jE,jB,jC,jn,jD,jF,jG,j7,evX,evL,evB,rd,get,subG,memG,jY,jW,hyps,gob,impP,allP,j5,j2,j4,kp,nth,ke,km,jZ,lenB,kj,jV,entN,setE,j0,addE,setL,setN,putE,env0,eqCs,j9,eqC,bA,bO,bN,bE,negB,kEq,ki,j8,lend,frz,frzL,zRow,kg,kd,closed,jH,j1,binI,remP,remI,retK,retG,kr,retD,ko,resL,resD,oneD,renD,renL,renE,j3,rho,jR,j6,List.append,List.nil_append,List.cons_append,List.append_nil,cond,Nat.reduceBEq,Nat.reduceAdd,Nat.beq]
 rw [gl_set hp]
 exact Rt.id
theorem sm_plOf {w h : Nat} {f : Px} (hw : w ≤ 128) (hh : h ≤ 128) (hf : Pok f) : TSpM 84 [gD w h f] [] (.box 0 0) (plE w h f f) := by
 have hm := qQ hw hh
 refine Yw (by rfl) ?_
 dsimp only [c_plane_Of, vq, jo,jK,jT,jr,jI,jM,jq,jJ,jL,iteR,regK,ji,jc,jl,jk,jb,jj,blkK,kt,kh,jd,ja,jy,fpOk,foot,kq,allN,memN,jN,jm,js,jw,jv,jt,ju,jg,jh,jf,je,newN,jx,jS,jU,jX,jO,jP,jQ,jz,jA,jE,jB,jC,jn,jD,jF,jG,j7,evX,evL,evB,rd,get,subG,memG,jY,jW,hyps,gob,impP,allP,j5,j2,j4,kp,nth,ke,km,jZ,lenB,kj,jV,entN,setE,j0,addE,setL,setN,putE,env0,eqCs,j9,eqC,bA,bO,bN,bE,negB,kEq,ki,j8,lend,frz,frzL,zRow,kg,kd,closed,jH,j1,binI,remP,remI,retK,retG,kr,retD,ko,resL,resD,oneD,renD,renL,renE,j3,rho,jR,j6,List.append,List.nil_append,List.cons_append,List.append_nil,cond,Nat.reduceBEq,Nat.reduceAdd,Nat.beq]
 refine kx Yy ?_
 dsimp only [c_plane_Of, vq, jo,jK,jT,jr,jI,jM,jq,jJ,jL,iteR,regK,ji,jc,jl,jk,jb,jj,blkK,kt,kh,jd,ja,jy,fpOk,foot,kq,allN,memN,jN,jm,js,jw,jv,jt,ju,jg,jh,jf,je,newN,jx,jS,jU,jX,jO,jP,jQ,jz,jA,jE,jB,jC,jn,jD,jF,jG,j7,evX,evL,evB,rd,get,subG,memG,jY,jW,hyps,gob,impP,allP,j5,j2,j4,kp,nth,ke,km,jZ,lenB,kj,jV,entN,setE,j0,addE,setL,setN,putE,env0,eqCs,j9,eqC,bA,bO,bN,bE,negB,kEq,ki,j8,lend,frz,frzL,zRow,kg,kd,closed,jH,j1,binI,remP,remI,retK,retG,kr,retD,ko,resL,resD,oneD,renD,renL,renE,j3,rho,jR,j6,List.append,List.nil_append,List.cons_append,List.append_nil,cond,Nat.reduceBEq,Nat.reduceAdd,Nat.beq]
 rw [natMul]
 refine ⟨by simp only [fits]; omega, ⟨by omega, by omega, by omega⟩, ?_⟩
 refine kH (α := {j : Nat // j ≤ h})
  (fun j => ⟨[(1, [], .box 0 0), (5, [], .box 1 0), (26, [], .int .i64 h), (27, [], .int .i64 j.1)],
    [.cells [.int .i64 w, .int .i64 h, .ls 1 (gl w h f)], .cells (plC w h f (.own 2 (j.1 * w + 1)) (.ls 1 [])), .arr 51 1 (j.1 * w + 1) (gk (j.1 * w) w f)]⟩)
  (fun j => h - j.1) ?_ ⟨0, Nat.zero_le _⟩ (by simp [gk])
 rintro ⟨j, hj⟩ I ih
 dsimp only at hj ⊢
 dsimp only [c_plane_Of, vq, jo,jK,jT,jr,jI,jM,jq,jJ,jL,iteR,regK,ji,jc,jl,jk,jb,jj,blkK,kt,kh,jd,ja,jy,fpOk,foot,kq,allN,memN,jN,jm,js,jw,jv,jt,ju,jg,jh,jf,je,newN,jx,jS,jU,jX,jO,jP,jQ,jz,jA,jE,jB,jC,jn,jD,jF,jG,j7,evX,evL,evB,rd,get,subG,memG,jY,jW,hyps,gob,impP,allP,j5,j2,j4,kp,nth,ke,km,jZ,lenB,kj,jV,entN,setE,j0,addE,setL,setN,putE,env0,eqCs,j9,eqC,bA,bO,bN,bE,negB,kEq,ki,j8,lend,frz,frzL,zRow,kg,kd,closed,jH,j1,binI,remP,remI,retK,retG,kr,retD,ko,resL,resD,oneD,renD,renL,renE,j3,rho,jR,j6,List.append,List.nil_append,List.cons_append,List.append_nil,cond,Nat.reduceBEq,Nat.reduceAdd,Nat.beq]
 refine ⟨fun hlt => ?_, fun hge => ?_⟩
 ·have hjl : j < h := by simpa using hlt
  refine kx (sp_Row hw hh hjl hf) ?_
  dsimp only [c_plane_Of, vq, jo,jK,jT,jr,jI,jM,jq,jJ,jL,iteR,regK,ji,jc,jl,jk,jb,jj,blkK,kt,kh,jd,ja,jy,fpOk,foot,kq,allN,memN,jN,jm,js,jw,jv,jt,ju,jg,jh,jf,je,newN,jx,jS,jU,jX,jO,jP,jQ,jz,jA,jE,jB,jC,jn,jD,jF,jG,j7,evX,evL,evB,rd,get,subG,memG,jY,jW,hyps,gob,impP,allP,j5,j2,j4,kp,nth,ke,km,jZ,lenB,kj,jV,entN,setE,j0,addE,setL,setN,putE,env0,eqCs,j9,eqC,bA,bO,bN,bE,negB,kEq,ki,j8,lend,frz,frzL,zRow,kg,kd,closed,jH,j1,binI,remP,remI,retK,retG,kr,retD,ko,resL,resD,oneD,renD,renL,renE,j3,rho,jR,j6,List.append,List.nil_append,List.cons_append,List.append_nil,cond,Nat.reduceBEq,Nat.reduceAdd,Nat.beq]
  rw [rowS_len]
  refine kH (α := {i : Nat // i ≤ w})
   (fun i => ⟨[(1, [], .box 0 0), (5, [], .box 1 0), (7, [], .str (rowS w f j)), (26, [], .int .i64 h), (27, [], .int .i64 j), (34, [], .int .i64 w), (35, [], .int .i64 i.1)],
     [.cells [.int .i64 w, .int .i64 h, .ls 1 (gl w h f)], .cells (plC w h f (.own 2 (j * w + i.1 + 1)) (.ls 1 [])), .arr 51 1 (j * w + i.1 + 1) (gk (j * w + i.1) w f)]⟩)
   (fun i => w - i.1) ?_ ⟨0, Nat.zero_le _⟩ rfl
  rintro ⟨i, hi⟩ I2 ih2
  dsimp only at hi ⊢
  dsimp only [c_plane_Of, vq, jo,jK,jT,jr,jI,jM,jq,jJ,jL,iteR,regK,ji,jc,jl,jk,jb,jj,blkK,kt,kh,jd,ja,jy,fpOk,foot,kq,allN,memN,jN,jm,js,jw,jv,jt,ju,jg,jh,jf,je,newN,jx,jS,jU,jX,jO,jP,jQ,jz,jA,jE,jB,jC,jn,jD,jF,jG,j7,evX,evL,evB,rd,get,subG,memG,jY,jW,hyps,gob,impP,allP,j5,j2,j4,kp,nth,ke,km,jZ,lenB,kj,jV,entN,setE,j0,addE,setL,setN,putE,env0,eqCs,j9,eqC,bA,bO,bN,bE,negB,kEq,ki,j8,lend,frz,frzL,zRow,kg,kd,closed,jH,j1,binI,remP,remI,retK,retG,kr,retD,ko,resL,resD,oneD,renD,renL,renE,j3,rho,jR,j6,List.append,List.nil_append,List.cons_append,List.append_nil,cond,Nat.reduceBEq,Nat.reduceAdd,Nat.beq]
  refine ⟨fun hlt => ?_, fun hge => ?_⟩
  ·have hil : i < w := by simpa using hlt
   have hidx := VV hil hjl
   have hb : ((rowS w f j).getD ((i : Nat) : Int).toNat 0).toNat = (f i j).toNat := by
    have := hf i j
    rw [Int.toNat_natCast, List.getD_eq_getElem?_getD]
    simp only [rowS, List.getElem?_map, List.getElem?_range hil, Option.map_some, Option.getD_some]
    rw [UInt8.toNat_ofNat']; omega
   have hfi := hf i j
   rw [hb, gk_len, show (((f i j).toNat : Nat) : Int) = f i j by omega]
   refine ⟨⟨by omega, by rw [rowS_len]; omega⟩, ⟨rfl, rfl, rfl, rfl, by simp only [List.length_cons, List.length_nil]; omega, by simp only [List.length_cons, List.length_nil]; omega⟩, by simp only [fits]; omega, ?_⟩
   have := gk_succ (j * w + i) w f
   rw [YX hil] at this
   rw [← this]
   exact k9 (ih2 ⟨i + 1, hil⟩ (by dsimp only; omega)) ⟨rfl, rfl, rfl, rfl, rfl, rfl, by simp [get], trivial⟩ ⟨rfl, rfl, rfl, trivial⟩ rfl rfl
  ·have hil : i = w := by have : ¬ i < w := by simpa using hge
                          omega
   subst hil
   refine ⟨by simp only [fits]; omega, ?_⟩
   have e : j * i + i = (j + 1) * i := by rw [Nat.add_mul]; omega
   rw [e]
   exact k9 (ih ⟨j + 1, hjl⟩ (by dsimp only; omega)) ⟨rfl, rfl, rfl, by simp [get], trivial⟩ ⟨rfl, rfl, rfl, trivial⟩ rfl rfl
 ·have hjl : j = h := by have : ¬ j < h := by simpa using hge
                         omega
  subst hjl
  have e : gk (j * w) w f = gl w j f := by unfold gl; rw [Nat.mul_comm]
  rw [e, zx, Nat.mul_comm j w]
  have hov : over (List.replicate ((w * j : Nat) : Int).toNat (.int .u8 0)) (gl w j f) = gl w j f := by
   unfold over
   rw [Int.toNat_natCast, List.length_replicate, List.take_of_length_le (by rw [zx]; omega), List.drop_eq_nil_of_le (by rw [List.length_replicate, zx]; unfold minN; split <;> omega), List.append_nil]
  rw [hov]
  exact ⟨rfl, ⟨by omega, by omega, by omega⟩, ⟨rfl, rfl, rfl, rfl, rfl⟩, Rt.pick [1, 2, 3] rfl rfl rfl⟩
end Go.AM

