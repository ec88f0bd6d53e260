import Derived.Test.YtoaialdcgmkbgaaGreatRK7
import Derived.Test.YtoaialdcgmkbgaaGreatRK2
import Derived.Test.YtoaialdcgmkbgaaGreatRZ6
import Derived.Test.YtoaialdcgmkbgaaGreatRP6
import Derived.Test.YtoaialdcgmkbgaaGreatRQ1

set_option linter.all false
namespace Go.AM
open Go Go.Proofs
theorem tRectss : Tryz.prog.underlying 240 = some (.slice 40) := by kernel_rfl
theorem iRects : (Tryz.prog.info? 40).map (fun i => (i.zero, i.size, Nat.ble i.bytes 65536)) = some (some (.slice none 0 0), 1, true) := by kernel_rfl
def tabT (R : Nat → List Rc) : Nat → Nat × List D := fun v => ((R v).length, rcs (R v))
theorem tabT_set {R : Nat → List Rc} {v : Nat} {r : Rc} : setT (tabT R) v ((R v).length + 1, rcs (R v) ++ [rD r]) = tabT (setR R v (R v ++ [r])) := by
 funext i
 unfold setT tabT setR
 split <;> simp [rcs]
theorem tbl_low {n : Nat} {T : Nat → Nat × List D} {m : Nat} : lowB n (tblE 45 4 T m) = true := by
 unfold tblE
 generalize List.range m = l
 induction l with
 | nil => rfl
 | cons a l ih => simpa only [List.map_cons, lowB] using ih
theorem owns_low {n k : Nat} {T : Nat → Nat × List D} {m : Nat} (h : m + k ≤ n) : lowL n (owns k T m) = true := by
 have key : ∀ l : List Nat, (∀ i ∈ l, i < m) → lowL n (l.map fun i => D.own (i + k) (T i).1) = true := fun l => by
  induction l with
  | nil => intro _; rfl
  | cons a l ih =>
    intro hl
    simp only [List.map_cons, lowL, low, Bool.and_eq_true]
    have := hl a (by simp)
    exact ⟨by rw [qC]; omega, ih fun i hi => hl i (by simp [hi])⟩
 exact key _ fun i hi => List.mem_range.1 hi
theorem sizeT {T : Nat → Nat × List D} {m : Nat} : j0 (tblE 45 4 T m) = m := by rw [kR, Z9]
theorem setL_one {l : List D} {o : Nat} {d : D} (h : o < l.length) : setL l o [d] = some (l.set o d) := by
 have key : ∀ (l : List D) (o : Nat), o < l.length → setN l o d = some (l.set o d) := fun l => by
  induction l with
  | nil => intro o h; simp at h
  | cons x l ih =>
    intro o h
    cases o with
    | zero => rfl
    | succ o => simp only [setN]; rw [ih o (by simpa using h)]; rfl
 simp only [setL]
 rw [key l o h]
abbrev chE (w h : Nat) (f g : Px) (R : Nat → List Rc) : List Ent := .cells (plC w h f (.own 1 (w * h + 1)) (.own 2 1)) :: .arr 51 1 (w * h + 1) (gl w h f) :: .arr 51 1 1 (gl w h g) :: .cells (owns 4 (tabT R) 256) :: tblE 45 4 (tabT R) 256
theorem Xk {w h : Nat} {f g : Px} {R : Nat → List Rc} : j0 (chE w h f g R) = 260 := by
 simp only [chE, j0, sizeT]
theorem chE_low {w h : Nat} {f g : Px} {R : Nat → List Rc} : lowB 260 (chE w h f g R) = true := by
 simp only [chE, lowB, Bool.and_eq_true]
 exact ⟨rfl, owns_low (by omega), tbl_low⟩
theorem Z5 {w h : Nat} {f g : Px} {R : Nat → List Rc} {I : St → Prop} {env env' : Env} (h0 : I ⟨env', chE w h f g R⟩) (h1 : subE env env') (h2 : lowE 260 env' = true) : Zt 3 I ⟨env, chE w h f g R⟩ :=
 .inr ⟨⟨env', chE w h f g R⟩, ⟨by show Nat.ble 3 (j0 (chE w h f g R)) = true; rw [Xk]; rfl, h1, XI _, by show lowE (j0 (chE w h f g R)) env' = true; rw [Xk]; exact h2, by show lowB (j0 (chE w h f g R)) (chE w h f g R) = true; rw [Xk]; exact chE_low⟩, h0⟩
theorem sm_changed {w h : Nat} {f g : Px} (hw : w ≤ 128) (hh : h ≤ 128) (hg : Pok g) :
  TSpM 144 [.box 0 0] (plE w h f g) (.ls 1 (lsT 4 (tabT (allF w h f g 0 fun _ => [])) 256)) (plE w h f g) := by
 have hm := qQ hw hh
 obtain ⟨Rf, hRf⟩ : ∃ Rf, Rf = allF w h f g 0 fun _ => [] := ⟨_, rfl⟩
 rw [← hRf]
 refine yi (by rfl) ?_
 dsimp only [c_plane_Plane_changed, kJ, jo,jK,jT,jr,jI,jM,jq,jJ,jL,iteR,regK,ji,jc,jl,jk,jb,jj,blkK,kt,kh,jd,ja,jy,fpOk,foot,kq,allN,memN,jN,jm,js,jw,jv,jt,ju,jg,jh,jf,je,newN,jx,jS,jU,jX,jO,jP,jQ,jz,jA,jE,jB,jC,jn,jD,jF,jG,j7,evX,evL,evB,rd,get,subG,memG,jY,jW,hyps,gob,impP,allP,j5,j2,j4,kp,nth,ke,km,jZ,lenB,kj,jV,entN,setE,j0,addE,setL,setN,putE,env0,eqCs,j9,eqC,bA,bO,bN,bE,negB,kEq,ki,j8,lend,frz,frzL,zRow,kg,kd,closed,jH,j1,binI,remP,remI,retK,retG,kr,retD,ko,resL,resD,oneD,renD,renL,renE,j3,rho,jR,j6,List.append,List.nil_append,List.cons_append,List.append_nil,cond,Nat.reduceBEq,Nat.reduceAdd,Nat.beq]
 obtain ⟨inf, hi1, hi2⟩ := Option.map_eq_some_iff.1 iRects
 simp only [Prod.mk.injEq] at hi2
 refine xY _ _ (pr_mkd (e2 := 45) (sz2 := 4) (n := 256) tRectss hi1 hi2.1 hi2.2.1 (by have := hi2.2.2; simpa using this) (by omega)) ?_
 dsimp only [c_plane_Plane_changed, kJ, jo,jK,jT,jr,jI,jM,jq,jJ,jL,iteR,regK,ji,jc,jl,jk,jb,jj,blkK,kt,kh,jd,ja,jy,fpOk,foot,kq,allN,memN,jN,jm,js,jw,jv,jt,ju,jg,jh,jf,je,newN,jx,jS,jU,jX,jO,jP,jQ,jz,jA,jE,jB,jC,jn,jD,jF,jG,j7,evX,evL,evB,rd,get,subG,memG,jY,jW,hyps,gob,impP,allP,j5,j2,j4,kp,nth,ke,km,jZ,lenB,kj,jV,entN,setE,j0,addE,setL,setN,putE,env0,eqCs,j9,eqC,bA,bO,bN,bE,negB,kEq,ki,j8,lend,frz,frzL,zRow,kg,kd,closed,jH,j1,binI,remP,remI,retK,retG,kr,retD,ko,resL,resD,oneD,renD,renL,renE,j3,rho,jR,j6,List.append,List.nil_append,List.cons_append,List.append_nil,cond,Nat.reduceBEq,Nat.reduceAdd,Nat.beq]
 refine kH (α := {p : Nat × (Nat → List Rc) // p.1 ≤ h ∧ CT w h f g p.1 0 p.2 ∧ allF w h f g p.1 p.2 = Rf})
  (fun p => ⟨[(0, [], .box 0 0), (3, [], .bsl 3 0 1 256), (12, [], .int .i64 h), (13, [], .int .i64 p.1.1)], chE w h f g p.1.2⟩) (fun p => h - p.1.1) ?_ ⟨(0, fun _ => []), Nat.zero_le _, CT_nil _ _ _ _, hRf.symm⟩ rfl
 rintro ⟨⟨y, R⟩, hy, hc, hf⟩ I ih
 dsimp only at hy hc hf ⊢
 dsimp only [c_plane_Plane_changed, kJ, jo,jK,jT,jr,jI,jM,jq,jJ,jL,iteR,regK,ji,jc,jl,jk,jb,jj,blkK,kt,kh,jd,ja,jy,fpOk,foot,kq,allN,memN,jN,jm,js,jw,jv,jt,ju,jg,jh,jf,je,newN,jx,jS,jU,jX,jO,jP,jQ,jz,jA,jE,jB,jC,jn,jD,jF,jG,j7,evX,evL,evB,rd,get,subG,memG,jY,jW,hyps,gob,impP,allP,j5,j2,j4,kp,nth,ke,km,jZ,lenB,kj,jV,entN,setE,j0,addE,setL,setN,putE,env0,eqCs,j9,eqC,bA,bO,bN,bE,negB,kEq,ki,j8,lend,frz,frzL,zRow,kg,kd,closed,jH,j1,binI,remP,remI,retK,retG,kr,retD,ko,resL,resD,oneD,renD,renL,renE,j3,rho,jR,j6,List.append,List.nil_append,List.cons_append,List.append_nil,cond,Nat.reduceBEq,Nat.reduceAdd,Nat.beq]
 refine ⟨fun hlt => ?_, fun hge => ?_⟩
 ·have hyl : y < h := by simpa using hlt
  refine kH (α := {p : Nat × (Nat → List Rc) // p.1 ≤ w ∧ CT w h f g y p.1 p.2 ∧ allF w h f g (y + 1) (rowF w f g y p.1 p.2) = Rf})
   (fun p => ⟨[(0, [], .box 0 0), (3, [], .bsl 3 0 1 256), (4, [], .int .i64 y), (5, [], .int .i64 p.1.1), (12, [], .int .i64 h), (13, [], .int .i64 y)], chE w h f g p.1.2⟩) (fun p => w - p.1.1) ?_ ⟨(0, R), Nat.zero_le _, hc, by rw [← allF_go hyl]; exact hf⟩ rfl
  rintro ⟨⟨x, R2⟩, hx, hc2, hf2⟩ I2 ih2
  dsimp only at hx hc2 hf2 ⊢
  dsimp only [c_plane_Plane_changed, kJ, jo,jK,jT,jr,jI,jM,jq,jJ,jL,iteR,regK,ji,jc,jl,jk,jb,jj,blkK,kt,kh,jd,ja,jy,fpOk,foot,kq,allN,memN,jN,jm,js,jw,jv,jt,ju,jg,jh,jf,je,newN,jx,jS,jU,jX,jO,jP,jQ,jz,jA,jE,jB,jC,jn,jD,jF,jG,j7,evX,evL,evB,rd,get,subG,memG,jY,jW,hyps,gob,impP,allP,j5,j2,j4,kp,nth,ke,km,jZ,lenB,kj,jV,entN,setE,j0,addE,setL,setN,putE,env0,eqCs,j9,eqC,bA,bO,bN,bE,negB,kEq,ki,j8,lend,frz,frzL,zRow,kg,kd,closed,jH,j1,binI,remP,remI,retK,retG,kr,retD,ko,resL,resD,oneD,renD,renL,renE,j3,rho,jR,j6,List.append,List.nil_append,List.cons_append,List.append_nil,cond,Nat.reduceBEq,Nat.reduceAdd,Nat.beq]
  refine ⟨fun hlt => ?_, fun hge => ?_⟩
  ·have hxl : x < w := by simpa using hlt
   have hp : ∀ z : Nat, z < w → inP w h z y := fun z hz => ⟨by omega, by omega⟩
   refine q9 [0, 1, 2] (Vv (f := f) (g := g) hw hh (hp x hxl)) rfl rfl (xX rfl) ?_
   dsimp only [c_plane_Plane_changed, kJ, jo,jK,jT,jr,jI,jM,jq,jJ,jL,iteR,regK,ji,jc,jl,jk,jb,jj,blkK,kt,kh,jd,ja,jy,fpOk,foot,kq,allN,memN,jN,jm,js,jw,jv,jt,ju,jg,jh,jf,je,newN,jx,jS,jU,jX,jO,jP,jQ,jz,jA,jE,jB,jC,jn,jD,jF,jG,j7,evX,evL,evB,rd,get,subG,memG,jY,jW,hyps,gob,impP,allP,j5,j2,j4,kp,nth,ke,km,jZ,lenB,kj,jV,entN,setE,j0,addE,setL,setN,putE,env0,eqCs,j9,eqC,bA,bO,bN,bE,negB,kEq,ki,j8,lend,frz,frzL,zRow,kg,kd,closed,jH,j1,binI,remP,remI,retK,retG,kr,retD,ko,resL,resD,oneD,renD,renL,renE,j3,rho,jR,j6,List.append,List.nil_append,List.cons_append,List.append_nil,cond,Nat.reduceBEq,Nat.reduceAdd,Nat.beq]
   refine kH (α := {z : Nat // x ≤ z ∧ z ≤ w ∧ runZ w f g y (g x y) z = runZ w f g y (g x y) x})
    (fun z => ⟨[(0, [], .box 0 0), (3, [], .bsl 3 0 1 256), (4, [], .int .i64 y), (5, [], .int .i64 z.1), (6, [], .int .u8 (g x y)), (7, [], .int .i64 x), (12, [], .int .i64 h), (13, [], .int .i64 y)], chE w h f g R2⟩) (fun z => w - z.1) ?_ ⟨x, Nat.le_refl _, hx, rfl⟩ rfl
   rintro ⟨z, hz1, hz2, hz3⟩ I3 ih3
   dsimp only at hz1 hz2 hz3 ⊢
   dsimp only [c_plane_Plane_changed, kJ, jo,jK,jT,jr,jI,jM,jq,jJ,jL,iteR,regK,ji,jc,jl,jk,jb,jj,blkK,kt,kh,jd,ja,jy,fpOk,foot,kq,allN,memN,jN,jm,js,jw,jv,jt,ju,jg,jh,jf,je,newN,jx,jS,jU,jX,jO,jP,jQ,jz,jA,jE,jB,jC,jn,jD,jF,jG,j7,evX,evL,evB,rd,get,subG,memG,jY,jW,hyps,gob,impP,allP,j5,j2,j4,kp,nth,ke,km,jZ,lenB,kj,jV,entN,setE,j0,addE,setL,setN,putE,env0,eqCs,j9,eqC,bA,bO,bN,bE,negB,kEq,ki,j8,lend,frz,frzL,zRow,kg,kd,closed,jH,j1,binI,remP,remI,retK,retG,kr,retD,ko,resL,resD,oneD,renD,renL,renE,j3,rho,jR,j6,List.append,List.nil_append,List.cons_append,List.append_nil,cond,Nat.reduceBEq,Nat.reduceAdd,Nat.beq]
   refine q9 [0, 1, 2] (fun hlt => Vv (f := f) (g := g) hw hh (hp z (by simpa using hlt))) rfl rfl (xX rfl) ?_
   dsimp only [c_plane_Plane_changed, kJ, jo,jK,jT,jr,jI,jM,jq,jJ,jL,iteR,regK,ji,jc,jl,jk,jb,jj,blkK,kt,kh,jd,ja,jy,fpOk,foot,kq,allN,memN,jN,jm,js,jw,jv,jt,ju,jg,jh,jf,je,newN,jx,jS,jU,jX,jO,jP,jQ,jz,jA,jE,jB,jC,jn,jD,jF,jG,j7,evX,evL,evB,rd,get,subG,memG,jY,jW,hyps,gob,impP,allP,j5,j2,j4,kp,nth,ke,km,jZ,lenB,kj,jV,entN,setE,j0,addE,setL,setN,putE,env0,eqCs,j9,eqC,bA,bO,bN,bE,negB,kEq,ki,j8,lend,frz,frzL,zRow,kg,kd,closed,jH,j1,binI,remP,remI,retK,retG,kr,retD,ko,resL,resD,oneD,renD,renL,renE,j3,rho,jR,j6,List.append,List.nil_append,List.cons_append,List.append_nil,cond,Nat.reduceBEq,Nat.reduceAdd,Nat.beq]
   refine q9 [0, 1, 2] (fun hlt => sm_plWas (f := f) (g := g) hw hh (hp z (by simp only [Bool.and_eq_true, decide_eq_true_eq] at hlt; omega))) rfl rfl (xX rfl) ?_
   dsimp only [c_plane_Plane_changed, kJ, jo,jK,jT,jr,jI,jM,jq,jJ,jL,iteR,regK,ji,jc,jl,jk,jb,jj,blkK,kt,kh,jd,ja,jy,fpOk,foot,kq,allN,memN,jN,jm,js,jw,jv,jt,ju,jg,jh,jf,je,newN,jx,jS,jU,jX,jO,jP,jQ,jz,jA,jE,jB,jC,jn,jD,jF,jG,j7,evX,evL,evB,rd,get,subG,memG,jY,jW,hyps,gob,impP,allP,j5,j2,j4,kp,nth,ke,km,jZ,lenB,kj,jV,entN,setE,j0,addE,setL,setN,putE,env0,eqCs,j9,eqC,bA,bO,bN,bE,negB,kEq,ki,j8,lend,frz,frzL,zRow,kg,kd,closed,jH,j1,binI,remP,remI,retK,retG,kr,retD,ko,resL,resD,oneD,renD,renL,renE,j3,rho,jR,j6,List.append,List.nil_append,List.cons_append,List.append_nil,cond,Nat.reduceBEq,Nat.reduceAdd,Nat.beq]
   have hbnd := hg x y
   obtain ⟨v, hv⟩ : ∃ v, (g x y).toNat = v := ⟨_, rfl⟩
   have hv256 : v < 256 := by omega
   refine ⟨fun hgo => ⟨by simp only [fits]; omega, ?_⟩, fun hstop => ⟨fun heq => ⟨by simp only [fits]; omega, ?_⟩, fun hne => ⟨⟨rfl, by omega, by omega⟩, ?_⟩⟩⟩
   ·simp only [Bool.and_eq_true, decide_eq_true_eq, Bool.not_eq_true', decide_eq_false_iff_not] at hgo
    have hz4 : z < w := by omega
    refine Z5 (ih3 ⟨z + 1, by omega, by omega, by rw [← YH ⟨hz4, hgo.1.2, hgo.2⟩]; exact hz3⟩ (by dsimp only; omega)) ⟨rfl, rfl, rfl, by simp [get], rfl, rfl, rfl, rfl, trivial⟩ rfl
   ·have hzx : z = x := by simp only [decide_eq_true_eq] at heq; omega
    subst hzx
    have hno : ¬ z < runZ w f g y (g z y) z := by
     rw [Z0]
     ·omega
     ·rintro ⟨h1, h2, h3⟩
      rw [Bool.eq_false_iff] at hstop
      exact hstop (by simp only [Bool.and_eq_true, decide_eq_true_eq, Bool.not_eq_true', decide_eq_false_iff_not]; exact ⟨⟨by omega, trivial⟩, h3⟩)
    refine Z5 (ih2 ⟨(z + 1, R2), by omega, CT_skip' hc2 hxl hno, by rw [← XW hxl hno]; exact hf2⟩ (by dsimp only; omega)) ⟨rfl, rfl, rfl, by simp [get], rfl, rfl, trivial⟩ rfl
   ·have hzx : x < z := by simp only [decide_eq_false_iff_not] at hne; omega
    have hZ : runZ w f g y (g x y) x = z := by
     rw [← hz3, Z0]
     rintro ⟨h1, h2, h3⟩
     rw [Bool.eq_false_iff] at hstop
     exact hstop (by simp only [Bool.and_eq_true, decide_eq_true_eq, Bool.not_eq_true', decide_eq_false_iff_not]; exact ⟨⟨by omega, h2⟩, h3⟩)
    have hent : entN (tblE 45 4 (tabT R2) 256) v = some (.arr 45 4 (R2 v).length (rcs (R2 v))) := by rw [kN]; exact Jc hv256
    have e1 : 0 + (g x y).toNat * 1 = v := by omega
    have hlen := hc2.n v hv256
    have hidx := VV hxl hyl
    rw [e1]
    refine yw (.own (v + 4) (R2 v).length) (show nth _ _ = _ by rw [YP]; exact Qk hv256) ?_
    dsimp only [c_plane_Plane_changed, kJ, jo,jK,jT,jr,jI,jM,jq,jJ,jL,iteR,regK,ji,jc,jl,jk,jb,jj,blkK,kt,kh,jd,ja,jy,fpOk,foot,kq,allN,memN,jN,jm,js,jw,jv,jt,ju,jg,jh,jf,je,newN,jx,jS,jU,jX,jO,jP,jQ,jz,jA,jE,jB,jC,jn,jD,jF,jG,j7,evX,evL,evB,rd,get,subG,memG,jY,jW,hyps,gob,impP,allP,j5,j2,j4,kp,nth,ke,km,jZ,lenB,kj,jV,entN,setE,j0,addE,setL,setN,putE,env0,eqCs,j9,eqC,bA,bO,bN,bE,negB,kEq,ki,j8,lend,frz,frzL,zRow,kg,kd,closed,jH,j1,binI,remP,remI,retK,retG,kr,retD,ko,resL,resD,oneD,renD,renL,renE,j3,rho,jR,j6,List.append,List.nil_append,List.cons_append,List.append_nil,cond,Nat.reduceBEq,Nat.reduceAdd,Nat.beq]
    rw [hent]
    dsimp only [c_plane_Plane_changed, kJ, jo,jK,jT,jr,jI,jM,jq,jJ,jL,iteR,regK,ji,jc,jl,jk,jb,jj,blkK,kt,kh,jd,ja,jy,fpOk,foot,kq,allN,memN,jN,jm,js,jw,jv,jt,ju,jg,jh,jf,je,newN,jx,jS,jU,jX,jO,jP,jQ,jz,jA,jE,jB,jC,jn,jD,jF,jG,j7,evX,evL,evB,rd,get,subG,memG,jY,jW,hyps,gob,impP,allP,j5,j2,j4,kp,nth,ke,km,jZ,lenB,kj,jV,entN,setE,j0,addE,setL,setN,putE,env0,eqCs,j9,eqC,bA,bO,bN,bE,negB,kEq,ki,j8,lend,frz,frzL,zRow,kg,kd,closed,jH,j1,binI,remP,remI,retK,retG,kr,retD,ko,resL,resD,oneD,renD,renL,renE,j3,rho,jR,j6,List.append,List.nil_append,List.cons_append,List.append_nil,cond,Nat.reduceBEq,Nat.reduceAdd,Nat.beq]
    rw [ky]
    refine ⟨by simp only [fits]; omega, ?_⟩
    have hset : setE (tblE 45 4 (tabT R2) 256) v (.arr 45 4 ((R2 v).length + 1) (rcs (R2 v) ++ [rD ⟨x, y, (z : Int) - x, 1⟩])) = tblE 45 4 (tabT (setR R2 v (R2 v ++ [⟨x, y, (z : Int) - x, 1⟩]))) 256 := by
     rw [qF, ← tabT_set]; exact tblE_set ((R2 v).length + 1, rcs (R2 v) ++ [rD ⟨x, y, (z : Int) - x, 1⟩])
    have howns : (owns 4 (tabT R2) 256).set v (.own (v + 4) ((R2 v).length + 1)) = owns 4 (tabT (setR R2 v (R2 v ++ [⟨x, y, (z : Int) - x, 1⟩]))) 256 := by
     rw [← tabT_set]; exact owns_set (k := 4) (n := 256) (i := v) ((R2 v).length + 1, rcs (R2 v) ++ [rD ⟨x, y, (z : Int) - x, 1⟩])
    refine ⟨⟨rfl, rfl, rfl, rfl, by simp only [List.length_cons, List.length_nil]; omega, by simp only [List.length_cons, List.length_nil]; omega⟩, ⟨rfl, by omega, by omega⟩, put_intro (hs := []) ((owns 4 (tabT R2) 256).set v (.own (v + 4) ((R2 v).length + 1))) (show setL (owns 4 (tabT R2) 256) (0 + (g x y).toNat * 1) [.own (v + 4) ((R2 v).length + 1)] = _ by rw [e1]; exact setL_one (by simp [owns, hv256])) ?_⟩
    dsimp only [c_plane_Plane_changed, kJ, jo,jK,jT,jr,jI,jM,jq,jJ,jL,iteR,regK,ji,jc,jl,jk,jb,jj,blkK,kt,kh,jd,ja,jy,fpOk,foot,kq,allN,memN,jN,jm,js,jw,jv,jt,ju,jg,jh,jf,je,newN,jx,jS,jU,jX,jO,jP,jQ,jz,jA,jE,jB,jC,jn,jD,jF,jG,j7,evX,evL,evB,rd,get,subG,memG,jY,jW,hyps,gob,impP,allP,j5,j2,j4,kp,nth,ke,km,jZ,lenB,kj,jV,entN,setE,j0,addE,setL,setN,putE,env0,eqCs,j9,eqC,bA,bO,bN,bE,negB,kEq,ki,j8,lend,frz,frzL,zRow,kg,kd,closed,jH,j1,binI,remP,remI,retK,retG,kr,retD,ko,resL,resD,oneD,renD,renL,renE,j3,rho,jR,j6,List.append,List.nil_append,List.cons_append,List.append_nil,cond,Nat.reduceBEq,Nat.reduceAdd,Nat.beq]
    have hC := CT_run' hg hc2 hyl hxl (by rw [hZ]; exact hzx)
    have hF := rowF_run (f := f) (g := g) (R := R2) (y := y) hxl (by rw [hZ]; exact hzx)
    rw [hZ, hv] at hC hF
    rw [hF] at hf2
    have hG := Z5 (w := w) (h := h) (f := f) (g := g) (ih2 ⟨(z, _), hz2, hC, hf2⟩ (by dsimp only; omega)) (env := [(0, [], .box 0 0), (3, [], .bsl 3 0 1 256), (4, [], .int .i64 y), (5, [], .int .i64 z), (12, [], .int .i64 h), (13, [], .int .i64 y)]) ⟨rfl, rfl, rfl, rfl, rfl, rfl, trivial⟩ rfl
    rw [howns]
    refine (congrArg (Zt 3 I2) ?_).mp hG
    exact congrArg _ (congrArg (List.cons _) (congrArg (List.cons _) (congrArg (List.cons _) (congrArg (List.cons _) hset.symm))))
  ·have hxw : x = w := by have : ¬ x < w := by simpa using hge
                          omega
   subst hxw
   rw [rowF_end (by omega)] at hf2
   exact ⟨by simp only [fits]; omega, Z5 (ih ⟨(y + 1, R2), hyl, CT_row hc2, hf2⟩ (by dsimp only; omega)) ⟨rfl, rfl, rfl, by simp [get], trivial⟩ rfl⟩
 ·have hyh : y = h := by have : ¬ y < h := by simpa using hge
                         omega
  subst hyh
  rw [allF_end (by omega)] at hf
  subst hf
  exact Rt.table (pre := plE w y f g) (fun i => by
   have key : ∀ l : List Rc, jH (rcs l) = true := fun l => by
    induction l with
    | nil => rfl
    | cons r l ih => simp only [rcs, List.map_cons, jH, qh]; exact ⟨rfl, ih⟩
   exact key _) (Nat.le_refl _) rfl
end Go.AM


set_option linter.all false
namespace Go.AM
open Go Go.Proofs
noncomputable def curX (w h : Nat) (f g : Px) (v : Int) : Px := onX (fun X Y => inP w h X Y ∧ f X Y ≠ g X Y ∧ g X Y < v) g f
theorem sm_plGrid {w h : Nat} {f g : Px} (hw : w ≤ 128) (hh : h ≤ 128) (hg : Pok g) : TSpM 89 [.box 0 0] (plE w h f g) (gD w h g) (plE w h f g) := by
 have hm := qQ hw hh
 have hC := CT_allF hg (w := w) (h := h) (f := f) rfl (Nat.zero_le _) (CT_nil w h f g)
 have hch := sm_changed (f := f) hw hh hg
 generalize allF w h f g 0 (fun _ => []) = R at hC hch
 have hreg : ∀ v : Nat, v < 256 → reg (pts (allL (R v))) = reg (Cg w h f g h 0 v) ∧ Bdd (Cg w h f g h 0 v) ∧ (reg (Cg w h f g h 0 v)).length ≤ 16384 ∧ ∀ r ∈ R v, r.In := fun v hv => by
  have hb := hC.b v hv
  have hvr : ∀ r ∈ R v, Vr r := fun r hr => by have := hb r hr; unfold Vr; omega
  have hbd : Bdd (Cg w h f g h 0 v) := fun x y hp => by have := hp.1; unfold inP at this; omega
  refine ⟨Qh fun x y => by unfold allL; rw [Xo (fun r hr _ => hvr r hr), hC.p v hv]; exact Iff.rfl, hbd, ?_, fun r hr => by have := hb r hr; unfold Rc.In fits; omega⟩
  have := reg_few (yD hbd) (x0 := 0) (x1 := 128) (y0 := 0) (y1 := 128) fun x y hp => by have := hp.1; unfold inP at this; omega
  have e : max ((128 : Int) - 0) 0 * max ((128 : Int) - 0) 0 = 16384 := by decide
  rw [e] at this; omega
 refine Ji (by rfl) ?_
 dsimp only [c_plane_Plane_Grid, ql, jo,jK,jT,jr,jI,jM,jq,jJ,jL,iteR,regK,ji,jc,jl,jk,jb,jj,blkK,kt,kh,jd,ja,jy,fpOk,foot,kq,allN,memN,jN,jm,js,jw,jv,jt,ju,jg,jh,jf,je,newN,jx,jS,jU,jX,jO,jP,jQ,jz,jA,jE,jB,jC,jn,jD,jF,jG,j7,evX,evL,evB,rd,get,subG,memG,jY,jW,hyps,gob,impP,allP,j5,j2,j4,kp,nth,ke,km,jZ,lenB,kj,jV,entN,setE,j0,addE,setL,setN,putE,env0,eqCs,j9,eqC,bA,bO,bN,bE,negB,kEq,ki,j8,lend,frz,frzL,zRow,kg,kd,closed,jH,j1,binI,remP,remI,retK,retG,kr,retD,ko,resL,resD,oneD,renD,renL,renE,j3,rho,jR,j6,List.append,List.nil_append,List.cons_append,List.append_nil,cond,Nat.reduceBEq,Nat.reduceAdd,Nat.beq]
 refine q9 [0, 1, 2] hch rfl rfl rfl ?_
 dsimp only [c_plane_Plane_Grid, ql, jo,jK,jT,jr,jI,jM,jq,jJ,jL,iteR,regK,ji,jc,jl,jk,jb,jj,blkK,kt,kh,jd,ja,jy,fpOk,foot,kq,allN,memN,jN,jm,js,jw,jv,jt,ju,jg,jh,jf,je,newN,jx,jS,jU,jX,jO,jP,jQ,jz,jA,jE,jB,jC,jn,jD,jF,jG,j7,evX,evL,evB,rd,get,subG,memG,jY,jW,hyps,gob,impP,allP,j5,j2,j4,kp,nth,ke,km,jZ,lenB,kj,jV,entN,setE,j0,addE,setL,setN,putE,env0,eqCs,j9,eqC,bA,bO,bN,bE,negB,kEq,ki,j8,lend,frz,frzL,zRow,kg,kd,closed,jH,j1,binI,remP,remI,retK,retG,kr,retD,ko,resL,resD,oneD,renD,renL,renE,j3,rho,jR,j6,List.append,List.nil_append,List.cons_append,List.append_nil,cond,Nat.reduceBEq,Nat.reduceAdd,Nat.beq]
 have hlen : (lsT 4 (tabT R) 256).length = 256 := by simp [lsT]
 rw [hlen]
 have e0 : gl w h f = gl w h (curX w h f g (0 : Nat)) := JE fun x y _ => (qX (by rintro ⟨_, _, h3⟩; have := hg x y; omega)).symm
 refine kH (α := {v : Nat // v ≤ 256})
  (fun v => ⟨[(2, [], .box 3 0), (3, [], .box 4 0), (11, [], .ls 1 (lsT 4 (tabT R) 256)), (12, [], .int .i64 ((256 : Nat) : Int)), (13, [], .int .i64 v.1)],
    plE w h f g ++ [.cells [.int .i64 0, .int .i64 0, .ls 1 []], .cells [.int .i64 w, .int .i64 h, .ls 1 (gl w h (curX w h f g v.1))]]⟩)
  (fun v => 256 - v.1) ?_ ⟨0, by omega⟩ (by dsimp only; rw [← e0]; rfl)
 rintro ⟨v, hv⟩ I ih
 dsimp only at hv ⊢
 dsimp only [c_plane_Plane_Grid, ql, jo,jK,jT,jr,jI,jM,jq,jJ,jL,iteR,regK,ji,jc,jl,jk,jb,jj,blkK,kt,kh,jd,ja,jy,fpOk,foot,kq,allN,memN,jN,jm,js,jw,jv,jt,ju,jg,jh,jf,je,newN,jx,jS,jU,jX,jO,jP,jQ,jz,jA,jE,jB,jC,jn,jD,jF,jG,j7,evX,evL,evB,rd,get,subG,memG,jY,jW,hyps,gob,impP,allP,j5,j2,j4,kp,nth,ke,km,jZ,lenB,kj,jV,entN,setE,j0,addE,setL,setN,putE,env0,eqCs,j9,eqC,bA,bO,bN,bE,negB,kEq,ki,j8,lend,frz,frzL,zRow,kg,kd,closed,jH,j1,binI,remP,remI,retK,retG,kr,retD,ko,resL,resD,oneD,renD,renL,renE,j3,rho,jR,j6,List.append,List.nil_append,List.cons_append,List.append_nil,cond,Nat.reduceBEq,Nat.reduceAdd,Nat.beq]
 rw [hlen]
 refine ⟨fun hlt => ?_, fun hge => ?_⟩
 ·have hv256 : v < 256 := by simp only [decide_eq_true_eq] at hlt; omega
  obtain ⟨h1, h2, h3, h4⟩ := hreg v hv256
  have hrow : (lsT 4 (tabT R) 256)[((v : Nat) : Int).toNat]? = some (.ls 4 (rcs (R v))) := by rw [Int.toNat_natCast]; simp [lsT, hv256, tabT]
  have hnext : gl w h (onX (Cg w h f g h 0 v) (fun _ _ => v) (curX w h f g v)) = gl w h (curX w h f g ((v + 1 : Nat) : Int)) := JE fun x y hp => by
   by_cases hc : f x y ≠ g x y ∧ g x y < v
   ·have e1 : curX w h f g v x y = g x y := zf ⟨hp, hc⟩
    have e2 : curX w h f g ((v + 1 : Nat) : Int) x y = g x y := zf ⟨hp, hc.1, by omega⟩
    rw [e2, qX (by rintro ⟨_, _, h5, _⟩; omega), e1]
   ·have e1 : curX w h f g v x y = f x y := qX fun h5 => hc h5.2
    by_cases hc2 : f x y ≠ g x y ∧ g x y = v
    ·have e2 : curX w h f g ((v + 1 : Nat) : Int) x y = g x y := zf ⟨hp, hc2.1, by omega⟩
     rw [e2, zf (show Cg w h f g h 0 v x y from ⟨hp, by have := hp.2; omega, hc2.2, fun h5 => hc2.1 (by rw [hc2.2]; exact h5)⟩)]
     exact hc2.2.symm
    ·have e2 : curX w h f g ((v + 1 : Nat) : Int) x y = f x y := qX (by rintro ⟨_, h6, h7⟩; exact hc ⟨h6, by by_cases h8 : g x y = v; exact absurd ⟨h6, h8⟩ hc2; omega⟩)
     rw [e2, qX (by rintro ⟨_, _, h5, h6⟩; exact hc2 ⟨by rw [h5]; exact h6, h5⟩), e1]
  refine ⟨⟨rfl, by omega, by omega⟩, kB _ _ hrow rfl ?_⟩
  dsimp only [c_plane_Plane_Grid, ql, jo,jK,jT,jr,jI,jM,jq,jJ,jL,iteR,regK,ji,jc,jl,jk,jb,jj,blkK,kt,kh,jd,ja,jy,fpOk,foot,kq,allN,memN,jN,jm,js,jw,jv,jt,ju,jg,jh,jf,je,newN,jx,jS,jU,jX,jO,jP,jQ,jz,jA,jE,jB,jC,jn,jD,jF,jG,j7,evX,evL,evB,rd,get,subG,memG,jY,jW,hyps,gob,impP,allP,j5,j2,j4,kp,nth,ke,km,jZ,lenB,kj,jV,entN,setE,j0,addE,setL,setN,putE,env0,eqCs,j9,eqC,bA,bO,bN,bE,negB,kEq,ki,j8,lend,frz,frzL,zRow,kg,kd,closed,jH,j1,binI,remP,remI,retK,retG,kr,retD,ko,resL,resD,oneD,renD,renL,renE,j3,rho,jR,j6,List.append,List.nil_append,List.cons_append,List.append_nil,cond,Nat.reduceBEq,Nat.reduceAdd,Nat.beq]
  rw [ky]
  refine ⟨fun hpos => ?_, fun hz => ?_⟩
  ·refine kx (yB h4 (by have := hC.n v hv256; have := Nat.mul_comm h w; omega)) ?_
   dsimp only [c_plane_Plane_Grid, ql, jo,jK,jT,jr,jI,jM,jq,jJ,jL,iteR,regK,ji,jc,jl,jk,jb,jj,blkK,kt,kh,jd,ja,jy,fpOk,foot,kq,allN,memN,jN,jm,js,jw,jv,jt,ju,jg,jh,jf,je,newN,jx,jS,jU,jX,jO,jP,jQ,jz,jA,jE,jB,jC,jn,jD,jF,jG,j7,evX,evL,evB,rd,get,subG,memG,jY,jW,hyps,gob,impP,allP,j5,j2,j4,kp,nth,ke,km,jZ,lenB,kj,jV,entN,setE,j0,addE,setL,setN,putE,env0,eqCs,j9,eqC,bA,bO,bN,bE,negB,kEq,ki,j8,lend,frz,frzL,zRow,kg,kd,closed,jH,j1,binI,remP,remI,retK,retG,kr,retD,ko,resL,resD,oneD,renD,renL,renE,j3,rho,jR,j6,List.append,List.nil_append,List.cons_append,List.append_nil,cond,Nat.reduceBEq,Nat.reduceAdd,Nat.beq]
   rw [h1]
   refine ⟨by simp only [fits]; omega, kx (sp_Fill hw hh h2 (by omega)) ?_⟩
   dsimp only [c_plane_Plane_Grid, ql, jo,jK,jT,jr,jI,jM,jq,jJ,jL,iteR,regK,ji,jc,jl,jk,jb,jj,blkK,kt,kh,jd,ja,jy,fpOk,foot,kq,allN,memN,jN,jm,js,jw,jv,jt,ju,jg,jh,jf,je,newN,jx,jS,jU,jX,jO,jP,jQ,jz,jA,jE,jB,jC,jn,jD,jF,jG,j7,evX,evL,evB,rd,get,subG,memG,jY,jW,hyps,gob,impP,allP,j5,j2,j4,kp,nth,ke,km,jZ,lenB,kj,jV,entN,setE,j0,addE,setL,setN,putE,env0,eqCs,j9,eqC,bA,bO,bN,bE,negB,kEq,ki,j8,lend,frz,frzL,zRow,kg,kd,closed,jH,j1,binI,remP,remI,retK,retG,kr,retD,ko,resL,resD,oneD,renD,renL,renE,j3,rho,jR,j6,List.append,List.nil_append,List.cons_append,List.append_nil,cond,Nat.reduceBEq,Nat.reduceAdd,Nat.beq]
   rw [hnext]
   exact ⟨by simp only [fits]; omega, k9 (ih ⟨v + 1, by omega⟩ (by dsimp only; omega)) ⟨rfl, rfl, rfl, rfl, by simp [get], trivial⟩ ⟨rfl, rfl, rfl, rfl, rfl, trivial⟩ rfl rfl⟩
  ·have hR0 : R v = [] := List.eq_nil_of_length_eq_zero (by simp only [decide_eq_false_iff_not] at hz; omega)
   have hno : ∀ x y, ¬ Cg w h f g h 0 v x y := fun x y hc => by
    have := (hC.p v hv256 x y).2 hc
    rw [hR0] at this
    simp [pts] at this
   rw [show (Cg w h f g h 0 v) = fun _ _ => False from zb fun x y => ⟨fun h5 => hno x y h5, fun h5 => h5.elim⟩, onX_no] at hnext
   rw [hnext]
   exact ⟨by simp only [fits]; omega, k9 (ih ⟨v + 1, by omega⟩ (by dsimp only; omega)) ⟨rfl, rfl, rfl, rfl, by simp [get], trivial⟩ ⟨rfl, rfl, rfl, rfl, rfl, trivial⟩ rfl rfl⟩
 ·have : v = 256 := by simp only [decide_eq_false_iff_not] at hge; omega
  subst this
  have e1 : gl w h (curX w h f g ((256 : Nat) : Int)) = gl w h g := JE fun x y hp => by
   by_cases hc : f x y = g x y
   ·rw [show curX w h f g ((256 : Nat) : Int) x y = f x y from qX fun h5 => h5.2.1 hc, hc]
   ·exact zf ⟨hp, hc, by have := hg x y; omega⟩
  rw [e1]
  exact Rt.cut (Nat.le_refl _) (qK (plE w h f g) _) rfl rfl
end Go.AM


set_option linter.all false
namespace Go.AM
open Go Go.Proofs
section
variable {P : Program} {gt : Nat → Option (List D)} {hs : List Prop} {f : Nat} {ds : List D} {dst : Option Nat} {g : G} {os : List O} {st : St} {K : St → Prop}
end
end Go.AM

