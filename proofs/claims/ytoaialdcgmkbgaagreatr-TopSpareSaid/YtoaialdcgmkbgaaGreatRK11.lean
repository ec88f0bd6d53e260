import Derived.Test.YtoaialdcgmkbgaaGreatRK7
import Derived.Test.YtoaialdcgmkbgaaGreatRZ6
import Derived.Test.YtoaialdcgmkbgaaGreatRP6
import Derived.Test.YtoaialdcgmkbgaaGreatRQ1
import Derived.Test.YtoaialdcgmkbgaaGreatRQS

set_option linter.all false
namespace Go.AM
open Go Go.Proofs
noncomputable def curX (w h : Nat) (f g : Px) (v : Int) : Px := onX (fun X Y => inP w h X Y ∧ f X Y ≠ g X Y ∧ g X Y < v) g f
theorem sm_plGrid {w h : Nat} {f g : Px} (hw : w ≤ 128) (hh : h ≤ 128) (hg : Pok g) : TSpM 89 [.box 0 0] (plE w h f g) (gD w h g) (plE w h f g) := by
  have hm := kW hw hh
  have hC := CT_allF hg (w := w) (h := h) (f := f) rfl (Nat.zero_le _) (CT_nil w h f g)
  have hch := sm_changed (f := f) hw hh hg
  generalize allF w h f g 0 (fun _ => []) = R at hC hch
  have hreg : ∀ v : Nat, v < 256 → reg (pts (allL (R v))) = reg (Cg w h f g h 0 v) ∧ Bdd (Cg w h f g h 0 v) ∧ (reg (Cg w h f g h 0 v)).length ≤ 16384 ∧ ∀ r ∈ R v, r.In := fun v hv => by
    have hb := hC.b v hv
    have hvr : ∀ r ∈ R v, Vr r := fun r hr => by have := hb r hr; unfold Vr; omega
    have hbd : Bdd (Cg w h f g h 0 v) := fun x y hp => by have := hp.1; unfold inP at this; omega
    refine ⟨xI fun x y => by unfold allL; rw [allL_pts (fun r hr _ => hvr r hr), hC.p v hv]; exact Iff.rfl, hbd, ?_, fun r hr => by have := hb r hr; unfold Rc.In fits; omega⟩
    have := reg_few (reg_bdd hbd) (x0 := 0) (x1 := 128) (y0 := 0) (y1 := 128) fun x y hp => by have := hp.1; unfold inP at this; omega
    have e : max ((128 : Int) - 0) 0 * max ((128 : Int) - 0) 0 = 16384 := by decide
    rw [e] at this; omega
  refine spm_plane_Plane_Grid (by rfl) ?_
  dsimp only [c_plane_Plane_Grid, qn, jo,jK,jT,jr,jI,jM,jq,jJ,jL,iteR,regK,ji,jc,jl,jk,jb,jj,blkK,kr,kh,jd,ja,jy,fpOk,foot,kp,allN,memN,jN,jm,js,jw,jv,jt,ju,jg,jh,jf,je,newN,jx,jS,jU,j2,jO,jP,jQ,jz,jA,jE,jB,jC,jn,jD,jF,jG,j7,evX,evL,evB,rd,get,subG,memG,jW,jY,hyps,gob,impP,allP,j6,j1,j4,ko,nth,ke,km,jX,lenB,kj,jV,entN,setE,jZ,addE,setL,setN,putE,env0,eqCs,j9,eqC,bA,bO,bN,bE,negB,kEq,ki,j8,lend,frz,frzL,zRow,kg,kd,closed,jH,j0,binI,remP,remI,retK,retG,kq,retD,kn,resL,resD,oneD,renD,renL,renE,j3,rho,jR,j5,List.append,List.nil_append,List.cons_append,List.append_nil,cond,Nat.reduceBEq,Nat.reduceAdd,Nat.beq]
  refine qF [0, 1, 2] hch rfl rfl rfl ?_
  dsimp only [c_plane_Plane_Grid, qn, jo,jK,jT,jr,jI,jM,jq,jJ,jL,iteR,regK,ji,jc,jl,jk,jb,jj,blkK,kr,kh,jd,ja,jy,fpOk,foot,kp,allN,memN,jN,jm,js,jw,jv,jt,ju,jg,jh,jf,je,newN,jx,jS,jU,j2,jO,jP,jQ,jz,jA,jE,jB,jC,jn,jD,jF,jG,j7,evX,evL,evB,rd,get,subG,memG,jW,jY,hyps,gob,impP,allP,j6,j1,j4,ko,nth,ke,km,jX,lenB,kj,jV,entN,setE,jZ,addE,setL,setN,putE,env0,eqCs,j9,eqC,bA,bO,bN,bE,negB,kEq,ki,j8,lend,frz,frzL,zRow,kg,kd,closed,jH,j0,binI,remP,remI,retK,retG,kq,retD,kn,resL,resD,oneD,renD,renL,renE,j3,rho,jR,j5,List.append,List.nil_append,List.cons_append,List.append_nil,cond,Nat.reduceBEq,Nat.reduceAdd,Nat.beq]
  have hlen : (lsT 4 (tabT R) 256).length = 256 := by simp [lsT]
  rw [hlen]
  have e0 : gl w h f = gl w h (curX w h f g (0 : Nat)) := xT fun x y _ => (zk (by rintro ⟨_, _, h3⟩; have := hg x y; omega)).symm
  refine kE (α := {v : Nat // v ≤ 256})
    (fun v => ⟨[(2, [], .box 3 0), (3, [], .box 4 0), (11, [], .ls 1 (lsT 4 (tabT R) 256)), (12, [], .int .i64 ((256 : Nat) : Int)), (13, [], .int .i64 v.1)],
      plE w h f g ++ [.cells [.int .i64 0, .int .i64 0, .ls 1 []], .cells [.int .i64 w, .int .i64 h, .ls 1 (gl w h (curX w h f g v.1))]]⟩)
    (fun v => 256 - v.1) ?_ ⟨0, by omega⟩ (by dsimp only; rw [← e0]; rfl)
  rintro ⟨v, hv⟩ I ih
  dsimp only at hv ⊢
  dsimp only [c_plane_Plane_Grid, qn, jo,jK,jT,jr,jI,jM,jq,jJ,jL,iteR,regK,ji,jc,jl,jk,jb,jj,blkK,kr,kh,jd,ja,jy,fpOk,foot,kp,allN,memN,jN,jm,js,jw,jv,jt,ju,jg,jh,jf,je,newN,jx,jS,jU,j2,jO,jP,jQ,jz,jA,jE,jB,jC,jn,jD,jF,jG,j7,evX,evL,evB,rd,get,subG,memG,jW,jY,hyps,gob,impP,allP,j6,j1,j4,ko,nth,ke,km,jX,lenB,kj,jV,entN,setE,jZ,addE,setL,setN,putE,env0,eqCs,j9,eqC,bA,bO,bN,bE,negB,kEq,ki,j8,lend,frz,frzL,zRow,kg,kd,closed,jH,j0,binI,remP,remI,retK,retG,kq,retD,kn,resL,resD,oneD,renD,renL,renE,j3,rho,jR,j5,List.append,List.nil_append,List.cons_append,List.append_nil,cond,Nat.reduceBEq,Nat.reduceAdd,Nat.beq]
  rw [hlen]
  refine ⟨fun hlt => ?_, fun hge => ?_⟩
  · have hv256 : v < 256 := by simp only [decide_eq_true_eq] at hlt; omega
    obtain ⟨h1, h2, h3, h4⟩ := hreg v hv256
    have hrow : (lsT 4 (tabT R) 256)[((v : Nat) : Int).toNat]? = some (.ls 4 (rcs (R v))) := by rw [Int.toNat_natCast]; simp [lsT, hv256, tabT]
    have hnext : gl w h (onX (Cg w h f g h 0 v) (fun _ _ => v) (curX w h f g v)) = gl w h (curX w h f g ((v + 1 : Nat) : Int)) := xT fun x y hp => by
      by_cases hc : f x y ≠ g x y ∧ g x y < v
      · have e1 : curX w h f g v x y = g x y := zy ⟨hp, hc⟩
        have e2 : curX w h f g ((v + 1 : Nat) : Int) x y = g x y := zy ⟨hp, hc.1, by omega⟩
        rw [e2, zk (by rintro ⟨_, _, h5, _⟩; omega), e1]
      · have e1 : curX w h f g v x y = f x y := zk fun h5 => hc h5.2
        by_cases hc2 : f x y ≠ g x y ∧ g x y = v
        · have e2 : curX w h f g ((v + 1 : Nat) : Int) x y = g x y := zy ⟨hp, hc2.1, by omega⟩
          rw [e2, zy (show Cg w h f g h 0 v x y from ⟨hp, by have := hp.2; omega, hc2.2, fun h5 => hc2.1 (by rw [hc2.2]; exact h5)⟩)]
          exact hc2.2.symm
        · have e2 : curX w h f g ((v + 1 : Nat) : Int) x y = f x y := zk (by rintro ⟨_, h6, h7⟩; exact hc ⟨h6, by by_cases h8 : g x y = v; exact absurd ⟨h6, h8⟩ hc2; omega⟩)
          rw [e2, zk (by rintro ⟨_, _, h5, h6⟩; exact hc2 ⟨by rw [h5]; exact h6, h5⟩), e1]
    refine ⟨⟨rfl, by omega, by omega⟩, kA _ _ hrow rfl ?_⟩
    dsimp only [c_plane_Plane_Grid, qn, jo,jK,jT,jr,jI,jM,jq,jJ,jL,iteR,regK,ji,jc,jl,jk,jb,jj,blkK,kr,kh,jd,ja,jy,fpOk,foot,kp,allN,memN,jN,jm,js,jw,jv,jt,ju,jg,jh,jf,je,newN,jx,jS,jU,j2,jO,jP,jQ,jz,jA,jE,jB,jC,jn,jD,jF,jG,j7,evX,evL,evB,rd,get,subG,memG,jW,jY,hyps,gob,impP,allP,j6,j1,j4,ko,nth,ke,km,jX,lenB,kj,jV,entN,setE,jZ,addE,setL,setN,putE,env0,eqCs,j9,eqC,bA,bO,bN,bE,negB,kEq,ki,j8,lend,frz,frzL,zRow,kg,kd,closed,jH,j0,binI,remP,remI,retK,retG,kq,retD,kn,resL,resD,oneD,renD,renL,renE,j3,rho,jR,j5,List.append,List.nil_append,List.cons_append,List.append_nil,cond,Nat.reduceBEq,Nat.reduceAdd,Nat.beq]
    rw [ky]
    refine ⟨fun hpos => ?_, fun hz => ?_⟩
    · refine kt (vE h4 (by have := hC.n v hv256; have := Nat.mul_comm h w; omega)) ?_
      dsimp only [c_plane_Plane_Grid, qn, jo,jK,jT,jr,jI,jM,jq,jJ,jL,iteR,regK,ji,jc,jl,jk,jb,jj,blkK,kr,kh,jd,ja,jy,fpOk,foot,kp,allN,memN,jN,jm,js,jw,jv,jt,ju,jg,jh,jf,je,newN,jx,jS,jU,j2,jO,jP,jQ,jz,jA,jE,jB,jC,jn,jD,jF,jG,j7,evX,evL,evB,rd,get,subG,memG,jW,jY,hyps,gob,impP,allP,j6,j1,j4,ko,nth,ke,km,jX,lenB,kj,jV,entN,setE,jZ,addE,setL,setN,putE,env0,eqCs,j9,eqC,bA,bO,bN,bE,negB,kEq,ki,j8,lend,frz,frzL,zRow,kg,kd,closed,jH,j0,binI,remP,remI,retK,retG,kq,retD,kn,resL,resD,oneD,renD,renL,renE,j3,rho,jR,j5,List.append,List.nil_append,List.cons_append,List.append_nil,cond,Nat.reduceBEq,Nat.reduceAdd,Nat.beq]
      rw [h1]
      refine ⟨by simp only [fits]; omega, kt (sp_Fill hw hh h2 (by omega)) ?_⟩
      dsimp only [c_plane_Plane_Grid, qn, jo,jK,jT,jr,jI,jM,jq,jJ,jL,iteR,regK,ji,jc,jl,jk,jb,jj,blkK,kr,kh,jd,ja,jy,fpOk,foot,kp,allN,memN,jN,jm,js,jw,jv,jt,ju,jg,jh,jf,je,newN,jx,jS,jU,j2,jO,jP,jQ,jz,jA,jE,jB,jC,jn,jD,jF,jG,j7,evX,evL,evB,rd,get,subG,memG,jW,jY,hyps,gob,impP,allP,j6,j1,j4,ko,nth,ke,km,jX,lenB,kj,jV,entN,setE,jZ,addE,setL,setN,putE,env0,eqCs,j9,eqC,bA,bO,bN,bE,negB,kEq,ki,j8,lend,frz,frzL,zRow,kg,kd,closed,jH,j0,binI,remP,remI,retK,retG,kq,retD,kn,resL,resD,oneD,renD,renL,renE,j3,rho,jR,j5,List.append,List.nil_append,List.cons_append,List.append_nil,cond,Nat.reduceBEq,Nat.reduceAdd,Nat.beq]
      rw [hnext]
      exact ⟨by simp only [fits]; omega, qj (ih ⟨v + 1, by omega⟩ (by dsimp only; omega)) ⟨rfl, rfl, rfl, rfl, by simp [get], trivial⟩ ⟨rfl, rfl, rfl, rfl, rfl, trivial⟩ rfl rfl⟩
    · have hR0 : R v = [] := List.eq_nil_of_length_eq_zero (by simp only [decide_eq_false_iff_not] at hz; omega)
      have hno : ∀ x y, ¬ Cg w h f g h 0 v x y := fun x y hc => by
        have := (hC.p v hv256 x y).2 hc
        rw [hR0] at this
        simp [pts] at this
      rw [show (Cg w h f g h 0 v) = fun _ _ => False from qf fun x y => ⟨fun h5 => hno x y h5, fun h5 => h5.elim⟩, onX_no] at hnext
      rw [hnext]
      exact ⟨by simp only [fits]; omega, qj (ih ⟨v + 1, by omega⟩ (by dsimp only; omega)) ⟨rfl, rfl, rfl, rfl, by simp [get], trivial⟩ ⟨rfl, rfl, rfl, rfl, rfl, trivial⟩ rfl rfl⟩
  · have : v = 256 := by simp only [decide_eq_false_iff_not] at hge; omega
    subst this
    have e1 : gl w h (curX w h f g ((256 : Nat) : Int)) = gl w h g := xT fun x y hp => by
      by_cases hc : f x y = g x y
      · rw [show curX w h f g ((256 : Nat) : Int) x y = f x y from zk fun h5 => h5.2.1 hc, hc]
      · exact zy ⟨hp, hc, by have := hg x y; omega⟩
    rw [e1]
    exact Rt.cut (Nat.le_refl _) (qX (plE w h f g) _) rfl rfl
end Go.AM


set_option linter.all false
namespace Go.AM
open Go Go.Proofs
section
variable {P : Program} {gt : Nat → Option (List D)} {hs : List Prop} {f : Nat} {ds : List D} {dst : Option Nat} {g : G} {os : List O} {st : St} {K : St → Prop}
theorem call_c2 {d : D} (h : impP hs (Sp P gt f ds d)) (h1 : ∀ n, ds = renL [] n ds) (h3 : ∀ n, renD [] n d = d) (hk : kT (SpC P gt) gt os K ⟨putE dst g d st.env, st.bx⟩) : atCallC (SpC P gt) gt hs f ds dst g os st K :=
  ⟨d, xd (fun h bx => by
    have := SpM.own (bx := bx) h [] (h1 _) rfl rfl
    rw [h3] at this
    have e : jR bx [] (j3 [] (jZ bx) []) = bx := by rw [jR, j3]; exact List.append_nil _
    rwa [e] at this) h, hk⟩
end
theorem sm_moveA {w h : Nat} {l : List Rc} {F : Nat} {f src : Px} {w2 h2 : Nat} {f2 : Px} {x0 y0 : Int} {s : Rc} (hw : w ≤ 128) (hh : h ≤ 128) (hf : Pok f) (hs : Pok src) (hv : ∀ r ∈ l, Vr r) (hl : l.length ≤ 1048576) (hin : ∀ x y, pts l x y → inP w h x y)
    (hsrc : ∀ x y, pts l x y → ∀ g, TSpM F [.int .i64 x, .int .i64 y, .box 3 0, .box 4 0, .box 5 0, .box 6 0] [.cells (plC w h f (.own 1 (w * h + 1)) (.own 2 1)), .arr 51 1 (w * h + 1) (gl w h f), .arr 51 1 1 (gl w h g), .cells [plF w2 h2 f2], .cells [.int .i64 x0], .cells [.int .i64 s.x, .int .i64 s.y, .int .i64 s.w, .int .i64 s.h], .cells [.int .i64 y0]] (.int .u8 (src x y)) [.cells (plC w h f (.own 1 (w * h + 1)) (.own 2 1)), .arr 51 1 (w * h + 1) (gl w h f), .arr 51 1 1 (gl w h g), .cells [plF w2 h2 f2], .cells [.int .i64 x0], .cells [.int .i64 s.x, .int .i64 s.y, .int .i64 s.w, .int .i64 s.h], .cells [.int .i64 y0]]) :
    TSpM 86 [.box 0 0, .agg [.ls 4 (rcs l)], .agg penC, .fn F [.box 3 0, .box 4 0, .box 5 0, .box 6 0]] [.cells (plC w h f (.own 1 (w * h + 1)) (.own 2 1)), .arr 51 1 (w * h + 1) (gl w h f), .arr 51 1 1 (gl w h f), .cells [plF w2 h2 f2], .cells [.int .i64 x0], .cells [.int .i64 s.x, .int .i64 s.y, .int .i64 s.w, .int .i64 s.h], .cells [.int .i64 y0]] (.tup []) [.cells (plC w h f (.own 1 (w * h + 1)) (.own 2 1)), .arr 51 1 (w * h + 1) (gl w h f), .arr 51 1 1 (gl w h (onX (pts l) src f)), .cells [plF w2 h2 f2], .cells [.int .i64 x0], .cells [.int .i64 s.x, .int .i64 s.y, .int .i64 s.w, .int .i64 s.h], .cells [.int .i64 y0]] := by
  have hm := kW hw hh
  refine spm_blit_move (by rfl) ?_
  dsimp only [c_blit_move, kQ, jo,jK,jT,jr,jI,jM,jq,jJ,jL,iteR,regK,ji,jc,jl,jk,jb,jj,blkK,kr,kh,jd,ja,jy,fpOk,foot,kp,allN,memN,jN,jm,js,jw,jv,jt,ju,jg,jh,jf,je,newN,jx,jS,jU,j2,jO,jP,jQ,jz,jA,jE,jB,jC,jn,jD,jF,jG,j7,evX,evL,evB,rd,get,subG,memG,jW,jY,hyps,gob,impP,allP,j6,j1,j4,ko,nth,ke,km,jX,lenB,kj,jV,entN,setE,jZ,addE,setL,setN,putE,env0,eqCs,j9,eqC,bA,bO,bN,bE,negB,kEq,ki,j8,lend,frz,frzL,zRow,kg,kd,closed,jH,j0,binI,remP,remI,retK,retG,kq,retD,kn,resL,resD,oneD,renD,renL,renE,j3,rho,jR,j5,List.append,List.nil_append,List.cons_append,List.append_nil,cond,Nat.reduceBEq,Nat.reduceAdd,Nat.beq]
  refine kt (x7 (l := rcs l) (by rw [ky]; omega)) ?_
  dsimp only [c_blit_move, kQ, jo,jK,jT,jr,jI,jM,jq,jJ,jL,iteR,regK,ji,jc,jl,jk,jb,jj,blkK,kr,kh,jd,ja,jy,fpOk,foot,kp,allN,memN,jN,jm,js,jw,jv,jt,ju,jg,jh,jf,je,newN,jx,jS,jU,j2,jO,jP,jQ,jz,jA,jE,jB,jC,jn,jD,jF,jG,j7,evX,evL,evB,rd,get,subG,memG,jW,jY,hyps,gob,impP,allP,j6,j1,j4,ko,nth,ke,km,jX,lenB,kj,jV,entN,setE,jZ,addE,setL,setN,putE,env0,eqCs,j9,eqC,bA,bO,bN,bE,negB,kEq,ki,j8,lend,frz,frzL,zRow,kg,kd,closed,jH,j0,binI,remP,remI,retK,retG,kq,retD,kn,resL,resD,oneD,renD,renL,renE,j3,rho,jR,j5,List.append,List.nil_append,List.cons_append,List.append_nil,cond,Nat.reduceBEq,Nat.reduceAdd,Nat.beq]
  rw [ky]
  have e0 : f = onX (pts (l.take 0)) src f := by
    rw [show (pts (l.take 0)) = fun _ _ => False from qf fun x y => by simp [pts], onX_no]
  refine kE (α := {i : Nat // i ≤ l.length})
    (fun i => ⟨[(0, [], .box 0 0), (3, [], .fn F [.box 3 0, .box 4 0, .box 5 0, .box 6 0]), (6, [], .box 8 0), (13, [], .ls 4 (rcs l)), (14, [], .int .i64 l.length), (15, [], .int .i64 i.1)], [.cells (plC w h f (.own 1 (w * h + 1)) (.own 2 1)), .arr 51 1 (w * h + 1) (gl w h f), .arr 51 1 1 (gl w h (onX (pts (l.take i.1)) src f)), .cells [plF w2 h2 f2], .cells [.int .i64 x0], .cells [.int .i64 s.x, .int .i64 s.y, .int .i64 s.w, .int .i64 s.h], .cells [.int .i64 y0], .cells [.ls 4 (rcs l)], .cells penC]⟩)
    (fun i => l.length - i.1) ?_ ⟨0, Nat.zero_le _⟩ (by dsimp only; rw [← e0]; rfl)
  rintro ⟨i, hi⟩ I ih
  dsimp only at hi ⊢
  dsimp only [c_blit_move, kQ, jo,jK,jT,jr,jI,jM,jq,jJ,jL,iteR,regK,ji,jc,jl,jk,jb,jj,blkK,kr,kh,jd,ja,jy,fpOk,foot,kp,allN,memN,jN,jm,js,jw,jv,jt,ju,jg,jh,jf,je,newN,jx,jS,jU,j2,jO,jP,jQ,jz,jA,jE,jB,jC,jn,jD,jF,jG,j7,evX,evL,evB,rd,get,subG,memG,jW,jY,hyps,gob,impP,allP,j6,j1,j4,ko,nth,ke,km,jX,lenB,kj,jV,entN,setE,jZ,addE,setL,setN,putE,env0,eqCs,j9,eqC,bA,bO,bN,bE,negB,kEq,ki,j8,lend,frz,frzL,zRow,kg,kd,closed,jH,j0,binI,remP,remI,retK,retG,kq,retD,kn,resL,resD,oneD,renD,renL,renE,j3,rho,jR,j5,List.append,List.nil_append,List.cons_append,List.append_nil,cond,Nat.reduceBEq,Nat.reduceAdd,Nat.beq]
  refine ⟨fun hlt => ?_, fun hge => ?_⟩
  · have hil : i < l.length := by simpa using hlt
    obtain ⟨r, hr⟩ : ∃ r, l[i]? = some r := ⟨_, List.getElem?_eq_getElem hil⟩
    have hV := hv r (List.mem_of_getElem? hr)
    unfold Vr at hV
    have hrp : ∀ x y, r.has x y → pts l x y := fun x y h => ⟨r, List.mem_of_getElem? hr, h⟩
    have htk : ∀ X Y, pts (l.take (i + 1)) X Y ↔ pts (l.take i) X Y ∨ r.has X Y := fun X Y => by rw [List.take_add_one, hr, Option.toList, ptsA, ptsO]
    refine ⟨⟨rfl, by omega, by rw [ky]; omega⟩, kA (rD r) (rD r) (qv (by simpa using hr)) rfl ?_⟩
    dsimp only [c_blit_move, kQ, rD, jo,jK,jT,jr,jI,jM,jq,jJ,jL,iteR,regK,ji,jc,jl,jk,jb,jj,blkK,kr,kh,jd,ja,jy,fpOk,foot,kp,allN,memN,jN,jm,js,jw,jv,jt,ju,jg,jh,jf,je,newN,jx,jS,jU,j2,jO,jP,jQ,jz,jA,jE,jB,jC,jn,jD,jF,jG,j7,evX,evL,evB,rd,get,subG,memG,jW,jY,hyps,gob,impP,allP,j6,j1,j4,ko,nth,ke,km,jX,lenB,kj,jV,entN,setE,jZ,addE,setL,setN,putE,env0,eqCs,j9,eqC,bA,bO,bN,bE,negB,kEq,ki,j8,lend,frz,frzL,zRow,kg,kd,closed,jH,j0,binI,remP,remI,retK,retG,kq,retD,kn,resL,resD,oneD,renD,renL,renE,j3,rho,jR,j5,List.append,List.nil_append,List.cons_append,List.append_nil,cond,Nat.reduceBEq,Nat.reduceAdd,Nat.beq]
    have e1 : onX (pts (l.take i)) src f = onX (fun X Y => pts (l.take i) X Y ∨ (r.has X Y ∧ Y < r.y)) src f :=
      congrArg (fun Q => onX Q src f) (qf fun X Y => ⟨.inl, fun h => h.elim id fun h => by unfold Rc.has at h; omega⟩)
    refine kE (α := {y : Int // r.y ≤ y ∧ y ≤ r.y + r.h})
      (fun y => ⟨[(0, [], .box 0 0), (3, [], .fn F [.box 3 0, .box 4 0, .box 5 0, .box 6 0]), (6, [], .box 8 0), (9, [], .box 9 0), (10, [], .int .i64 y.1), (13, [], .ls 4 (rcs l)), (14, [], .int .i64 l.length), (15, [], .int .i64 i)], [.cells (plC w h f (.own 1 (w * h + 1)) (.own 2 1)), .arr 51 1 (w * h + 1) (gl w h f), .arr 51 1 1 (gl w h (onX (fun X Y => pts (l.take i) X Y ∨ (r.has X Y ∧ Y < y.1)) src f)), .cells [plF w2 h2 f2], .cells [.int .i64 x0], .cells [.int .i64 s.x, .int .i64 s.y, .int .i64 s.w, .int .i64 s.h], .cells [.int .i64 y0], .cells [.ls 4 (rcs l)], .cells penC, .cells [.int .i64 r.x, .int .i64 r.y, .int .i64 r.w, .int .i64 r.h]]⟩)
      (fun y => (r.y + r.h - y.1).toNat) ?_ ⟨r.y, by omega⟩ (by dsimp only; rw [← e1])
    rintro ⟨y, hy⟩ I2 ih2
    dsimp only at hy ⊢
    dsimp only [c_blit_move, kQ, jo,jK,jT,jr,jI,jM,jq,jJ,jL,iteR,regK,ji,jc,jl,jk,jb,jj,blkK,kr,kh,jd,ja,jy,fpOk,foot,kp,allN,memN,jN,jm,js,jw,jv,jt,ju,jg,jh,jf,je,newN,jx,jS,jU,j2,jO,jP,jQ,jz,jA,jE,jB,jC,jn,jD,jF,jG,j7,evX,evL,evB,rd,get,subG,memG,jW,jY,hyps,gob,impP,allP,j6,j1,j4,ko,nth,ke,km,jX,lenB,kj,jV,entN,setE,jZ,addE,setL,setN,putE,env0,eqCs,j9,eqC,bA,bO,bN,bE,negB,kEq,ki,j8,lend,frz,frzL,zRow,kg,kd,closed,jH,j0,binI,remP,remI,retK,retG,kq,retD,kn,resL,resD,oneD,renD,renL,renE,j3,rho,jR,j5,List.append,List.nil_append,List.cons_append,List.append_nil,cond,Nat.reduceBEq,Nat.reduceAdd,Nat.beq]
    have e2 : onX (fun X Y => pts (l.take i) X Y ∨ (r.has X Y ∧ Y < y)) src f = onX (fun X Y => (pts (l.take i) X Y ∨ (r.has X Y ∧ Y < y)) ∨ (Y = y ∧ r.x ≤ X ∧ X < r.x)) src f := by
      rw [show (fun X Y => pts (l.take i) X Y ∨ (r.has X Y ∧ Y < y)) = fun X Y => (pts (l.take i) X Y ∨ (r.has X Y ∧ Y < y)) ∨ (Y = y ∧ r.x ≤ X ∧ X < r.x) from qf fun X Y => ⟨.inl, fun h => h.elim id fun h => by omega⟩]
    refine kE (α := {x : Int // r.x ≤ x ∧ x ≤ r.x + r.w ∧ (x ≠ r.x → y < r.y + r.h)})
      (fun x => ⟨[(0, [], .box 0 0), (3, [], .fn F [.box 3 0, .box 4 0, .box 5 0, .box 6 0]), (6, [], .box 8 0), (9, [], .box 9 0), (10, [], .int .i64 y), (11, [], .int .i64 x.1), (13, [], .ls 4 (rcs l)), (14, [], .int .i64 l.length), (15, [], .int .i64 i)], [.cells (plC w h f (.own 1 (w * h + 1)) (.own 2 1)), .arr 51 1 (w * h + 1) (gl w h f), .arr 51 1 1 (gl w h (onX (fun X Y => (pts (l.take i) X Y ∨ (r.has X Y ∧ Y < y)) ∨ (Y = y ∧ r.x ≤ X ∧ X < x.1)) src f)), .cells [plF w2 h2 f2], .cells [.int .i64 x0], .cells [.int .i64 s.x, .int .i64 s.y, .int .i64 s.w, .int .i64 s.h], .cells [.int .i64 y0], .cells [.ls 4 (rcs l)], .cells penC, .cells [.int .i64 r.x, .int .i64 r.y, .int .i64 r.w, .int .i64 r.h]]⟩)
      (fun x => (r.x + r.w - x.1).toNat) ?_ ⟨r.x, by omega, by omega, fun h => absurd rfl h⟩ (by dsimp only; rw [← e2])
    rintro ⟨x, hx1, hx2, hx3⟩ I3 ih3
    dsimp only at hx1 hx2 hx3 ⊢
    dsimp only [c_blit_move, kQ, jo,jK,jT,jr,jI,jM,jq,jJ,jL,iteR,regK,ji,jc,jl,jk,jb,jj,blkK,kr,kh,jd,ja,jy,fpOk,foot,kp,allN,memN,jN,jm,js,jw,jv,jt,ju,jg,jh,jf,je,newN,jx,jS,jU,j2,jO,jP,jQ,jz,jA,jE,jB,jC,jn,jD,jF,jG,j7,evX,evL,evB,rd,get,subG,memG,jW,jY,hyps,gob,impP,allP,j6,j1,j4,ko,nth,ke,km,jX,lenB,kj,jV,entN,setE,jZ,addE,setL,setN,putE,env0,eqCs,j9,eqC,bA,bO,bN,bE,negB,kEq,ki,j8,lend,frz,frzL,zRow,kg,kd,closed,jH,j0,binI,remP,remI,retK,retG,kq,retD,kn,resL,resD,oneD,renD,renL,renE,j3,rho,jR,j5,List.append,List.nil_append,List.cons_append,List.append_nil,cond,Nat.reduceBEq,Nat.reduceAdd,Nat.beq]
    refine ⟨by simp only [fits]; omega, fun hlt => ⟨by simp only [fits]; omega, fun heq => ⟨by simp only [fits]; omega, ?_⟩, fun hne => ?_⟩, fun hge => ⟨by simp only [fits]; omega, ?_⟩⟩
    · simp only [decide_eq_true_eq] at heq
      have hxx : x = r.x := by
        by_cases hq : x = r.x
        · exact hq
        · have := hx3 hq; omega
      subst hxx
      have e3 : onX (fun X Y => (pts (l.take i) X Y ∨ (r.has X Y ∧ Y < y)) ∨ (Y = y ∧ r.x ≤ X ∧ X < r.x)) src f = onX (pts (l.take (i + 1))) src f := by
        rw [show (fun X Y => (pts (l.take i) X Y ∨ (r.has X Y ∧ Y < y)) ∨ (Y = y ∧ r.x ≤ X ∧ X < r.x)) = pts (l.take (i + 1)) from qf fun X Y => by
          rw [htk]; unfold Rc.has
          constructor
          · rintro ((h1 | h1) | h1)
            · exact .inl h1
            · exact .inr h1.1
            · omega
          · rintro (h1 | h1)
            · exact .inl (.inl h1)
            · exact .inl (.inr ⟨h1, by omega⟩)]
      rw [e3]
      exact qj (ih ⟨i + 1, hil⟩ (by dsimp only; omega)) ⟨rfl, rfl, rfl, rfl, rfl, by simp [get], trivial⟩ ⟨rfl, rfl, rfl, rfl, rfl, rfl, rfl, rfl, rfl, trivial⟩ rfl rfl
    · simp only [decide_eq_true_eq] at hlt
      simp only [decide_eq_false_iff_not] at hne
      have hhas : r.has x y := by unfold Rc.has; omega
      have hp := hin x y (hrp x y hhas)
      refine qF [0, 1, 2, 3, 4, 5, 6] (hsrc x y (hrp x y hhas) _) rfl rfl rfl ?_
      dsimp only [c_blit_move, kQ, jo,jK,jT,jr,jI,jM,jq,jJ,jL,iteR,regK,ji,jc,jl,jk,jb,jj,blkK,kr,kh,jd,ja,jy,fpOk,foot,kp,allN,memN,jN,jm,js,jw,jv,jt,ju,jg,jh,jf,je,newN,jx,jS,jU,j2,jO,jP,jQ,jz,jA,jE,jB,jC,jn,jD,jF,jG,j7,evX,evL,evB,rd,get,subG,memG,jW,jY,hyps,gob,impP,allP,j6,j1,j4,ko,nth,ke,km,jX,lenB,kj,jV,entN,setE,jZ,addE,setL,setN,putE,env0,eqCs,j9,eqC,bA,bO,bN,bE,negB,kEq,ki,j8,lend,frz,frzL,zRow,kg,kd,closed,jH,j0,binI,remP,remI,retK,retG,kq,retD,kn,resL,resD,oneD,renD,renL,renE,j3,rho,jR,j5,List.append,List.nil_append,List.cons_append,List.append_nil,cond,Nat.reduceBEq,Nat.reduceAdd,Nat.beq]
      refine qF [0, 1, 2] (sm_plWas hw hh hp) rfl rfl rfl ?_
      dsimp only [c_blit_move, kQ, jo,jK,jT,jr,jI,jM,jq,jJ,jL,iteR,regK,ji,jc,jl,jk,jb,jj,blkK,kr,kh,jd,ja,jy,fpOk,foot,kp,allN,memN,jN,jm,js,jw,jv,jt,ju,jg,jh,jf,je,newN,jx,jS,jU,j2,jO,jP,jQ,jz,jA,jE,jB,jC,jn,jD,jF,jG,j7,evX,evL,evB,rd,get,subG,memG,jW,jY,hyps,gob,impP,allP,j6,j1,j4,ko,nth,ke,km,jX,lenB,kj,jV,entN,setE,jZ,addE,setL,setN,putE,env0,eqCs,j9,eqC,bA,bO,bN,bE,negB,kEq,ki,j8,lend,frz,frzL,zRow,kg,kd,closed,jH,j0,binI,remP,remI,retK,retG,kq,retD,kn,resL,resD,oneD,renD,renL,renE,j3,rho,jR,j5,List.append,List.nil_append,List.cons_append,List.append_nil,cond,Nat.reduceBEq,Nat.reduceAdd,Nat.beq]
      refine kt (sp_Mix (hs x y) (hf x y)) ?_
      dsimp only [c_blit_move, kQ, jo,jK,jT,jr,jI,jM,jq,jJ,jL,iteR,regK,ji,jc,jl,jk,jb,jj,blkK,kr,kh,jd,ja,jy,fpOk,foot,kp,allN,memN,jN,jm,js,jw,jv,jt,ju,jg,jh,jf,je,newN,jx,jS,jU,j2,jO,jP,jQ,jz,jA,jE,jB,jC,jn,jD,jF,jG,j7,evX,evL,evB,rd,get,subG,memG,jW,jY,hyps,gob,impP,allP,j6,j1,j4,ko,nth,ke,km,jX,lenB,kj,jV,entN,setE,jZ,addE,setL,setN,putE,env0,eqCs,j9,eqC,bA,bO,bN,bE,negB,kEq,ki,j8,lend,frz,frzL,zRow,kg,kd,closed,jH,j0,binI,remP,remI,retK,retG,kq,retD,kn,resL,resD,oneD,renD,renL,renE,j3,rho,jR,j5,List.append,List.nil_append,List.cons_append,List.append_nil,cond,Nat.reduceBEq,Nat.reduceAdd,Nat.beq]
      refine qe [0, 1, 2] (sm_plSet hw hh hp) rfl rfl ?_
      dsimp only [c_blit_move, kQ, jo,jK,jT,jr,jI,jM,jq,jJ,jL,iteR,regK,ji,jc,jl,jk,jb,jj,blkK,kr,kh,jd,ja,jy,fpOk,foot,kp,allN,memN,jN,jm,js,jw,jv,jt,ju,jg,jh,jf,je,newN,jx,jS,jU,j2,jO,jP,jQ,jz,jA,jE,jB,jC,jn,jD,jF,jG,j7,evX,evL,evB,rd,get,subG,memG,jW,jY,hyps,gob,impP,allP,j6,j1,j4,ko,nth,ke,km,jX,lenB,kj,jV,entN,setE,jZ,addE,setL,setN,putE,env0,eqCs,j9,eqC,bA,bO,bN,bE,negB,kEq,ki,j8,lend,frz,frzL,zRow,kg,kd,closed,jH,j0,binI,remP,remI,retK,retG,kq,retD,kn,resL,resD,oneD,renD,renL,renE,j3,rho,jR,j5,List.append,List.nil_append,List.cons_append,List.append_nil,cond,Nat.reduceBEq,Nat.reduceAdd,Nat.beq]
      rw [onX_upd]
      have e3 : (fun X Y => ((pts (l.take i) X Y ∨ (r.has X Y ∧ Y < y)) ∨ (Y = y ∧ r.x ≤ X ∧ X < x)) ∨ (Y = y ∧ X = x)) = fun X Y => (pts (l.take i) X Y ∨ (r.has X Y ∧ Y < y)) ∨ (Y = y ∧ r.x ≤ X ∧ X < x + 1) := qf fun X Y => by
        constructor
        · rintro ((h1 | h1) | h1)
          · exact .inl h1
          · exact .inr (by omega)
          · exact .inr (by omega)
        · rintro (h1 | h1)
          · exact .inl (.inl h1)
          · by_cases hX : X = x
            · exact .inr (by omega)
            · exact .inl (.inr (by omega))
      rw [e3]
      exact ⟨by simp only [fits]; omega, qj (ih3 ⟨x + 1, by omega, by omega, fun _ => by omega⟩ (by dsimp only; omega)) ⟨rfl, rfl, rfl, rfl, rfl, by simp [get], rfl, rfl, rfl, trivial⟩ ⟨rfl, rfl, rfl, rfl, rfl, rfl, rfl, rfl, rfl, rfl, trivial⟩ rfl rfl⟩
    · simp only [decide_eq_false_iff_not] at hge
      have hyl := hx3 (by omega)
      have e3 : onX (fun X Y => (pts (l.take i) X Y ∨ (r.has X Y ∧ Y < y)) ∨ (Y = y ∧ r.x ≤ X ∧ X < x)) src f = onX (fun X Y => pts (l.take i) X Y ∨ (r.has X Y ∧ Y < y + 1)) src f := by
        rw [show (fun X Y => (pts (l.take i) X Y ∨ (r.has X Y ∧ Y < y)) ∨ (Y = y ∧ r.x ≤ X ∧ X < x)) = fun X Y => pts (l.take i) X Y ∨ (r.has X Y ∧ Y < y + 1) from qf fun X Y => by
          unfold Rc.has
          constructor
          · rintro ((h1 | h1) | h1)
            · exact .inl h1
            · exact .inr ⟨h1.1, by omega⟩
            · exact .inr ⟨by omega, by omega⟩
          · rintro (h1 | h1)
            · exact .inl (.inl h1)
            · by_cases hY : Y = y
              · exact .inr (by omega)
              · exact .inl (.inr ⟨h1.1, by omega⟩)]
      rw [e3]
      exact qj (ih2 ⟨y + 1, by omega⟩ (by dsimp only; omega)) ⟨rfl, rfl, rfl, rfl, by simp [get], rfl, rfl, rfl, trivial⟩ ⟨rfl, rfl, rfl, rfl, rfl, rfl, rfl, rfl, rfl, rfl, trivial⟩ rfl rfl
  · have hil : i = l.length := by have : ¬ i < l.length := by simpa using hge
                                  omega
    subst hil
    rw [List.take_length]
    exact Rt.cut (Nat.le_refl _) (qX [.cells (plC w h f (.own 1 (w * h + 1)) (.own 2 1)), .arr 51 1 (w * h + 1) (gl w h f), .arr 51 1 1 (gl w h (onX (pts l) src f)), .cells [plF w2 h2 f2], .cells [.int .i64 x0], .cells [.int .i64 s.x, .int .i64 s.y, .int .i64 s.w, .int .i64 s.h], .cells [.int .i64 y0]] _) rfl rfl
theorem sm_moveS {w h : Nat} {l : List Rc} {F : Nat} {f src : Px} {dx dy : Int} (hw : w ≤ 128) (hh : h ≤ 128) (hf : Pok f) (hs : Pok src) (hv : ∀ r ∈ l, Vr r) (hl : l.length ≤ 1048576) (hin : ∀ x y, pts l x y → inP w h x y)
    (hsrc : ∀ x y, pts l x y → ∀ g, TSpM F [.int .i64 x, .int .i64 y, .box 3 0, .box 4 0, .box 5 0] [.cells (plC w h f (.own 1 (w * h + 1)) (.own 2 1)), .arr 51 1 (w * h + 1) (gl w h f), .arr 51 1 1 (gl w h g), .cells [.box 0 0], .cells [.int .i64 dx], .cells [.int .i64 dy]] (.int .u8 (src x y)) [.cells (plC w h f (.own 1 (w * h + 1)) (.own 2 1)), .arr 51 1 (w * h + 1) (gl w h f), .arr 51 1 1 (gl w h g), .cells [.box 0 0], .cells [.int .i64 dx], .cells [.int .i64 dy]]) :
    TSpM 86 [.box 0 0, .agg [.ls 4 (rcs l)], .agg penC, .fn F [.box 3 0, .box 4 0, .box 5 0]] [.cells (plC w h f (.own 1 (w * h + 1)) (.own 2 1)), .arr 51 1 (w * h + 1) (gl w h f), .arr 51 1 1 (gl w h f), .cells [.box 0 0], .cells [.int .i64 dx], .cells [.int .i64 dy]] (.tup []) [.cells (plC w h f (.own 1 (w * h + 1)) (.own 2 1)), .arr 51 1 (w * h + 1) (gl w h f), .arr 51 1 1 (gl w h (onX (pts l) src f)), .cells [.box 0 0], .cells [.int .i64 dx], .cells [.int .i64 dy]] := by
  have hm := kW hw hh
  refine spm_blit_move (by rfl) ?_
  dsimp only [c_blit_move, kQ, jo,jK,jT,jr,jI,jM,jq,jJ,jL,iteR,regK,ji,jc,jl,jk,jb,jj,blkK,kr,kh,jd,ja,jy,fpOk,foot,kp,allN,memN,jN,jm,js,jw,jv,jt,ju,jg,jh,jf,je,newN,jx,jS,jU,j2,jO,jP,jQ,jz,jA,jE,jB,jC,jn,jD,jF,jG,j7,evX,evL,evB,rd,get,subG,memG,jW,jY,hyps,gob,impP,allP,j6,j1,j4,ko,nth,ke,km,jX,lenB,kj,jV,entN,setE,jZ,addE,setL,setN,putE,env0,eqCs,j9,eqC,bA,bO,bN,bE,negB,kEq,ki,j8,lend,frz,frzL,zRow,kg,kd,closed,jH,j0,binI,remP,remI,retK,retG,kq,retD,kn,resL,resD,oneD,renD,renL,renE,j3,rho,jR,j5,List.append,List.nil_append,List.cons_append,List.append_nil,cond,Nat.reduceBEq,Nat.reduceAdd,Nat.beq]
  refine kt (x7 (l := rcs l) (by rw [ky]; omega)) ?_
  dsimp only [c_blit_move, kQ, jo,jK,jT,jr,jI,jM,jq,jJ,jL,iteR,regK,ji,jc,jl,jk,jb,jj,blkK,kr,kh,jd,ja,jy,fpOk,foot,kp,allN,memN,jN,jm,js,jw,jv,jt,ju,jg,jh,jf,je,newN,jx,jS,jU,j2,jO,jP,jQ,jz,jA,jE,jB,jC,jn,jD,jF,jG,j7,evX,evL,evB,rd,get,subG,memG,jW,jY,hyps,gob,impP,allP,j6,j1,j4,ko,nth,ke,km,jX,lenB,kj,jV,entN,setE,jZ,addE,setL,setN,putE,env0,eqCs,j9,eqC,bA,bO,bN,bE,negB,kEq,ki,j8,lend,frz,frzL,zRow,kg,kd,closed,jH,j0,binI,remP,remI,retK,retG,kq,retD,kn,resL,resD,oneD,renD,renL,renE,j3,rho,jR,j5,List.append,List.nil_append,List.cons_append,List.append_nil,cond,Nat.reduceBEq,Nat.reduceAdd,Nat.beq]
  rw [ky]
  have e0 : f = onX (pts (l.take 0)) src f := by
    rw [show (pts (l.take 0)) = fun _ _ => False from qf fun x y => by simp [pts], onX_no]
  refine kE (α := {i : Nat // i ≤ l.length})
    (fun i => ⟨[(0, [], .box 0 0), (3, [], .fn F [.box 3 0, .box 4 0, .box 5 0]), (6, [], .box 7 0), (13, [], .ls 4 (rcs l)), (14, [], .int .i64 l.length), (15, [], .int .i64 i.1)], [.cells (plC w h f (.own 1 (w * h + 1)) (.own 2 1)), .arr 51 1 (w * h + 1) (gl w h f), .arr 51 1 1 (gl w h (onX (pts (l.take i.1)) src f)), .cells [.box 0 0], .cells [.int .i64 dx], .cells [.int .i64 dy], .cells [.ls 4 (rcs l)], .cells penC]⟩)
    (fun i => l.length - i.1) ?_ ⟨0, Nat.zero_le _⟩ (by dsimp only; rw [← e0]; rfl)
  rintro ⟨i, hi⟩ I ih
  dsimp only at hi ⊢
  dsimp only [c_blit_move, kQ, jo,jK,jT,jr,jI,jM,jq,jJ,jL,iteR,regK,ji,jc,jl,jk,jb,jj,blkK,kr,kh,jd,ja,jy,fpOk,foot,kp,allN,memN,jN,jm,js,jw,jv,jt,ju,jg,jh,jf,je,newN,jx,jS,jU,j2,jO,jP,jQ,jz,jA,jE,jB,jC,jn,jD,jF,jG,j7,evX,evL,evB,rd,get,subG,memG,jW,jY,hyps,gob,impP,allP,j6,j1,j4,ko,nth,ke,km,jX,lenB,kj,jV,entN,setE,jZ,addE,setL,setN,putE,env0,eqCs,j9,eqC,bA,bO,bN,bE,negB,kEq,ki,j8,lend,frz,frzL,zRow,kg,kd,closed,jH,j0,binI,remP,remI,retK,retG,kq,retD,kn,resL,resD,oneD,renD,renL,renE,j3,rho,jR,j5,List.append,List.nil_append,List.cons_append,List.append_nil,cond,Nat.reduceBEq,Nat.reduceAdd,Nat.beq]
  refine ⟨fun hlt => ?_, fun hge => ?_⟩
  · have hil : i < l.length := by simpa using hlt
    obtain ⟨r, hr⟩ : ∃ r, l[i]? = some r := ⟨_, List.getElem?_eq_getElem hil⟩
    have hV := hv r (List.mem_of_getElem? hr)
    unfold Vr at hV
    have hrp : ∀ x y, r.has x y → pts l x y := fun x y h => ⟨r, List.mem_of_getElem? hr, h⟩
    have htk : ∀ X Y, pts (l.take (i + 1)) X Y ↔ pts (l.take i) X Y ∨ r.has X Y := fun X Y => by rw [List.take_add_one, hr, Option.toList, ptsA, ptsO]
    refine ⟨⟨rfl, by omega, by rw [ky]; omega⟩, kA (rD r) (rD r) (qv (by simpa using hr)) rfl ?_⟩
    dsimp only [c_blit_move, kQ, rD, jo,jK,jT,jr,jI,jM,jq,jJ,jL,iteR,regK,ji,jc,jl,jk,jb,jj,blkK,kr,kh,jd,ja,jy,fpOk,foot,kp,allN,memN,jN,jm,js,jw,jv,jt,ju,jg,jh,jf,je,newN,jx,jS,jU,j2,jO,jP,jQ,jz,jA,jE,jB,jC,jn,jD,jF,jG,j7,evX,evL,evB,rd,get,subG,memG,jW,jY,hyps,gob,impP,allP,j6,j1,j4,ko,nth,ke,km,jX,lenB,kj,jV,entN,setE,jZ,addE,setL,setN,putE,env0,eqCs,j9,eqC,bA,bO,bN,bE,negB,kEq,ki,j8,lend,frz,frzL,zRow,kg,kd,closed,jH,j0,binI,remP,remI,retK,retG,kq,retD,kn,resL,resD,oneD,renD,renL,renE,j3,rho,jR,j5,List.append,List.nil_append,List.cons_append,List.append_nil,cond,Nat.reduceBEq,Nat.reduceAdd,Nat.beq]
    have e1 : onX (pts (l.take i)) src f = onX (fun X Y => pts (l.take i) X Y ∨ (r.has X Y ∧ Y < r.y)) src f :=
      congrArg (fun Q => onX Q src f) (qf fun X Y => ⟨.inl, fun h => h.elim id fun h => by unfold Rc.has at h; omega⟩)
    refine kE (α := {y : Int // r.y ≤ y ∧ y ≤ r.y + r.h})
      (fun y => ⟨[(0, [], .box 0 0), (3, [], .fn F [.box 3 0, .box 4 0, .box 5 0]), (6, [], .box 7 0), (9, [], .box 8 0), (10, [], .int .i64 y.1), (13, [], .ls 4 (rcs l)), (14, [], .int .i64 l.length), (15, [], .int .i64 i)], [.cells (plC w h f (.own 1 (w * h + 1)) (.own 2 1)), .arr 51 1 (w * h + 1) (gl w h f), .arr 51 1 1 (gl w h (onX (fun X Y => pts (l.take i) X Y ∨ (r.has X Y ∧ Y < y.1)) src f)), .cells [.box 0 0], .cells [.int .i64 dx], .cells [.int .i64 dy], .cells [.ls 4 (rcs l)], .cells penC, .cells [.int .i64 r.x, .int .i64 r.y, .int .i64 r.w, .int .i64 r.h]]⟩)
      (fun y => (r.y + r.h - y.1).toNat) ?_ ⟨r.y, by omega⟩ (by dsimp only; rw [← e1])
    rintro ⟨y, hy⟩ I2 ih2
    dsimp only at hy ⊢
    dsimp only [c_blit_move, kQ, jo,jK,jT,jr,jI,jM,jq,jJ,jL,iteR,regK,ji,jc,jl,jk,jb,jj,blkK,kr,kh,jd,ja,jy,fpOk,foot,kp,allN,memN,jN,jm,js,jw,jv,jt,ju,jg,jh,jf,je,newN,jx,jS,jU,j2,jO,jP,jQ,jz,jA,jE,jB,jC,jn,jD,jF,jG,j7,evX,evL,evB,rd,get,subG,memG,jW,jY,hyps,gob,impP,allP,j6,j1,j4,ko,nth,ke,km,jX,lenB,kj,jV,entN,setE,jZ,addE,setL,setN,putE,env0,eqCs,j9,eqC,bA,bO,bN,bE,negB,kEq,ki,j8,lend,frz,frzL,zRow,kg,kd,closed,jH,j0,binI,remP,remI,retK,retG,kq,retD,kn,resL,resD,oneD,renD,renL,renE,j3,rho,jR,j5,List.append,List.nil_append,List.cons_append,List.append_nil,cond,Nat.reduceBEq,Nat.reduceAdd,Nat.beq]
    have e2 : onX (fun X Y => pts (l.take i) X Y ∨ (r.has X Y ∧ Y < y)) src f = onX (fun X Y => (pts (l.take i) X Y ∨ (r.has X Y ∧ Y < y)) ∨ (Y = y ∧ r.x ≤ X ∧ X < r.x)) src f := by
      rw [show (fun X Y => pts (l.take i) X Y ∨ (r.has X Y ∧ Y < y)) = fun X Y => (pts (l.take i) X Y ∨ (r.has X Y ∧ Y < y)) ∨ (Y = y ∧ r.x ≤ X ∧ X < r.x) from qf fun X Y => ⟨.inl, fun h => h.elim id fun h => by omega⟩]
    refine kE (α := {x : Int // r.x ≤ x ∧ x ≤ r.x + r.w ∧ (x ≠ r.x → y < r.y + r.h)})
      (fun x => ⟨[(0, [], .box 0 0), (3, [], .fn F [.box 3 0, .box 4 0, .box 5 0]), (6, [], .box 7 0), (9, [], .box 8 0), (10, [], .int .i64 y), (11, [], .int .i64 x.1), (13, [], .ls 4 (rcs l)), (14, [], .int .i64 l.length), (15, [], .int .i64 i)], [.cells (plC w h f (.own 1 (w * h + 1)) (.own 2 1)), .arr 51 1 (w * h + 1) (gl w h f), .arr 51 1 1 (gl w h (onX (fun X Y => (pts (l.take i) X Y ∨ (r.has X Y ∧ Y < y)) ∨ (Y = y ∧ r.x ≤ X ∧ X < x.1)) src f)), .cells [.box 0 0], .cells [.int .i64 dx], .cells [.int .i64 dy], .cells [.ls 4 (rcs l)], .cells penC, .cells [.int .i64 r.x, .int .i64 r.y, .int .i64 r.w, .int .i64 r.h]]⟩)
      (fun x => (r.x + r.w - x.1).toNat) ?_ ⟨r.x, by omega, by omega, fun h => absurd rfl h⟩ (by dsimp only; rw [← e2])
    rintro ⟨x, hx1, hx2, hx3⟩ I3 ih3
    dsimp only at hx1 hx2 hx3 ⊢
    dsimp only [c_blit_move, kQ, jo,jK,jT,jr,jI,jM,jq,jJ,jL,iteR,regK,ji,jc,jl,jk,jb,jj,blkK,kr,kh,jd,ja,jy,fpOk,foot,kp,allN,memN,jN,jm,js,jw,jv,jt,ju,jg,jh,jf,je,newN,jx,jS,jU,j2,jO,jP,jQ,jz,jA,jE,jB,jC,jn,jD,jF,jG,j7,evX,evL,evB,rd,get,subG,memG,jW,jY,hyps,gob,impP,allP,j6,j1,j4,ko,nth,ke,km,jX,lenB,kj,jV,entN,setE,jZ,addE,setL,setN,putE,env0,eqCs,j9,eqC,bA,bO,bN,bE,negB,kEq,ki,j8,lend,frz,frzL,zRow,kg,kd,closed,jH,j0,binI,remP,remI,retK,retG,kq,retD,kn,resL,resD,oneD,renD,renL,renE,j3,rho,jR,j5,List.append,List.nil_append,List.cons_append,List.append_nil,cond,Nat.reduceBEq,Nat.reduceAdd,Nat.beq]
    refine ⟨by simp only [fits]; omega, fun hlt => ⟨by simp only [fits]; omega, fun heq => ⟨by simp only [fits]; omega, ?_⟩, fun hne => ?_⟩, fun hge => ⟨by simp only [fits]; omega, ?_⟩⟩
    · simp only [decide_eq_true_eq] at heq
      have hxx : x = r.x := by
        by_cases hq : x = r.x
        · exact hq
        · have := hx3 hq; omega
      subst hxx
      have e3 : onX (fun X Y => (pts (l.take i) X Y ∨ (r.has X Y ∧ Y < y)) ∨ (Y = y ∧ r.x ≤ X ∧ X < r.x)) src f = onX (pts (l.take (i + 1))) src f := by
        rw [show (fun X Y => (pts (l.take i) X Y ∨ (r.has X Y ∧ Y < y)) ∨ (Y = y ∧ r.x ≤ X ∧ X < r.x)) = pts (l.take (i + 1)) from qf fun X Y => by
          rw [htk]; unfold Rc.has
          constructor
          · rintro ((h1 | h1) | h1)
            · exact .inl h1
            · exact .inr h1.1
            · omega
          · rintro (h1 | h1)
            · exact .inl (.inl h1)
            · exact .inl (.inr ⟨h1, by omega⟩)]
      rw [e3]
      exact qj (ih ⟨i + 1, hil⟩ (by dsimp only; omega)) ⟨rfl, rfl, rfl, rfl, rfl, by simp [get], trivial⟩ ⟨rfl, rfl, rfl, rfl, rfl, rfl, rfl, rfl, trivial⟩ rfl rfl
    · simp only [decide_eq_true_eq] at hlt
      simp only [decide_eq_false_iff_not] at hne
      have hhas : r.has x y := by unfold Rc.has; omega
      have hp := hin x y (hrp x y hhas)
      refine qF [0, 1, 2, 3, 4, 5] (hsrc x y (hrp x y hhas) _) rfl rfl rfl ?_
      dsimp only [c_blit_move, kQ, jo,jK,jT,jr,jI,jM,jq,jJ,jL,iteR,regK,ji,jc,jl,jk,jb,jj,blkK,kr,kh,jd,ja,jy,fpOk,foot,kp,allN,memN,jN,jm,js,jw,jv,jt,ju,jg,jh,jf,je,newN,jx,jS,jU,j2,jO,jP,jQ,jz,jA,jE,jB,jC,jn,jD,jF,jG,j7,evX,evL,evB,rd,get,subG,memG,jW,jY,hyps,gob,impP,allP,j6,j1,j4,ko,nth,ke,km,jX,lenB,kj,jV,entN,setE,jZ,addE,setL,setN,putE,env0,eqCs,j9,eqC,bA,bO,bN,bE,negB,kEq,ki,j8,lend,frz,frzL,zRow,kg,kd,closed,jH,j0,binI,remP,remI,retK,retG,kq,retD,kn,resL,resD,oneD,renD,renL,renE,j3,rho,jR,j5,List.append,List.nil_append,List.cons_append,List.append_nil,cond,Nat.reduceBEq,Nat.reduceAdd,Nat.beq]
      refine qF [0, 1, 2] (sm_plWas hw hh hp) rfl rfl rfl ?_
      dsimp only [c_blit_move, kQ, jo,jK,jT,jr,jI,jM,jq,jJ,jL,iteR,regK,ji,jc,jl,jk,jb,jj,blkK,kr,kh,jd,ja,jy,fpOk,foot,kp,allN,memN,jN,jm,js,jw,jv,jt,ju,jg,jh,jf,je,newN,jx,jS,jU,j2,jO,jP,jQ,jz,jA,jE,jB,jC,jn,jD,jF,jG,j7,evX,evL,evB,rd,get,subG,memG,jW,jY,hyps,gob,impP,allP,j6,j1,j4,ko,nth,ke,km,jX,lenB,kj,jV,entN,setE,jZ,addE,setL,setN,putE,env0,eqCs,j9,eqC,bA,bO,bN,bE,negB,kEq,ki,j8,lend,frz,frzL,zRow,kg,kd,closed,jH,j0,binI,remP,remI,retK,retG,kq,retD,kn,resL,resD,oneD,renD,renL,renE,j3,rho,jR,j5,List.append,List.nil_append,List.cons_append,List.append_nil,cond,Nat.reduceBEq,Nat.reduceAdd,Nat.beq]
      refine kt (sp_Mix (hs x y) (hf x y)) ?_
      dsimp only [c_blit_move, kQ, jo,jK,jT,jr,jI,jM,jq,jJ,jL,iteR,regK,ji,jc,jl,jk,jb,jj,blkK,kr,kh,jd,ja,jy,fpOk,foot,kp,allN,memN,jN,jm,js,jw,jv,jt,ju,jg,jh,jf,je,newN,jx,jS,jU,j2,jO,jP,jQ,jz,jA,jE,jB,jC,jn,jD,jF,jG,j7,evX,evL,evB,rd,get,subG,memG,jW,jY,hyps,gob,impP,allP,j6,j1,j4,ko,nth,ke,km,jX,lenB,kj,jV,entN,setE,jZ,addE,setL,setN,putE,env0,eqCs,j9,eqC,bA,bO,bN,bE,negB,kEq,ki,j8,lend,frz,frzL,zRow,kg,kd,closed,jH,j0,binI,remP,remI,retK,retG,kq,retD,kn,resL,resD,oneD,renD,renL,renE,j3,rho,jR,j5,List.append,List.nil_append,List.cons_append,List.append_nil,cond,Nat.reduceBEq,Nat.reduceAdd,Nat.beq]
      refine qe [0, 1, 2] (sm_plSet hw hh hp) rfl rfl ?_
      dsimp only [c_blit_move, kQ, jo,jK,jT,jr,jI,jM,jq,jJ,jL,iteR,regK,ji,jc,jl,jk,jb,jj,blkK,kr,kh,jd,ja,jy,fpOk,foot,kp,allN,memN,jN,jm,js,jw,jv,jt,ju,jg,jh,jf,je,newN,jx,jS,jU,j2,jO,jP,jQ,jz,jA,jE,jB,jC,jn,jD,jF,jG,j7,evX,evL,evB,rd,get,subG,memG,jW,jY,hyps,gob,impP,allP,j6,j1,j4,ko,nth,ke,km,jX,lenB,kj,jV,entN,setE,jZ,addE,setL,setN,putE,env0,eqCs,j9,eqC,bA,bO,bN,bE,negB,kEq,ki,j8,lend,frz,frzL,zRow,kg,kd,closed,jH,j0,binI,remP,remI,retK,retG,kq,retD,kn,resL,resD,oneD,renD,renL,renE,j3,rho,jR,j5,List.append,List.nil_append,List.cons_append,List.append_nil,cond,Nat.reduceBEq,Nat.reduceAdd,Nat.beq]
      rw [onX_upd]
      have e3 : (fun X Y => ((pts (l.take i) X Y ∨ (r.has X Y ∧ Y < y)) ∨ (Y = y ∧ r.x ≤ X ∧ X < x)) ∨ (Y = y ∧ X = x)) = fun X Y => (pts (l.take i) X Y ∨ (r.has X Y ∧ Y < y)) ∨ (Y = y ∧ r.x ≤ X ∧ X < x + 1) := qf fun X Y => by
        constructor
        · rintro ((h1 | h1) | h1)
          · exact .inl h1
          · exact .inr (by omega)
          · exact .inr (by omega)
        · rintro (h1 | h1)
          · exact .inl (.inl h1)
          · by_cases hX : X = x
            · exact .inr (by omega)
            · exact .inl (.inr (by omega))
      rw [e3]
      exact ⟨by simp only [fits]; omega, qj (ih3 ⟨x + 1, by omega, by omega, fun _ => by omega⟩ (by dsimp only; omega)) ⟨rfl, rfl, rfl, rfl, rfl, by simp [get], rfl, rfl, rfl, trivial⟩ ⟨rfl, rfl, rfl, rfl, rfl, rfl, rfl, rfl, rfl, trivial⟩ rfl rfl⟩
    · simp only [decide_eq_false_iff_not] at hge
      have hyl := hx3 (by omega)
      have e3 : onX (fun X Y => (pts (l.take i) X Y ∨ (r.has X Y ∧ Y < y)) ∨ (Y = y ∧ r.x ≤ X ∧ X < x)) src f = onX (fun X Y => pts (l.take i) X Y ∨ (r.has X Y ∧ Y < y + 1)) src f := by
        rw [show (fun X Y => (pts (l.take i) X Y ∨ (r.has X Y ∧ Y < y)) ∨ (Y = y ∧ r.x ≤ X ∧ X < x)) = fun X Y => pts (l.take i) X Y ∨ (r.has X Y ∧ Y < y + 1) from qf fun X Y => by
          unfold Rc.has
          constructor
          · rintro ((h1 | h1) | h1)
            · exact .inl h1
            · exact .inr ⟨h1.1, by omega⟩
            · exact .inr ⟨by omega, by omega⟩
          · rintro (h1 | h1)
            · exact .inl (.inl h1)
            · by_cases hY : Y = y
              · exact .inr (by omega)
              · exact .inl (.inr ⟨h1.1, by omega⟩)]
      rw [e3]
      exact qj (ih2 ⟨y + 1, by omega⟩ (by dsimp only; omega)) ⟨rfl, rfl, rfl, rfl, by simp [get], rfl, rfl, rfl, trivial⟩ ⟨rfl, rfl, rfl, rfl, rfl, rfl, rfl, rfl, rfl, trivial⟩ rfl rfl
  · have hil : i = l.length := by have : ¬ i < l.length := by simpa using hge
                                  omega
    subst hil
    rw [List.take_length]
    exact Rt.cut (Nat.le_refl _) (qX [.cells (plC w h f (.own 1 (w * h + 1)) (.own 2 1)), .arr 51 1 (w * h + 1) (gl w h f), .arr 51 1 1 (gl w h (onX (pts l) src f)), .cells [.box 0 0], .cells [.int .i64 dx], .cells [.int .i64 dy]] _) rfl rfl
theorem sm_Area_1 {w h w2 h2 : Nat} {f g f2 : Px} {x0 y0 x y : Int} {s : Rc} (hw2 : w2 ≤ 128) (hh2 : h2 ≤ 128) (hx : -8388608 ≤ x ∧ x ≤ 8388608) (hy : -8388608 ≤ y ∧ y ≤ 8388608) (hx0 : -8388608 ≤ x0 ∧ x0 ≤ 8388608) (hy0 : -8388608 ≤ y0 ∧ y0 ≤ 8388608)
    (hsx : -8388608 ≤ s.x ∧ s.x ≤ 8388608) (hsy : -8388608 ≤ s.y ∧ s.y ≤ 8388608) (hp : inP w2 h2 (x - x0 + s.x) (y - y0 + s.y)) :
    TSpM 137 [.int .i64 x, .int .i64 y, .box 3 0, .box 4 0, .box 5 0, .box 6 0]
      [.cells (plC w h f (.own 1 (w * h + 1)) (.own 2 1)), .arr 51 1 (w * h + 1) (gl w h f), .arr 51 1 1 (gl w h g), .cells [plF w2 h2 f2], .cells [.int .i64 x0], .cells [.int .i64 s.x, .int .i64 s.y, .int .i64 s.w, .int .i64 s.h], .cells [.int .i64 y0]]
      (.int .u8 (f2 (x - x0 + s.x) (y - y0 + s.y)))
      [.cells (plC w h f (.own 1 (w * h + 1)) (.own 2 1)), .arr 51 1 (w * h + 1) (gl w h f), .arr 51 1 1 (gl w h g), .cells [plF w2 h2 f2], .cells [.int .i64 x0], .cells [.int .i64 s.x, .int .i64 s.y, .int .i64 s.w, .int .i64 s.h], .cells [.int .i64 y0]] := by
  refine spm_blit_Area_1 (by rfl) ?_
  dsimp only [c_blit_Area_1, vV, jo,jK,jT,jr,jI,jM,jq,jJ,jL,iteR,regK,ji,jc,jl,jk,jb,jj,blkK,kr,kh,jd,ja,jy,fpOk,foot,kp,allN,memN,jN,jm,js,jw,jv,jt,ju,jg,jh,jf,je,newN,jx,jS,jU,j2,jO,jP,jQ,jz,jA,jE,jB,jC,jn,jD,jF,jG,j7,evX,evL,evB,rd,get,subG,memG,jW,jY,hyps,gob,impP,allP,j6,j1,j4,ko,nth,ke,km,jX,lenB,kj,jV,entN,setE,jZ,addE,setL,setN,putE,env0,eqCs,j9,eqC,bA,bO,bN,bE,negB,kEq,ki,j8,lend,frz,frzL,zRow,kg,kd,closed,jH,j0,binI,remP,remI,retK,retG,kq,retD,kn,resL,resD,oneD,renD,renL,renE,j3,rho,jR,j5,List.append,List.nil_append,List.cons_append,List.append_nil,cond,Nat.reduceBEq,Nat.reduceAdd,Nat.beq]
  refine ⟨by simp only [fits]; omega, by simp only [fits]; omega, by simp only [fits]; omega, by simp only [fits]; omega, qF [] (sp_plWas hw2 hh2 hp) rfl rfl rfl ?_⟩
  dsimp only [c_blit_Area_1, vV, jo,jK,jT,jr,jI,jM,jq,jJ,jL,iteR,regK,ji,jc,jl,jk,jb,jj,blkK,kr,kh,jd,ja,jy,fpOk,foot,kp,allN,memN,jN,jm,js,jw,jv,jt,ju,jg,jh,jf,je,newN,jx,jS,jU,j2,jO,jP,jQ,jz,jA,jE,jB,jC,jn,jD,jF,jG,j7,evX,evL,evB,rd,get,subG,memG,jW,jY,hyps,gob,impP,allP,j6,j1,j4,ko,nth,ke,km,jX,lenB,kj,jV,entN,setE,jZ,addE,setL,setN,putE,env0,eqCs,j9,eqC,bA,bO,bN,bE,negB,kEq,ki,j8,lend,frz,frzL,zRow,kg,kd,closed,jH,j0,binI,remP,remI,retK,retG,kq,retD,kn,resL,resD,oneD,renD,renL,renE,j3,rho,jR,j5,List.append,List.nil_append,List.cons_append,List.append_nil,cond,Nat.reduceBEq,Nat.reduceAdd,Nat.beq]
  exact Rt.id
theorem sm_Scroll_1 {w h : Nat} {f g : Px} {dx dy x y : Int} (hw : w ≤ 128) (hh : h ≤ 128) (hx : -8388608 ≤ x ∧ x ≤ 8388608) (hy : -8388608 ≤ y ∧ y ≤ 8388608) (hdx : -8388608 ≤ dx ∧ dx ≤ 8388608) (hdy : -8388608 ≤ dy ∧ dy ≤ 8388608) (hp : inP w h (x - dx) (y - dy)) :
    TSpM 87 [.int .i64 x, .int .i64 y, .box 3 0, .box 4 0, .box 5 0]
      [.cells (plC w h f (.own 1 (w * h + 1)) (.own 2 1)), .arr 51 1 (w * h + 1) (gl w h f), .arr 51 1 1 (gl w h g), .cells [.box 0 0], .cells [.int .i64 dx], .cells [.int .i64 dy]]
      (.int .u8 (f (x - dx) (y - dy)))
      [.cells (plC w h f (.own 1 (w * h + 1)) (.own 2 1)), .arr 51 1 (w * h + 1) (gl w h f), .arr 51 1 1 (gl w h g), .cells [.box 0 0], .cells [.int .i64 dx], .cells [.int .i64 dy]] := by
  refine spm_blit_Scroll_1 (by rfl) ?_
  dsimp only [c_blit_Scroll_1, zZ, jo,jK,jT,jr,jI,jM,jq,jJ,jL,iteR,regK,ji,jc,jl,jk,jb,jj,blkK,kr,kh,jd,ja,jy,fpOk,foot,kp,allN,memN,jN,jm,js,jw,jv,jt,ju,jg,jh,jf,je,newN,jx,jS,jU,j2,jO,jP,jQ,jz,jA,jE,jB,jC,jn,jD,jF,jG,j7,evX,evL,evB,rd,get,subG,memG,jW,jY,hyps,gob,impP,allP,j6,j1,j4,ko,nth,ke,km,jX,lenB,kj,jV,entN,setE,jZ,addE,setL,setN,putE,env0,eqCs,j9,eqC,bA,bO,bN,bE,negB,kEq,ki,j8,lend,frz,frzL,zRow,kg,kd,closed,jH,j0,binI,remP,remI,retK,retG,kq,retD,kn,resL,resD,oneD,renD,renL,renE,j3,rho,jR,j5,List.append,List.nil_append,List.cons_append,List.append_nil,cond,Nat.reduceBEq,Nat.reduceAdd,Nat.beq]
  refine ⟨by simp only [fits]; omega, by simp only [fits]; omega, qF [0, 1, 2] (sm_plWas hw hh hp) rfl rfl rfl ?_⟩
  dsimp only [c_blit_Scroll_1, zZ, jo,jK,jT,jr,jI,jM,jq,jJ,jL,iteR,regK,ji,jc,jl,jk,jb,jj,blkK,kr,kh,jd,ja,jy,fpOk,foot,kp,allN,memN,jN,jm,js,jw,jv,jt,ju,jg,jh,jf,je,newN,jx,jS,jU,j2,jO,jP,jQ,jz,jA,jE,jB,jC,jn,jD,jF,jG,j7,evX,evL,evB,rd,get,subG,memG,jW,jY,hyps,gob,impP,allP,j6,j1,j4,ko,nth,ke,km,jX,lenB,kj,jV,entN,setE,jZ,addE,setL,setN,putE,env0,eqCs,j9,eqC,bA,bO,bN,bE,negB,kEq,ki,j8,lend,frz,frzL,zRow,kg,kd,closed,jH,j0,binI,remP,remI,retK,retG,kq,retD,kn,resL,resD,oneD,renD,renL,renE,j3,rho,jR,j5,List.append,List.nil_append,List.cons_append,List.append_nil,cond,Nat.reduceBEq,Nat.reduceAdd,Nat.beq]
  exact Rt.id
end Go.AM


set_option linter.all false
namespace Go.AM
open Go Go.Proofs
theorem sp_bcoord {n : Int} : TSp 179 [.int .i64 n] (.bool (decide (-1048576 ≤ n) && decide (n ≤ 1048576))) := by
  refine spo_blit_coord (by rfl) ?_
  dsimp only [c_blit_coord, yp, jo,jK,jT,jr,jI,jM,jq,jJ,jL,iteR,regK,ji,jc,jl,jk,jb,jj,blkK,kr,kh,jd,ja,jy,fpOk,foot,kp,allN,memN,jN,jm,js,jw,jv,jt,ju,jg,jh,jf,je,newN,jx,jS,jU,j2,jO,jP,jQ,jz,jA,jE,jB,jC,jn,jD,jF,jG,j7,evX,evL,evB,rd,get,subG,memG,jW,jY,hyps,gob,impP,allP,j6,j1,j4,ko,nth,ke,km,jX,lenB,kj,jV,entN,setE,jZ,addE,setL,setN,putE,env0,eqCs,j9,eqC,bA,bO,bN,bE,negB,kEq,ki,j8,lend,frz,frzL,zRow,kg,kd,closed,jH,j0,binI,remP,remI,retK,retG,kq,retD,kn,resL,resD,oneD,renD,renL,renE,j3,rho,jR,j5,List.append,List.nil_append,List.cons_append,List.append_nil,cond,Nat.reduceBEq,Nat.reduceAdd,Nat.beq]
theorem sp_counts {r : Rc} (hr : Vr r) : TSp 136 [rD r] (.bool true) := by
  unfold Vr at hr
  have e1 : decide (0 < r.w) = true := by simp; omega
  have e2 : decide (0 < r.h) = true := by simp; omega
  have e3 : (decide (-1048576 ≤ r.x) && decide (r.x ≤ 1048576)) = true := by simp; omega
  have e4 : (decide (-1048576 ≤ r.y) && decide (r.y ≤ 1048576)) = true := by simp; omega
  have e5 : decide (r.w ≤ 1048576 - r.x) = true := by simp; omega
  have e6 : decide (r.h ≤ 1048576 - r.y) = true := by simp; omega
  refine spo_blit_counts (by rfl) ?_
  dsimp only [c_blit_counts, zQ, rD, jo,jK,jT,jr,jI,jM,jq,jJ,jL,iteR,regK,ji,jc,jl,jk,jb,jj,blkK,kr,kh,jd,ja,jy,fpOk,foot,kp,allN,memN,jN,jm,js,jw,jv,jt,ju,jg,jh,jf,je,newN,jx,jS,jU,j2,jO,jP,jQ,jz,jA,jE,jB,jC,jn,jD,jF,jG,j7,evX,evL,evB,rd,get,subG,memG,jW,jY,hyps,gob,impP,allP,j6,j1,j4,ko,nth,ke,km,jX,lenB,kj,jV,entN,setE,jZ,addE,setL,setN,putE,env0,eqCs,j9,eqC,bA,bO,bN,bE,negB,kEq,ki,j8,lend,frz,frzL,zRow,kg,kd,closed,jH,j0,binI,remP,remI,retK,retG,kq,retD,kn,resL,resD,oneD,renD,renL,renE,j3,rho,jR,j5,List.append,List.nil_append,List.cons_append,List.append_nil,cond,Nat.reduceBEq,Nat.reduceAdd,Nat.beq]
  refine kt (fun _ => sp_bcoord) ?_
  dsimp only [c_blit_counts, zQ, rD, jo,jK,jT,jr,jI,jM,jq,jJ,jL,iteR,regK,ji,jc,jl,jk,jb,jj,blkK,kr,kh,jd,ja,jy,fpOk,foot,kp,allN,memN,jN,jm,js,jw,jv,jt,ju,jg,jh,jf,je,newN,jx,jS,jU,j2,jO,jP,jQ,jz,jA,jE,jB,jC,jn,jD,jF,jG,j7,evX,evL,evB,rd,get,subG,memG,jW,jY,hyps,gob,impP,allP,j6,j1,j4,ko,nth,ke,km,jX,lenB,kj,jV,entN,setE,jZ,addE,setL,setN,putE,env0,eqCs,j9,eqC,bA,bO,bN,bE,negB,kEq,ki,j8,lend,frz,frzL,zRow,kg,kd,closed,jH,j0,binI,remP,remI,retK,retG,kq,retD,kn,resL,resD,oneD,renD,renL,renE,j3,rho,jR,j5,List.append,List.nil_append,List.cons_append,List.append_nil,cond,Nat.reduceBEq,Nat.reduceAdd,Nat.beq]
  refine kt (fun _ => sp_bcoord) ?_
  dsimp only [c_blit_counts, zQ, rD, jo,jK,jT,jr,jI,jM,jq,jJ,jL,iteR,regK,ji,jc,jl,jk,jb,jj,blkK,kr,kh,jd,ja,jy,fpOk,foot,kp,allN,memN,jN,jm,js,jw,jv,jt,ju,jg,jh,jf,je,newN,jx,jS,jU,j2,jO,jP,jQ,jz,jA,jE,jB,jC,jn,jD,jF,jG,j7,evX,evL,evB,rd,get,subG,memG,jW,jY,hyps,gob,impP,allP,j6,j1,j4,ko,nth,ke,km,jX,lenB,kj,jV,entN,setE,jZ,addE,setL,setN,putE,env0,eqCs,j9,eqC,bA,bO,bN,bE,negB,kEq,ki,j8,lend,frz,frzL,zRow,kg,kd,closed,jH,j0,binI,remP,remI,retK,retG,kq,retD,kn,resL,resD,oneD,renD,renL,renE,j3,rho,jR,j5,List.append,List.nil_append,List.cons_append,List.append_nil,cond,Nat.reduceBEq,Nat.reduceAdd,Nat.beq]
  rw [e1, e2, e3, e4, e5, e6]
  exact ⟨fun _ => by simp only [fits]; omega, fun _ => by simp only [fits]; omega, rfl⟩
theorem vx {P : Int → Int → Prop} (hP : Bdd P) {a b : Int} (hb : ∀ x y, P x y → (a ≤ x ∧ x < a + 64) ∧ b ≤ y ∧ y < b + 64) : (reg P).length ≤ 4096 := by
  have := reg_few (reg_bdd hP) hb
  have e1 : max (b + 64 - b) 0 = 64 := by omega
  have e2 : max (a + 64 - a) 0 = 64 := by omega
  rw [e1, e2] at this
  omega
def cpW (w h : Nat) (s : Rc) (x y : Int) (Q : Int → Int → Prop) : Int → Int → Prop := fun X Y => (Q X Y ∧ Rc.has ⟨x, y, s.w, s.h⟩ X Y) ∧ Rc.has ⟨0, 0, w, h⟩ X Y
def cpT (w2 h2 : Nat) (s : Rc) (x y : Int) (P : Int → Int → Prop) : Int → Int → Prop := mvP (x - s.x) (y - s.y) fun X Y => (P X Y ∧ s.has X Y) ∧ Rc.has ⟨0, 0, w2, h2⟩ X Y
def cpS (f2 : Px) (s : Rc) (x y : Int) : Px := fun X Y => f2 (X - x + s.x) (Y - y + s.y)
theorem sp_blitArea {w h w2 h2 : Nat} {f f2 : Px} {P Q : Int → Int → Prop} {s : Rc} {x y : Int} (hw : 1 ≤ w ∧ w ≤ 128) (hh : 1 ≤ h ∧ h ≤ 128) (hw2 : 1 ≤ w2 ∧ w2 ≤ 128) (hh2 : 1 ≤ h2 ∧ h2 ≤ 128) (hf : Pok f) (hf2 : Pok f2)
    (hP : Bdd P) (hQ : Bdd Q) (lP : (reg P).length ≤ 4096) (lQ : (reg Q).length ≤ 4096) (hsw : 1 ≤ s.w ∧ s.w ≤ 64) (hsh : 1 ≤ s.h ∧ s.h ≤ 64) (hsx : -100000 ≤ s.x ∧ s.x ≤ 100000) (hsy : -100000 ≤ s.y ∧ s.y ≤ 100000) (hx : -100000 ≤ x ∧ x ≤ 100000) (hy : -100000 ≤ y ∧ y ≤ 100000) :
    TSp 72 [gD w2 h2 f2, gD w h f, .agg [.ls 4 (rcs (reg P))], .agg [.ls 4 (rcs (reg Q))], rD s, .int .i64 x, .int .i64 y, .agg penC]
      (.tup [gD w h (onX (fun X Y => cpW w h s x y Q X Y ∧ cpT w2 h2 s x y P X Y) (cpS f2 s x y) f), .agg [.ls 4 (rcs (reg fun X Y => cpW w h s x y Q X Y ∧ ¬ cpT w2 h2 s x y P X Y))]]) := by
  have hm := kW hw.2 hh.2
  have vs : Vr s := by unfold Vr; omega
  have vt : Vr ⟨x, y, s.w, s.h⟩ := by unfold Vr; dsimp only; omega
  have vp : Vr ⟨0, 0, w, h⟩ := by unfold Vr; dsimp only; omega
  have vp2 : Vr ⟨0, 0, w2, h2⟩ := by unfold Vr; dsimp only; omega
  have b1 : Bdd (fun X Y => Q X Y ∧ Rc.has ⟨x, y, s.w, s.h⟩ X Y) := fun X Y h => hQ X Y h.1
  have b2 : Bdd (cpW w h s x y Q) := fun X Y h => hQ X Y h.1.1
  have b3 : Bdd (fun X Y => P X Y ∧ s.has X Y) := fun X Y h => hP X Y h.1
  have b4 : Bdd (fun X Y => (P X Y ∧ s.has X Y) ∧ Rc.has ⟨0, 0, w2, h2⟩ X Y) := fun X Y h => hP X Y h.1.1
  have b5 : Bdd (cpT w2 h2 s x y P) := mv_bdd
  have f1 := vx b1 (a := x) (b := y) fun X Y h => by have := h.2; unfold Rc.has at this; dsimp only at this; omega
  have f2' := vx b2 (a := x) (b := y) fun X Y h => by have := h.1.2; unfold Rc.has at this; dsimp only at this; omega
  have f3 := vx b3 (a := s.x) (b := s.y) fun X Y h => by have := h.2; unfold Rc.has at this; omega
  have f4 := vx b4 (a := s.x) (b := s.y) fun X Y h => by have := h.1.2; unfold Rc.has at this; omega
  have f5 := vx b5 (a := x) (b := y) fun X Y h => by have := h.1.1.2; unfold Rc.has at this; omega
  have b6 : Bdd (fun X Y => cpW w h s x y Q X Y ∧ cpT w2 h2 s x y P X Y) := fun X Y h => b2 X Y h.1
  have f6 := vx b6 (a := x) (b := y) fun X Y h => by have := h.1.1.2; unfold Rc.has at this; dsimp only at this; omega
  have p6 : pts (reg fun X Y => cpW w h s x y Q X Y ∧ cpT w2 h2 s x y P X Y) = fun X Y => cpW w h s x y Q X Y ∧ cpT w2 h2 s x y P X Y := qf fun X Y => z8 b6 X Y
  have hsS : Pok (cpS f2 s x y) := fun X Y => hf2 _ _
  refine spo_blit_Area (by rfl) ?_
  dsimp only [c_blit_Area, kV, rD, jo,jK,jT,jr,jI,jM,jq,jJ,jL,iteR,regK,ji,jc,jl,jk,jb,jj,blkK,kr,kh,jd,ja,jy,fpOk,foot,kp,allN,memN,jN,jm,js,jw,jv,jt,ju,jg,jh,jf,je,newN,jx,jS,jU,j2,jO,jP,jQ,jz,jA,jE,jB,jC,jn,jD,jF,jG,j7,evX,evL,evB,rd,get,subG,memG,jW,jY,hyps,gob,impP,allP,j6,j1,j4,ko,nth,ke,km,jX,lenB,kj,jV,entN,setE,jZ,addE,setL,setN,putE,env0,eqCs,j9,eqC,bA,bO,bN,bE,negB,kEq,ki,j8,lend,frz,frzL,zRow,kg,kd,closed,jH,j0,binI,remP,remI,retK,retG,kq,retD,kn,resL,resD,oneD,renD,renL,renE,j3,rho,jR,j5,List.append,List.nil_append,List.cons_append,List.append_nil,cond,Nat.reduceBEq,Nat.reduceAdd,Nat.beq]
  refine kt sp_penCheck ?_
  dsimp only [c_blit_Area, kV, rD, jo,jK,jT,jr,jI,jM,jq,jJ,jL,iteR,regK,ji,jc,jl,jk,jb,jj,blkK,kr,kh,jd,ja,jy,fpOk,foot,kp,allN,memN,jN,jm,js,jw,jv,jt,ju,jg,jh,jf,je,newN,jx,jS,jU,j2,jO,jP,jQ,jz,jA,jE,jB,jC,jn,jD,jF,jG,j7,evX,evL,evB,rd,get,subG,memG,jW,jY,hyps,gob,impP,allP,j6,j1,j4,ko,nth,ke,km,jX,lenB,kj,jV,entN,setE,jZ,addE,setL,setN,putE,env0,eqCs,j9,eqC,bA,bO,bN,bE,negB,kEq,ki,j8,lend,frz,frzL,zRow,kg,kd,closed,jH,j0,binI,remP,remI,retK,retG,kq,retD,kn,resL,resD,oneD,renD,renL,renE,j3,rho,jR,j5,List.append,List.nil_append,List.cons_append,List.append_nil,cond,Nat.reduceBEq,Nat.reduceAdd,Nat.beq]
  refine kt (fun _ => sp_counts vs) ?_
  dsimp only [c_blit_Area, kV, rD, jo,jK,jT,jr,jI,jM,jq,jJ,jL,iteR,regK,ji,jc,jl,jk,jb,jj,blkK,kr,kh,jd,ja,jy,fpOk,foot,kp,allN,memN,jN,jm,js,jw,jv,jt,ju,jg,jh,jf,je,newN,jx,jS,jU,j2,jO,jP,jQ,jz,jA,jE,jB,jC,jn,jD,jF,jG,j7,evX,evL,evB,rd,get,subG,memG,jW,jY,hyps,gob,impP,allP,j6,j1,j4,ko,nth,ke,km,jX,lenB,kj,jV,entN,setE,jZ,addE,setL,setN,putE,env0,eqCs,j9,eqC,bA,bO,bN,bE,negB,kEq,ki,j8,lend,frz,frzL,zRow,kg,kd,closed,jH,j0,binI,remP,remI,retK,retG,kq,retD,kn,resL,resD,oneD,renD,renL,renE,j3,rho,jR,j5,List.append,List.nil_append,List.cons_append,List.append_nil,cond,Nat.reduceBEq,Nat.reduceAdd,Nat.beq]
  refine kt (fun _ => sp_counts vt) ?_
  dsimp only [c_blit_Area, kV, rD, jo,jK,jT,jr,jI,jM,jq,jJ,jL,iteR,regK,ji,jc,jl,jk,jb,jj,blkK,kr,kh,jd,ja,jy,fpOk,foot,kp,allN,memN,jN,jm,js,jw,jv,jt,ju,jg,jh,jf,je,newN,jx,jS,jU,j2,jO,jP,jQ,jz,jA,jE,jB,jC,jn,jD,jF,jG,j7,evX,evL,evB,rd,get,subG,memG,jW,jY,hyps,gob,impP,allP,j6,j1,j4,ko,nth,ke,km,jX,lenB,kj,jV,entN,setE,jZ,addE,setL,setN,putE,env0,eqCs,j9,eqC,bA,bO,bN,bE,negB,kEq,ki,j8,lend,frz,frzL,zRow,kg,kd,closed,jH,j0,binI,remP,remI,retK,retG,kq,retD,kn,resL,resD,oneD,renD,renL,renE,j3,rho,jR,j5,List.append,List.nil_append,List.cons_append,List.append_nil,cond,Nat.reduceBEq,Nat.reduceAdd,Nat.beq]
  refine ⟨fun h => absurd h (by simp), fun _ => ?_⟩
  refine qE (sp_plOf hw2.2 hh2.2 hf2) ?_
  dsimp only [c_blit_Area, kV, rD, jo,jK,jT,jr,jI,jM,jq,jJ,jL,iteR,regK,ji,jc,jl,jk,jb,jj,blkK,kr,kh,jd,ja,jy,fpOk,foot,kp,allN,memN,jN,jm,js,jw,jv,jt,ju,jg,jh,jf,je,newN,jx,jS,jU,j2,jO,jP,jQ,jz,jA,jE,jB,jC,jn,jD,jF,jG,j7,evX,evL,evB,rd,get,subG,memG,jW,jY,hyps,gob,impP,allP,j6,j1,j4,ko,nth,ke,km,jX,lenB,kj,jV,entN,setE,jZ,addE,setL,setN,putE,env0,eqCs,j9,eqC,bA,bO,bN,bE,negB,kEq,ki,j8,lend,frz,frzL,zRow,kg,kd,closed,jH,j0,binI,remP,remI,retK,retG,kq,retD,kn,resL,resD,oneD,renD,renL,renE,j3,rho,jR,j5,List.append,List.nil_append,List.cons_append,List.append_nil,cond,Nat.reduceBEq,Nat.reduceAdd,Nat.beq]
  refine callN_new (sm_plOf hw.2 hh.2 hf) rfl (fun _ _ => rfl) (fun _ _ => rfl) (fun _ _ => rfl) ?_
  dsimp only [c_blit_Area, kV, rD, jo,jK,jT,jr,jI,jM,jq,jJ,jL,iteR,regK,ji,jc,jl,jk,jb,jj,blkK,kr,kh,jd,ja,jy,fpOk,foot,kp,allN,memN,jN,jm,js,jw,jv,jt,ju,jg,jh,jf,je,newN,jx,jS,jU,j2,jO,jP,jQ,jz,jA,jE,jB,jC,jn,jD,jF,jG,j7,evX,evL,evB,rd,get,subG,memG,jW,jY,hyps,gob,impP,allP,j6,j1,j4,ko,nth,ke,km,jX,lenB,kj,jV,entN,setE,jZ,addE,setL,setN,putE,env0,eqCs,j9,eqC,bA,bO,bN,bE,negB,kEq,ki,j8,lend,frz,frzL,zRow,kg,kd,closed,jH,j0,binI,remP,remI,retK,retG,kq,retD,kn,resL,resD,oneD,renD,renL,renE,j3,rho,jR,j5,List.append,List.nil_append,List.cons_append,List.append_nil,cond,Nat.reduceBEq,Nat.reduceAdd,Nat.beq]
  refine kt (vF (c := ⟨x, y, s.w, s.h⟩) hQ vt (by omega)) ?_
  dsimp only [c_blit_Area, kV, rD, jo,jK,jT,jr,jI,jM,jq,jJ,jL,iteR,regK,ji,jc,jl,jk,jb,jj,blkK,kr,kh,jd,ja,jy,fpOk,foot,kp,allN,memN,jN,jm,js,jw,jv,jt,ju,jg,jh,jf,je,newN,jx,jS,jU,j2,jO,jP,jQ,jz,jA,jE,jB,jC,jn,jD,jF,jG,j7,evX,evL,evB,rd,get,subG,memG,jW,jY,hyps,gob,impP,allP,j6,j1,j4,ko,nth,ke,km,jX,lenB,kj,jV,entN,setE,jZ,addE,setL,setN,putE,env0,eqCs,j9,eqC,bA,bO,bN,bE,negB,kEq,ki,j8,lend,frz,frzL,zRow,kg,kd,closed,jH,j0,binI,remP,remI,retK,retG,kq,retD,kn,resL,resD,oneD,renD,renL,renE,j3,rho,jR,j5,List.append,List.nil_append,List.cons_append,List.append_nil,cond,Nat.reduceBEq,Nat.reduceAdd,Nat.beq]
  refine qF [11, 12, 13] sm_plRect rfl rfl rfl ?_
  dsimp only [c_blit_Area, kV, rD, jo,jK,jT,jr,jI,jM,jq,jJ,jL,iteR,regK,ji,jc,jl,jk,jb,jj,blkK,kr,kh,jd,ja,jy,fpOk,foot,kp,allN,memN,jN,jm,js,jw,jv,jt,ju,jg,jh,jf,je,newN,jx,jS,jU,j2,jO,jP,jQ,jz,jA,jE,jB,jC,jn,jD,jF,jG,j7,evX,evL,evB,rd,get,subG,memG,jW,jY,hyps,gob,impP,allP,j6,j1,j4,ko,nth,ke,km,jX,lenB,kj,jV,entN,setE,jZ,addE,setL,setN,putE,env0,eqCs,j9,eqC,bA,bO,bN,bE,negB,kEq,ki,j8,lend,frz,frzL,zRow,kg,kd,closed,jH,j0,binI,remP,remI,retK,retG,kq,retD,kn,resL,resD,oneD,renD,renL,renE,j3,rho,jR,j5,List.append,List.nil_append,List.cons_append,List.append_nil,cond,Nat.reduceBEq,Nat.reduceAdd,Nat.beq]
  refine kt (vF (c := ⟨0, 0, w, h⟩) b1 vp (by omega)) ?_
  dsimp only [c_blit_Area, kV, rD, jo,jK,jT,jr,jI,jM,jq,jJ,jL,iteR,regK,ji,jc,jl,jk,jb,jj,blkK,kr,kh,jd,ja,jy,fpOk,foot,kp,allN,memN,jN,jm,js,jw,jv,jt,ju,jg,jh,jf,je,newN,jx,jS,jU,j2,jO,jP,jQ,jz,jA,jE,jB,jC,jn,jD,jF,jG,j7,evX,evL,evB,rd,get,subG,memG,jW,jY,hyps,gob,impP,allP,j6,j1,j4,ko,nth,ke,km,jX,lenB,kj,jV,entN,setE,jZ,addE,setL,setN,putE,env0,eqCs,j9,eqC,bA,bO,bN,bE,negB,kEq,ki,j8,lend,frz,frzL,zRow,kg,kd,closed,jH,j0,binI,remP,remI,retK,retG,kq,retD,kn,resL,resD,oneD,renD,renL,renE,j3,rho,jR,j5,List.append,List.nil_append,List.cons_append,List.append_nil,cond,Nat.reduceBEq,Nat.reduceAdd,Nat.beq]
  refine qE (vF (c := s) hP vs (by omega)) ?_
  dsimp only [c_blit_Area, kV, rD, jo,jK,jT,jr,jI,jM,jq,jJ,jL,iteR,regK,ji,jc,jl,jk,jb,jj,blkK,kr,kh,jd,ja,jy,fpOk,foot,kp,allN,memN,jN,jm,js,jw,jv,jt,ju,jg,jh,jf,je,newN,jx,jS,jU,j2,jO,jP,jQ,jz,jA,jE,jB,jC,jn,jD,jF,jG,j7,evX,evL,evB,rd,get,subG,memG,jW,jY,hyps,gob,impP,allP,j6,j1,j4,ko,nth,ke,km,jX,lenB,kj,jV,entN,setE,jZ,addE,setL,setN,putE,env0,eqCs,j9,eqC,bA,bO,bN,bE,negB,kEq,ki,j8,lend,frz,frzL,zRow,kg,kd,closed,jH,j0,binI,remP,remI,retK,retG,kq,retD,kn,resL,resD,oneD,renD,renL,renE,j3,rho,jR,j5,List.append,List.nil_append,List.cons_append,List.append_nil,cond,Nat.reduceBEq,Nat.reduceAdd,Nat.beq]
  refine call_c2 sp_plRect (fun _ => rfl) (fun _ => rfl) ?_
  dsimp only [c_blit_Area, kV, rD, jo,jK,jT,jr,jI,jM,jq,jJ,jL,iteR,regK,ji,jc,jl,jk,jb,jj,blkK,kr,kh,jd,ja,jy,fpOk,foot,kp,allN,memN,jN,jm,js,jw,jv,jt,ju,jg,jh,jf,je,newN,jx,jS,jU,j2,jO,jP,jQ,jz,jA,jE,jB,jC,jn,jD,jF,jG,j7,evX,evL,evB,rd,get,subG,memG,jW,jY,hyps,gob,impP,allP,j6,j1,j4,ko,nth,ke,km,jX,lenB,kj,jV,entN,setE,jZ,addE,setL,setN,putE,env0,eqCs,j9,eqC,bA,bO,bN,bE,negB,kEq,ki,j8,lend,frz,frzL,zRow,kg,kd,closed,jH,j0,binI,remP,remI,retK,retG,kq,retD,kn,resL,resD,oneD,renD,renL,renE,j3,rho,jR,j5,List.append,List.nil_append,List.cons_append,List.append_nil,cond,Nat.reduceBEq,Nat.reduceAdd,Nat.beq]
  refine qE (vF (c := ⟨0, 0, w2, h2⟩) b3 vp2 (by omega)) ?_
  dsimp only [c_blit_Area, kV, rD, jo,jK,jT,jr,jI,jM,jq,jJ,jL,iteR,regK,ji,jc,jl,jk,jb,jj,blkK,kr,kh,jd,ja,jy,fpOk,foot,kp,allN,memN,jN,jm,js,jw,jv,jt,ju,jg,jh,jf,je,newN,jx,jS,jU,j2,jO,jP,jQ,jz,jA,jE,jB,jC,jn,jD,jF,jG,j7,evX,evL,evB,rd,get,subG,memG,jW,jY,hyps,gob,impP,allP,j6,j1,j4,ko,nth,ke,km,jX,lenB,kj,jV,entN,setE,jZ,addE,setL,setN,putE,env0,eqCs,j9,eqC,bA,bO,bN,bE,negB,kEq,ki,j8,lend,frz,frzL,zRow,kg,kd,closed,jH,j0,binI,remP,remI,retK,retG,kq,retD,kn,resL,resD,oneD,renD,renL,renE,j3,rho,jR,j5,List.append,List.nil_append,List.cons_append,List.append_nil,cond,Nat.reduceBEq,Nat.reduceAdd,Nat.beq]
  refine ⟨by simp only [fits]; omega, by simp only [fits]; omega, qE (sp_Shift b4 (by omega) (by omega) (by omega)) ?_⟩
  dsimp only [c_blit_Area, kV, rD, jo,jK,jT,jr,jI,jM,jq,jJ,jL,iteR,regK,ji,jc,jl,jk,jb,jj,blkK,kr,kh,jd,ja,jy,fpOk,foot,kp,allN,memN,jN,jm,js,jw,jv,jt,ju,jg,jh,jf,je,newN,jx,jS,jU,j2,jO,jP,jQ,jz,jA,jE,jB,jC,jn,jD,jF,jG,j7,evX,evL,evB,rd,get,subG,memG,jW,jY,hyps,gob,impP,allP,j6,j1,j4,ko,nth,ke,km,jX,lenB,kj,jV,entN,setE,jZ,addE,setL,setN,putE,env0,eqCs,j9,eqC,bA,bO,bN,bE,negB,kEq,ki,j8,lend,frz,frzL,zRow,kg,kd,closed,jH,j0,binI,remP,remI,retK,retG,kq,retD,kn,resL,resD,oneD,renD,renL,renE,j3,rho,jR,j5,List.append,List.nil_append,List.cons_append,List.append_nil,cond,Nat.reduceBEq,Nat.reduceAdd,Nat.beq]
  refine kt (sp_Meet b2 b5 (Nat.add_le_add f2' f5)) ?_
  dsimp only [c_blit_Area, kV, rD, jo,jK,jT,jr,jI,jM,jq,jJ,jL,iteR,regK,ji,jc,jl,jk,jb,jj,blkK,kr,kh,jd,ja,jy,fpOk,foot,kp,allN,memN,jN,jm,js,jw,jv,jt,ju,jg,jh,jf,je,newN,jx,jS,jU,j2,jO,jP,jQ,jz,jA,jE,jB,jC,jn,jD,jF,jG,j7,evX,evL,evB,rd,get,subG,memG,jW,jY,hyps,gob,impP,allP,j6,j1,j4,ko,nth,ke,km,jX,lenB,kj,jV,entN,setE,jZ,addE,setL,setN,putE,env0,eqCs,j9,eqC,bA,bO,bN,bE,negB,kEq,ki,j8,lend,frz,frzL,zRow,kg,kd,closed,jH,j0,binI,remP,remI,retK,retG,kq,retD,kn,resL,resD,oneD,renD,renL,renE,j3,rho,jR,j5,List.append,List.nil_append,List.cons_append,List.append_nil,cond,Nat.reduceBEq,Nat.reduceAdd,Nat.beq]
  have hmv := sm_moveA (F := 137) (f := f) (src := cpS f2 s x y) (w2 := w2) (h2 := h2) (f2 := f2) (x0 := x) (y0 := y) (s := s) hw.2 hh.2 hf hsS (reg_Vr b6) (by omega)
    (fun X Y hp => by have := ((z8 b6 X Y).1 hp).1.2; unfold Rc.has at this; unfold inP; dsimp only at this; omega)
    (fun X Y hp g => sm_Area_1 hw2.2 hh2.2 (by have := b6 X Y ((z8 b6 X Y).1 hp); omega) (by have := b6 X Y ((z8 b6 X Y).1 hp); omega) (by omega) (by omega) (by omega) (by omega) (by
      have := ((z8 b6 X Y).1 hp).2.1.2
      unfold Rc.has at this
      dsimp only at this
      unfold inP
      omega))
  rw [p6] at hmv
  refine qe [11, 12, 13, 14, 5, 4, 6] hmv rfl rfl ?_
  dsimp only [c_blit_Area, kV, rD, jo,jK,jT,jr,jI,jM,jq,jJ,jL,iteR,regK,ji,jc,jl,jk,jb,jj,blkK,kr,kh,jd,ja,jy,fpOk,foot,kp,allN,memN,jN,jm,js,jw,jv,jt,ju,jg,jh,jf,je,newN,jx,jS,jU,j2,jO,jP,jQ,jz,jA,jE,jB,jC,jn,jD,jF,jG,j7,evX,evL,evB,rd,get,subG,memG,jW,jY,hyps,gob,impP,allP,j6,j1,j4,ko,nth,ke,km,jX,lenB,kj,jV,entN,setE,jZ,addE,setL,setN,putE,env0,eqCs,j9,eqC,bA,bO,bN,bE,negB,kEq,ki,j8,lend,frz,frzL,zRow,kg,kd,closed,jH,j0,binI,remP,remI,retK,retG,kq,retD,kn,resL,resD,oneD,renD,renL,renE,j3,rho,jR,j5,List.append,List.nil_append,List.cons_append,List.append_nil,cond,Nat.reduceBEq,Nat.reduceAdd,Nat.beq]
  refine callR_look [11, 12, 13] (sm_plGrid hw.2 hh.2 (onX_ok hsS hf)) (fun _ => rfl) (fun _ => rfl) (fun _ => rfl) ?_
  dsimp only [c_blit_Area, kV, rD, jo,jK,jT,jr,jI,jM,jq,jJ,jL,iteR,regK,ji,jc,jl,jk,jb,jj,blkK,kr,kh,jd,ja,jy,fpOk,foot,kp,allN,memN,jN,jm,js,jw,jv,jt,ju,jg,jh,jf,je,newN,jx,jS,jU,j2,jO,jP,jQ,jz,jA,jE,jB,jC,jn,jD,jF,jG,j7,evX,evL,evB,rd,get,subG,memG,jW,jY,hyps,gob,impP,allP,j6,j1,j4,ko,nth,ke,km,jX,lenB,kj,jV,entN,setE,jZ,addE,setL,setN,putE,env0,eqCs,j9,eqC,bA,bO,bN,bE,negB,kEq,ki,j8,lend,frz,frzL,zRow,kg,kd,closed,jH,j0,binI,remP,remI,retK,retG,kq,retD,kn,resL,resD,oneD,renD,renL,renE,j3,rho,jR,j5,List.append,List.nil_append,List.cons_append,List.append_nil,cond,Nat.reduceBEq,Nat.reduceAdd,Nat.beq]
  refine qE (sp_Minus b2 b5 (Nat.add_le_add f2' f5)) ?_
  dsimp only [c_blit_Area, kV, rD, jo,jK,jT,jr,jI,jM,jq,jJ,jL,iteR,regK,ji,jc,jl,jk,jb,jj,blkK,kr,kh,jd,ja,jy,fpOk,foot,kp,allN,memN,jN,jm,js,jw,jv,jt,ju,jg,jh,jf,je,newN,jx,jS,jU,j2,jO,jP,jQ,jz,jA,jE,jB,jC,jn,jD,jF,jG,j7,evX,evL,evB,rd,get,subG,memG,jW,jY,hyps,gob,impP,allP,j6,j1,j4,ko,nth,ke,km,jX,lenB,kj,jV,entN,setE,jZ,addE,setL,setN,putE,env0,eqCs,j9,eqC,bA,bO,bN,bE,negB,kEq,ki,j8,lend,frz,frzL,zRow,kg,kd,closed,jH,j0,binI,remP,remI,retK,retG,kq,retD,kn,resL,resD,oneD,renD,renL,renE,j3,rho,jR,j5,List.append,List.nil_append,List.cons_append,List.append_nil,cond,Nat.reduceBEq,Nat.reduceAdd,Nat.beq]
  rfl
end Go.AM


set_option linter.all false
namespace Go.AM
open Go Go.Proofs
theorem xP {w h : Nat} {f : Px} {P Q : Int → Int → Prop} {s : Rc} {x y : Int} (hw : 1 ≤ w ∧ w ≤ 128) (hh : 1 ≤ h ∧ h ≤ 128) (hf : Pok f)
    (hP : Bdd P) (hQ : Bdd Q) (lP : (reg P).length ≤ 4096) (lQ : (reg Q).length ≤ 4096) (hsw : 1 ≤ s.w ∧ s.w ≤ 64) (hsh : 1 ≤ s.h ∧ s.h ≤ 64) (hsx : -100000 ≤ s.x ∧ s.x ≤ 100000) (hsy : -100000 ≤ s.y ∧ s.y ≤ 100000) (hx : -100000 ≤ x ∧ x ≤ 100000) (hy : -100000 ≤ y ∧ y ≤ 100000) :
    TSp 15 [gD w h f, .agg [.ls 4 (rcs (reg P))], .agg [.ls 4 (rcs (reg Q))], rD s, .int .i64 x, .int .i64 y, .agg penC]
      (.tup [gD w h (onX (fun X Y => cpW w h s x y Q X Y ∧ cpT w h s x y P X Y) (cpS f s x y) f), .agg [.ls 4 (rcs (reg fun X Y => cpW w h s x y Q X Y ∧ ¬ cpT w h s x y P X Y))]]) := by
  refine spo_blit_Within (by rfl) ?_
  dsimp only [c_blit_Within, vU, rD, jo,jK,jT,jr,jI,jM,jq,jJ,jL,iteR,regK,ji,jc,jl,jk,jb,jj,blkK,kr,kh,jd,ja,jy,fpOk,foot,kp,allN,memN,jN,jm,js,jw,jv,jt,ju,jg,jh,jf,je,newN,jx,jS,jU,j2,jO,jP,jQ,jz,jA,jE,jB,jC,jn,jD,jF,jG,j7,evX,evL,evB,rd,get,subG,memG,jW,jY,hyps,gob,impP,allP,j6,j1,j4,ko,nth,ke,km,jX,lenB,kj,jV,entN,setE,jZ,addE,setL,setN,putE,env0,eqCs,j9,eqC,bA,bO,bN,bE,negB,kEq,ki,j8,lend,frz,frzL,zRow,kg,kd,closed,jH,j0,binI,remP,remI,retK,retG,kq,retD,kn,resL,resD,oneD,renD,renL,renE,j3,rho,jR,j5,List.append,List.nil_append,List.cons_append,List.append_nil,cond,Nat.reduceBEq,Nat.reduceAdd,Nat.beq]
  refine kt (sp_blitArea hw hh hw hh hf hf hP hQ lP lQ hsw hsh hsx hsy hx hy) ?_
  dsimp only [c_blit_Within, vU, rD, jo,jK,jT,jr,jI,jM,jq,jJ,jL,iteR,regK,ji,jc,jl,jk,jb,jj,blkK,kr,kh,jd,ja,jy,fpOk,foot,kp,allN,memN,jN,jm,js,jw,jv,jt,ju,jg,jh,jf,je,newN,jx,jS,jU,j2,jO,jP,jQ,jz,jA,jE,jB,jC,jn,jD,jF,jG,j7,evX,evL,evB,rd,get,subG,memG,jW,jY,hyps,gob,impP,allP,j6,j1,j4,ko,nth,ke,km,jX,lenB,kj,jV,entN,setE,jZ,addE,setL,setN,putE,env0,eqCs,j9,eqC,bA,bO,bN,bE,negB,kEq,ki,j8,lend,frz,frzL,zRow,kg,kd,closed,jH,j0,binI,remP,remI,retK,retG,kq,retD,kn,resL,resD,oneD,renD,renL,renE,j3,rho,jR,j5,List.append,List.nil_append,List.cons_append,List.append_nil,cond,Nat.reduceBEq,Nat.reduceAdd,Nat.beq]
def scA (w h : Nat) (Q : Int → Int → Prop) : Int → Int → Prop := fun X Y => Q X Y ∧ Rc.has ⟨0, 0, w, h⟩ X Y
theorem sp_Scroll {w h : Nat} {f : Px} {Q : Int → Int → Prop} {dx dy : Int} (hw : 1 ≤ w ∧ w ≤ 64) (hh : 1 ≤ h ∧ h ≤ 64) (hf : Pok f) (hQ : Bdd Q) (lQ : (reg Q).length ≤ 4096) (hx : -100 ≤ dx ∧ dx ≤ 100) (hy : -100 ≤ dy ∧ dy ≤ 100) :
    TSp 24 [gD w h f, .agg [.ls 4 (rcs (reg Q))], .int .i64 dx, .int .i64 dy, .agg penC]
      (.tup [gD w h (onX (fun X Y => scA w h Q X Y ∧ mvP dx dy (scA w h Q) X Y) (fun X Y => f (X - dx) (Y - dy)) f), .agg [.ls 4 (rcs (reg fun X Y => scA w h Q X Y ∧ ¬ mvP dx dy (scA w h Q) X Y))]]) := by
  have hm := kW (w := w) (h := h) (by omega) (by omega)
  have vp : Vr ⟨0, 0, w, h⟩ := by unfold Vr; dsimp only; omega
  have b1 : Bdd (scA w h Q) := fun X Y h => hQ X Y h.1
  have f1 := vx b1 (a := 0) (b := 0) fun X Y h => by have := h.2; unfold Rc.has at this; dsimp only at this; omega
  have b2 : Bdd (mvP dx dy (scA w h Q)) := mv_bdd
  have f2 := vx b2 (a := dx) (b := dy) fun X Y h => by have := h.1.2; unfold Rc.has at this; dsimp only at this; omega
  have b6 : Bdd (fun X Y => scA w h Q X Y ∧ mvP dx dy (scA w h Q) X Y) := fun X Y h => b1 X Y h.1
  have f6 := vx b6 (a := 0) (b := 0) fun X Y h => by have := h.1.2; unfold Rc.has at this; dsimp only at this; omega
  have p6 : pts (reg fun X Y => scA w h Q X Y ∧ mvP dx dy (scA w h Q) X Y) = fun X Y => scA w h Q X Y ∧ mvP dx dy (scA w h Q) X Y := qf fun X Y => z8 b6 X Y
  have hsS : Pok (fun X Y => f (X - dx) (Y - dy)) := fun X Y => hf _ _
  have hin : ∀ X Y, scA w h Q X Y → inP w h X Y := fun X Y h => by have := h.2; unfold Rc.has at this; unfold inP; dsimp only at this; omega
  refine spo_blit_Scroll (by rfl) ?_
  dsimp only [c_blit_Scroll, qo, rD, jo,jK,jT,jr,jI,jM,jq,jJ,jL,iteR,regK,ji,jc,jl,jk,jb,jj,blkK,kr,kh,jd,ja,jy,fpOk,foot,kp,allN,memN,jN,jm,js,jw,jv,jt,ju,jg,jh,jf,je,newN,jx,jS,jU,j2,jO,jP,jQ,jz,jA,jE,jB,jC,jn,jD,jF,jG,j7,evX,evL,evB,rd,get,subG,memG,jW,jY,hyps,gob,impP,allP,j6,j1,j4,ko,nth,ke,km,jX,lenB,kj,jV,entN,setE,jZ,addE,setL,setN,putE,env0,eqCs,j9,eqC,bA,bO,bN,bE,negB,kEq,ki,j8,lend,frz,frzL,zRow,kg,kd,closed,jH,j0,binI,remP,remI,retK,retG,kq,retD,kn,resL,resD,oneD,renD,renL,renE,j3,rho,jR,j5,List.append,List.nil_append,List.cons_append,List.append_nil,cond,Nat.reduceBEq,Nat.reduceAdd,Nat.beq]
  refine kt sp_penCheck ?_
  dsimp only [c_blit_Scroll, qo, rD, jo,jK,jT,jr,jI,jM,jq,jJ,jL,iteR,regK,ji,jc,jl,jk,jb,jj,blkK,kr,kh,jd,ja,jy,fpOk,foot,kp,allN,memN,jN,jm,js,jw,jv,jt,ju,jg,jh,jf,je,newN,jx,jS,jU,j2,jO,jP,jQ,jz,jA,jE,jB,jC,jn,jD,jF,jG,j7,evX,evL,evB,rd,get,subG,memG,jW,jY,hyps,gob,impP,allP,j6,j1,j4,ko,nth,ke,km,jX,lenB,kj,jV,entN,setE,jZ,addE,setL,setN,putE,env0,eqCs,j9,eqC,bA,bO,bN,bE,negB,kEq,ki,j8,lend,frz,frzL,zRow,kg,kd,closed,jH,j0,binI,remP,remI,retK,retG,kq,retD,kn,resL,resD,oneD,renD,renL,renE,j3,rho,jR,j5,List.append,List.nil_append,List.cons_append,List.append_nil,cond,Nat.reduceBEq,Nat.reduceAdd,Nat.beq]
  refine ⟨fun h => absurd h (by simp), fun _ => ?_⟩
  refine qe [] (sm_plOf (by omega) (by omega) hf) rfl rfl ?_
  dsimp only [c_blit_Scroll, qo, rD, jo,jK,jT,jr,jI,jM,jq,jJ,jL,iteR,regK,ji,jc,jl,jk,jb,jj,blkK,kr,kh,jd,ja,jy,fpOk,foot,kp,allN,memN,jN,jm,js,jw,jv,jt,ju,jg,jh,jf,je,newN,jx,jS,jU,j2,jO,jP,jQ,jz,jA,jE,jB,jC,jn,jD,jF,jG,j7,evX,evL,evB,rd,get,subG,memG,jW,jY,hyps,gob,impP,allP,j6,j1,j4,ko,nth,ke,km,jX,lenB,kj,jV,entN,setE,jZ,addE,setL,setN,putE,env0,eqCs,j9,eqC,bA,bO,bN,bE,negB,kEq,ki,j8,lend,frz,frzL,zRow,kg,kd,closed,jH,j0,binI,remP,remI,retK,retG,kq,retD,kn,resL,resD,oneD,renD,renL,renE,j3,rho,jR,j5,List.append,List.nil_append,List.cons_append,List.append_nil,cond,Nat.reduceBEq,Nat.reduceAdd,Nat.beq]
  refine callR_look [7, 8, 9] sm_plRect (fun _ => rfl) (fun _ => rfl) (fun _ => rfl) ?_
  dsimp only [c_blit_Scroll, qo, rD, jo,jK,jT,jr,jI,jM,jq,jJ,jL,iteR,regK,ji,jc,jl,jk,jb,jj,blkK,kr,kh,jd,ja,jy,fpOk,foot,kp,allN,memN,jN,jm,js,jw,jv,jt,ju,jg,jh,jf,je,newN,jx,jS,jU,j2,jO,jP,jQ,jz,jA,jE,jB,jC,jn,jD,jF,jG,j7,evX,evL,evB,rd,get,subG,memG,jW,jY,hyps,gob,impP,allP,j6,j1,j4,ko,nth,ke,km,jX,lenB,kj,jV,entN,setE,jZ,addE,setL,setN,putE,env0,eqCs,j9,eqC,bA,bO,bN,bE,negB,kEq,ki,j8,lend,frz,frzL,zRow,kg,kd,closed,jH,j0,binI,remP,remI,retK,retG,kq,retD,kn,resL,resD,oneD,renD,renL,renE,j3,rho,jR,j5,List.append,List.nil_append,List.cons_append,List.append_nil,cond,Nat.reduceBEq,Nat.reduceAdd,Nat.beq]
  refine qE (vF (c := ⟨0, 0, w, h⟩) hQ vp (by omega)) ?_
  dsimp only [c_blit_Scroll, qo, rD, jo,jK,jT,jr,jI,jM,jq,jJ,jL,iteR,regK,ji,jc,jl,jk,jb,jj,blkK,kr,kh,jd,ja,jy,fpOk,foot,kp,allN,memN,jN,jm,js,jw,jv,jt,ju,jg,jh,jf,je,newN,jx,jS,jU,j2,jO,jP,jQ,jz,jA,jE,jB,jC,jn,jD,jF,jG,j7,evX,evL,evB,rd,get,subG,memG,jW,jY,hyps,gob,impP,allP,j6,j1,j4,ko,nth,ke,km,jX,lenB,kj,jV,entN,setE,jZ,addE,setL,setN,putE,env0,eqCs,j9,eqC,bA,bO,bN,bE,negB,kEq,ki,j8,lend,frz,frzL,zRow,kg,kd,closed,jH,j0,binI,remP,remI,retK,retG,kq,retD,kn,resL,resD,oneD,renD,renL,renE,j3,rho,jR,j5,List.append,List.nil_append,List.cons_append,List.append_nil,cond,Nat.reduceBEq,Nat.reduceAdd,Nat.beq]
  refine ⟨by simp only [fits]; omega, fun _ => by simp only [fits]; omega, fun hfar => ?_, fun hnear => ?_⟩
  · simp only [Bool.or_eq_true, decide_eq_true_eq] at hfar
    have hno : ∀ X Y, scA w h Q X Y → ¬ mvP dx dy (scA w h Q) X Y := fun X Y h1 h2 => by
      have g1 := h1.2
      have g2 := h2.1.2
      unfold Rc.has at g1 g2
      dsimp only at g1 g2
      omega
    have e1 : gl w h f = gl w h (onX (fun X Y => scA w h Q X Y ∧ mvP dx dy (scA w h Q) X Y) (fun X Y => f (X - dx) (Y - dy)) f) := xT fun X Y _ => (zk fun h2 => hno X Y h2.1 h2.2).symm
    have e2 : reg (scA w h Q) = reg fun X Y => scA w h Q X Y ∧ ¬ mvP dx dy (scA w h Q) X Y := xI fun X Y => ⟨fun h => ⟨h, hno X Y h⟩, fun h => h.1⟩
    rw [e1]
    show D.tup [_, .agg [.ls 4 (rcs (reg (scA w h Q)))]] = _
    rw [e2]
  · refine kt (sp_Shift b1 (by omega) (by omega) (by omega)) ?_
    dsimp only [c_blit_Scroll, qo, rD, jo,jK,jT,jr,jI,jM,jq,jJ,jL,iteR,regK,ji,jc,jl,jk,jb,jj,blkK,kr,kh,jd,ja,jy,fpOk,foot,kp,allN,memN,jN,jm,js,jw,jv,jt,ju,jg,jh,jf,je,newN,jx,jS,jU,j2,jO,jP,jQ,jz,jA,jE,jB,jC,jn,jD,jF,jG,j7,evX,evL,evB,rd,get,subG,memG,jW,jY,hyps,gob,impP,allP,j6,j1,j4,ko,nth,ke,km,jX,lenB,kj,jV,entN,setE,jZ,addE,setL,setN,putE,env0,eqCs,j9,eqC,bA,bO,bN,bE,negB,kEq,ki,j8,lend,frz,frzL,zRow,kg,kd,closed,jH,j0,binI,remP,remI,retK,retG,kq,retD,kn,resL,resD,oneD,renD,renL,renE,j3,rho,jR,j5,List.append,List.nil_append,List.cons_append,List.append_nil,cond,Nat.reduceBEq,Nat.reduceAdd,Nat.beq]
    refine kt (sp_Meet b1 b2 (Nat.add_le_add f1 f2)) ?_
    dsimp only [c_blit_Scroll, qo, rD, jo,jK,jT,jr,jI,jM,jq,jJ,jL,iteR,regK,ji,jc,jl,jk,jb,jj,blkK,kr,kh,jd,ja,jy,fpOk,foot,kp,allN,memN,jN,jm,js,jw,jv,jt,ju,jg,jh,jf,je,newN,jx,jS,jU,j2,jO,jP,jQ,jz,jA,jE,jB,jC,jn,jD,jF,jG,j7,evX,evL,evB,rd,get,subG,memG,jW,jY,hyps,gob,impP,allP,j6,j1,j4,ko,nth,ke,km,jX,lenB,kj,jV,entN,setE,jZ,addE,setL,setN,putE,env0,eqCs,j9,eqC,bA,bO,bN,bE,negB,kEq,ki,j8,lend,frz,frzL,zRow,kg,kd,closed,jH,j0,binI,remP,remI,retK,retG,kq,retD,kn,resL,resD,oneD,renD,renL,renE,j3,rho,jR,j5,List.append,List.nil_append,List.cons_append,List.append_nil,cond,Nat.reduceBEq,Nat.reduceAdd,Nat.beq]
    have hmv := sm_moveS (F := 87) (f := f) (src := fun X Y => f (X - dx) (Y - dy)) (dx := dx) (dy := dy) (w := w) (h := h) (by omega) (by omega) hf hsS (reg_Vr b6) (by omega)
      (fun X Y hp => hin X Y ((z8 b6 X Y).1 hp).1)
      (fun X Y hp g => sm_Scroll_1 (by omega) (by omega) (by have := b6 X Y ((z8 b6 X Y).1 hp); omega) (by have := b6 X Y ((z8 b6 X Y).1 hp); omega) (by omega) (by omega) (hin _ _ ((z8 b6 X Y).1 hp).2.1))
    rw [p6] at hmv
    refine qe [7, 8, 9, 10, 2, 3] hmv rfl rfl ?_
    dsimp only [c_blit_Scroll, qo, rD, jo,jK,jT,jr,jI,jM,jq,jJ,jL,iteR,regK,ji,jc,jl,jk,jb,jj,blkK,kr,kh,jd,ja,jy,fpOk,foot,kp,allN,memN,jN,jm,js,jw,jv,jt,ju,jg,jh,jf,je,newN,jx,jS,jU,j2,jO,jP,jQ,jz,jA,jE,jB,jC,jn,jD,jF,jG,j7,evX,evL,evB,rd,get,subG,memG,jW,jY,hyps,gob,impP,allP,j6,j1,j4,ko,nth,ke,km,jX,lenB,kj,jV,entN,setE,jZ,addE,setL,setN,putE,env0,eqCs,j9,eqC,bA,bO,bN,bE,negB,kEq,ki,j8,lend,frz,frzL,zRow,kg,kd,closed,jH,j0,binI,remP,remI,retK,retG,kq,retD,kn,resL,resD,oneD,renD,renL,renE,j3,rho,jR,j5,List.append,List.nil_append,List.cons_append,List.append_nil,cond,Nat.reduceBEq,Nat.reduceAdd,Nat.beq]
    refine callR_look [7, 8, 9] (sm_plGrid (by omega) (by omega) (onX_ok hsS hf)) (fun _ => rfl) (fun _ => rfl) (fun _ => rfl) ?_
    dsimp only [c_blit_Scroll, qo, rD, jo,jK,jT,jr,jI,jM,jq,jJ,jL,iteR,regK,ji,jc,jl,jk,jb,jj,blkK,kr,kh,jd,ja,jy,fpOk,foot,kp,allN,memN,jN,jm,js,jw,jv,jt,ju,jg,jh,jf,je,newN,jx,jS,jU,j2,jO,jP,jQ,jz,jA,jE,jB,jC,jn,jD,jF,jG,j7,evX,evL,evB,rd,get,subG,memG,jW,jY,hyps,gob,impP,allP,j6,j1,j4,ko,nth,ke,km,jX,lenB,kj,jV,entN,setE,jZ,addE,setL,setN,putE,env0,eqCs,j9,eqC,bA,bO,bN,bE,negB,kEq,ki,j8,lend,frz,frzL,zRow,kg,kd,closed,jH,j0,binI,remP,remI,retK,retG,kq,retD,kn,resL,resD,oneD,renD,renL,renE,j3,rho,jR,j5,List.append,List.nil_append,List.cons_append,List.append_nil,cond,Nat.reduceBEq,Nat.reduceAdd,Nat.beq]
    refine qE (sp_Minus b1 b2 (Nat.add_le_add f1 f2)) ?_
    dsimp only [c_blit_Scroll, qo, rD, jo,jK,jT,jr,jI,jM,jq,jJ,jL,iteR,regK,ji,jc,jl,jk,jb,jj,blkK,kr,kh,jd,ja,jy,fpOk,foot,kp,allN,memN,jN,jm,js,jw,jv,jt,ju,jg,jh,jf,je,newN,jx,jS,jU,j2,jO,jP,jQ,jz,jA,jE,jB,jC,jn,jD,jF,jG,j7,evX,evL,evB,rd,get,subG,memG,jW,jY,hyps,gob,impP,allP,j6,j1,j4,ko,nth,ke,km,jX,lenB,kj,jV,entN,setE,jZ,addE,setL,setN,putE,env0,eqCs,j9,eqC,bA,bO,bN,bE,negB,kEq,ki,j8,lend,frz,frzL,zRow,kg,kd,closed,jH,j0,binI,remP,remI,retK,retG,kq,retD,kn,resL,resD,oneD,renD,renL,renE,j3,rho,jR,j5,List.append,List.nil_append,List.cons_append,List.append_nil,cond,Nat.reduceBEq,Nat.reduceAdd,Nat.beq]
    rfl
end Go.AM

