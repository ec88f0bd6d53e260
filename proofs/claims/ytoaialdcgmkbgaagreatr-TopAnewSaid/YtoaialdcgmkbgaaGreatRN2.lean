import Derived.Test.YtoaialdcgmkbgaaGreatRN1

set_option linter.all false
namespace Go.AM
open Go Go.RowKit Go.Proofs
theorem kU1 {w h : Nat} {f : Px} {i : Nat} (hi : i < w * h) : (gl w h f)[i]? = some (kj5 w f i) := jL4 hi
theorem kj3 {w h i : Nat} (hw : 1 <= w) (hi : i < w * h) : vL w h ((i % w : Nat) : Int) ((i / w : Nat) : Int) := by
 have h1 := Nat.mod_lt i (show w > 0 by omega)
 have h2 : i / w < h := Nat.div_lt_of_lt_mul hi
 generalize i / w = q at *
 generalize i % w = m at *
 unfold vL; omega
def PlX (w h : Nat) (f : Px) (i : Nat) (g : Px) : Prop := ∀ x y : Nat, x < w -> y < h -> y * w + x < i -> g x y = f x y
theorem PlX.step {w h : Nat} {f g : Px} {i : Nat} (hw : 1 <= w) (hi : i < w * h) (hp : PlX w h f i g) : PlX w h f (i + 1) (jE9 g ((i % w : Nat) : Int) ((i / w : Nat) : Int) (f ((i % w : Nat) : Int) ((i / w : Nat) : Int))) := by
 intro x y hx hy hlt
 unfold jE9
 by_cases hc : (x : Int) = ((i % w : Nat) : Int) /\ (y : Int) = ((i / w : Nat) : Int)
 ·rw [if_pos hc, hc.1, hc.2]
 ·rw [if_neg hc]
  refine hp x y hx hy ?_
  by_cases he : y * w + x = i
  ·exfalso
   apply hc
   subst he
   constructor
   ·rw [Nat.add_comm, Nat.add_mul_mod_self_right, Nat.mod_eq_of_lt hx]
   ·rw [Nat.add_comm, Nat.add_mul_div_right _ _ (by omega), Nat.div_eq_of_lt hx, Nat.zero_add]
  ·omega
theorem PlX.end {w h : Nat} {f g : Px} (hp : PlX w h f (w * h) g) : gl w h g = gl w h f := jL3 fun x y hin => by
 obtain ⟨a, b, rfl, rfl, ha, hb⟩ := jm0 hin
 exact hp a b ha hb (kc7 ha hb)
theorem kt3 {w h : Nat} {f : Px} (hw : 1 <= w /\ w <= 16) (hh : 1 <= h /\ h <= 16) : zA 108 [.int .i64 w, .int .i64 h, .ls 1 (gl w h f)] (.tup [gD w h f, .bool true]) := by
 have hm := zY (w := w) (h := h) (by omega) (by omega)
 refine jj0 (by rfl) ?_
 dsimp only [c_law34_plane,VO,jm,jo,jc,jn,jF,je,jt,jr,jb,ja,jd,jA,jf,jq,ji,jj,jk,jl,jL,kq,rd,get,jy,jz,jh,jg,jB,jP,jx,jD,jX,jw,env0,bA,bN,jT,jS,o1,o0,Nat.reduceBEq,Nat.reduceAdd]
 refine jv (jo6 (by omega) (by omega)) ?_
 dsimp only [gD,jm,jo,jc,jn,jU,jF,je,jt,jr,jb,ja,jd,jA,jf,ji,jj,jk,jl,jJ,kz,jL,rd,get,jy,jz,jh,jg,jB,jP,jx,kL,jH,kp,jI,jQ,jD,jX,kd,ki,jw,bA,bN,jT,jS,Nat.reduceBEq,Nat.reduceAdd]
 rw [yr]
 refine kE (α := {ig : Nat × Px // ig.1 <= w * h /\ PlX w h f ig.1 ig.2})
  (fun i => ⟨[(0, [], .int .i64 w), (6, [], .box 0 0), (8, [], .box 1 0), (9, [], .int .i64 0), (18, [], .ls 1 (gl w h f)), (19, [], .int .i64 ((w * h : Nat) : Int)), (20, [], .int .i64 i.1.1)], [.cells [.int .i64 0, .int .i64 0, .ls 1 []], .cells [.int .i64 w, .int .i64 h, .ls 1 (gl w h i.1.2)]]⟩)
  (fun i => w * h - i.1.1) ?_ ⟨(0, _), Nat.zero_le _, fun _ _ _ _ h => absurd h (by omega)⟩ rfl
 rintro ⟨⟨i, g⟩, hi, hp⟩ I ih
 dsimp only at hi hp |-
 dsimp only [jE,jm,jo,jc,jn,jU,kt,jG,jK,ky,jF,je,j1,j3,kC,jt,jr,jb,ja,jd,jA,jf,ku,ji,jj,jk,jl,ju,jJ,j6,jL,rd,get,jy,jz,jh,jg,jB,jP,km,jx,jC,jM,jN,jH,kp,jI,jQ,kd,ki,jw,bA,bN,kU,jR,kA,lend,ko,kw,kx,jZ,j7,kr,j9,zh,jT,jS,Nat.reduceBEq,Nat.reduceAdd]
 refine ⟨fun hlt => ?_, fun hge => ?_⟩
 ·have hil : i < w * h := by simp only [decide_eq_true_eq] at hlt; omega
  refine ⟨⟨rfl, by omega, by rw [yr]; omega⟩, kh _ _ (by rw [Int.toNat_natCast]; exact kU1 hil) rfl ?_⟩
  dsimp only [kj5,jm,jo,jc,jF,je,jt,jr,jb,ja,jd,jA,jf,jq,ji,jj,jk,jl,ju,jL,kq,rd,get,jy,jz,jh,jg,jB,jP,km,jx,jC,jM,jN,jI,jw,bA,bN,kU,jR,ko,jj8,jb7,jT,jS,Nat.reduceBEq]
  have e1 : ((i : Int) % (w : Int)) = ((i % w : Nat) : Int) := by simp
  have e2 : ((i : Int) / (w : Int)) = ((i / w : Nat) : Int) := by simp
  have hin := kj3 hw.1 hil
  have hst := hp.step hw.1 hil
  rw [e1, e2]
  clear e1 e2
  have hdiv : i / w < h := Nat.div_lt_of_lt_mul hil
  generalize i / w = q at *
  generalize i % w = m at *
  refine ⟨⟨by omega, by omega⟩, ⟨by omega, by omega, by simp only [j5]; omega⟩, ?_⟩
  refine jv (kP1 (by omega) (by omega) hin) ?_
  dsimp only [gD,jm,jo,jc,jF,je,j0,kC,jt,jr,jb,ja,jd,jA,jf,ji,jj,jk,jl,jJ,jL,rd,get,jy,jz,jh,jg,jB,jP,km,jx,jH,kp,jI,jQ,kd,ki,jw,bA,bN,kU,jR,ko,jT,jS,Nat.reduceBEq,Nat.reduceAdd]
  exact ⟨by simp only [j5]; omega, kW (ih ⟨(i + 1, _), hil, hst⟩ (by dsimp only; omega)) ⟨rfl, rfl, rfl, rfl, rfl, rfl, by simp [get], trivial⟩ ⟨rfl, rfl, trivial⟩ rfl rfl⟩
 ·have hil : i = w * h := by simp only [decide_eq_false_iff_not] at hge; omega
  subst hil
  rw [hp.end]
  exact rfl
theorem VD {kv : KV} (hn : zC kv) (hv : ItV kv) (hl : kv.length <= 1000) {id : Int} {i : It} (hi : lk kv id = some (xy i)) {f : Px} :
  zA 110 [.agg [qO .u32 kv], .int .u32 id, gD i.w i.h f] (.tup [.agg [qO .u32 (put kv id (xy { i with f := f }))], .int .i64 0]) := by
 refine QK (by rfl) ?_
 dsimp only [c_canvas_Canvas_Lay,yD,qO,jm,jo,jc,jn,jF,je,jt,jr,jb,ja,jd,jA,jf,j4,ji,jj,jk,jl,ju,jL,kq,rd,get,jy,jz,jh,jg,jB,jP,jx,jC,kj,kL,jI,jD,jX,jw,env0,bA,bN,kD,jT,jS,o1,o0,og,Nat.reduceBEq,Nat.reduceAdd]
 refine kH _ (kh8 hn hi) ?_
 dsimp only [xy,jE,jm,jo,jc,jn,jG,jK,ky,jF,je,jO,jt,jr,jb,ja,jd,jA,jf,jq,ji,jj,jk,jl,ju,jJ,jL,kq,rd,get,jy,jz,jh,jg,jB,jP,jx,jC,kL,jM,jN,jH,kp,jI,jQ,jD,jX,kd,ki,jw,bA,bN,kA,lend,kw,kx,jZ,j7,kr,j9,zh,jT,jS,Nat.reduceBEq,Nat.reduceAdd]
 refine ⟨nofun, fun _ => ?_⟩
 refine jv Z0 ?_
 dsimp only [jm,jo,jc,jn,jF,je,jt,jr,jb,ja,jd,jA,jf,jq,ji,jj,jk,jl,ju,jL,kq,rd,get,jy,jz,jh,jg,jB,jP,jx,jC,kL,jM,jN,jI,jw,bA,bN,jT,jS,Nat.reduceBEq]
 refine jv Z0 ?_
 dsimp only [jE,jm,jo,jc,jn,jG,jK,ky,jF,je,jO,jt,jr,jb,ja,jd,jA,jf,jq,ji,jj,jk,jl,ju,jJ,kg,jL,kq,rd,get,jy,jz,jh,jg,jB,jP,jx,jC,kL,jM,jN,jH,kp,jI,jQ,kd,ki,jw,bA,bO,bN,bE,kU,jR,kA,lend,ko,kw,kx,jZ,j7,kr,j9,zh,jT,jS,Nat.reduceBEq,Nat.reduceAdd]
 refine ⟨fun h => absurd h (by simp), fun _ => ?_⟩
 refine jv (Q9 hn hv (by omega) (i := { i with f := f })) ?_
 dsimp only [qO,xy,jc,jG,jF,je,jt,jr,jb,ja,jd,jA,jf,ji,jj,jk,jl,jJ,jL,rd,get,jy,jz,jh,jg,jB,jP,jx,jC,jM,jN,jH,kp,jI,jQ,kd,ki,jw,bA,bN,kA,lend,kw,kx,jZ,j7,kr,j9,zh,jT,jS,Nat.reduceBEq,Nat.reduceAdd]
theorem jb2 {kv : KV} (hn : zC kv) {id : Int} {i : It} (hi : lk kv id = some (xy i)) (hw : i.win = true) :
  zA 167 [.agg [qO .u32 kv], .int .u32 id] (.tup [.int .u8 i.g, .bool i.back, .bool true]) := by
 refine JD (by rfl) ?_
 dsimp only [c_canvas_Canvas_Ground,xp,qO,jm,jo,jc,jn,jF,je,jt,jr,jb,ja,jd,jA,jf,j4,ji,jj,jk,jl,ju,jL,kq,rd,get,jy,jz,jh,jg,jB,jP,jx,jC,kj,kL,jI,jD,jX,jw,env0,bA,bN,kD,jT,jS,o1,o0,og,Nat.reduceBEq,Nat.reduceAdd]
 refine kH _ (kh8 hn hi) ?_
 dsimp only [xy,jE,jm,jo,jc,jn,jG,jK,ky,jF,je,jO,jt,jr,jb,ja,jd,jA,jf,ji,jj,jk,jl,ju,jJ,kg,jL,rd,get,jy,jz,jh,jg,jB,jP,jx,jC,kL,jH,kp,jI,jQ,jD,jX,kd,ki,jw,bA,bO,bN,bE,kA,lend,kw,kx,jZ,j7,kr,j9,zh,jT,jS,Nat.reduceBEq,Nat.reduceAdd]
 rw [hw]
 refine ⟨fun h => absurd h (by simp), fun _ => ?_⟩
 first | rfl | trivial
open Classical in
noncomputable def atV (w h : Nat) (f : Px) (x y : Int) : Int := if vL w h x y then f x y else 0
theorem km4 {w h : Nat} {f : Px} {x y : Int} (hw : w <= 128) (hh : h <= 128) : zA 46 [gD w h f, .int .i64 x, .int .i64 y] (.int .u8 (atV w h f x y)) := by
 unfold atV
 by_cases hp : vL w h x y
 ·rw [if_pos hp]; exact jP5 hw hh hp
 ·rw [if_neg hp]
  refine JU (by rfl) ?_
  dsimp only [c_grid_Grid_At,y5,jm,jo,jc,jn,jF,je,jt,jr,jb,ja,jd,jA,jf,jq,ji,jj,jk,jl,ju,jL,kq,rd,get,jy,jz,jh,jg,jB,jP,jx,jC,kj,jM,jN,jI,jD,jX,jw,env0,bA,bN,jT,jS,o1,Nat.reduceBEq,Nat.reduceAdd]
  refine jv jG0 ?_
  dsimp only [jE,jm,jo,jc,jn,jG,jK,ky,jF,je,jO,jt,jr,jb,ja,jd,jA,jf,ku,ji,jj,jk,jl,ju,j6,jL,rd,get,jy,jz,jh,jg,jB,jP,km,jx,jC,kL,jI,jw,bA,bN,kU,jR,lend,ko,kw,kx,jZ,j7,kr,j9,jT,jS,Nat.reduceBEq,Nat.reduceAdd]
  rw [kU0 hp]
  refine ⟨fun _ => ?_, fun h => absurd h (by simp)⟩
  first | rfl | trivial
structure Sf where
 dx : Int
 dy : Int
 fg : Bool
def jG7 (s : Sf) : D := .agg [.int .i64 s.dx, .int .i64 s.dy, .bool s.fg]
def Sf.Ok (s : Sf) : Prop := (-20 <= s.dx /\ s.dx <= 20) /\ -20 <= s.dy /\ s.dy <= 20
theorem kg2 {s : Sf} (h : s.Ok) : zA 162 [jG7 s] (.bool true) := by
 unfold Sf.Ok at h
 refine jj2 (by rfl) ?_
 dsimp only [c_canvas_near,VQ,jG7,jm,jo,jc,jn,jG,jF,je,jt,jr,jb,ja,jd,jA,jf,ji,jj,jk,jl,ju,kg,jL,rd,get,jy,jz,jh,jg,jB,jP,jx,jC,kj,kL,jI,jD,jX,jw,env0,bA,bO,bN,bE,kU,jR,lend,ko,kw,kx,jZ,j7,kr,j9,jT,jS,o1,og,Nat.reduceBEq,Nat.reduceAdd]
 congr 1
 simp only [Bool.and_eq_true, decide_eq_true_eq]
 omega
end Go.AM
