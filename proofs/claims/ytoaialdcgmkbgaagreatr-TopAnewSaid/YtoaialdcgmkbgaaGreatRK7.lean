import Derived.Test.YtoaialdcgmkbgaaGreatRK3
import Derived.Test.YtoaialdcgmkbgaaGreatRM1
import Derived.Test.YtoaialdcgmkbgaaGreatRL2

set_option linter.all false
namespace Go.AM
open Go Go.Proofs
theorem jB5 {Q Q' : Int -> Int -> Prop} {s f : Px} {x y : Int} (h : Q x y ↔ Q' x y) : jv4 Q s f x y = jv4 Q' s f x y := by
 by_cases hq : Q x y
 ·rw [Yy hq, Yy (h.1 hq)]
 ·rw [Yz hq, Yz fun h2 => hq (h.2 h2)]
theorem km7 {w h : Nat} {f : Px} {p : Int} (hw : w <= 128) (hh : h <= 128) (Q : Int -> Int -> Prop) (y a b : Int) (hy : 0 <= y /\ y < h) (hab : 0 <= a /\ a < b /\ b <= w) :
  vT 163 [.int .i64 y, .int .i64 a, .int .i64 b, .box 0 0, .box 2 0] [.cells [.int .u8 p], .arr 51 1 1 (gl w h (jv4 Q (fun _ _ => p) f)), .cells [.int .i64 w, .int .i64 h, .own 1 1]] (.tup [])
   [.cells [.int .u8 p], .arr 51 1 1 (gl w h (jv4 (fun X Y => Q X Y \/ (Y = y /\ a <= X /\ X < b)) (fun _ _ => p) f)), .cells [.int .i64 w, .int .i64 h, .own 1 1]] := by
 have hm := zY hw hh
 refine Q7 (by rfl) ?_
 dsimp only [c_grid_Grid_Fill_1,y4,jm,jo,jc,jn,jU,jF,je,jt,jr,jb,ja,jd,jA,jf,ji,jj,jk,jl,jL,rd,get,jy,jz,jh,jg,jB,jP,jx,jD,jw,env0,bA,bN,jT,jS,o1,o0,Nat.reduceBEq,Nat.reduceAdd]
 have e0 : Q = fun X Y => Q X Y \/ (Y = y /\ a <= X /\ X < a) := zz fun X Y => ⟨.inl, fun h => h.elim id fun h => by omega⟩
 refine kE (α := {x : Int // a <= x /\ x <= b})
  (fun x => ⟨[(0, [], .int .i64 y), (2, [], .int .i64 b), (3, [], .box 0 0), (4, [], .box 2 0), (8, [], .int .i64 x.1)], [.cells [.int .u8 p], .arr 51 1 1 (gl w h (jv4 (fun X Y => Q X Y \/ (Y = y /\ a <= X /\ X < x.1)) (fun _ _ => p) f)), .cells [.int .i64 w, .int .i64 h, .own 1 1]]⟩)
  (fun x => (b - x.1).toNat) ?_ ⟨a, by omega⟩ (by dsimp only; rw [<- e0])
 rintro ⟨x, hx⟩ I ih
 dsimp only at hx |-
 dsimp only [jE,jm,jo,jc,jn,jU,kt,jK,ky,jF,je,j1,j3,kC,jt,jr,jb,ja,jd,jA,jf,vB,ji,jj,jk,jl,ju,jJ,j6,jL,rd,get,jy,jz,jh,jg,jB,jP,km,jx,jC,kj,kL,jH,jI,jQ,jw,bA,bN,kU,jR,closed,ko,qX,qH,j7,j9,jT,jS,Nat.reduceBEq,Nat.reduceAdd]
 refine ⟨fun hlt => ?_, fun hge => ?_⟩
 ·simp only [decide_eq_true_eq] at hlt
  have hp : vL w h x y := ⟨by omega, hy⟩
  obtain ⟨h1, h2, h3, h4⟩ := jm1 hp
  refine ⟨by simp only [j5]; omega, by simp only [j5]; omega, ⟨rfl, rfl, h1, by rw [yr]; exact h2⟩, ⟨rfl, rfl⟩, qR (hs := []) _ _ (jL2 hp) rfl ?_⟩
  dsimp only [jm,jo,jc,jF,je,j0,kC,jt,jr,jb,ja,jd,jA,jf,ji,jj,jk,jl,jL,rd,get,jy,jz,jh,jg,jB,jP,km,jx,jw,bA,bN,kU,jR,ko,jT,jS,Nat.reduceBEq]
  have e1 := kh9 (Q := fun X Y => Q X Y \/ (Y = y /\ a <= X /\ X < x)) (s := fun _ _ => p) (f := f) (x := x) (y := y)
  rw [kd2 hp, e1]
  have e2 : (fun X Y => (Q X Y \/ (Y = y /\ a <= X /\ X < x)) \/ (Y = y /\ X = x)) = fun X Y => Q X Y \/ (Y = y /\ a <= X /\ X < x + 1) := zz fun X Y => by
   constructor
   ·rintro ((h | h) | h)
    ·exact .inl h
    ·exact .inr (by omega)
    ·exact .inr (by omega)
   ·rintro (h | h)
    ·exact .inl (.inl h)
    ·by_cases hX : X = x
     ·exact .inr (by omega)
     ·exact .inl (.inr (by omega))
  rw [e2]
  exact ⟨by simp only [j5]; omega, kW (ih ⟨x + 1, by omega⟩ (by dsimp only; omega)) ⟨rfl, rfl, rfl, rfl, by simp [get], trivial⟩ ⟨rfl, rfl, rfl, trivial⟩ rfl rfl⟩
 ·simp only [decide_eq_false_iff_not] at hge
  have : x = b := by omega
  subst this
  exact Rt.id
theorem kF9 {w h : Nat} {f : Px} {p : Int} {P : Int -> Int -> Prop} (hw : w <= 128) (hh : h <= 128) (hP : XT P) (hl : (reg P).length <= 1048576) :
  zA 113 [gD w h f, .agg [.ls 4 (kJ (reg P))], .int .u8 p] (gD w h (jv4 P (fun _ _ => p) f)) := by
 have hm := zY hw hh
 refine V8 (by rfl) ?_
 dsimp only [c_grid_Grid_Fill,Kc,jm,jo,jc,jn,jF,je,jt,jr,jb,ja,jd,jA,jf,jq,ji,jj,jk,jl,ju,jL,kq,rd,get,jy,jz,jh,jg,jB,jP,jx,jC,kj,jM,jN,jI,jD,jX,jw,env0,bA,bN,jT,jS,o1,o0,Nat.reduceBEq,Nat.reduceAdd]
 refine kY [] (jG3 hw hh) rfl rfl ?_
 dsimp only [jm,jo,jc,jn,jF,je,jt,jr,jb,ja,jd,jA,jf,jq,ji,jj,jk,jl,ju,jJ,jL,kq,rd,get,jy,jz,jh,jg,jB,jP,jx,jC,jM,jN,jH,kp,jI,jQ,jD,jX,kd,ki,jw,bA,bN,kV,qY,zp,kM,z6,kO,Je,Jd,jT,jS,Nat.reduceBEq,Nat.reduceAdd]
 have hsp := km6 (R := fun Q => gl w h (jv4 Q (fun _ _ => p) f)) (p := p) hw hh (yU hP) hl (fun Q y a b hy hab => km7 hw hh Q y a b hy hab)
 rw [kw3] at hsp
 refine kY [2, 4, 5] hsp rfl rfl ?_
 dsimp only [jm,jo,jc,jn,jG,jF,je,jt,jr,jb,ja,jd,jA,jf,ji,jj,jk,jl,ju,jJ,jL,rd,get,jy,jz,jh,jg,jB,jP,jx,jC,jM,jN,jH,kp,jI,jQ,jD,kd,ki,jw,bA,bN,kA,lend,kw,kx,jZ,j7,kr,j9,kV,qY,zp,kM,z6,kO,Je,Jd,zh,jN4,jT,jS,Nat.reduceBEq,Nat.reduceAdd]
 have : gl w h (jv4 (fun X Y => qL (reg P) X Y /\ vL w h X Y) (fun _ _ => p) f) = gl w h (jv4 P (fun _ _ => p) f) := jL3 fun x y hp => by
  exact jB5 (by (try dsimp only); rw [yV hP]; exact ⟨fun h => h.1, fun h => ⟨h, hp⟩⟩)
 rw [this]
 exact ⟨rfl, rfl⟩
noncomputable def yj (w2 h2 : Nat) (f2 : Px) (x0 y0 : Int) (Q : Int -> Int -> Prop) (f : Px) : Px := jv4 (fun X Y => Q X Y /\ vL w2 h2 (X - x0) (Y - y0)) (fun X Y => f2 (X - x0) (Y - y0)) f
theorem ku2 {w h w2 h2 : Nat} {f f2 : Px} {x0 y0 : Int} (hw : w <= 128) (hh : h <= 128) (hw2 : w2 <= 128) (hh2 : h2 <= 128) (hx0 : -1048576 <= x0 /\ x0 <= 1048576) (hy0 : -1048576 <= y0 /\ y0 <= 1048576) (Q : Int -> Int -> Prop) (y a b : Int) (hy : 0 <= y /\ y < h) (hab : 0 <= a /\ a < b /\ b <= w) :
  vT 80 [.int .i64 y, .int .i64 a, .int .i64 b, .box 0 0, .box 1 0, .box 2 0, .box 4 0]
   [.cells [.int .i64 w2, .int .i64 h2, .ls 1 (gl w2 h2 f2)], .cells [.int .i64 x0], .cells [.int .i64 y0], .arr 51 1 1 (gl w h (yj w2 h2 f2 x0 y0 Q f)), .cells [.int .i64 w, .int .i64 h, .own 3 1]] (.tup [])
   [.cells [.int .i64 w2, .int .i64 h2, .ls 1 (gl w2 h2 f2)], .cells [.int .i64 x0], .cells [.int .i64 y0], .arr 51 1 1 (gl w h (yj w2 h2 f2 x0 y0 (fun X Y => Q X Y \/ (Y = y /\ a <= X /\ X < b)) f)), .cells [.int .i64 w, .int .i64 h, .own 3 1]] := by
 have hm := zY hw hh
 refine Vl (by rfl) ?_
 dsimp only [c_grid_Grid_Lay_1,Jm,jm,jo,jc,jn,jU,jF,je,jt,jr,jb,ja,jd,jA,jf,ji,jj,jk,jl,jL,rd,get,jy,jz,jh,jg,jB,jP,jx,jD,jw,env0,bA,bN,jT,jS,o1,o0,Nat.reduceBEq,Nat.reduceAdd]
 have e0 : Q = fun X Y => Q X Y \/ (Y = y /\ a <= X /\ X < a) := zz fun X Y => ⟨.inl, fun h => h.elim id fun h => by omega⟩
 refine kE (α := {x : Int // a <= x /\ x <= b})
  (fun x => ⟨[(0, [], .int .i64 y), (2, [], .int .i64 b), (3, [], .box 0 0), (4, [], .box 1 0), (5, [], .box 2 0), (6, [], .box 4 0), (10, [], .int .i64 x.1)],
    [.cells [.int .i64 w2, .int .i64 h2, .ls 1 (gl w2 h2 f2)], .cells [.int .i64 x0], .cells [.int .i64 y0], .arr 51 1 1 (gl w h (yj w2 h2 f2 x0 y0 (fun X Y => Q X Y \/ (Y = y /\ a <= X /\ X < x.1)) f)), .cells [.int .i64 w, .int .i64 h, .own 3 1]]⟩)
  (fun x => (b - x.1).toNat) ?_ ⟨a, by omega⟩ (by dsimp only; rw [<- e0])
 rintro ⟨x, hx⟩ I ih
 dsimp only at hx |-
 dsimp only [jE,jm,jo,jc,jn,jU,kt,jK,ky,jF,je,j1,j3,kC,jt,jr,jb,ja,jd,jA,jf,jq,ji,jj,jk,jl,ju,jL,kq,rd,get,jy,jz,jh,jg,jB,jP,km,jx,jC,kL,jM,jN,jI,jw,bA,bN,kU,jR,ko,qX,qH,j7,j9,jT,jS,Nat.reduceBEq]
 have e2 : (fun X Y => (Q X Y \/ (Y = y /\ a <= X /\ X < x)) \/ (Y = y /\ X = x)) = fun X Y => Q X Y \/ (Y = y /\ a <= X /\ X < x + 1) := zz fun X Y => by
  constructor
  ·rintro ((h | h) | h)
   ·exact .inl h
   ·exact .inr (by omega)
   ·exact .inr (by omega)
  ·rintro (h | h)
   ·exact .inl (.inl h)
   ·by_cases hX : X = x
    ·exact .inr (by omega)
    ·exact .inl (.inr (by omega))
 refine ⟨fun hlt => ?_, fun hge => ?_⟩
 ·simp only [decide_eq_true_eq] at hlt
  have hp : vL w h x y := ⟨by omega, hy⟩
  obtain ⟨g1, g2, g3, g4⟩ := jm1 hp
  refine ⟨by simp only [j5]; omega, by simp only [j5]; omega, jv jG0 ?_⟩
  dsimp only [jE,jm,jo,jc,jK,ky,jF,je,j0,kC,jt,jr,jb,ja,jd,jA,jf,jq,ji,jj,jk,jl,ju,jL,kq,rd,get,jy,jz,jh,jg,jB,jP,km,jx,jC,kL,jM,jN,jI,jw,bA,bN,kU,jR,ko,jT,jS,Nat.reduceBEq,Nat.reduceAdd]
  refine ⟨fun hyes => ?_, fun hno => ?_⟩
  ·have hp2 := jK9.1 hyes
   refine ⟨by simp only [j5]; omega, by simp only [j5]; omega, by simp only [j5]; omega, by simp only [j5]; omega, jv (jP5 hw2 hh2 hp2) ?_⟩
   dsimp only [jc,ja,jd,jA,jf,vB,ji,jj,jk,jl,jJ,j6,jL,rd,get,jy,jz,jh,jg,jB,jP,km,jx,kj,jH,jI,jQ,jw,bA,bN,closed,jT,jS,Nat.reduceBEq]
   refine ⟨⟨rfl, rfl, g1, by rw [yr]; exact g2⟩, ⟨rfl, rfl⟩, qR (hs := []) _ _ (jL2 hp) rfl ?_⟩
   dsimp only [jm,jo,jc,jF,je,j0,kC,jt,jr,jb,ja,jd,jA,jf,ji,jj,jk,jl,jL,rd,get,jy,jz,jh,jg,jB,jP,km,jx,jw,bA,bN,kU,jR,ko,jT,jS,Nat.reduceBEq]
   have e1 : jE9 (yj w2 h2 f2 x0 y0 (fun X Y => Q X Y \/ (Y = y /\ a <= X /\ X < x)) f) x y (f2 (x - x0) (y - y0)) = yj w2 h2 f2 x0 y0 (fun X Y => Q X Y \/ (Y = y /\ a <= X /\ X < x + 1)) f := by
    unfold yj
    have := kh9 (Q := fun X Y => (Q X Y \/ (Y = y /\ a <= X /\ X < x)) /\ vL w2 h2 (X - x0) (Y - y0)) (s := fun X Y => f2 (X - x0) (Y - y0)) (f := f) (x := x) (y := y)
    rw [this, <- e2]
    congr 1
    refine zz fun X Y => ?_
    constructor
    ·rintro (⟨h5, h6⟩ | h5)
     ·exact ⟨.inl h5, h6⟩
     ·obtain ⟨rfl, rfl⟩ := h5
      exact ⟨.inr ⟨rfl, rfl⟩, hp2⟩
    ·rintro ⟨h5 | h5, h6⟩
     ·exact .inl ⟨h5, h6⟩
     ·exact .inr h5
   rw [kd2 hp, e1]
   exact ⟨by simp only [j5]; omega, kW (ih ⟨x + 1, by omega⟩ (by dsimp only; omega)) ⟨rfl, rfl, rfl, rfl, rfl, rfl, by simp [get], trivial⟩ ⟨rfl, rfl, rfl, rfl, rfl, trivial⟩ rfl rfl⟩
  ·have hp2 : ¬ vL w2 h2 (x - x0) (y - y0) := fun hp2 => by rw [jK8 hp2] at hno; cases hno
   have e1 : yj w2 h2 f2 x0 y0 (fun X Y => Q X Y \/ (Y = y /\ a <= X /\ X < x)) f = yj w2 h2 f2 x0 y0 (fun X Y => Q X Y \/ (Y = y /\ a <= X /\ X < x + 1)) f := by
    unfold yj
    rw [<- e2]
    congr 1
    refine zz fun X Y => ?_
    constructor
    ·rintro ⟨h5, h6⟩; exact ⟨.inl h5, h6⟩
    ·rintro ⟨h5 | h5, h6⟩
     ·exact ⟨h5, h6⟩
     ·obtain ⟨rfl, rfl⟩ := h5
      exact absurd h6 hp2
   rw [e1]
   exact ⟨by simp only [j5]; omega, kW (ih ⟨x + 1, by omega⟩ (by dsimp only; omega)) ⟨rfl, rfl, rfl, rfl, rfl, rfl, by simp [get], trivial⟩ ⟨rfl, rfl, rfl, rfl, rfl, trivial⟩ rfl rfl⟩
 ·simp only [decide_eq_false_iff_not] at hge
  have : x = b := by omega
  subst this
  exact Rt.id
theorem jZ7 {w h w2 h2 : Nat} {f f2 : Px} {x0 y0 : Int} {P : Int -> Int -> Prop} (hw : w <= 128) (hh : h <= 128) (hw2 : w2 <= 128) (hh2 : h2 <= 128) (hx0 : -1048576 <= x0 /\ x0 <= 1048576) (hy0 : -1048576 <= y0 /\ y0 <= 1048576) (hP : XT P) (hl : (reg P).length <= 1048576) :
  zA 21 [gD w h f, gD w2 h2 f2, .int .i64 x0, .int .i64 y0, .agg [.ls 4 (kJ (reg P))]] (gD w h (yj w2 h2 f2 x0 y0 P f)) := by
 have hm := zY hw hh
 refine X8 (by rfl) ?_
 dsimp only [c_grid_Grid_Lay,Qw,jm,jo,jc,jn,jF,je,jt,jr,jb,ja,jd,jA,jf,jq,ji,jj,jk,jl,ju,jL,kq,rd,get,jy,jz,jh,jg,jB,jP,jx,jC,kj,kL,jI,jD,jX,jw,env0,bA,bN,jT,jS,o1,o0,og,Nat.reduceBEq,Nat.reduceAdd]
 refine jv jz6 ?_
 dsimp only [jc,ja,jd,jA,jf,jq,ji,jj,jk,jl,ju,jL,kq,rd,get,jy,jz,jh,jg,jB,jP,jx,jC,kL,jI,jw,bA,bO,bN,bE,jT,jS,Nat.reduceBEq]
 refine jv (fun _ => jz6) ?_
 dsimp only [jE,jm,jo,jc,jn,jG,jK,ky,jF,je,jO,jt,jr,jb,ja,jd,jA,jf,jq,ji,jj,jk,jl,ju,jJ,kg,jL,kq,rd,get,jy,jz,jh,jg,jB,jP,jx,jC,jM,jN,jH,kp,jI,jQ,kd,ki,jw,bA,bO,bN,bE,kA,lend,kw,kx,jZ,j7,kr,j9,zh,jT,jS,Nat.reduceBEq,Nat.reduceAdd]
 refine ⟨fun hc => ?_, fun _ => ?_⟩
 ·simp only [Bool.or_eq_true, Bool.not_eq_true', Bool.and_eq_false_iff, decide_eq_false_iff_not] at hc; omega
 refine kY [] (jG3 hw hh) rfl rfl ?_
 dsimp only [jm,jo,jc,jn,jF,je,jt,jr,jb,ja,jd,jA,jf,jq,ji,jj,jk,jl,ju,jJ,jL,kq,rd,get,jy,jz,jh,jg,jB,jP,jx,jC,jM,jN,jH,kp,jI,jQ,jD,jX,kd,ki,jw,bA,bN,kV,qY,zp,kM,z6,kO,Je,Jd,jT,jS,Nat.reduceBEq,Nat.reduceAdd]
 have hsp := km5 (R := fun Q => gl w h (yj w2 h2 f2 x0 y0 Q f)) (w2 := w2) (h2 := h2) (x0 := x0) (y0 := y0) (pix := gl w2 h2 f2) hw hh (yU hP) hl (fun Q y a b hy hab => ku2 hw hh hw2 hh2 hx0 hy0 Q y a b hy hab)
 have e0 : yj w2 h2 f2 x0 y0 (fun _ _ => False) f = f := by
  unfold yj
  rw [show (fun X Y : Int => False /\ vL w2 h2 (X - x0) (Y - y0)) = fun _ _ => False from zz fun _ _ => ⟨fun h => h.1, fun h => h.elim⟩, kw3]
 rw [e0] at hsp
 refine kY [1, 2, 3, 6, 7] hsp rfl rfl ?_
 dsimp only [jm,jo,jc,jn,jG,jF,je,jt,jr,jb,ja,jd,jA,jf,ji,jj,jk,jl,ju,jJ,jL,rd,get,jy,jz,jh,jg,jB,jP,jx,jC,jM,jN,jH,kp,jI,jQ,jD,kd,ki,jw,bA,bN,kA,lend,kw,kx,jZ,j7,kr,j9,kV,qY,zp,kM,z6,kO,Je,Jd,zh,jN4,jT,jS,Nat.reduceBEq,Nat.reduceAdd]
 have : gl w h (yj w2 h2 f2 x0 y0 (fun X Y => qL (reg P) X Y /\ vL w h X Y) f) = gl w h (yj w2 h2 f2 x0 y0 P f) := jL3 fun x y hp => by
  exact jB5 (by (try dsimp only); rw [yV hP]; exact ⟨fun h => ⟨h.1.1, h.2⟩, fun h => ⟨⟨h.1, hp⟩, h.2⟩⟩)
 rw [this]
 exact ⟨rfl, rfl⟩

structure Bx where
 x : Int
 y : Int
 w : Int
 h : Int
 on : Bool
 g : Int
 b : Int
 s : Bool
 p : PS
def jB9 : PS := fun _ _ => False
theorem YA : XT jB9 := fun _ _ h => h.elim
theorem xJ : reg jB9 = [] := (KT YA).2 fun _ _ h => h
noncomputable def KS (P : PS) : D := .agg [.ls 4 (kJ (reg P))]
noncomputable def Jx (b : Bx) : D := .agg [.int .i64 b.x, .int .i64 b.y, .int .i64 b.w, .int .i64 b.h, .bool b.on, .int .i64 b.g, .int .i64 b.b, .bool b.s, .ls 4 (kJ (reg b.p))]
def zBx : Bx := ⟨0, 0, 0, 0, false, 0, 0, false, jB9⟩
/-! What qo no own memory stays under other names -/
mutual
theorem jR7 {ks : List Nat} {n : Nat} : ∀ (d : D), closed d = true -> kV ks n d = d
 | .int _ _, _ => rfl
 | .bool _, _ => rfl
 | .str _, _ => rfl
 | .ls _ _, _ => rfl
 | .agg l, h => by simp only [kV]; rw [zD l (by simpa [closed] using h)]
 | .tup l, h => by simp only [kV]; rw [zD l (by simpa [closed] using h)]
 | .mp _ _, _ => rfl
 | .nil, _ => rfl
 | .glob _ _, _ => rfl
 | .ifc _, _ => rfl
 | .fn f l, h => by simp only [kV]; rw [zD l (by simpa [closed] using h)]
 | .yld _, h => by simp [closed] at h
 | .osl _ _ _ _ _, h => by simp [closed] at h
 | .box _ _, h => by simp [closed] at h
 | .boxi _ _, h => by simp [closed] at h
 | .bsl _ _ _ _, h => by simp [closed] at h
 | .ownm _ _, h => by simp [closed] at h
 | .own _ _, h => by simp [closed] at h
 | .el _ _ _ _, h => by simp [closed] at h
 | .elo _ _ _ _ _, h => by simp [closed] at h
 | .any, h => by simp [closed] at h
theorem zD {ks : List Nat} {n : Nat} : ∀ (l : List D), jV l = true -> qY ks n l = l
 | [], _ => rfl
 | d :: l, h => by
   simp only [jV, qw] at h
   simp only [qY]
   rw [jR7 d h.1, zD l h.2]
end
mutual
theorem kc3 {n : Nat} : ∀ (d : D), closed d = true -> low n d = true
 | .int _ _, _ => rfl
 | .bool _, _ => rfl
 | .str _, _ => rfl
 | .ls _ _, _ => rfl
 | .agg l, h => by simp only [low]; exact kX l (by simpa [closed] using h)
 | .tup l, h => by simp only [low]; exact kX l (by simpa [closed] using h)
 | .mp _ _, _ => rfl
 | .nil, _ => rfl
 | .glob _ _, _ => rfl
 | .ifc _, _ => rfl
 | .fn f l, h => by simp only [low]; exact kX l (by simpa [closed] using h)
 | .yld _, h => by simp [closed] at h
 | .osl _ _ _ _ _, h => by simp [closed] at h
 | .box _ _, h => by simp [closed] at h
 | .boxi _ _, h => by simp [closed] at h
 | .bsl _ _ _ _, h => by simp [closed] at h
 | .ownm _ _, h => by simp [closed] at h
 | .own _ _, h => by simp [closed] at h
 | .el _ _ _ _, h => by simp [closed] at h
 | .elo _ _ _ _ _, h => by simp [closed] at h
 | .any, h => by simp [closed] at h
theorem kX {n : Nat} : ∀ (l : List D), jV l = true -> vb n l = true
 | [], _ => rfl
 | d :: l, h => by
   simp only [jV, qw] at h
   simp only [vb, Bool.and_eq_true]
   exact ⟨kc3 d h.1, kX l h.2⟩
end
def QQ (f : Nat -> D) (n : Nat) : KV := (List.range (n + 1)).map fun k => (kQ k, f k)
theorem jT9 {f : Nat -> D} {n : Nat} : QQ f (n + 1) = QQ f n ++ [(kQ (n + 1), f (n + 1))] := by simp [QQ, List.range_succ]
theorem kj0 {α : Type} {n m : Int} {d : α} : ∀ {l : List (Int × α)}, lk (l ++ [(n, d)]) m = match lk l m with | some e => some e | none => if n = m then some d else none
 | [] => by simp [lk]
 | p :: l => by
   simp only [List.cons_append, lk]
   by_cases h : p.1 = m
   ·simp [h]
   ·simp only [h, if_false]; exact kj0
theorem K5 {f : Nat -> D} {k : Nat} : ∀ {n : Nat}, lk (QQ f n) (kQ k) = if k <= n then some (f k) else none
 | 0 => by
   simp only [QQ, List.range_succ, List.range_zero, List.nil_append, List.map_cons, List.map_nil, lk, vE]
   by_cases h : k = 0
   ·subst h; simp
   ·rw [if_neg (fun e => h e.symm), if_neg (by omega)]
 | n + 1 => by
   rw [jT9, kj0, K5 (n := n)]
   by_cases h : k <= n
   ·rw [if_pos h]; dsimp only; rw [if_pos (Nat.le_succ_of_le h)]
   ·rw [if_neg h]
    dsimp only
    by_cases h2 : n + 1 = k
    ·subst h2; simp
    ·rw [if_neg (fun e => h2 (vE.1 e)), if_neg (by omega)]
theorem JK {f : Nat -> D} {n : Nat} : zC (QQ f n) := by
 unfold zC QQ
 rw [List.map_map]
 have : (fun k => kQ k) = ((fun p : Int × D => p.1) ∘ fun k => (kQ k, f k)) := rfl
 rw [<- this]
 exact List.Pairwise.map _ (fun a b h e => h (vE.1 e)) (List.nodup_range (n := n + 1))
theorem YB {f : Nat -> D} {n : Nat} : (QQ f n).length = n + 1 := by simp [QQ]
theorem kI9 {f g : Nat -> D} {n : Nat} (h : ∀ k, k <= n -> f k = g k) : QQ f n = QQ g n := by
 unfold QQ
 refine List.map_congr_left fun k hk => ?_
 have : k < n + 1 := by simpa using hk
 rw [h k (by omega)]
theorem kc2 {f : Nat -> D} {n : Nat} : QQ f n ≠ [] := fun h => by have := congrArg List.length h; rw [YB] at this; simp at this
theorem tB : Tryz.prog.underlying 87 = some (.map 53 130) := by kernel_rfl
theorem zB : ZV Tryz.prog 130 (.agg #[.int .i64 0, .int .i64 0, .int .i64 0, .int .i64 0, .bool false, .int .i64 0, .int .i64 0, .bool false, .slice none 0 0]) := by unfold ZV; kernel_rfl
theorem kC1 : Jx zBx = .agg [.int .i64 0, .int .i64 0, .int .i64 0, .int .i64 0, .bool false, .int .i64 0, .int .i64 0, .bool false, .ls 4 []] := by
 unfold Jx zBx; rw [xJ]; rfl
theorem jI6 {bx : List Ent} {kv : KV} (hn : zC kv) {id : Int} {d : D} (h : lk kv id = some d) : PrM Tryz.prog zM (.lkp 87 true) [.mp (qI .u32 kv) (kZ kv), .int .u32 id] bx (.tup [d, .bool true]) bx := by
 have := JJ (gt := zM) (bx := bx) tB tI zB hn id true (zd := .nil) (fun h' => by rw [h] at h'; cases h')
 rw [h] at this; exact this
theorem kH3 {bx : List Ent} {kv : KV} (hn : zC kv) {id : Int} (h : lk kv id = none) : PrM Tryz.prog zM (.lkp 87 true) [.mp (qI .u32 kv) (kZ kv), .int .u32 id] bx (.tup [Jx zBx, .bool false]) bx := by
 have := JJ (gt := zM) (bx := bx) tB tI zB hn id true (zd := Jx zBx) (fun _ K pl => by
  rw [kC1]
  simp only [Rep, RepL]
  refine ⟨_, rfl, ⟨_, _, rfl, rfl, _, _, rfl, rfl, _, _, rfl, rfl, _, _, rfl, rfl, _, _, rfl, rfl, _, _, rfl, rfl, _, _, rfl, rfl, _, _, rfl, rfl, _, _, rfl, ⟨none, 0, 0, rfl, rfl, Nat.le_refl _, fun _ => rfl, .inl trivial⟩, rfl⟩, fun c hc => ?_⟩
  simp only [List.mem_cons, List.not_mem_nil, or_false] at hc
  rcases hc with h | h | h | h | h | h | h | h | h <;> (rw [h]; rfl))
 rw [h] at this; exact this
def Xy (n : Int) : Bool := decide (-32768 <= n) && decide (n <= 32767)
theorem Q8 {n : Int} : zA 115 [.int .i64 n] (.bool (Xy n)) := by
 refine ji8 (by rfl) ?_
 dsimp only [c_place_coord,VM,Xy,jm,jo,jc,jn,jG,jF,je,jt,jr,jb,ja,jd,jA,jf,ji,jj,jk,jl,kg,jL,rd,get,jy,jz,jh,jg,jB,jP,jx,jw,env0,bA,bO,bN,bE,kU,jR,lend,ko,kw,kx,jZ,j7,kr,j9,jT,jS,o1,og,Nat.reduceBEq,Nat.reduceAdd]
def jg3 (n : Int) : Bool := decide (1 <= n) && decide (n <= 128)
theorem xY {n : Int} : zA 116 [.int .i64 n] (.bool (jg3 n)) := by
 refine jn3 (by rfl) ?_
 dsimp only [c_place_side,Yq,jg3,jm,jo,jc,jn,jG,jF,je,jt,jr,jb,ja,jd,jA,jf,ji,jj,jk,jl,kg,jL,rd,get,jy,jz,jh,jg,jB,jP,jx,jw,env0,bA,bO,bN,bE,kU,jR,lend,ko,kw,kx,jZ,j7,kr,j9,jT,jS,o1,og,Nat.reduceBEq,Nat.reduceAdd]
def jl0 (g : Int) : Bool := decide (g < 0) || decide (10 < g)
theorem JW {g : Int} : zA 117 [.int .i64 g] (.int .i64 (if jl0 g then 10 else 0)) := by
 refine X9 (by rfl) ?_
 dsimp only [c_gravity_Check,Qx,jE,jm,jo,jc,jn,jG,jK,ky,jF,je,jO,jt,jr,jb,ja,jd,jA,jf,ji,jj,jk,jl,kg,jL,rd,get,jy,jz,jh,jg,jB,jP,jx,jw,env0,bA,bO,bN,bE,kU,jR,lend,ko,kw,kx,jZ,j7,kr,j9,jT,jS,o1,og,Nat.reduceBEq,Nat.reduceAdd]
 unfold jl0
 by_cases h1 : g < 0 <;> by_cases h2 : 10 < g <;> simp [h1, h2]
def VG (w h : Int) : Bx := ⟨0, 0, w, h, true, 1, 1, false, jB9⟩
theorem jF9 {w h : Int} (hw : 1 <= w /\ w <= 128) (hh : 1 <= h /\ h <= 128) : zA 94 [.int .i64 w, .int .i64 h] (.tup [.agg [qO .u32 (QQ (fun _ => Jx (VG w h)) 0)], .int .i64 0]) := by
 refine jv7 (by rfl) ?_
 dsimp only [c_place_New,jg7,jm,jo,jc,jn,jF,je,jt,jr,jb,ja,jd,jA,jf,jq,ji,jj,jk,jl,jL,kq,rd,get,jy,jz,jh,jg,jB,jP,jx,jD,jX,jw,env0,bA,bN,jT,jS,o1,o0,og,Nat.reduceBEq,Nat.reduceAdd]
 refine jv xY ?_
 dsimp only [jc,ja,jd,jA,jf,jq,ji,jj,jk,jl,jL,kq,rd,get,jy,jz,jh,jg,jB,jP,jx,jw,bA,bO,bN,bE,jT,jS,Nat.reduceBEq]
 refine jv (fun _ => xY) ?_
 dsimp only [jg3,jE,jm,jo,jc,jn,jG,jK,ky,jF,je,jO,jt,jr,jb,ja,jd,jA,jf,j4,ji,jj,jk,jl,jJ,kg,jL,kq,rd,get,jy,jz,jh,jg,jB,jP,jx,jC,kj,jM,jN,jH,kp,qB,kT,jI,jQ,jD,jX,kd,ki,jw,bA,bO,bN,bE,kA,lend,kD,kw,kx,jZ,j7,kr,j9,zh,jT,jS,Nat.reduceBEq,Nat.reduceAdd]
 refine ⟨fun hc => ?_, fun _ => ?_⟩
 ·exfalso
  simp only [Bool.or_eq_true, Bool.not_eq_true', Bool.and_eq_false_iff, decide_eq_false_iff_not] at hc; omega
 refine kS _ _ (Xh (ik := .u32)) ?_
 dsimp only [jc,ja,jd,jA,jf,j4,ji,jj,jk,jl,ju,jL,kq,rd,get,jy,jz,jh,jg,jB,jP,jx,jC,jM,jN,jI,jD,jX,jw,bA,bN,kD,jT,jS,Nat.reduceBEq,Nat.reduceAdd]
 refine kS _ _ (kQ4 (vY tB tI (kv := []) rfl (by simp [zC]) 1 _)) ?_
 dsimp only [jc,jG,jF,je,jt,jr,jb,ja,jd,jA,jf,ji,jj,jk,jl,jJ,jL,kq,rd,get,jy,jz,jh,jg,jB,jP,jx,jC,kj,jM,jN,jH,kp,qB,kT,jI,jQ,kd,ki,jw,bA,bN,kA,lend,kw,kx,jZ,j7,kr,j9,zh,jN4,jT,jS,Nat.reduceBEq,Nat.reduceAdd]
 refine ⟨rfl, ?_, ?_⟩
 ·simp [put, kZ, jV, closed, bA]
 ·simp only [qO, QQ, put, List.range_succ, List.range_zero, List.nil_append, List.map_cons, List.map_nil]
  simp only [Jx, VG, xJ, kQ]
  rfl
theorem jw6 {kv : KV} (hne : kv ≠ []) (hc : jV (kZ kv) = true) : vT 118 [.agg [.mp (qI .u32 kv) (kZ kv)]] [] (.agg [.ownm 0 0]) [zf .u32 kv] := by
 refine Q6 (by rfl) ?_
 dsimp only [c_place_Place_twin,yY,jm,jo,jc,jn,jF,je,jt,jr,jb,ja,jd,jA,jf,jq,ji,jj,jk,jl,ju,jL,kq,rd,get,jy,jz,jh,jg,jB,jP,jx,jC,kj,kL,jI,jD,jX,jw,env0,bA,bN,jT,jS,o1,o0,Nat.reduceBEq,Nat.reduceAdd]
 refine kY [] (jw7 hne) rfl rfl ?_
 dsimp only [zf,jc,jG,jF,je,jt,jr,jb,ja,jd,jA,jf,ji,jj,jk,jl,jJ,jL,kq,rd,get,jy,jz,jh,jg,jB,jP,jx,jC,kj,jM,jN,jH,kp,qB,kT,jI,jQ,jD,kd,ki,jw,bA,bN,qX,qH,j7,kr,j9,kV,zp,kM,z6,kO,Je,Jd,jT,jS,Nat.reduceBEq,Nat.reduceAdd]
 rw [zD _ hc]
 refine Rt.pick [2] rfl ?_ rfl
 dsimp only [jI,jD,zp,kM,Ko,Nat.reduceAdd]
 rw [zD _ hc]
theorem XQ {n : Int} {d : D} (hd : closed d = true) : ∀ {kv : KV}, jV (kZ kv) = true -> jV (kZ (put kv n d)) = true
 | [], _ => by simp [put, kZ, jV, qw, hd]
 | p :: r, h => by
   simp only [kZ, List.map_cons, jV, qw] at h
   simp only [put]
   split
   ·simp only [kZ, List.map_cons, jV, qw]; exact ⟨hd, h.2⟩
   ·simp only [kZ, List.map_cons, jV, qw]; exact ⟨h.1, XQ hd h.2⟩
theorem XR {f : Nat -> D} (hf : ∀ k, closed (f k) = true) {n : Nat} : jV (kZ (QQ f n)) = true := by
 unfold QQ kZ
 rw [List.map_map]
 generalize List.range (n + 1) = l
 induction l with
 | nil => rfl
 | cons k l ih =>
   simp only [List.map_cons, jV, qw]
   exact ⟨hf k, ih⟩
theorem Qi (b : Bx) : closed (Jx b) = true := by simp [Jx, closed, jV, bA]
theorem KP {kv : KV} (hn : zC kv) (hne : kv ≠ []) (hc : jV (kZ kv) = true) {id : Int} (hid : j5 .u32 id) (h1 : id ≠ 1) (hck : JN id = 0) {b : Bx} (hbc : Xy b.x = true /\ Xy b.y = true) (hbs : jg3 b.w = true /\ jg3 b.h = true)
  (hbg : jl0 b.g = false /\ jl0 b.b = false) (hbp : b.s = true \/ reg b.p = []) (hlen : lk kv id = none -> kv.length < 64) (hl64 : kv.length <= 64) (hv : ∀ d, lk kv id = some d -> ∃ b', d = Jx b') :
  zA 54 [.agg [qO .u32 kv], .int .u32 id, Jx b] (.tup [.agg [qO .u32 (put kv id (Jx b))], .int .i64 0]) := by
 refine Vh (by rfl) ?_
 dsimp only [c_place_Place_Set,Jk,Jx,qO,jE,jm,jo,jc,jn,jG,jK,ky,jF,je,jO,jt,jr,jb,ja,jd,jA,jf,jq,ji,jj,jk,jl,ju,jJ,jL,kq,rd,get,jy,jz,jh,jg,jB,jP,jx,jC,kj,jM,jN,jH,kp,jI,jQ,jD,jX,kd,ki,jw,env0,bA,bN,kU,jR,kA,lend,ko,kw,kx,jZ,j7,kr,j9,zh,jT,jS,o1,o0,og,Nat.reduceBEq,Nat.reduceAdd]
 refine ⟨fun h => absurd (by simpa using h) h1, fun _ => ?_⟩
 refine jv (yO hid) ?_
 dsimp only [jE,jm,jo,jc,jn,jG,jK,ky,jF,je,jO,jt,jr,jb,ja,jd,jA,jf,j4,ji,jj,jk,jl,ju,jJ,jL,kq,rd,get,jy,jz,jh,jg,jB,jP,jx,jC,kL,jM,jN,jH,kp,jI,jQ,kd,ki,jw,bA,bN,kU,jR,kA,lend,kD,ko,kw,kx,jZ,j7,kr,j9,zh,jT,jS,Nat.reduceBEq,Nat.reduceAdd]
 rw [hck]
 refine ⟨fun h => absurd h (by simp), fun _ => ?_⟩
 have hlk : ∃ b0 o, (∀ bx, PrM Tryz.prog zM (.lkp 87 true) [.mp (qI .u32 kv) (kZ kv), .int .u32 id] bx (.tup [Jx b0, .bool o]) bx) /\ (o = false -> kv.length < 64) := by
  cases h : lk kv id with
  | none => exact ⟨_, false, fun _ => kH3 hn h, fun _ => hlen h⟩
  | some d =>
    obtain ⟨b', rfl⟩ := hv d h
    exact ⟨b', true, fun _ => jI6 hn h, nofun⟩
 obtain ⟨b0, o, hlk, ho⟩ := hlk
 refine kH _ (hlk _) ?_
 dsimp only [Jx,jm,jo,jc,jn,jU,jF,je,jt,jr,jb,ja,jd,jA,jf,jq,ji,jj,jk,jl,ju,jJ,jL,kq,rd,get,jy,jz,jh,jg,jB,jP,jx,jC,kL,jH,kp,jI,jQ,jD,jX,kd,ki,jw,bA,bN,jT,jS,Nat.reduceBEq,Nat.reduceAdd]
 refine jv Q8 ?_
 dsimp only [jc,ja,jd,jA,jf,jq,ji,jj,jk,jl,ju,jL,kq,rd,get,jy,jz,jh,jg,jB,jP,jx,jC,kL,jI,jw,bA,bO,bN,bE,jT,jS,Nat.reduceBEq,Nat.reduceAdd]
 refine jv (fun _ => Q8) ?_
 dsimp only [jm,jo,jc,jn,jG,jK,ky,jF,je,jO,kC,jt,jr,jb,ja,jd,jA,jf,jq,ji,jj,jk,jl,ju,jJ,kg,jL,kq,rd,get,jy,jz,jh,jg,jB,jP,jx,jC,kL,jM,jN,jH,kp,jI,jQ,kd,ki,jw,bA,bO,bN,bE,kA,lend,kw,kx,jZ,j7,kr,j9,zh,jT,jS,Nat.reduceBEq,Nat.reduceAdd]
 rw [hbc.1, hbc.2]
 refine ⟨fun h => absurd h (by simp), fun _ => ?_⟩
 refine jv xY ?_
 dsimp only [jc,ja,jd,jA,jf,jq,ji,jj,jk,jl,ju,jL,kq,rd,get,jy,jz,jh,jg,jB,jP,jx,jC,kL,jI,jw,bA,bO,bN,bE,jT,jS,Nat.reduceBEq,Nat.reduceAdd]
 refine jv (fun _ => xY) ?_
 dsimp only [jm,jo,jc,jn,jG,jK,ky,jF,je,jO,kC,jt,jr,jb,ja,jd,jA,jf,jq,ji,jj,jk,jl,ju,jJ,kg,jL,kq,rd,get,jy,jz,jh,jg,jB,jP,jx,jC,kL,jM,jN,jH,kp,jI,jQ,kd,ki,jw,bA,bO,bN,bE,kA,lend,kw,kx,jZ,j7,kr,j9,zh,jT,jS,Nat.reduceBEq,Nat.reduceAdd]
 rw [hbs.1, hbs.2]
 refine ⟨fun h => absurd h (by simp), fun _ => ?_⟩
 refine jv JW ?_
 dsimp only [jc,ja,jd,jA,jf,jq,ji,jj,jk,jl,ju,jL,kq,rd,get,jy,jz,jh,jg,jB,jP,jx,jC,kL,jI,jw,bA,bO,bN,bE,kU,jR,ko,jT,jS,Nat.reduceBEq,Nat.reduceAdd]
 refine jv (fun _ => JW) ?_
 dsimp only [jm,jo,jc,jn,jG,jK,ky,jF,je,jO,kC,jt,jr,jb,ja,jd,jA,jf,jq,ji,jj,jk,jl,ju,jJ,kg,jL,kq,rd,get,jy,jz,jh,jg,jB,jP,jx,jC,kL,jM,jN,jH,kp,jI,jQ,kd,ki,jw,bA,bO,bN,bE,kU,jR,kA,lend,ko,kw,kx,jZ,j7,kr,j9,zh,jT,jS,Nat.reduceBEq,Nat.reduceAdd]
 rw [hbg.1, hbg.2]
 refine ⟨fun h => absurd h (by simp), fun _ => ?_⟩
 refine jv (fun _ => Zb) ?_
 dsimp only [jm,jo,jc,jn,jG,jK,ky,jF,je,jO,kC,jt,jr,jb,ja,jd,jA,jf,j4,ji,jj,jk,jl,ju,jJ,kg,jL,kq,rd,get,jy,jz,jh,jg,jB,jP,jx,jC,kL,jM,jN,jH,kp,jI,jQ,kd,ki,jw,bA,bO,bN,bE,kA,lend,kD,kw,kx,jZ,j7,kr,j9,zh,jT,jS,Nat.reduceBEq,Nat.reduceAdd]
 refine ⟨fun h => ?_, fun _ => ?_⟩
 ·exfalso
  rcases hbp with h' | h'
  ·rw [h'] at h; simp at h
  ·rw [j8, h'] at h; simp at h
 refine kH _ (fun _ => jb8 tB) ?_
 dsimp only [jm,jo,jc,jn,jG,jK,ky,jF,je,jO,kC,jt,jr,jb,ja,jd,jA,jf,j4,ji,jj,jk,jl,ju,jJ,kg,jL,kq,rd,get,jy,jz,jh,jg,jB,jP,jx,jC,kL,jM,jN,jH,kp,jI,jQ,kd,ki,jw,bA,bO,bN,bE,kU,jR,kA,lend,kD,ko,kw,kx,jZ,j7,kr,j9,zh,jT,jS,Nat.reduceBEq,Nat.reduceAdd]
 refine ⟨fun h => ?_, fun _ => ?_⟩
 ·exfalso
  cases o
  ·have := ho rfl
   simp at h; omega
  ·simp at h
 refine kH _ (jb8 tB) ?_
 dsimp only [jE,jm,jo,jc,jn,jG,jK,ky,jF,je,jO,kC,jt,jr,jb,ja,jd,jA,jf,jq,ji,jj,jk,jl,ju,jJ,jL,kq,rd,get,jy,jz,jh,jg,jB,jP,jx,jC,jM,jN,jH,kp,jI,jQ,kd,ki,jw,bA,bN,kU,jR,kA,lend,ko,kw,kx,jZ,j7,kr,j9,zh,jT,jS,Nat.reduceBEq,Nat.reduceAdd]
 have hkl : kv.length ≠ 0 := fun h => hne (List.length_eq_zero_iff.1 h)
 refine ⟨fun h => ?_, fun _ => ?_⟩
 ·exfalso; simp at h; exact hne h
 refine kY [] (jw6 hne hc) rfl rfl ?_
 dsimp only [zf,jm,jo,jc,jn,jF,je,jt,jr,jb,ja,jd,jA,jf,j4,ji,jj,jk,jl,ju,jJ,jL,kq,rd,get,jy,jz,jh,jg,jB,jP,jx,jC,kL,jM,jN,jH,kp,jI,jQ,jD,jX,kd,ki,jw,bA,bN,kD,kV,qY,zp,kM,z6,kO,Je,Jd,jT,jS,Nat.reduceBEq,Nat.reduceAdd]
 rw [zD _ hc]
 refine kS _ _ (vY tB tI (kv := kv) rfl hn id _) ?_
 dsimp only [zf,jm,jo,jc,jn,jG,jF,je,jt,jr,jb,ja,jd,jA,jf,ji,jj,jk,jl,ju,jJ,jL,rd,get,jy,jz,jh,jg,jB,jP,jx,jC,jM,jN,jH,kp,jI,jQ,kd,ki,jw,bA,bN,kA,lend,kw,kx,jZ,j7,kr,j9,zh,jN4,jT,jS,Nat.reduceBEq,Nat.reduceAdd]
 exact ⟨rfl, XQ (Qi b) hc, rfl⟩
theorem yI {kv : KV} (hn : zC kv) {id : Int} {b : Bx} (h : lk kv id = some (Jx b)) : zA 52 [.agg [qO .u32 kv], .int .u32 id] (.tup [Jx b, .bool true]) := by
 refine Vi (by rfl) ?_
 dsimp only [c_place_Place_Box,Jl,Jx,qO,jm,jo,jc,jn,jF,je,jt,jr,jb,ja,jd,jA,jf,j4,ji,jj,jk,jl,ju,jL,kq,rd,get,jy,jz,jh,jg,jB,jP,jx,jC,kj,kL,jI,jD,jX,jw,env0,bA,bN,kD,jT,jS,o1,o0,Nat.reduceBEq,Nat.reduceAdd]
 refine kH _ (jI6 hn h) ?_
 dsimp only [Jx,jm,jo,jc,jn,jG,jF,je,jt,jr,jb,ja,jd,jA,jf,ji,jj,jk,jl,ju,jJ,jL,rd,get,jy,jz,jh,jg,jB,jP,jx,jC,kL,jM,jN,jH,kp,jI,jQ,jD,jX,kd,ki,jw,bA,bN,kA,lend,kw,kx,jZ,j7,kr,j9,zh,jT,jS,Nat.reduceBEq,Nat.reduceAdd]
def zN (b : Bx) : PS := if b.s = true then fun x y => b.p x y /\ Rc.has ⟨0, 0, b.w, b.h⟩ x y else fun x y => Rc.has ⟨0, 0, b.w, b.h⟩ x y
theorem KE {b : Bx} {x y : Int} (h : zN b x y) : (0 <= x /\ x < b.w) /\ 0 <= y /\ y < b.h := by
 unfold zN at h
 split at h
 ·have := h.2; unfold Rc.has at this; dsimp only at this; omega
 ·unfold Rc.has at h; dsimp only at h; omega
theorem JG {kv : KV} (hn : zC kv) {id : Int} {b : Bx} (h : lk kv id = some (Jx b)) (hw : 1 <= b.w /\ b.w <= 128) (hh : 1 <= b.h /\ b.h <= 128) (hp : XT b.p) (hl : (reg b.p).length <= 4096) :
  zA 39 [.agg [qO .u32 kv], .int .u32 id] (KS (zN b)) := by
 have vr : Vr ⟨0, 0, b.w, b.h⟩ := by unfold Vr; dsimp only; omega
 refine Q4 (by rfl) ?_
 dsimp only [c_place_Place_Area,yZ,qO,KS,jm,jo,jc,jn,jF,je,jt,jr,jb,ja,jd,jA,jf,j4,ji,jj,jk,jl,ju,jL,kq,rd,get,jy,jz,jh,jg,jB,jP,jx,jC,kj,kL,jI,jD,jX,jw,env0,bA,bN,kD,jT,jS,o1,o0,Nat.reduceBEq,Nat.reduceAdd]
 have hb := jI6 (bx := [.cells [.mp (qI .u32 kv) (kZ kv)], .cells [.ls 4 []]]) hn h
 refine kH _ hb ?_
 dsimp only [Jx,jE,jm,jo,jc,jn,jG,jK,ky,jF,je,jO,jt,jr,jb,ja,jd,jA,jf,jq,ji,jj,jk,jl,ju,jJ,jL,kq,rd,get,jy,jz,jh,jg,jB,jP,jx,jC,kj,kL,jM,jN,jH,kp,qB,kT,jI,jQ,jD,jX,kd,ki,jw,bA,bN,kA,lend,closed,jV,ql,kw,kx,jZ,j7,kr,j9,zh,jT,jS,Nat.reduceBEq,Nat.reduceAdd]
 refine ⟨nofun, fun _ => ?_⟩
 refine ⟨fun hs => ?_, fun hs => ?_⟩
 ·refine jv (km1 (c := ⟨0, 0, b.w, b.h⟩) hp vr (by omega)) ?_
  dsimp only [jc,jG,jF,je,jO,jt,jr,jb,ja,jd,jA,jf,ji,jj,jk,jl,jJ,jL,rd,get,jy,jz,jh,jg,jB,jP,jx,jC,jM,jN,jH,kp,jI,jQ,kd,ki,jw,bA,bN,kA,lend,kw,kx,jZ,j7,kr,j9,zh,jT,jS,Nat.reduceBEq,Nat.reduceAdd]
  rw [show zN b = fun x y => b.p x y /\ Rc.has ⟨0, 0, b.w, b.h⟩ x y from if_pos hs]
 ·refine jv (Z1 vr) ?_
  dsimp only [jc,jG,jF,je,jt,jr,jb,ja,jd,jA,jf,ji,jj,jk,jl,jJ,jL,rd,get,jy,jz,jh,jg,jB,jP,jx,jC,jM,jN,jH,kp,jI,jQ,kd,ki,jw,bA,bN,kA,lend,kw,kx,jZ,j7,kr,j9,zh,jT,jS,Nat.reduceBEq,Nat.reduceAdd]
  rw [show zN b = fun x y => Rc.has ⟨0, 0, b.w, b.h⟩ x y from if_neg (by simp [hs])]
end Go.AM
