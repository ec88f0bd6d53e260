import Derived.Test.YtoaialdcgmkbgaaGreatRCode
import Derived.Test.YtoaialdcgmkbgaaGreatRA32
import Derived.Test.YtoaialdcgmkbgaaGreatRK1
import Derived.Test.YtoaialdcgmkbgaaGreatRY1
import Derived.Test.YtoaialdcgmkbgaaGreatRQ1

set_option linter.all false
namespace Go.AM
open Go Go.Proofs
abbrev gD (w h : Nat) (f : Px) : D := .agg [.int .i64 w, .int .i64 h, .ls 1 (gl w h f)]
theorem kg1 {n : Int} : zA 73 [.int .i64 n] (.bool (decide (1 <= n) && decide (n <= 128))) := by
 refine jv9 (by rfl) ?_
 dsimp only [c_grid_side,jg9,jm,jo,jc,jn,jG,jF,je,jt,jr,jb,ja,jd,jA,jf,ji,jj,jk,jl,kg,jL,rd,get,jy,jz,jh,jg,jB,jP,jx,jw,env0,bA,bO,bN,bE,kU,jR,lend,ko,kw,kx,jZ,j7,kr,j9,jT,jS,o1,og,Nat.reduceBEq,Nat.reduceAdd]
theorem jz6 {n : Int} : zA 74 [.int .i64 n] (.bool (decide (-1048576 <= n) && decide (n <= 1048576))) := by
 refine jn4 (by rfl) ?_
 dsimp only [c_grid_coord,Yr,jm,jo,jc,jn,jG,jF,je,jt,jr,jb,ja,jd,jA,jf,ji,jj,jk,jl,kg,jL,rd,get,jy,jz,jh,jg,jB,jP,jx,jw,env0,bA,bO,bN,bE,kU,jR,lend,ko,kw,kx,jZ,j7,kr,j9,jT,jS,o1,og,Nat.reduceBEq,Nat.reduceAdd]
theorem jG0 {w h : Int} {d : D} {x y : Int} (hd : kj d = true := by rfl) (hc : closed d = true := by rfl) : zA 75 [.agg [.int .i64 w, .int .i64 h, d], .int .i64 x, .int .i64 y] (.bool (decide (0 <= x) && decide (x < w) && decide (0 <= y) && decide (y < h))) := by
 refine X6 (by rfl) ?_
 dsimp only [c_grid_Grid_has,Qu,jm,jo,jc,jn,jG,jF,je,jt,jr,jb,ja,jd,jA,jf,ji,jj,jk,jl,ju,kg,jL,rd,get,jy,jz,jh,jg,jB,jP,jx,jC,kj,kL,jI,jD,jX,jw,env0,bA,bO,bN,bE,kU,jR,lend,ko,kw,kx,jZ,j7,kr,j9,jT,jS,o1,og,Nat.reduceBEq,Nat.reduceAdd]
theorem jK9 {w h : Nat} {x y : Int} : (decide (0 <= x) && decide (x < (w : Int)) && decide (0 <= y) && decide (y < (h : Int))) = true ↔ vL w h x y := by
 simp only [Bool.and_eq_true, decide_eq_true_eq, vL]; constructor <;> (intro h; omega)
theorem jK8 {w h : Nat} {x y : Int} (hp : vL w h x y) : (decide (0 <= x) && decide (x < (w : Int)) && decide (0 <= y) && decide (y < (h : Int))) = true := jK9.2 hp
theorem kU0 {w h : Nat} {x y : Int} (hp : ¬ vL w h x y) : (decide (0 <= x) && decide (x < (w : Int)) && decide (0 <= y) && decide (y < (h : Int))) = false := by
 cases hb : (decide (0 <= x) && decide (x < (w : Int)) && decide (0 <= y) && decide (y < (h : Int))) with
 | false => rfl
 | true => exact absurd (jK9.1 hb) hp
theorem Z0 {w h : Nat} {f : Px} : zA 10 [gD w h f] (.tup [.int .i64 w, .int .i64 h]) := by
 refine V7 (by rfl) ?_
 dsimp only [c_grid_Grid_Size,Kb,jm,jo,jc,jn,jG,jF,je,jt,jr,jb,ja,jd,jA,jf,ji,jj,jk,jl,ju,jL,rd,get,jy,jz,jh,jg,jB,jP,jx,jC,kj,kL,jI,jD,jX,jw,env0,bA,bN,kA,lend,kw,kx,jZ,j7,kr,j9,zh,jT,jS,o1,Nat.reduceBEq,Nat.reduceAdd]
theorem zY {w h : Nat} (hw : w <= 128) (hh : h <= 128) : w * h <= 16384 := by
 have := Nat.mul_le_mul hw hh
 omega
theorem jP5 {w h : Nat} {f : Px} {x y : Int} (hw : w <= 128) (hh : h <= 128) (hp : vL w h x y) : zA 46 [gD w h f, .int .i64 x, .int .i64 y] (.int .u8 (f x y)) := by
 refine JU (by rfl) ?_
 dsimp only [c_grid_Grid_At,y5,jm,jo,jc,jn,jF,je,jt,jr,jb,ja,jd,jA,jf,jq,ji,jj,jk,jl,ju,jL,kq,rd,get,jy,jz,jh,jg,jB,jP,jx,jC,kj,jM,jN,jI,jD,jX,jw,env0,bA,bN,jT,jS,o1,Nat.reduceBEq,Nat.reduceAdd]
 refine jv (jG0) ?_
 dsimp only [jE,jm,jo,jc,jn,jG,jK,ky,jF,je,jO,jt,jr,jb,ja,jd,jA,jf,ku,ji,jj,jk,jl,ju,j6,jL,rd,get,jy,jz,jh,jg,jB,jP,km,jx,jC,kL,jI,jw,bA,bN,kU,jR,lend,ko,kw,kx,jZ,j7,kr,j9,jT,jS,Nat.reduceBEq,Nat.reduceAdd]
 rw [jK8 hp]
 obtain ⟨h1, h2, h3, h4⟩ := jm1 hp
 have hm := zY hw hh
 refine ⟨fun h => absurd h (by simp), fun _ => ?_⟩
 refine ⟨by simp only [j5]; omega, by simp only [j5]; omega, ⟨rfl, h1, by rw [yr]; exact h2⟩, kh _ _ (jL2 hp) rfl ?_⟩
 dsimp only [jc,jG,jF,je,jt,jr,jb,ja,jd,jA,jf,ji,jj,jk,jl,jL,rd,get,jy,jz,jh,jg,jB,jP,jx,jw,bA,bN,lend,kw,kx,jZ,j7,kr,j9,jT,jS,Nat.reduceBEq]
theorem jG3 {w h : Nat} {f : Px} (hw : w <= 128) (hh : h <= 128) : vT 78 [gD w h f] [] (.agg [.int .i64 w, .int .i64 h, .own 0 1]) [.arr 51 1 1 (gl w h f)] := by
 have hm := zY hw hh
 refine Xa (by rfl) ?_
 dsimp only [c_grid_Grid_twin,Ka,jm,jo,jc,jn,jG,jF,je,jt,jr,jb,ja,jd,jA,jf,ji,jj,jk,jl,ju,jJ,kz,xX,jL,kq,rd,get,jy,jz,jh,jg,jB,jP,km,jx,jC,kj,kL,jM,jN,jH,kp,qB,kT,jI,jQ,jD,jX,kd,ki,jw,env0,bA,bN,ji2,qX,qH,j7,kr,j9,jT,jS,o1,o0,Nat.reduceBEq,Nat.reduceAdd,Nat.beq]
 rw [yr]
 refine ⟨⟨by omega, by omega, by omega⟩, ⟨rfl, rfl, rfl, rfl⟩, ?_⟩
 have hov : over (List.replicate ((w * h : Nat) : Int).toNat (.int .u8 0)) (gl w h f) = gl w h f := by
  unfold over
  rw [Int.toNat_natCast, List.length_replicate, List.take_of_length_le (by rw [yr]; omega), List.drop_eq_nil_of_le (by rw [List.length_replicate, yr]; unfold vg; split <;> omega), List.append_nil]
 rw [hov]
 exact Rt.pick [2] rfl rfl rfl

def ZF (n i : Nat) (v : Int) : List D := List.replicate i (.int .u8 v) ++ List.replicate (n - i) (.int .u8 0)
theorem kp2 {n i : Nat} {v : Int} (h : i <= n) : (ZF n i v).length = n := by simp [ZF]; omega
theorem kp3 {n i : Nat} {v : Int} (h : i < n) : (ZF n i v)[i]? = some (.int .u8 0) := by
 unfold ZF
 rw [List.getElem?_append_right (by simp), List.length_replicate, Nat.sub_self, List.getElem?_replicate, if_pos (by omega)]
theorem kp1 {n i : Nat} {v : Int} (h : i < n) : (ZF n i v).set i (.int .u8 v) = ZF n (i + 1) v := by
 unfold ZF
 rw [List.set_append_right _ _ (by simp)]
 rw [show n - i = (n - (i + 1)) + 1 by omega, List.replicate_succ, List.length_replicate, Nat.sub_self, List.set_cons_zero, List.replicate_succ', List.append_assoc]
 rfl
theorem jJ1 (w h : Nat) : ((w : Int) * (h : Int)) = ((w * h : Nat) : Int) := by simp
theorem jo6 {w h : Nat} {v : Int} (hw : 1 <= w /\ w <= 128) (hh : 1 <= h /\ h <= 128) : zA 27 [.int .i64 w, .int .i64 h, .int .u8 v] (.tup [gD w h fun _ _ => v, .int .i64 0]) := by
 have hm := zY hw.2 hh.2
 refine jF5 (by rfl) ?_
 dsimp only [c_grid_New,jq1,jm,jo,jc,jn,jF,je,jt,jr,jb,ja,jd,jA,jf,jq,ji,jj,jk,jl,jL,kq,rd,get,jy,jz,jh,jg,jB,jP,jx,jD,jX,jw,env0,bA,bN,jT,jS,o1,o0,og,Nat.reduceBEq,Nat.reduceAdd]
 refine jv kg1 ?_
 dsimp only [jc,ja,jd,jA,jf,jq,ji,jj,jk,jl,jL,kq,rd,get,jy,jz,jh,jg,jB,jP,jx,jw,bA,bO,bN,bE,jT,jS,Nat.reduceBEq]
 refine jv (fun _ => kg1) ?_
 dsimp only [jE,jm,jo,jc,jn,jU,jG,jK,ky,jF,je,jO,jt,jr,jb,ja,jd,jA,jf,ji,jj,jk,jl,jJ,kz,kg,jL,kq,rd,get,jy,jz,jh,jg,jB,jP,km,jx,jC,jM,jN,jH,kp,qB,kT,jI,jQ,jD,jX,kd,ki,jw,bA,bO,bN,bE,kU,jR,kA,lend,ji2,ko,kw,kx,jZ,j7,kr,j9,zh,jT,jS,Nat.reduceBEq,Nat.reduceAdd]
 refine ⟨fun hc => ?_, fun _ => ?_⟩
 ·simp only [Bool.or_eq_true, Bool.not_eq_true', Bool.and_eq_false_iff, decide_eq_false_iff_not] at hc; omega
 rw [jJ1]
 refine ⟨by simp only [j5]; omega, ⟨by omega, by omega, by omega⟩, rfl, ?_⟩
 rw [List.length_replicate]
 refine kE (α := {i : Nat // i <= w * h})
  (fun i => ⟨[(0, [], .int .i64 w), (1, [], .int .i64 h), (2, [], .int .u8 v), (6, [], .box 0 0), (8, [], .own 1 1), (24, [], .int .i64 ((w * h : Nat) : Int)), (25, [], .int .i64 i.1)], [.cells [.int .i64 0, .int .i64 0, .ls 1 []], .arr 51 1 1 (ZF (w * h) i.1 v)]⟩)
  (fun i => w * h - i.1) ?_ ⟨0, Nat.zero_le _⟩ (by simp [ZF]; exact ⟨by omega, by rw [jJ1, Int.toNat_natCast]⟩)
 rintro ⟨i, hi⟩ I ih
 dsimp only at hi |-
 dsimp only [jE,jm,jo,jc,jn,jU,kt,jG,jK,ky,jF,je,j1,j3,kC,jt,jr,jb,ja,jd,jA,jf,vB,ji,jj,jk,jl,jJ,j6,jL,kq,rd,get,jy,jz,jh,jg,jB,jP,km,jx,jC,kj,jM,jN,jH,kp,qB,kT,jI,jQ,kd,ki,jw,bA,bN,kU,jR,kA,lend,closed,ko,kw,kx,jZ,j7,kr,j9,zh,jN4,jT,jS,Nat.reduceBEq,Nat.reduceAdd]
 refine ⟨fun hlt => ?_, fun hge => ?_⟩
 ·have hil : i < w * h := by simp only [decide_eq_true_eq] at hlt; omega
  refine ⟨⟨rfl, rfl, by omega, by rw [kp2 hi]; omega⟩, ⟨rfl, rfl⟩, qR (hs := []) _ _ (by rw [Int.toNat_natCast]; exact kp3 hil) rfl ?_⟩
  dsimp only [jm,jo,jc,jF,je,j0,kC,jt,jr,jb,ja,jd,jA,jf,ji,jj,jk,jl,jL,rd,get,jy,jz,jh,jg,jB,jP,km,jx,jw,bA,bN,kU,jR,ko,jT,jS,Nat.reduceBEq]
  rw [Int.toNat_natCast, kp1 hil]
  exact ⟨by simp only [j5]; omega, kW (ih ⟨i + 1, hil⟩ (by dsimp only; omega)) ⟨rfl, rfl, rfl, rfl, rfl, rfl, by simp [get], trivial⟩ ⟨rfl, rfl, trivial⟩ rfl rfl⟩
 ·have hil : i = w * h := by simp only [decide_eq_false_iff_not] at hge; omega
  subst hil
  have : ZF (w * h) (w * h) v = gl w h fun _ _ => v := by rw [<- kz6]; simp [ZF]
  rw [this]
  exact ⟨rfl, rfl⟩
theorem kP1 {w h : Nat} {f : Px} {x y v : Int} (hw : w <= 128) (hh : h <= 128) (hp : vL w h x y) : zA 56 [gD w h f, .int .i64 x, .int .i64 y, .int .u8 v] (gD w h (jE9 f x y v)) := by
 have hm := zY hw hh
 obtain ⟨h1, h2, h3, h4⟩ := jm1 hp
 refine X7 (by rfl) ?_
 dsimp only [c_grid_Grid_Set,Qv,jm,jo,jc,jn,jF,je,jt,jr,jb,ja,jd,jA,jf,jq,ji,jj,jk,jl,ju,jL,kq,rd,get,jy,jz,jh,jg,jB,jP,jx,jC,kj,jM,jN,jI,jD,jX,jw,env0,bA,bN,jT,jS,o1,o0,Nat.reduceBEq,Nat.reduceAdd]
 refine jv jG0 ?_
 dsimp only [jE,jm,jo,jc,jn,jG,jK,ky,jF,je,jO,jt,jr,jb,ja,jd,jA,jf,jq,ji,jj,jk,jl,ju,jJ,jL,kq,rd,get,jy,jz,jh,jg,jB,jP,jx,jC,jM,jN,jH,kp,jI,jQ,kd,ki,jw,bA,bN,kA,lend,kw,kx,jZ,j7,kr,j9,zh,jT,jS,Nat.reduceBEq,Nat.reduceAdd]
 rw [jK8 hp]
 refine ⟨fun h => absurd h (by simp), fun _ => ?_⟩
 refine kY [] (jG3 hw hh) rfl rfl ?_
 dsimp only [jm,jo,jc,jn,jF,je,jt,jr,jb,ja,jd,jA,jf,vB,ji,jj,jk,jl,ju,jJ,j6,jL,rd,get,jy,jz,jh,jg,jB,jP,km,jx,jC,kj,kL,jH,kp,jI,jQ,jD,jX,kd,ki,jw,bA,bN,kU,jR,closed,ko,kV,qY,zp,kM,z6,kO,Je,Jd,jT,jS,Nat.reduceBEq,Nat.reduceAdd]
 refine ⟨by simp only [j5]; omega, by simp only [j5]; omega, ⟨rfl, rfl, h1, by rw [yr]; exact h2⟩, ⟨rfl, rfl⟩, qR (hs := []) _ _ (jL2 hp) rfl ?_⟩
 dsimp only [jm,jo,jc,jn,jG,jF,je,jt,jr,jb,ja,jd,jA,jf,ji,jj,jk,jl,ju,jJ,jL,rd,get,jy,jz,jh,jg,jB,jP,jx,jC,jM,jN,jH,kp,jI,jQ,kd,ki,jw,bA,bN,kA,lend,kw,kx,jZ,j7,kr,j9,zh,jN4,jT,jS,Nat.reduceBEq,Nat.reduceAdd]
 rw [kd2 hp]
 exact ⟨rfl, rfl⟩

theorem Yy {Q : Int -> Int -> Prop} {s f : Px} {x y : Int} (h : Q x y) : jv4 Q s f x y = s x y := by unfold jv4; rw [if_pos h]
theorem Yz {Q : Int -> Int -> Prop} {s f : Px} {x y : Int} (h : ¬ Q x y) : jv4 Q s f x y = f x y := by unfold jv4; rw [if_neg h]

theorem km6 {w h : Nat} {l : List Rc} {F : Nat} {R : (Int -> Int -> Prop) -> List D} {p : Int} (hw : w <= 128) (hh : h <= 128) (hv : ∀ r ∈ l, Vr r) (hl : l.length <= 1048576)
  (hcb : ∀ (Q : Int -> Int -> Prop) (y a b : Int), 0 <= y /\ y < h -> 0 <= a /\ a < b /\ b <= w -> vT F [.int .i64 y, .int .i64 a, .int .i64 b, .box 0 0, .box 2 0] [.cells [.int .u8 p], .arr 51 1 1 (R Q), .cells [.int .i64 w, .int .i64 h, .own 1 1]] (.tup []) [.cells [.int .u8 p], .arr 51 1 1 (R (fun X Y => Q X Y \/ (Y = y /\ a <= X /\ X < b))), .cells [.int .i64 w, .int .i64 h, .own 1 1]]) :
  vT 79 [.agg [.int .i64 w, .int .i64 h, .own 1 1], .agg [.ls 4 (kJ l)], .fn F [.box 0 0, .box 2 0]] [.cells [.int .u8 p], .arr 51 1 1 (R (fun _ _ => False)), .cells [.int .i64 w, .int .i64 h, .own 1 1]] (.tup []) [.cells [.int .u8 p], .arr 51 1 1 (R (fun X Y => qL l X Y /\ vL w h X Y)), .cells [.int .i64 w, .int .i64 h, .own 1 1]] := by
 refine yx (by rfl) ?_
 dsimp only [c_grid_Grid_spans,xo,jE,jm,jo,jc,jn,jF,je,jt,jr,jb,ja,jd,jA,jf,jq,ji,jj,jk,jl,ju,jL,kq,rd,get,jy,jz,jh,jg,jB,jP,jx,jC,kj,jM,jN,jI,jD,jX,jw,env0,bA,bN,jT,jS,o1,o0,Nat.reduceBEq,Nat.reduceAdd]
 refine jv (JY (l := kJ l) (by rw [j8]; omega)) ?_
 dsimp only [jc,jU,jF,je,jt,jr,jb,ja,jd,jA,jf,ji,jj,jk,jl,kz,jL,rd,get,jy,jz,jh,jg,jB,jP,jx,jw,bA,bN,jT,jS,Nat.reduceBEq]
 rw [j8]
 have e0 : (fun _ _ => False : Int -> Int -> Prop) = fun X Y => qL (l.take 0) X Y /\ vL w h X Y := zz fun x y => by simp [qL]
 rw [e0]
 refine kE (α := {i : Nat // i <= l.length})
  (fun i => ⟨[(2, [], .fn F [.box 0 0, .box 2 0]), (3, [], .box 3 0), (12, [], .ls 4 (kJ l)), (13, [], .int .i64 l.length), (14, [], .int .i64 i.1)],
    [.cells [.int .u8 p], .arr 51 1 1 (R (fun X Y => qL (l.take i.1) X Y /\ vL w h X Y)), .cells [.int .i64 w, .int .i64 h, .own 1 1], .cells [.int .i64 w, .int .i64 h, .own 1 1], .cells [.ls 4 (kJ l)]]⟩)
  (fun i => l.length - i.1) ?_ ⟨0, Nat.zero_le _⟩ rfl
 rintro ⟨i, hi⟩ I ih
 dsimp only at hi |-
 dsimp only [jE,jm,jo,jc,jn,jU,kt,jK,ky,jF,je,j1,j3,kC,jt,jr,jb,ja,jd,jA,jf,ku,ji,jj,jk,jl,ju,j6,jL,rd,get,jy,jz,jh,jg,jB,jP,km,jx,jC,jw,bA,bN,kU,jR,ko,qX,qH,j7,j9,jT,jS,Nat.reduceBEq]
 refine ⟨fun hlt => ?_, fun hge => ?_⟩
 ·have hil : i < l.length := by simpa using hlt
  obtain ⟨r, hr⟩ : ∃ r, l[i]? = some r := ⟨_, List.getElem?_eq_getElem hil⟩
  have hV := hv r (List.mem_of_getElem? hr)
  unfold Vr at hV
  have htk : ∀ X Y, qL (l.take (i + 1)) X Y ↔ qL (l.take i) X Y \/ r.has X Y := fun X Y => by rw [List.take_add_one, hr, Option.toList, kP9, ptsO]
  have hnext : ∀ Q : Int -> Int -> Prop, (∀ X Y, Q X Y ↔ qL (l.take (i + 1)) X Y /\ vL w h X Y) -> Yi 3 I ⟨[(2, [], .fn F [.box 0 0, .box 2 0]), (3, [], .box 3 0), (12, [], .ls 4 (kJ l)), (13, [], .int .i64 l.length), (14, [], .int .i64 ((i : Int) + 1))], [.cells [.int .u8 p], .arr 51 1 1 (R Q), .cells [.int .i64 w, .int .i64 h, .own 1 1], .cells [.int .i64 w, .int .i64 h, .own 1 1], .cells [.ls 4 (kJ l)], .cells [.int .i64 r.x, .int .i64 r.y, .int .i64 r.w, .int .i64 r.h]]⟩ := fun Q hQ => by
   rw [zz hQ]
   exact kW (ih ⟨i + 1, hil⟩ (by dsimp only; omega)) ⟨rfl, rfl, rfl, rfl, by simp [get], trivial⟩ ⟨rfl, rfl, rfl, rfl, rfl, trivial⟩ rfl rfl
  refine ⟨⟨rfl, by omega, by rw [j8]; omega⟩, kh (rD r) (rD r) (qZ (by simpa using hr)) rfl ?_⟩
  dsimp only [rD,jE,jm,jo,jc,jn,jU,kt,jK,ky,jF,je,j1,j0,j3,kC,jt,jr,jb,ja,jd,jA,jf,ji,jj,jk,jl,ju,jJ,jL,rd,get,jy,jz,jh,jg,jB,jP,km,jx,jC,kL,jH,kp,jI,jQ,jD,jX,kd,ki,jw,bA,bN,kU,jR,ko,qX,qH,j7,j9,jT,jS,Nat.reduceBEq,Nat.reduceAdd]
  refine ⟨by simp only [j5]; omega, fun hge => ⟨by simp only [j5]; omega, hnext _ fun X Y => ?_⟩, fun hlt => ?_⟩
  ·simp only [decide_eq_true_eq] at hge
   rw [htk]; unfold Rc.has vL
   constructor
   ·rintro ⟨h1, h2⟩; exact ⟨.inl h1, h2⟩
   ·rintro ⟨h1 | h1, h2⟩
    ·exact ⟨h1, h2⟩
    ·omega
  have hab : max r.x 0 < min (r.x + r.w) w := by simp only [decide_eq_false_iff_not] at hlt; omega
  have e1 : (fun X Y => qL (l.take i) X Y /\ vL w h X Y) = fun X Y => (qL (l.take i) X Y \/ (r.has X Y /\ Y < max r.y 0)) /\ vL w h X Y := zz fun X Y => by
   unfold Rc.has vL
   constructor
   ·rintro ⟨h1, h2⟩; exact ⟨.inl h1, h2⟩
   ·rintro ⟨h1 | h1, h2⟩
    ·exact ⟨h1, h2⟩
    ·omega
  rw [e1]
  refine kE (α := {y : Int // max r.y 0 <= y})
   (fun y => ⟨[(2, [], .fn F [.box 0 0, .box 2 0]), (3, [], .box 3 0), (7, [], .box 5 0), (8, [], .int .i64 (max r.x 0)), (9, [], .int .i64 (min (r.x + r.w) w)), (10, [], .int .i64 y.1), (12, [], .ls 4 (kJ l)), (13, [], .int .i64 l.length), (14, [], .int .i64 i)],
     [.cells [.int .u8 p], .arr 51 1 1 (R (fun X Y => (qL (l.take i) X Y \/ (r.has X Y /\ Y < y.1)) /\ vL w h X Y)), .cells [.int .i64 w, .int .i64 h, .own 1 1], .cells [.int .i64 w, .int .i64 h, .own 1 1], .cells [.ls 4 (kJ l)], .cells [.int .i64 r.x, .int .i64 r.y, .int .i64 r.w, .int .i64 r.h]]⟩)
   (fun y => (r.y + r.h - y.1).toNat) ?_ ⟨max r.y 0, Int.le_refl _⟩ rfl
  rintro ⟨y, hy⟩ I2 ih2
  dsimp only at hy |-
  dsimp only [jE,jm,jo,jc,jn,jU,kt,jK,ky,jF,je,j1,j0,j3,kC,jt,jr,jb,ja,jd,jA,jf,jq,ji,jj,jk,jl,ju,jL,kq,rd,get,jy,jz,jh,jg,jB,jP,km,jx,jC,kL,jI,jw,bA,bN,kU,jR,ko,qX,qH,j7,j9,Je,Jd,jT,jS,Nat.reduceBEq,Nat.reduceAdd]
  refine ⟨by simp only [j5]; omega, fun hlt => ⟨fun hge => ⟨by simp only [j5]; omega, hnext _ fun X Y => ?_⟩, fun hlt2 => ?_⟩, fun hge => ⟨by simp only [j5]; omega, hnext _ fun X Y => ?_⟩⟩
  ·simp only [decide_eq_true_eq] at hge
   rw [htk]; unfold Rc.has vL
   constructor
   ·rintro ⟨h1 | h1, h2⟩
    ·exact ⟨.inl h1, h2⟩
    ·exact ⟨.inr h1.1, h2⟩
   ·rintro ⟨h1 | h1, h2⟩
    ·exact ⟨.inl h1, h2⟩
    ·exact ⟨.inr ⟨h1, by omega⟩, h2⟩
  ·simp only [decide_eq_true_eq, decide_eq_false_iff_not] at hlt hlt2
   refine kY [0, 1, 2] (hcb _ y _ _ ⟨by omega, by omega⟩ ⟨by omega, hab, by omega⟩) rfl rfl ?_
   dsimp only [jm,jo,jc,jF,je,j0,kC,jt,jr,jb,ja,jd,jA,jf,ji,jj,jk,jl,jL,rd,get,jy,jz,jh,jg,jB,jP,km,jx,jQ,jD,jw,bA,bN,kU,jR,ko,kV,qY,zp,kM,z6,kO,Je,Jd,jT,jS,Nat.reduceBEq,Nat.reduceAdd]
   refine ⟨by simp only [j5]; omega, ?_⟩
   have e2 : (fun X Y => ((qL (l.take i) X Y \/ (r.has X Y /\ Y < y)) /\ vL w h X Y) \/ (Y = y /\ max r.x 0 <= X /\ X < min (r.x + r.w) w)) = fun X Y => (qL (l.take i) X Y \/ (r.has X Y /\ Y < y + 1)) /\ vL w h X Y := zz fun X Y => by
    unfold Rc.has vL
    constructor
    ·rintro (⟨h1 | h1, h2⟩ | h1)
     ·exact ⟨.inl h1, h2⟩
     ·exact ⟨.inr ⟨h1.1, by omega⟩, h2⟩
     ·exact ⟨.inr ⟨by omega, by omega⟩, by omega⟩
    ·rintro ⟨h1 | h1, h2⟩
     ·exact .inl ⟨.inl h1, h2⟩
     ·by_cases hY : Y = y
      ·exact .inr ⟨hY, by omega⟩
      ·exact .inl ⟨.inr ⟨h1.1, by omega⟩, h2⟩
   rw [e2]
   exact kW (ih2 ⟨y + 1, by omega⟩ (by dsimp only; omega)) ⟨rfl, rfl, rfl, rfl, rfl, by simp [get], rfl, rfl, rfl, trivial⟩ ⟨rfl, rfl, rfl, rfl, rfl, rfl, trivial⟩ rfl rfl
  ·simp only [decide_eq_false_iff_not] at hge
   rw [htk]; unfold Rc.has vL
   constructor
   ·rintro ⟨h1 | h1, h2⟩
    ·exact ⟨.inl h1, h2⟩
    ·exact ⟨.inr h1.1, h2⟩
   ·rintro ⟨h1 | h1, h2⟩
    ·exact ⟨.inl h1, h2⟩
    ·exact ⟨.inr ⟨h1, by omega⟩, h2⟩
 ·have hil : i = l.length := by have : ¬ i < l.length := by simpa using hge
                                omega
  subst hil
  rw [List.take_length]
  exact Rt.cut (Nat.le_refl _) (vV [.cells [.int .u8 p], .arr 51 1 1 (R (fun X Y => qL l X Y /\ vL w h X Y)), .cells [.int .i64 w, .int .i64 h, .own 1 1]] _) rfl rfl
theorem km5 {w h : Nat} {l : List Rc} {F : Nat} {R : (Int -> Int -> Prop) -> List D} {w2 h2 x0 y0 : Int} {pix : List D} (hw : w <= 128) (hh : h <= 128) (hv : ∀ r ∈ l, Vr r) (hl : l.length <= 1048576)
  (hcb : ∀ (Q : Int -> Int -> Prop) (y a b : Int), 0 <= y /\ y < h -> 0 <= a /\ a < b /\ b <= w -> vT F [.int .i64 y, .int .i64 a, .int .i64 b, .box 0 0, .box 1 0, .box 2 0, .box 4 0] [.cells [.int .i64 w2, .int .i64 h2, .ls 1 pix], .cells [.int .i64 x0], .cells [.int .i64 y0], .arr 51 1 1 (R Q), .cells [.int .i64 w, .int .i64 h, .own 3 1]] (.tup []) [.cells [.int .i64 w2, .int .i64 h2, .ls 1 pix], .cells [.int .i64 x0], .cells [.int .i64 y0], .arr 51 1 1 (R (fun X Y => Q X Y \/ (Y = y /\ a <= X /\ X < b))), .cells [.int .i64 w, .int .i64 h, .own 3 1]]) :
  vT 79 [.agg [.int .i64 w, .int .i64 h, .own 3 1], .agg [.ls 4 (kJ l)], .fn F [.box 0 0, .box 1 0, .box 2 0, .box 4 0]] [.cells [.int .i64 w2, .int .i64 h2, .ls 1 pix], .cells [.int .i64 x0], .cells [.int .i64 y0], .arr 51 1 1 (R (fun _ _ => False)), .cells [.int .i64 w, .int .i64 h, .own 3 1]] (.tup []) [.cells [.int .i64 w2, .int .i64 h2, .ls 1 pix], .cells [.int .i64 x0], .cells [.int .i64 y0], .arr 51 1 1 (R (fun X Y => qL l X Y /\ vL w h X Y)), .cells [.int .i64 w, .int .i64 h, .own 3 1]] := by
 refine yx (by rfl) ?_
 dsimp only [c_grid_Grid_spans,xo,jE,jm,jo,jc,jn,jF,je,jt,jr,jb,ja,jd,jA,jf,jq,ji,jj,jk,jl,ju,jL,kq,rd,get,jy,jz,jh,jg,jB,jP,jx,jC,kj,jM,jN,jI,jD,jX,jw,env0,bA,bN,jT,jS,o1,o0,Nat.reduceBEq,Nat.reduceAdd]
 refine jv (JY (l := kJ l) (by rw [j8]; omega)) ?_
 dsimp only [jc,jU,jF,je,jt,jr,jb,ja,jd,jA,jf,ji,jj,jk,jl,kz,jL,rd,get,jy,jz,jh,jg,jB,jP,jx,jw,bA,bN,jT,jS,Nat.reduceBEq]
 rw [j8]
 have e0 : (fun _ _ => False : Int -> Int -> Prop) = fun X Y => qL (l.take 0) X Y /\ vL w h X Y := zz fun x y => by simp [qL]
 rw [e0]
 refine kE (α := {i : Nat // i <= l.length})
  (fun i => ⟨[(2, [], .fn F [.box 0 0, .box 1 0, .box 2 0, .box 4 0]), (3, [], .box 5 0), (12, [], .ls 4 (kJ l)), (13, [], .int .i64 l.length), (14, [], .int .i64 i.1)],
    [.cells [.int .i64 w2, .int .i64 h2, .ls 1 pix], .cells [.int .i64 x0], .cells [.int .i64 y0], .arr 51 1 1 (R (fun X Y => qL (l.take i.1) X Y /\ vL w h X Y)), .cells [.int .i64 w, .int .i64 h, .own 3 1], .cells [.int .i64 w, .int .i64 h, .own 3 1], .cells [.ls 4 (kJ l)]]⟩)
  (fun i => l.length - i.1) ?_ ⟨0, Nat.zero_le _⟩ rfl
 rintro ⟨i, hi⟩ I ih
 dsimp only at hi |-
 dsimp only [jE,jm,jo,jc,jn,jU,kt,jK,ky,jF,je,j1,j3,kC,jt,jr,jb,ja,jd,jA,jf,ku,ji,jj,jk,jl,ju,j6,jL,rd,get,jy,jz,jh,jg,jB,jP,km,jx,jC,jw,bA,bN,kU,jR,ko,qX,qH,j7,j9,jT,jS,Nat.reduceBEq]
 refine ⟨fun hlt => ?_, fun hge => ?_⟩
 ·have hil : i < l.length := by simpa using hlt
  obtain ⟨r, hr⟩ : ∃ r, l[i]? = some r := ⟨_, List.getElem?_eq_getElem hil⟩
  have hV := hv r (List.mem_of_getElem? hr)
  unfold Vr at hV
  have htk : ∀ X Y, qL (l.take (i + 1)) X Y ↔ qL (l.take i) X Y \/ r.has X Y := fun X Y => by rw [List.take_add_one, hr, Option.toList, kP9, ptsO]
  have hnext : ∀ Q : Int -> Int -> Prop, (∀ X Y, Q X Y ↔ qL (l.take (i + 1)) X Y /\ vL w h X Y) -> Yi 5 I ⟨[(2, [], .fn F [.box 0 0, .box 1 0, .box 2 0, .box 4 0]), (3, [], .box 5 0), (12, [], .ls 4 (kJ l)), (13, [], .int .i64 l.length), (14, [], .int .i64 ((i : Int) + 1))], [.cells [.int .i64 w2, .int .i64 h2, .ls 1 pix], .cells [.int .i64 x0], .cells [.int .i64 y0], .arr 51 1 1 (R Q), .cells [.int .i64 w, .int .i64 h, .own 3 1], .cells [.int .i64 w, .int .i64 h, .own 3 1], .cells [.ls 4 (kJ l)], .cells [.int .i64 r.x, .int .i64 r.y, .int .i64 r.w, .int .i64 r.h]]⟩ := fun Q hQ => by
   rw [zz hQ]
   exact kW (ih ⟨i + 1, hil⟩ (by dsimp only; omega)) ⟨rfl, rfl, rfl, rfl, by simp [get], trivial⟩ ⟨rfl, rfl, rfl, rfl, rfl, rfl, rfl, trivial⟩ rfl rfl
  refine ⟨⟨rfl, by omega, by rw [j8]; omega⟩, kh (rD r) (rD r) (qZ (by simpa using hr)) rfl ?_⟩
  dsimp only [rD,jE,jm,jo,jc,jn,jU,kt,jK,ky,jF,je,j1,j0,j3,kC,jt,jr,jb,ja,jd,jA,jf,ji,jj,jk,jl,ju,jJ,jL,rd,get,jy,jz,jh,jg,jB,jP,km,jx,jC,kL,jH,kp,jI,jQ,jD,jX,kd,ki,jw,bA,bN,kU,jR,ko,qX,qH,j7,j9,jT,jS,Nat.reduceBEq,Nat.reduceAdd]
  refine ⟨by simp only [j5]; omega, fun hge => ⟨by simp only [j5]; omega, hnext _ fun X Y => ?_⟩, fun hlt => ?_⟩
  ·simp only [decide_eq_true_eq] at hge
   rw [htk]; unfold Rc.has vL
   constructor
   ·rintro ⟨h1, h2⟩; exact ⟨.inl h1, h2⟩
   ·rintro ⟨h1 | h1, h2⟩
    ·exact ⟨h1, h2⟩
    ·omega
  have hab : max r.x 0 < min (r.x + r.w) w := by simp only [decide_eq_false_iff_not] at hlt; omega
  have e1 : (fun X Y => qL (l.take i) X Y /\ vL w h X Y) = fun X Y => (qL (l.take i) X Y \/ (r.has X Y /\ Y < max r.y 0)) /\ vL w h X Y := zz fun X Y => by
   unfold Rc.has vL
   constructor
   ·rintro ⟨h1, h2⟩; exact ⟨.inl h1, h2⟩
   ·rintro ⟨h1 | h1, h2⟩
    ·exact ⟨h1, h2⟩
    ·omega
  rw [e1]
  refine kE (α := {y : Int // max r.y 0 <= y})
   (fun y => ⟨[(2, [], .fn F [.box 0 0, .box 1 0, .box 2 0, .box 4 0]), (3, [], .box 5 0), (7, [], .box 7 0), (8, [], .int .i64 (max r.x 0)), (9, [], .int .i64 (min (r.x + r.w) w)), (10, [], .int .i64 y.1), (12, [], .ls 4 (kJ l)), (13, [], .int .i64 l.length), (14, [], .int .i64 i)],
     [.cells [.int .i64 w2, .int .i64 h2, .ls 1 pix], .cells [.int .i64 x0], .cells [.int .i64 y0], .arr 51 1 1 (R (fun X Y => (qL (l.take i) X Y \/ (r.has X Y /\ Y < y.1)) /\ vL w h X Y)), .cells [.int .i64 w, .int .i64 h, .own 3 1], .cells [.int .i64 w, .int .i64 h, .own 3 1], .cells [.ls 4 (kJ l)], .cells [.int .i64 r.x, .int .i64 r.y, .int .i64 r.w, .int .i64 r.h]]⟩)
   (fun y => (r.y + r.h - y.1).toNat) ?_ ⟨max r.y 0, Int.le_refl _⟩ rfl
  rintro ⟨y, hy⟩ I2 ih2
  dsimp only at hy |-
  dsimp only [jE,jm,jo,jc,jn,jU,kt,jK,ky,jF,je,j1,j0,j3,kC,jt,jr,jb,ja,jd,jA,jf,jq,ji,jj,jk,jl,ju,jL,kq,rd,get,jy,jz,jh,jg,jB,jP,km,jx,jC,kL,jI,jw,bA,bN,kU,jR,ko,qX,qH,j7,j9,Je,Jd,jT,jS,Nat.reduceBEq,Nat.reduceAdd]
  refine ⟨by simp only [j5]; omega, fun hlt => ⟨fun hge => ⟨by simp only [j5]; omega, hnext _ fun X Y => ?_⟩, fun hlt2 => ?_⟩, fun hge => ⟨by simp only [j5]; omega, hnext _ fun X Y => ?_⟩⟩
  ·simp only [decide_eq_true_eq] at hge
   rw [htk]; unfold Rc.has vL
   constructor
   ·rintro ⟨h1 | h1, h2⟩
    ·exact ⟨.inl h1, h2⟩
    ·exact ⟨.inr h1.1, h2⟩
   ·rintro ⟨h1 | h1, h2⟩
    ·exact ⟨.inl h1, h2⟩
    ·exact ⟨.inr ⟨h1, by omega⟩, h2⟩
  ·simp only [decide_eq_true_eq, decide_eq_false_iff_not] at hlt hlt2
   refine kY [0, 1, 2, 3, 4] (hcb _ y _ _ ⟨by omega, by omega⟩ ⟨by omega, hab, by omega⟩) rfl rfl ?_
   dsimp only [jm,jo,jc,jF,je,j0,kC,jt,jr,jb,ja,jd,jA,jf,ji,jj,jk,jl,jL,rd,get,jy,jz,jh,jg,jB,jP,km,jx,jQ,jD,jw,bA,bN,kU,jR,ko,kV,qY,zp,kM,z6,kO,Je,Jd,jT,jS,Nat.reduceBEq,Nat.reduceAdd]
   refine ⟨by simp only [j5]; omega, ?_⟩
   have e2 : (fun X Y => ((qL (l.take i) X Y \/ (r.has X Y /\ Y < y)) /\ vL w h X Y) \/ (Y = y /\ max r.x 0 <= X /\ X < min (r.x + r.w) w)) = fun X Y => (qL (l.take i) X Y \/ (r.has X Y /\ Y < y + 1)) /\ vL w h X Y := zz fun X Y => by
    unfold Rc.has vL
    constructor
    ·rintro (⟨h1 | h1, h2⟩ | h1)
     ·exact ⟨.inl h1, h2⟩
     ·exact ⟨.inr ⟨h1.1, by omega⟩, h2⟩
     ·exact ⟨.inr ⟨by omega, by omega⟩, by omega⟩
    ·rintro ⟨h1 | h1, h2⟩
     ·exact .inl ⟨.inl h1, h2⟩
     ·by_cases hY : Y = y
      ·exact .inr ⟨hY, by omega⟩
      ·exact .inl ⟨.inr ⟨h1.1, by omega⟩, h2⟩
   rw [e2]
   exact kW (ih2 ⟨y + 1, by omega⟩ (by dsimp only; omega)) ⟨rfl, rfl, rfl, rfl, rfl, by simp [get], rfl, rfl, rfl, trivial⟩ ⟨rfl, rfl, rfl, rfl, rfl, rfl, rfl, rfl, trivial⟩ rfl rfl
  ·simp only [decide_eq_false_iff_not] at hge
   rw [htk]; unfold Rc.has vL
   constructor
   ·rintro ⟨h1 | h1, h2⟩
    ·exact ⟨.inl h1, h2⟩
    ·exact ⟨.inr h1.1, h2⟩
   ·rintro ⟨h1 | h1, h2⟩
    ·exact ⟨.inl h1, h2⟩
    ·exact ⟨.inr ⟨h1, by omega⟩, h2⟩
 ·have hil : i = l.length := by have : ¬ i < l.length := by simpa using hge
                                omega
  subst hil
  rw [List.take_length]
  exact Rt.cut (Nat.le_refl _) (vV [.cells [.int .i64 w2, .int .i64 h2, .ls 1 pix], .cells [.int .i64 x0], .cells [.int .i64 y0], .arr 51 1 1 (R (fun X Y => qL l X Y /\ vL w h X Y)), .cells [.int .i64 w, .int .i64 h, .own 3 1]] _) rfl rfl
end Go.AM
