import Derived.Test.YtoaialdcgmkbgaaGreatRL15
import Derived.Test.YtoaialdcgmkbgaaGreatRCode4

set_option linter.all false
namespace Go.AM
open Go Go.RowKit Go.Proofs
def kP3 (r : Rc) : Prop := (-100 <= r.x /\ r.x <= 100) /\ (-100 <= r.y /\ r.y <= 100) /\ (0 <= r.w /\ r.w <= 100) /\ 0 <= r.h /\ r.h <= 100
def kD7 (l : List Rc) : Prop := (∀ r ∈ l, kP3 r) /\ l.length <= 6
theorem jP0 {l : List Rc} (hl : l.length <= 9223372036854775807) {b : Bool} (hb : b = true ↔ kD7 l) : zA 106 [.ls 4 (kJ l)] (.bool b) := by
 refine ji9 (by rfl) ?_
 dsimp only [c_law34_small,VN,jm,jo,jc,jn,jU,jF,je,jt,jr,jb,ja,jd,jA,jf,ji,jj,jk,jl,kz,jL,rd,get,jy,jz,jh,jg,jB,jP,jx,jI,jw,env0,bA,bN,jT,jS,o1,o0,og,Nat.reduceBEq,Nat.reduceAdd]
 rw [j8]
 refine kE (α := {i : Nat // i <= l.length /\ ∀ r ∈ l.take i, kP3 r}) (fun i => ⟨[(0, [], .ls 4 (kJ l)), (5, [], .ls 4 (kJ l)), (6, [], .int .i64 l.length), (7, [], .int .i64 i.1)], []⟩) (fun i => l.length - i.1) ?_ ⟨0, Nat.zero_le _, by simp⟩ rfl
 rintro ⟨i, hi, hsm⟩ I ih
 dsimp only at hi |-
 dsimp only [jE,jm,jo,jc,jn,jU,kt,jG,jK,ky,jF,je,j1,j3,kC,jt,jr,jb,ja,jd,jA,jf,ku,ji,jj,jk,jl,ju,j6,kz,jL,rd,get,jy,jz,jh,jg,jB,jP,km,jx,jC,jI,jw,bA,bN,kU,jR,lend,ko,kw,kx,jZ,j7,kr,j9,jT,jS,Nat.reduceBEq]
 refine ⟨fun hlt => ?_, fun hge => ?_⟩
 ·have hil : i < l.length := by simp only [decide_eq_true_eq] at hlt; omega
  obtain ⟨r, hr⟩ : ∃ r, l[i]? = some r := ⟨_, List.getElem?_eq_getElem hil⟩
  have hrow : (kJ l)[((i : Nat) : Int).toNat]? = some (rD r) := by rw [Int.toNat_natCast]; simp [kJ, hr]
  refine ⟨⟨rfl, by omega, by rw [j8]; omega⟩, kh _ _ hrow rfl ?_⟩
  dsimp only [jE,jm,jo,jc,jn,jG,jK,ky,jF,je,jO,j0,kR,kC,jt,jr,jb,ja,jd,jA,jf,ji,jj,jk,jl,ju,jJ,kg,jL,rd,get,jy,jz,jh,jg,jB,jP,km,jx,jC,kL,jH,kp,jI,jQ,jD,jX,kd,ki,jw,bA,bO,bN,bE,kU,jR,lend,ko,kw,kx,jZ,j7,kr,j9,jT,jS,Nat.reduceBEq,Nat.reduceAdd]
  refine ⟨fun hc => ?_, fun hc => ?_⟩
  ·have hbf : b = false := by
    cases b with
    | false => rfl
    | true =>
      have := (hb.1 rfl).1 r (List.mem_of_getElem? hr)
      unfold kP3 at this
      simp only [Bool.or_eq_true, decide_eq_true_eq] at hc
      omega
   rw [hbf]
  ·refine ⟨by simp only [j5]; omega, ?_⟩
   have hsr : kP3 r := by
    unfold kP3
    simp only [Bool.or_eq_false_iff, decide_eq_false_iff_not] at hc
    omega
   have hn : ∀ q ∈ l.take (i + 1), kP3 q := by
    rw [List.take_succ, hr]
    intro q hq
    rcases List.mem_append.1 hq with h | h
    ·exact hsm q h
    ·simp at h; rw [h]; exact hsr
   exact kW (ih ⟨i + 1, hil, hn⟩ (by dsimp only; omega)) ⟨rfl, rfl, rfl, rfl, trivial⟩ trivial rfl rfl
 ·have hil : i = l.length := by simp only [decide_eq_false_iff_not] at hge; omega
  subst hil
  rw [List.take_length] at hsm
  have : b = decide ((l.length : Int) <= 6) := by
   rw [Bool.eq_iff_iff, hb, decide_eq_true_eq]
   unfold kD7
   constructor
   ·rintro ⟨_, h⟩; omega
   ·intro h; exact ⟨hsm, by omega⟩
  rw [this, j8]
theorem qV {n : Nat} (h : n <= 1000) : zA 109 [.int .i64 n] (.int .u32 (kQ n)) := by
 refine jF4 (by rfl) ?_
 dsimp only [c_law34_id,jq0,jE,jm,jo,jc,jn,jG,jK,ky,jF,je,jO,jt,jr,jb,ja,jd,jA,jf,ji,jj,jk,jl,jL,rd,get,jy,jz,jh,jg,jB,jP,km,jx,jw,env0,bA,bN,kU,jR,lend,ko,kw,kx,jZ,j7,kr,j9,jT,jS,o1,Nat.reduceBEq,Nat.reduceAdd]
 refine ⟨fun h1 => ?_, fun h1 => ?_⟩
 ·have : n = 0 := by simp only [decide_eq_true_eq] at h1; omega
  subst this
  first | rfl | trivial
 ·have : ¬ n = 0 := by simp only [decide_eq_false_iff_not] at h1; omega
  refine ⟨by simp only [j5]; omega, by simp only [j5]; omega, ?_⟩
  unfold kQ
  rw [if_neg this]
theorem jZ2 {n : Nat} (h : n <= 1000) : zA 51 [.int .i64 n] (.int .u32 (kQ n)) := by
 refine ji3 (by rfl) ?_
 dsimp only [c_top_showsID,VH,jE,jm,jo,jc,jn,jG,jK,ky,jF,je,jO,jt,jr,jb,ja,jd,jA,jf,ji,jj,jk,jl,jL,rd,get,jy,jz,jh,jg,jB,jP,km,jx,jw,env0,bA,bN,kU,jR,lend,ko,kw,kx,jZ,j7,kr,j9,jT,jS,o1,Nat.reduceBEq,Nat.reduceAdd]
 refine ⟨fun h1 => ?_, fun h1 => ?_⟩
 ·have : n = 0 := by simp only [decide_eq_true_eq] at h1; omega
  subst this
  first | rfl | trivial
 ·have : ¬ n = 0 := by simp only [decide_eq_false_iff_not] at h1; omega
  refine ⟨by simp only [j5]; omega, by simp only [j5]; omega, ?_⟩
  unfold kQ
  rw [if_neg this]
def Xr (n : Int) : Px := fun x y => Int.ofNat (n.toNat ^^^ (x * 3 + y * 7).toNat)
def VW (N w i : Nat) (f : Px) : List D := gk i w f ++ List.replicate (N - i) (.int .u8 0)
theorem kp5 {N w i : Nat} {f : Px} (h : i <= N) : (VW N w i f).length = N := by simp [VW, jc9]; omega
theorem kp6 {N w i : Nat} {f : Px} (h : i < N) : (VW N w i f)[i]? = some (.int .u8 0) := by
 unfold VW
 rw [List.getElem?_append_right (by rw [jc9]; omega), jc9, Nat.sub_self, List.getElem?_replicate, if_pos (by omega)]
theorem kp4 {N w i : Nat} {f : Px} (h : i < N) : (VW N w i f).set i (kj5 w f i) = VW N w (i + 1) f := by
 unfold VW
 rw [List.set_append_right _ _ (by rw [jc9]; omega)]
 rw [show N - i = (N - (i + 1)) + 1 by omega, List.replicate_succ, jc9, Nat.sub_self, List.set_cons_zero, kK0, List.append_assoc]
 rfl
theorem kP0 {w h : Nat} {n : Int} (hw : 1 <= w /\ w <= 16) (hh : 1 <= h /\ h <= 16) (hn : 0 <= n /\ n <= 255) : zA 107 [.int .i64 w, .int .i64 h, .int .u8 n] (.ls 1 (gl w h (Xr n))) := by
 have hm := zY (w := w) (h := h) (by omega) (by omega)
 refine jv8 (by rfl) ?_
 dsimp only [c_law34_ink,jg8,jm,jo,jc,jn,jU,jF,je,jt,jr,jb,ja,jd,jA,jf,ji,jj,jk,jl,kz,jL,rd,get,jy,jz,jh,jg,jB,jP,km,jx,jI,jD,jX,jw,env0,bA,bN,kU,jR,ji2,ko,jT,jS,o1,o0,Nat.reduceBEq,Nat.reduceAdd]
 rw [jJ1]
 refine ⟨by simp only [j5]; omega, ⟨by omega, by omega, by omega⟩, rfl, ?_⟩
 rw [List.length_replicate]
 refine kE (α := {i : Nat // i <= w * h})
  (fun i => ⟨[(0, [], .int .i64 w), (2, [], .int .u8 n), (7, [], .own 1 1), (14, [], .int .i64 ((w * h : Nat) : Int)), (15, [], .int .i64 i.1)], [.arr 5 1 0 [], .arr 5 1 1 (VW (w * h) w i.1 (Xr n))]⟩)
  (fun i => w * h - i.1) ?_ ⟨0, Nat.zero_le _⟩ (by rw [Int.toNat_natCast]; rfl)
 rintro ⟨i, hi⟩ I ih
 dsimp only at hi |-
 dsimp only [jE,jm,jo,jc,jn,jU,kt,jG,jK,ky,jF,je,j1,j3,kC,jt,jr,jb,ja,jd,jA,jf,vB,ji,jj,jk,jl,jJ,j6,jL,rd,get,jy,jz,jh,jg,jB,jP,km,jx,kj,jH,jI,jQ,jw,bA,bN,kU,jR,lend,closed,ko,jj8,jb7,kw,kx,jZ,j7,kr,j9,jT,jS,Nat.reduceBEq]
 refine ⟨fun hlt => ?_, fun hge => ?_⟩
 ·have hil : i < w * h := by simp only [decide_eq_true_eq] at hlt; omega
  have hdiv : i / w < h := Nat.div_lt_of_lt_mul hil
  have hmod : i % w < w := Nat.mod_lt i (by omega)
  have e1 : ((i : Int) % (w : Int)) = ((i % w : Nat) : Int) := by simp
  have e2 : ((i : Int) / (w : Int)) = ((i / w : Nat) : Int) := by simp
  rw [e1, e2]
  have hgk : D.int .u8 (Int.ofNat (n.toNat ^^^ (((i % w : Nat) : Int) * 3 + ((i / w : Nat) : Int) * 7).toNat)) = kj5 w (Xr n) i := rfl
  rw [hgk]
  have hgk2 := kp4 (w := w) (f := Xr n) hil
  have hg1 : ∃ v, kj5 w (Xr n) i = .int .u8 v := ⟨_, rfl⟩
  generalize kj5 w (Xr n) i = gi at *
  obtain ⟨vi, rfl⟩ := hg1
  clear e1 e2 hgk
  generalize i / w = q at *
  generalize i % w = m at *
  refine ⟨⟨by omega, by omega⟩, by simp only [j5]; omega, ⟨by omega, by omega, by simp only [j5]; omega⟩, by simp only [j5]; omega, by simp only [j5]; omega, by simp only [j5]; omega, ⟨hn.1, by omega, by simp only [j5]; omega, by simp only [j5]; omega⟩, ⟨rfl, rfl, by omega, by rw [kp5 hi]; omega⟩, ⟨rfl, rfl⟩, qR (hs := []) _ _ (by rw [Int.toNat_natCast]; exact kp6 hil) rfl ?_⟩
  dsimp only [jm,jo,jc,jF,je,j0,kC,jt,jr,jb,ja,jd,jA,jf,ji,jj,jk,jl,jL,rd,get,jy,jz,jh,jg,jB,jP,km,jx,jw,bA,bN,kU,jR,ko,jT,jS,Nat.reduceBEq]
  rw [Int.toNat_natCast, hgk2]
  exact ⟨by simp only [j5]; omega, kW (ih ⟨i + 1, hil⟩ (by dsimp only; omega)) ⟨rfl, rfl, rfl, rfl, by simp [get], trivial⟩ ⟨rfl, rfl, trivial⟩ rfl rfl⟩
 ·have hil : i = w * h := by simp only [decide_eq_false_iff_not] at hge; omega
  subst hil
  have : VW (w * h) w (w * h) (Xr n) = gl w h (Xr n) := by simp [VW, gl]
  rw [this]
  exact ⟨rfl, rfl⟩
end Go.AM
