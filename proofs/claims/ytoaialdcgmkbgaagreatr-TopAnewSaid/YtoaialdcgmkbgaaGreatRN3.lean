import Derived.Test.YtoaialdcgmkbgaaGreatRN2

set_option linter.all false
namespace Go.AM
open Go Go.RowKit Go.Proofs
def VZ (i : It) (s : Sf) : PS := if s.fg = true then jB9 else fun x y => Rc.has ⟨s.dx, s.dy, i.w, i.h⟩ x y
def Js (A B : PS) (s : Sf) : PS := if s.fg = true then jB9 else fun x y => B x y /\ jT5 s.dx s.dy A x y
noncomputable def kq0 (id : Int) (K N : PS) : D := .agg [.int .u32 id, .ls 4 (kJ (reg K)), .ls 4 (kJ (reg N))]
theorem kF7 {i : It} {s : Sf} (hs : s.Ok) (hw : 1 <= i.w /\ i.w <= 16) (hh : 1 <= i.h /\ i.h <= 16) : zA 160 [gD i.w i.h i.f, jG7 s] (KS (VZ i s)) := by
 have hn := kg2 hs
 unfold Sf.Ok at hs
 unfold VZ jG7 at *
 refine jj3 (by rfl) ?_
 dsimp only [c_canvas_came,VR,jm,jo,jc,jn,jF,je,jt,jr,jb,ja,jd,jA,jf,jq,ji,jj,jk,jl,ju,jL,kq,rd,get,jy,jz,jh,jg,jB,jP,jx,jC,kj,kL,jM,jN,jI,jD,jX,jw,env0,bA,bO,bN,bE,jT,jS,o1,o0,og,Nat.reduceBEq,Nat.reduceAdd]
 refine jv (fun _ => hn) ?_
 dsimp only [KS,jE,jm,jo,jc,jn,jG,jK,ky,jF,je,jO,jt,jr,jb,ja,jd,jA,jf,jq,ji,jj,jk,jl,ju,jJ,kg,jL,kq,rd,get,jy,jz,jh,jg,jB,jP,jx,jC,jM,jN,jH,kp,qB,kT,jI,jQ,kd,ki,jw,bA,bO,bN,bE,kA,lend,kw,kx,jZ,j7,kr,j9,zh,jT,jS,Nat.reduceBEq,Nat.reduceAdd]
 cases hf : s.fg with
 | true =>
   refine ⟨fun _ => ?_, fun h => absurd h (by simp)⟩
   rw [if_pos rfl, xJ]
   first | rfl | trivial
 | false =>
   refine ⟨fun h => absurd h (by simp), fun _ => ?_⟩
   rw [if_neg (by simp)]
   refine jv Z0 ?_
   dsimp only [jm,jo,jc,jn,jF,je,jt,jr,jb,ja,jd,jA,jf,jq,ji,jj,jk,jl,ju,jL,kq,rd,get,jy,jz,jh,jg,jB,jP,jx,jC,kj,kL,jH,kp,qB,kT,jI,jD,jX,kd,ki,jw,bA,bN,closed,jV,ql,jT,jS,Nat.reduceBEq,Nat.reduceAdd]
   have vr : Vr ⟨s.dx, s.dy, i.w, i.h⟩ := by unfold Vr; dsimp only; omega
   refine jv (Z1 vr) ?_
   dsimp only [jc,jG,jF,je,jt,jr,jb,ja,jd,jA,jf,ji,jj,jk,jl,jJ,jL,rd,get,jy,jz,jh,jg,jB,jP,jx,jC,jM,jN,jH,kp,jI,jQ,kd,ki,jw,bA,bN,kA,lend,kw,kx,jZ,j7,kr,j9,zh,jT,jS,Nat.reduceBEq,Nat.reduceAdd]
theorem jl9 {A B : PS} {s : Sf} (hB : Sq B) : Sq (Js A B s) := hB.sub fun x y h => by
 unfold Js at h
 split at h
 ·exact absurd h (by simp [jB9])
 ·exact h.1
theorem kL0 {i : It} {s : Sf} (hs : s.Ok) (hw : 1 <= i.w /\ i.w <= 16) (hh : 1 <= i.h /\ i.h <= 16) : Sq (VZ i s) := ⟨s.dx, s.dy, by unfold Sf.Ok at hs; omega, by unfold Sf.Ok at hs; omega, fun x y h => by
 unfold VZ at h
 split at h
 ·exact absurd h (by simp [jB9])
 ·unfold Rc.has at h; dsimp only at h; omega⟩
theorem jw5 {S S' : Ws} (h : S.Ok) (h' : S'.Ok) {k : Nat} (hk : k <= S.n) (hk' : k <= S'.n) {s : Sf} (hs : s.Ok) :
  zA 161 [Qj S, Qj S', .int .u32 (kQ k), jG7 s] (kq0 (kQ k) (Js (S.vis k) (S'.vis k) s) fun x y => S'.vis k x y /\ ¬ Js (S.vis k) (S'.vis k) s x y) := by
 have hv := vf h hk
 have hv' := vf h' hk'
 have q := h.visSq (k := k)
 have q' := h'.visSq (k := k)
 have qk : Sq (Js (S.vis k) (S'.vis k) s) := jl9 q'
 have hno : Js (S.vis k) (S'.vis k) s = if s.fg = true then jB9 else fun x y => S'.vis k x y /\ jT5 s.dx s.dy (S.vis k) x y := rfl
 have hmv : Sq (jT5 s.dx s.dy (S.vis k)) := kM5 (fun x y hp => by have := KE (h.vis_in hp); have := h.size k; omega) (by unfold Sf.Ok at hs; omega) (by unfold Sf.Ok at hs; omega)
 unfold Sf.Ok at hs
 unfold Qj KS at hv hv'
 unfold jG7 kq0 Qj
 refine jn5 (by rfl) ?_
 dsimp only [c_expose_One,Ys,jm,jo,jc,jn,jF,je,jt,jr,jb,ja,jd,jA,jf,jq,ji,jj,jk,jl,ju,jL,kq,rd,get,jy,jz,jh,jg,jB,jP,jx,jC,kj,jM,jN,jI,jD,jX,jw,env0,bA,bN,jT,jS,o1,o0,Nat.reduceBEq,Nat.reduceAdd]
 refine jv hv' ?_
 dsimp only [jE,jm,jo,jc,jn,jK,ky,jF,je,jt,jr,jb,ja,jd,jA,jf,jq,ji,jj,jk,jl,ju,jJ,jL,kq,rd,get,jy,jz,jh,jg,jB,jP,jx,jC,kL,jM,jN,jH,kp,jI,jQ,jD,jX,kd,ki,jw,bA,bN,jT,jS,Nat.reduceBEq,Nat.reduceAdd]
 cases hf : s.fg with
 | true =>
   rw [hf, if_pos rfl] at hno
   refine ⟨fun h => absurd h (by simp), fun _ => ?_⟩
   have hm := Za q'.bdd YA (by rw [xJ]; have := q'.len; simp; omega)
   rw [xJ] at hm
   refine jv (hm) ?_
   dsimp only [jc,jG,jF,je,jt,jr,jb,ja,jd,jA,jf,ji,jj,jk,jl,jJ,jL,kq,rd,get,jy,jz,jh,jg,jB,jP,jx,jC,kj,jM,jN,jH,kp,qB,kT,jI,jQ,kd,ki,jw,bA,bN,kA,lend,kw,kx,jZ,j7,kr,j9,zh,jT,jS,Nat.reduceBEq,Nat.reduceAdd]
   rw [hno, xJ]
   rfl
 | false =>
   rw [hf, if_neg (by simp)] at hno
   refine ⟨fun _ => ?_, fun h => absurd h (by simp)⟩
   refine jv (hv) ?_
   dsimp only [jc,ja,jd,jA,jf,jq,ji,jj,jk,jl,ju,jL,kq,rd,get,jy,jz,jh,jg,jB,jP,jx,jC,kL,jI,jw,bA,bN,jT,jS,Nat.reduceBEq,Nat.reduceAdd]
   refine jv (Yh q.bdd (by omega) (by omega) (Nat.le_trans q.len (by omega))) ?_
   dsimp only [jc,ja,jd,jA,jq,ji,jj,jk,jl,jL,kq,rd,get,jy,jz,jh,jg,jB,jP,jx,jw,bA,bN,jT,jS,Nat.reduceBEq]
   refine jv (KQ q'.bdd hmv.bdd (Nat.add_le_add q'.len hmv.len)) ?_
   dsimp only [jm,jo,jc,jn,jF,je,jt,jr,jb,ja,jd,jA,jf,jq,ji,jj,jk,jl,ju,jJ,jL,kq,rd,get,jy,jz,jh,jg,jB,jP,jx,jC,jM,jN,jH,kp,jI,jQ,kd,ki,jw,bA,bN,jT,jS,Nat.reduceBEq,Nat.reduceAdd]
   rw [hno] at qk
   refine jv (Za q'.bdd qk.bdd (Nat.add_le_add q'.len qk.len)) ?_
   dsimp only [jc,jG,jF,je,jt,jr,jb,ja,jd,jA,jf,ji,jj,jk,jl,jJ,jL,kq,rd,get,jy,jz,jh,jg,jB,jP,jx,jC,kj,jM,jN,jH,kp,qB,kT,jI,jQ,kd,ki,jw,bA,bN,kA,lend,kw,kx,jZ,j7,kr,j9,zh,jT,jS,Nat.reduceBEq,Nat.reduceAdd]
   rw [hno]
theorem jo4 {S : Ws} (h : S.Ok) {kv : KV} (hn : zC kv) {k : Nat} (hk : k <= S.n) {i : It} (hi : lk kv (kQ k) = some (xy i)) (hw : i.win = true) :
  zA 112 [.agg [qO .u32 kv], Qj S, .agg [qO .u32 S.kv], .int .u32 (kQ k)] (.tup [KS (if i.back = true then zN (S.B k) else S.vis k), .bool true]) := by
 have hv := vf h hk
 have hsz := h.size k
 have hbd := h.bdd k
 have ha := JG S.kv_nd (S.kv_lk hk) (by omega) (by omega) hbd.1 hbd.2
 unfold Qj KS at *
 refine KO (by rfl) ?_
 dsimp only [c_canvas_Canvas_Clip,yg,qO,jm,jo,jc,jn,jF,je,jt,jr,jb,ja,jd,jA,jf,j4,ji,jj,jk,jl,ju,jL,kq,rd,get,jy,jz,jh,jg,jB,jP,jx,jC,kj,kL,jI,jD,jX,jw,env0,bA,bN,kD,jT,jS,o1,o0,Nat.reduceBEq,Nat.reduceAdd]
 refine kH _ (kh8 hn hi) ?_
 dsimp only [xy,jE,jm,jo,jc,jn,jU,jG,jK,ky,jF,je,jO,kC,jt,jr,jb,ja,jd,jA,jf,jq,ji,jj,jk,jl,ju,jJ,jL,kq,rd,get,jy,jz,jh,jg,jB,jP,jx,jC,kL,jM,jN,jH,kp,qB,kT,jI,jQ,jD,jX,kd,ki,jw,bA,bN,kA,lend,kw,kx,jZ,j7,kr,j9,zh,jT,jS,Nat.reduceBEq,Nat.reduceAdd]
 rw [hw]
 refine ⟨nofun, fun _ => ?_⟩
 refine ⟨nofun, fun _ => ?_⟩
 cases hb : i.back with
 | true =>
   refine ⟨fun _ => ?_, fun h => absurd h (by simp)⟩
   refine jv ha ?_
   dsimp only [jc,jG,jF,je,jO,kC,jt,jr,jb,ja,jd,jA,jf,ji,jj,jk,jl,jJ,jL,rd,get,jy,jz,jh,jg,jB,jP,jx,jC,jM,jN,jH,kp,jI,jQ,kd,ki,jw,bA,bN,kA,lend,kw,kx,jZ,j7,kr,j9,zh,jT,jS,Nat.reduceBEq,Nat.reduceAdd]
   rw [if_pos rfl]
 | false =>
   refine ⟨fun h => absurd h (by simp), fun _ => ?_⟩
   refine jv hv ?_
   dsimp only [jc,jG,jF,je,jt,jr,jb,ja,jd,jA,jf,ji,jj,jk,jl,jJ,jL,rd,get,jy,jz,jh,jg,jB,jP,jx,jC,jM,jN,jH,kp,jI,jQ,kd,ki,jw,bA,bN,kA,lend,kw,kx,jZ,j7,kr,j9,zh,jT,jS,Nat.reduceBEq,Nat.reduceAdd]
   rw [if_neg (by simp)]

def y8 (i : It) (A B : PS) (s : Sf) : PS := if i.back = true then VZ i s else Js A B s
noncomputable def jW7 (i : It) (A B : PS) (s : Sf) : Px := yj i.w i.h i.f s.dx s.dy (y8 i A B s) fun _ _ => i.g
noncomputable def jW6 (i : It) (w h : Nat) (A B : PS) (s : Sf) : It := ⟨w, h, jW7 i A B s, i.g, i.win, i.back⟩
def YF (i : It) (A B : PS) (s : Sf) : PS := fun x y => B x y /\ y8 i A B s x y
def kb9 (i : It) (A B : PS) (s : Sf) : PS := fun x y => B x y /\ ¬ y8 i A B s x y
theorem jm2 {i : It} {A B : PS} {s : Sf} (h : s.fg = true) : y8 i A B s = jB9 := by
 unfold y8 VZ Js
 rw [h]
 cases i.back <;> simp
theorem ky4 {w h : Nat} {f2 f : Px} {x y : Int} : yj w h f2 x y jB9 f = f := by
 unfold yj jv4
 funext X Y
 rw [if_neg]
 rintro ⟨h, _⟩
 exact h
theorem jo2 {S S' : Ws} (h : S.Ok) (h' : S'.Ok) {k : Nat} (hk : k <= S.n) (hk' : k <= S'.n) {s : Sf} (hs : s.Ok) {i : It} (hw : 1 <= i.w /\ i.w <= 16) (hh : 1 <= i.h /\ i.h <= 16) {b : Bx} {w2 h2 : Nat} (hbw : b.w = w2) (hbh : b.h = h2) (hw2 : 1 <= w2 /\ w2 <= 16) (hh2 : 1 <= h2 /\ h2 <= 16) :
  zA 111 [xy i, .int .u32 (kQ k), Qj S, Qj S', Jx b, jG7 s] (.tup [xy (jW6 i w2 h2 (S.vis k) (S'.vis k) s), kq0 (kQ k) (YF i (S.vis k) (S'.vis k) s) (kb9 i (S.vis k) (S'.vis k) s)]) := by
 have hv' := vf h' hk'
 have q' := h'.visSq (k := k)
 have hcm := kF7 (i := i) hs hw hh
 have hone := jw5 h h' hk hk' hs
 have hnear := kg2 hs
 have qc := kL0 (i := i) hs hw hh
 have qf : Sq (y8 i (S.vis k) (S'.vis k) s) := by
  unfold y8
  split
  ·exact qc
  ·exact jl9 q'
 have hs2 := hs
 unfold Sf.Ok at hs2
 unfold Qj KS at hv'
 unfold gD jG7 KS at hcm
 unfold Qj jG7 kq0 at hone
 unfold jG7 at hnear
 unfold kq0 jG7 Qj Jx xy
 rw [hbw, hbh]
 refine KK (by rfl) ?_
 dsimp only [c_canvas_item_change,yc,jm,jo,jc,jn,jK,ky,jF,je,jt,jr,jb,ja,jd,jA,jf,jq,ji,jj,jk,jl,ju,jL,kq,rd,get,jy,jz,jh,jg,jB,jP,jx,jC,kj,kL,jM,jN,jI,jD,jX,jw,env0,bA,bN,jT,jS,o1,o0,og,Nat.reduceBEq,Nat.reduceAdd]
 cases hb : i.back with
 | true =>
   refine ⟨fun _ => ?_, fun h => absurd h (by simp)⟩
   refine jv hcm ?_
   dsimp only [jm,jo,jc,jn,jF,je,jt,jr,jb,ja,jd,jA,jf,jq,ji,jj,jk,jl,ju,jJ,jL,kq,rd,get,jy,jz,jh,jg,jB,jP,jx,jC,jM,jN,jH,kp,jI,jQ,kd,ki,jw,bA,bN,jT,jS,Nat.reduceBEq,Nat.reduceAdd]
   refine jv hv' ?_
   dsimp only [jm,jo,jc,jF,je,jt,jr,jb,ja,jd,jA,jf,jq,ji,jj,jk,jl,ju,jJ,jL,kq,rd,get,jy,jz,jh,jg,jB,jP,jx,jC,jM,jN,jH,kp,jI,jQ,jD,jX,kd,ki,jw,bA,bN,jT,jS,Nat.reduceBEq,Nat.reduceAdd]
   refine jv (KQ q'.bdd qc.bdd (Nat.add_le_add q'.len qc.len)) ?_
   dsimp only [jc,ja,jd,jA,jf,jq,ji,jj,jk,jl,ju,jL,kq,rd,get,jy,jz,jh,jg,jB,jP,jx,jC,jM,jN,jI,jw,bA,bN,jT,jS,Nat.reduceBEq]
   refine jv (Za q'.bdd qc.bdd (Nat.add_le_add q'.len qc.len)) ?_
   dsimp only [jm,jo,jc,jn,jF,je,jt,jr,jb,ja,jd,jA,jf,jq,ji,jj,jk,jl,ju,jJ,jL,kq,rd,get,jy,jz,jh,jg,jB,jP,jx,jC,kj,jM,jN,jH,kp,qB,kT,jI,jQ,jD,jX,kd,ki,jw,bA,bN,jT,jS,Nat.reduceBEq,Nat.reduceAdd]
   refine jv Z0 ?_
   dsimp only [jE,jm,jo,jc,jn,jG,jK,ky,jF,je,jO,jt,jr,jb,ja,jd,jA,zb,qC,zm,zu,jf,jq,ji,jj,jk,jl,ju,jJ,kg,jL,kq,rd,get,jy,jz,jh,jg,jB,jP,jx,jC,kL,jM,jN,jH,kp,qB,kT,jI,jQ,kd,ki,jw,jV6,ZG,eqC,bA,bO,bN,bE,jr2,kU,jR,kA,lend,ko,kw,kx,jZ,j7,kr,j9,zh,jT,jS,Nat.reduceBEq,Nat.reduceAdd]
   have he : y8 i (S.vis k) (S'.vis k) s = VZ i s := by unfold y8; rw [if_pos hb]
   refine ⟨fun hc => ?_, fun _ => ?_⟩
   ·simp only [Bool.and_eq_true, decide_eq_true_eq, beq_iff_eq] at hc
    obtain ⟨⟨⟨⟨g1, g2, g3⟩, g4⟩, g5⟩, _⟩ := hc
    have g4 : i.w = w2 := by omega
    have g5 : i.h = h2 := by omega
    unfold YF kb9 jW6
    dsimp only
    rw [he, hb, <- g4, <- g5]
    have hg : gl i.w i.h (jW7 i (S.vis k) (S'.vis k) s) = gl i.w i.h i.f := jL3 fun x y hp => by
     have hq : y8 i (S.vis k) (S'.vis k) s x y /\ vL i.w i.h (x - s.dx) (y - s.dy) := by
      constructor
      ·rw [he]
       unfold VZ
       rw [if_neg (by rw [g3]; simp), g1, g2]
       unfold vL at hp
       unfold Rc.has
       dsimp only
       omega
      ·rw [g1, g2, Int.sub_zero, Int.sub_zero]; exact hp
     unfold jW7 yj
     rw [Yy hq, g1, g2]
     show i.f (x - 0) (y - 0) = _
     rw [Int.sub_zero, Int.sub_zero]
    rw [hg]
   refine jv (jo6 (by omega) (by omega)) ?_
   dsimp only [gD,jE,jm,jo,jc,jn,jG,jK,ky,jF,je,jO,jt,jr,jb,ja,jd,jA,zb,qC,zm,zu,jf,jq,ji,jj,jk,jl,ju,jJ,jL,kq,rd,get,jy,jz,jh,jg,jB,jP,jx,jC,kL,jM,jN,jH,kp,jI,jQ,jD,jX,kd,ki,jw,bA,bO,bN,kU,jR,kA,lend,ko,kw,kx,jZ,j7,kr,j9,zh,jT,jS,Nat.reduceBEq,Nat.reduceAdd]
   refine ⟨fun h => absurd h (by simp), fun _ => ?_⟩
   refine jv hnear ?_
   dsimp only [jE,jm,jo,jc,jn,jG,jK,ky,jF,je,jt,jr,jb,ja,jd,jA,zb,qC,zm,zu,jf,jq,ji,jj,jk,jl,ju,jJ,kg,jL,kq,rd,get,jy,jz,jh,jg,jB,jP,jx,jC,kL,jM,jN,jH,kp,jI,jQ,kd,ki,jw,bA,bO,bN,bE,kA,lend,kw,kx,jZ,j7,kr,j9,zh,jT,jS,Nat.reduceBEq,Nat.reduceAdd]
   cases hf : s.fg with
   | true =>
     refine ⟨fun h => absurd h (by simp), fun _ => ?_⟩
     unfold YF kb9 jW6 jW7
     dsimp only
     rw [jm2 hf, ky4, hb]
     have : VZ i s = jB9 := by rw [<- he, jm2 hf]
     rw [this]
   | false =>
     refine ⟨fun _ => ?_, fun h => absurd h (by simp)⟩
     refine jv (jZ7 (by omega) (by omega) (by omega) (by omega) (by omega) (by omega) qc.bdd (Nat.le_trans qc.len (by omega))) ?_
     dsimp only [gD,jm,jo,jc,jn,jG,jF,je,jt,jr,jb,ja,jd,jA,zb,qC,zm,zu,jf,ji,jj,jk,jl,ju,jJ,jL,rd,get,jy,jz,jh,jg,jB,jP,jx,jC,jM,jN,jH,kp,jI,jQ,kd,ki,jw,bA,bO,bN,kA,lend,kw,kx,jZ,j7,kr,j9,zh,jT,jS,Nat.reduceBEq,Nat.reduceAdd]
     unfold YF kb9 jW6 jW7
     dsimp only
     rw [he, hb]
 | false =>
   refine ⟨fun h => absurd h (by simp), fun _ => ?_⟩
   refine jv hone ?_
   dsimp only [jm,jo,jc,jn,jF,je,jt,jr,jb,ja,jd,jA,jf,jq,ji,jj,jk,jl,ju,jJ,jL,kq,rd,get,jy,jz,jh,jg,jB,jP,jx,jC,jM,jN,jH,kp,jI,jQ,jD,jX,kd,ki,jw,bA,bN,jT,jS,Nat.reduceBEq,Nat.reduceAdd]
   refine jv Z0 ?_
   dsimp only [jE,jm,jo,jc,jn,jG,jK,ky,jF,je,jO,jt,jr,jb,ja,jd,jA,zb,qC,zm,zu,jf,jq,ji,jj,jk,jl,ju,jJ,kg,jL,kq,rd,get,jy,jz,jh,jg,jB,jP,jx,jC,kL,jM,jN,jH,kp,qB,kT,jI,jQ,kd,ki,jw,jV6,ZG,eqC,bA,bO,bN,bE,jr2,kU,jR,kA,lend,ko,kw,kx,jZ,j7,kr,j9,zh,jT,jS,Nat.reduceBEq,Nat.reduceAdd]
   have he : y8 i (S.vis k) (S'.vis k) s = Js (S.vis k) (S'.vis k) s := by unfold y8; rw [if_neg (by rw [hb]; simp)]
   have hk2 : (fun x y => S'.vis k x y /\ Js (S.vis k) (S'.vis k) s x y) = Js (S.vis k) (S'.vis k) s := zz fun x y => by
    constructor
    ·exact fun h => h.2
    ·intro h
     refine ⟨?_, h⟩
     unfold Js at h
     split at h
     ·exact absurd h (by simp [jB9])
     ·exact h.1
   refine ⟨fun hc => absurd hc (by simp), fun _ => ?_⟩
   refine jv (jo6 (by omega) (by omega)) ?_
   dsimp only [gD,jE,jm,jo,jc,jn,jG,jK,ky,jF,je,jO,jt,jr,jb,ja,jd,jA,zb,qC,zm,zu,jf,jq,ji,jj,jk,jl,ju,jJ,jL,kq,rd,get,jy,jz,jh,jg,jB,jP,jx,jC,kL,jM,jN,jH,kp,jI,jQ,jD,jX,kd,ki,jw,bA,bO,bN,kU,jR,kA,lend,ko,kw,kx,jZ,j7,kr,j9,zh,jT,jS,Nat.reduceBEq,Nat.reduceAdd]
   refine ⟨fun h => absurd h (by simp), fun _ => ?_⟩
   refine jv hnear ?_
   dsimp only [jE,jm,jo,jc,jn,jG,jK,ky,jF,je,jt,jr,jb,ja,jd,jA,zb,qC,zm,zu,jf,jq,ji,jj,jk,jl,ju,jJ,kg,jL,kq,rd,get,jy,jz,jh,jg,jB,jP,jx,jC,kL,jM,jN,jH,kp,jI,jQ,kd,ki,jw,bA,bO,bN,bE,kA,lend,kw,kx,jZ,j7,kr,j9,zh,jT,jS,Nat.reduceBEq,Nat.reduceAdd]
   cases hf : s.fg with
   | true =>
     refine ⟨fun h => absurd h (by simp), fun _ => ?_⟩
     unfold YF kb9 jW6 jW7
     dsimp only
     rw [jm2 hf, ky4, hb]
     have : Js (S.vis k) (S'.vis k) s = jB9 := by rw [<- he, jm2 hf]
     rw [this] at hk2 |-
     rw [hk2]
   | false =>
     refine ⟨fun _ => ?_, fun h => absurd h (by simp)⟩
     refine jv (jZ7 (by omega) (by omega) (by omega) (by omega) (by omega) (by omega) (jl9 q').bdd (Nat.le_trans (jl9 q').len (by omega))) ?_
     dsimp only [gD,jm,jo,jc,jn,jG,jF,je,jt,jr,jb,ja,jd,jA,zb,qC,zm,zu,jf,ji,jj,jk,jl,ju,jJ,jL,rd,get,jy,jz,jh,jg,jB,jP,jx,jC,jM,jN,jH,kp,jI,jQ,kd,ki,jw,bA,bO,bN,kA,lend,kw,kx,jZ,j7,kr,j9,zh,jT,jS,Nat.reduceBEq,Nat.reduceAdd]
     unfold YF kb9 jW6 jW7
     dsimp only
     rw [he, hb, hk2]

def idk (n : Int) : Nat := if n = 1 then 0 else (n - 1048576).toNat
theorem jK6 (k : Nat) : idk (kQ k) = k := by
 unfold idk kQ
 by_cases h : k = 0
 ·simp [h]
 ·rw [if_neg h, if_neg (by omega)]
  omega
def ZE (G : Int -> D) (kv : KV) : KV := kv.map fun p => (p.1, G p.1)
theorem jU8 {G : Int -> D} {kv : KV} {p : Int × D} : ZE G (kv ++ [p]) = ZE G kv ++ [(p.1, G p.1)] := by simp [ZE]
theorem kd3 {G : Int -> D} {kv : KV} (h : zC kv) : zC (ZE G kv) := by
 unfold zC ZE at *
 rw [List.map_map]
 exact h
theorem jK2 {G : Int -> D} {n : Int} : ∀ {kv : KV}, lk (ZE G kv) n = (lk kv n).map fun _ => G n
 | [] => rfl
 | (m, d) :: l => by
   show lk ((m, G m) :: ZE G l) n = _
   simp only [lk]
   by_cases h : m = n
   ·simp [h]
   ·simp [h, jK2 (kv := l)]
theorem kz8 {G : Int -> D} {kv : KV} (h : ∀ p ∈ kv, closed (G p.1) = true) : jV (kZ (ZE G kv)) = true := by
 rw [z8]
 intro d hd
 obtain ⟨p, hp, rfl⟩ := List.mem_map.1 hd
 obtain ⟨q, hq, rfl⟩ := List.mem_map.1 hp
 exact h q hq
theorem gKV_m {G : Int -> D} {f g : Nat -> D} {n : Nat} (h : ∀ k, k <= n -> G (kQ k) = g k) : ZE G (QQ f n) = QQ g n := by
 unfold ZE QQ
 rw [List.map_map]
 apply List.map_congr_left
 intro k hk
 show (kQ k, G (kQ k)) = _
 rw [h k (by have := List.mem_range.1 hk; omega)]
theorem jl8 {f : Nat -> D} {n : Nat} {p : Int × D} (h : p ∈ QQ f n) : ∃ k, k <= n /\ p = (kQ k, f k) := by
 unfold QQ at h
 obtain ⟨k, hk, rfl⟩ := List.mem_map.1 h
 exact ⟨k, by have := List.mem_range.1 hk; omega, rfl⟩
theorem tSf : Tryz.prog.underlying 135 = some (.map 53 125) := by kernel_rfl
theorem zSf : ZV Tryz.prog 125 (.agg #[.int .i64 0, .int .i64 0, .bool false]) := by unfold ZV; kernel_rfl
def kN8 : D := .agg [.int .i64 0, .int .i64 0, .bool false]
theorem kE5 (K : Kn) (pl : Pl) : Rep K pl kN8 (.agg #[.int .i64 0, .int .i64 0, .bool false]) := by
 simp only [kN8, Rep, RepL]
 refine ⟨_, rfl, ⟨_, _, rfl, rfl, _, _, rfl, rfl, _, _, rfl, rfl, rfl⟩, fun c hc => ?_⟩
 simp only [List.mem_cons, List.not_mem_nil, or_false] at hc
 rcases hc with h | h | h <;> (rw [h]; rfl)
structure MvOk (mk : KV) (n : Nat) (sf : Nat -> Sf) : Prop where
 nd : zC mk
 at' : ∀ k, k <= n -> (lk mk (kQ k) = none /\ sf k = ⟨0, 0, false⟩) \/ lk mk (kQ k) = some (jG7 (sf k))
 ok : ∀ k, (sf k).Ok
theorem kM1 {mk : KV} {n : Nat} {sf : Nat -> Sf} (h : MvOk mk n sf) {k : Nat} (hk : k <= n) {bx : List Ent} : PrM Tryz.prog zM (.lkp 135 false) [.mp (qI .u32 mk) (kZ mk), .int .u32 (kQ k)] bx (jG7 (sf k)) bx := by
 have := JJ (gt := zM) (bx := bx) tSf tI zSf h.nd (kQ k) false (zd := kN8) (fun _ => kE5)
 rcases h.at' k hk with ⟨h1, h2⟩ | h1
 ·rw [h1] at this; rw [h2]; exact this
 ·rw [h1] at this; exact this
theorem tCh : Tryz.prog.underlying 205 = some (.map 53 209) := by kernel_rfl
theorem zCh : ZV Tryz.prog 209 (.agg #[.int .u32 0, .slice none 0 0, .slice none 0 0]) := by unfold ZV; kernel_rfl
structure ChOk (S S' : Ws) (C : Nat -> It) : Prop where
 ok : S.Ok
 ok' : S'.Ok
 n : S'.n = S.n
 c : COk S C
 win : ∀ k, (C k).win = true
noncomputable def jy3 (S S' : Ws) (C : Nat -> It) (sf : Nat -> Sf) (k : Nat) : It := jW6 (C k) (S'.B k).w.toNat (S'.B k).h.toNat (S.vis k) (S'.vis k) (sf k)
noncomputable def jM7 (S S' : Ws) (C : Nat -> It) (sf : Nat -> Sf) (k : Nat) : PS := kb9 (C k) (S.vis k) (S'.vis k) (sf k)
noncomputable def kE2 (S S' : Ws) (C : Nat -> It) (sf : Nat -> Sf) (k : Nat) : D := kq0 (kQ k) (YF (C k) (S.vis k) (S'.vis k) (sf k)) (jM7 S S' C sf k)
noncomputable def jD4 (S S' : Ws) (C : Nat -> It) (sf : Nat -> Sf) : Int -> D := fun n => xy (jy3 S S' C sf (idk n))
noncomputable def jU9 (S S' : Ws) (C : Nat -> It) (sf : Nat -> Sf) : Int -> D := fun n => kE2 S S' C sf (idk n)
theorem jS1 {α : Type} {l : List (Int × α)} {n : Int} {d d0 : α} (h : lk l n = none) : put (l ++ [(n, d0)]) n d = l ++ [(n, d)] := by
 induction l with
 | nil => simp [put]
 | cons q l ih =>
   obtain ⟨m, e⟩ := q
   simp only [lk] at h
   split at h
   ·cases h
   ·rename_i hne
    simp only [List.cons_append, put]
    rw [if_neg hne, ih h]
noncomputable def y9 (S S' : Ws) (C : Nat -> It) (sf : Nat -> Sf) (l : List Nat) : List D := (l.filter fun k => !decide (reg (jM7 S S' C sf k) = [])).map (kE2 S S' C sf)
theorem ke2 {S S' : Ws} {C : Nat -> It} {sf : Nat -> Sf} {l : List Nat} {i : Nat} (hi : i < l.length) : y9 S S' C sf (l.take (i + 1)) = if reg (jM7 S S' C sf l[i]) = [] then y9 S S' C sf (l.take i) else y9 S S' C sf (l.take i) ++ [kE2 S S' C sf l[i]] := by
 unfold y9
 rw [List.take_succ_eq_append_getElem hi, List.filter_append, List.map_append]
 by_cases h : reg (jM7 S S' C sf l[i]) = []
 ·rw [if_pos h, List.filter_cons_of_neg (by simp [h])]
  simp
 ·rw [if_neg h, List.filter_cons_of_pos (by simp [h])]
  simp
noncomputable def kO6 (S S' : Ws) (C : Nat -> It) (sf : Nat -> Sf) (mk : KV) (x : CpY) : St := ⟨[(4, [], .mp (qI .u32 mk) (kZ mk)), (6, [], .box 1 0), (7, [], .box 2 0), (8, [], .box 3 0), (10, [], .box 4 0), (12, [], .ownm 6 0), (13, [], .ownm 7 0), (30, [], .box 8 0)],
 [.cells [qO .u32 (yH C S.n)], .cells [.ls 1 (iL (S.ord.map kQ)), .mp (qI .u32 (xC S S.vs)) (kZ (xC S S.vs))], .cells [.ls 1 (iL (S'.ord.map kQ)), .mp (qI .u32 (xC S' S'.vs)) (kZ (xC S' S'.vs))], .cells [qO .u32 S'.kv], .cells [.mp [] []], .arr 209 3 0 [],
  zf .u32 (ZE (jD4 S S' C sf) x.done), zf .u32 (ZE (jU9 S S' C sf) x.done), .iter x.cur (qI .u32 x.left) (kZ x.left)]⟩
noncomputable def kt2 (S S' : Ws) (C : Nat -> It) (sf : Nat -> Sf) (done : KV) (cur : Option (D × D)) (i : Nat) : St := ⟨[(10, [], .box 4 0), (12, [], .ownm 6 0), (13, [], .ownm 7 0), (18, [], .own 9 (y9 S S' C sf (S'.ord.take i)).length), (67, [], .ls 1 (iL (S'.ord.map kQ))), (68, [], .int .i64 S'.ord.length), (69, [], .int .i64 i)],
 [.cells [qO .u32 (yH C S.n)], .cells [.ls 1 (iL (S.ord.map kQ)), .mp (qI .u32 (xC S S.vs)) (kZ (xC S S.vs))], .cells [.ls 1 (iL (S'.ord.map kQ)), .mp (qI .u32 (xC S' S'.vs)) (kZ (xC S' S'.vs))], .cells [qO .u32 S'.kv], .cells [.mp [] []], .arr 209 3 0 [],
  zf .u32 (ZE (jD4 S S' C sf) done), zf .u32 (ZE (jU9 S S' C sf) done), .iter cur (qI .u32 []) (kZ []), .arr 209 3 (y9 S S' C sf (S'.ord.take i)).length (y9 S S' C sf (S'.ord.take i))]⟩
theorem JX {S S' : Ws} {C : Nat -> It} {sf : Nat -> Sf} {mk : KV} (h : ChOk S S' C) (hm : MvOk mk S.n sf) :
  zA 50 [.agg [qO .u32 (yH C S.n)], Qj S, Qj S', .agg [qO .u32 S'.kv], .mp (qI .u32 mk) (kZ mk)]
   (.tup [.agg [qO .u32 (yH (jy3 S S' C sf) S.n)], .ls 3 (y9 S S' C sf S'.ord)]) := by
 have hfew := h.ok.few
 have hnd : zC (yH C S.n) := JK
 have hG : ∀ kv, jV (kZ (ZE (jD4 S S' C sf) kv)) = true := fun kv => kz8 fun _ _ => y7 _
 have hH : ∀ kv, jV (kZ (ZE (jU9 S S' C sf) kv)) = true := fun kv => kz8 fun _ _ => by simp [jU9, kE2, kq0, closed, jV, bA]
 have hcc : jV (kZ (yH C S.n)) = true := by
  rw [z8]
  intro d hd
  obtain ⟨p, hp, rfl⟩ := List.mem_map.1 hd
  obtain ⟨k, _, rfl⟩ := jl8 hp
  exact y7 _
 refine JE (bx := []) (bx' := []) (by rfl) ?_
 unfold Qj
 dsimp only [c_canvas_Canvas_Change,xq,qO,jm,jo,jc,jn,jF,je,jt,jr,jb,ja,jd,jA,jf,j4,ji,jj,jk,jl,ju,jL,kq,rd,get,jy,jz,jh,jg,jB,jP,jx,jC,kj,kL,jI,jD,jX,jw,env0,bA,bN,kD,jT,jS,o1,o0,og,Nat.reduceBEq,Nat.reduceAdd]
 refine kH _ (jb8 kl4) ?_
 dsimp only [jc,ja,jd,jA,j4,ji,jj,jk,jl,jL,kq,rd,get,jy,jz,jh,jg,jB,jP,jx,jw,bA,bN,kD,jT,jS,Nat.reduceBEq]
 refine kS _ _ (kh6 (ik := .u32) kl4) ?_
 dsimp only [zf,jm,jo,jc,jn,jF,je,jt,jr,jb,ja,jd,jA,jf,j4,ji,jj,jk,jl,jL,kq,rd,get,jy,jz,jh,jg,jB,jP,jx,jD,jX,jw,bA,bN,kD,jT,jS,Nat.reduceBEq,Nat.reduceAdd]
 refine kS _ _ (Xh (ik := .u32)) ?_
 dsimp only [zf,jE,jm,jo,jc,jn,jF,je,jt,jr,jb,ja,jd,jA,jf,j4,ji,jj,jk,jl,ju,jL,kq,rd,get,jy,jz,jh,jg,jB,jP,jx,jC,kL,jI,jD,jX,jw,bA,bN,kD,jT,jS,Nat.reduceBEq,Nat.reduceAdd]
 refine kS _ _ (jI2 kl4) ?_
 dsimp only [jU,jF,je,jt,jr,jb,rd,get,jy,jz,jh,jg,jD,jX,jw,bA,bN,jT,jS,Nat.reduceBEq,Nat.reduceAdd]
 refine kE (α := {x : CpY // Part (yH C S.n) x.done x.left}) (fun x => kO6 S S' C sf mk x.1) (fun x => x.1.left.length) ?_ ⟨⟨[], yH C S.n, none⟩, Part.start _⟩ (by rfl)
 rintro ⟨⟨done, left, cur⟩, hp⟩ I ih
 dsimp only at hp
 dsimp only [kO6,zf,jm,jo,jc,jn,ja,jd,jA,yl,ji,jj,jk,jl,jL,kq,rd,get,jy,jz,jh,jg,jB,jP,jx,bA,bN,kD,jT,jS,Nat.reduceBEq]
 refine Jp _ (jI3 rfl) ?_
 rintro d bx' (⟨hks, rfl, rfl⟩ | ⟨i, dk, dv, h1, h2, rfl, rfl⟩)
 ·dsimp only [jE,jm,jo,jc,jn,jU,kt,jK,ky,jF,je,j1,j3,kC,jt,jr,jb,ja,jd,jA,jf,jq,j4,ji,jj,jk,jl,ju,jL,kq,rd,get,jy,jz,jh,jg,jB,jP,jx,jC,kL,jM,jN,jI,jD,jX,jw,bA,bN,kD,qX,jT,jS,Nat.reduceBEq,Nat.reduceAdd]
  refine ⟨nofun, fun _ => ?_⟩
  have hl : left = [] := by simpa [qI] using hks
  subst hl
  have hwn := Qk h.ok'
  have hol := h.ok'.ordLen
  unfold Qj at hwn
  refine jv hwn ?_
  dsimp only [jc,jU,jF,je,jt,jr,jb,ja,jd,jA,jf,ji,jj,jk,jl,kz,jL,rd,get,jy,jz,jh,jg,jB,jP,jx,jw,bA,bN,jT,jS,Nat.reduceBEq]
  rw [zO, List.length_map]
  refine kE (α := {i : Nat // i <= S'.ord.length}) (fun i => kt2 S S' C sf done cur i.1) (fun i => S'.ord.length - i.1) ?_ ⟨0, Nat.zero_le _⟩ (by rfl)
  rintro ⟨i, hi⟩ I2 ih2
  dsimp only [kt2,zf,jE,jm,jo,jc,jn,jU,kt,jG,jK,ky,jF,je,j1,j3,kC,jt,jr,jb,ja,jd,jA,jf,ku,ji,jj,jk,jl,ju,jJ,j6,jL,kq,rd,get,jy,jz,jh,jg,jB,jP,km,jx,jC,kj,jM,jN,jH,kp,qB,kT,jI,jQ,kd,ki,jw,bA,bN,kU,jR,ko,qX,qH,j7,kr,j9,jT,jS,Nat.reduceBEq,Nat.reduceAdd]
  refine ⟨fun hj => ?_, fun hj => ?_⟩
  ·have hj : i < S'.ord.length := by simp at hj; omega
   obtain ⟨k, hk⟩ : ∃ k, S'.ord[i] = k := ⟨_, rfl⟩
   have hkm : k ∈ S'.ord := by rw [<- hk]; exact List.getElem_mem _
   have hkn : k <= S.n := h.n ▸ h.ok'.ordle hkm
   have hctl : (y9 S S' C sf (S'.ord.take i)).length <= i := by
    unfold y9
    rw [List.length_map]
    exact Nat.le_trans (List.length_filter_le _ _) (by rw [List.length_take]; omega)
   have hrow : (iL (S'.ord.map kQ))[((i : Nat) : Int).toNat]? = some (.int .u32 (kQ k)) := by
    rw [Int.toNat_natCast]
    have := js2 (l := S'.ord.map kQ) (i := i) (by rw [List.length_map]; exact hj)
    rw [this]; simp [hk]
   refine ⟨⟨rfl, by omega, by rw [zO, List.length_map]; omega⟩, kh _ _ hrow rfl ?_⟩
   dsimp only [jm,jo,jc,jn,jF,je,jt,jr,jb,ja,jd,jA,jf,j4,ji,jj,jk,jl,jL,kq,rd,get,jy,jz,jh,jg,jB,jP,jx,jw,bA,bN,kD,jT,jS,Nat.reduceBEq]
   have hlk : lk (ZE (jU9 S S' C sf) done) (kQ k) = some (kE2 S S' C sf k) := by
    have h2 := kj1 hp.fin (by simpa using hp.ndD hnd) (kQ k)
    have h3 := K5 (f := fun k => xy (C k)) (k := k) (n := S.n)
    rw [if_pos hkn] at h3
    rw [jK2, h2, show lk (yH C S.n) (kQ k) = _ from h3]
    show some (jU9 S S' C sf (kQ k)) = _
    unfold jU9
    rw [jK6]
   have hlp := Z2 (P := Tryz.prog) (gt := zM) (ik := .u32) (bx := (kt2 S S' C sf done cur i).bx) (j := 7) tCh tI zCh (kv := ZE (jU9 S S' C sf) done) rfl (kd3 (hp.ndD hnd)) (kQ k) true (zd := .nil) (fun h => by rw [hlk] at h; cases h)
   rw [hlk] at hlp
   change PrM _ _ _ _ _ (.tup [kE2 S S' C sf k, .bool true]) _ at hlp
   refine kH _ hlp ?_
   dsimp only [kE2,kq0,jm,jo,jc,jn,jF,je,jt,jr,jb,ja,jd,jA,jf,jq,ji,jj,jk,jl,ju,jJ,jL,kq,rd,get,jy,jz,jh,jg,jB,jP,jx,jC,kL,jM,jN,jH,kp,jI,jQ,jD,jX,kd,ki,jw,bA,bO,bN,bE,jT,jS,Nat.reduceBEq,Nat.reduceAdd]
   refine jv (fun _ => Zb) ?_
   dsimp only [jE,jm,jo,jc,jK,ky,jF,je,j0,kC,jt,jr,jb,ja,jd,jA,jf,ji,jj,jk,jl,ju,qg,kg,jL,kq,rd,get,jy,jz,jh,jg,jB,jP,km,jx,jC,jM,jN,jH,kp,jI,jQ,jD,jX,jw,bA,bO,bN,bE,kU,jR,closed,jV,ql,ko,jT,jS,Nat.reduceBEq,Nat.reduceAdd]
   rw [j8]
   have hsucc := ke2 (S := S) (S' := S') (C := C) (sf := sf) (l := S'.ord) hj
   rw [hk] at hsucc
   refine ⟨fun hc => ?_, fun hc => ?_⟩
   ·have hne : ¬ reg (jM7 S S' C sf k) = [] := fun he => by rw [he] at hc; simp at hc
    rw [if_neg hne] at hsucc
    refine ⟨⟨rfl, rfl, rfl, rfl, by simp only [List.length_singleton]; omega, by simp only [List.length_singleton]; omega⟩, by simp only [j5]; omega, ?_⟩
    exact kW (ih2 ⟨i + 1, hj⟩ (by dsimp only; omega)) ⟨rfl, rfl, rfl, by rw [hsucc, List.length_append]; rfl, rfl, rfl, by simp [get], trivial⟩ ⟨rfl, rfl, rfl, rfl, rfl, rfl, rfl, rfl, rfl, by rw [hsucc, List.length_append]; rfl, trivial⟩ rfl (by simp [kt2, zf, k8, low, vb, qO, q9, kX _ (hG _), kX _ (hH _), jD])
   ·have hne : reg (jM7 S S' C sf k) = [] := by
     simpa using hc
    rw [if_pos hne] at hsucc
    refine ⟨by simp only [j5]; omega, ?_⟩
    exact kW (ih2 ⟨i + 1, hj⟩ (by dsimp only; omega)) ⟨rfl, rfl, rfl, by rw [hsucc]; rfl, rfl, rfl, by simp [get], trivial⟩ ⟨rfl, rfl, rfl, rfl, rfl, rfl, rfl, rfl, rfl, by rw [hsucc], trivial⟩ rfl (by simp [kt2, zf, k8, low, vb, qO, q9, kX _ (hG _), kX _ (hH _), jD])
  ·have hj : i = S'.ord.length := by simp at hj; omega
   subst hj
   rw [List.take_length]
   have hperm : (ZE (jD4 S S' C sf) done).Perm (yH (jy3 S S' C sf) S.n) := by
    have h1 : (ZE (jD4 S S' C sf) done).Perm (ZE (jD4 S S' C sf) (yH C S.n)) := hp.fin.map _
    rw [show ZE (jD4 S S' C sf) (yH C S.n) = yH (jy3 S S' C sf) S.n from gKV_m fun k _ => by unfold jD4; rw [jK6]] at h1
    exact h1
   refine (Rt.perm (k := 6) (ik := .u32) (kv := ZE (jD4 S S' C sf) done) rfl hperm).trans (Rt.lend rfl ?_)
   have hc3 : jV (kZ (yH (jy3 S S' C sf) S.n)) = true := by
    rw [z8]
    intro d hd
    obtain ⟨p, hp, rfl⟩ := List.mem_map.1 hd
    obtain ⟨k, _, rfl⟩ := jl8 hp
    exact y7 _
   intro p hp
   simp only [List.mem_append, List.mem_cons, List.not_mem_nil, or_false, false_or] at hp
   rcases hp with (rfl | rfl) | rfl
   ·trivial
   ·exact hc3
   ·trivial
 ·obtain ⟨p, hpp, rfl⟩ := jJ4 h1
  rw [jJ3 hpp] at h2
  cases h2
  have hmem : p ∈ yH C S.n := hp.perm.mem_iff.1 (List.mem_append_right _ (List.mem_of_getElem? hpp))
  obtain ⟨k, hk, rfl⟩ := jl8 hmem
  dsimp only [jE,jm,jo,jc,jn,jU,kt,jK,ky,jF,je,j1,j3,kC,jt,jr,jb,ja,jd,jA,jf,jq,j4,ji,jj,jk,jl,ju,jL,kq,rd,get,jy,jz,jh,jg,jB,jP,jx,jC,kL,jM,jN,jI,jQ,jD,jX,jw,bA,bN,kD,qX,jT,jS,Nat.reduceBEq,Nat.reduceAdd]
  refine ⟨fun _ => ?_, nofun⟩
  refine kH _ (jI5 rfl) ?_
  dsimp only [xy,jm,jo,jc,jn,jF,je,jt,jr,jb,ja,jd,jA,jf,j4,ji,jj,jk,jl,ju,jJ,jL,kq,rd,get,jy,jz,jh,jg,jB,jP,jx,jC,kL,jM,jN,jH,kp,jI,jQ,jD,jX,kd,ki,jw,bA,bN,kD,jT,jS,Nat.reduceBEq,Nat.reduceAdd]
  have hfr : lk (ZE (jD4 S S' C sf) done) (kQ k) = none := by rw [jK2, hp.fresh hnd hpp]; rfl
  have hfr2 : lk (ZE (jU9 S S' C sf) done) (kQ k) = none := by rw [jK2, hp.fresh hnd hpp]; rfl
  have hnD : zC (ZE (jD4 S S' C sf) done) := kd3 (hp.ndD hnd)
  have hnE : zC (ZE (jU9 S S' C sf) done) := kd3 (hp.ndD hnd)
  have hnD2 : zC (ZE (jD4 S S' C sf) done ++ [(kQ k, xy (C k))]) := by rw [<- qA hfr]; exact jH8 hnD
  have e1 : ZE (jD4 S S' C sf) done ++ [(kQ k, jD4 S S' C sf (kQ k))] = ZE (jD4 S S' C sf) (done ++ [(kQ k, xy (C k))]) := (jU8 (p := (kQ k, xy (C k)))).symm
  have e2 : ZE (jU9 S S' C sf) done ++ [(kQ k, jU9 S S' C sf (kQ k))] = ZE (jU9 S S' C sf) (done ++ [(kQ k, xy (C k))]) := (jU8 (p := (kQ k, xy (C k)))).symm
  have hcs := h.c.size h.ok hk
  have hsz := h.ok'.size k
  have hic : zA 111 [xy (C k), .int .u32 (kQ k), Qj S, Qj S', Jx (S'.B k), jG7 (sf k)] (.tup [jD4 S S' C sf (kQ k), jU9 S S' C sf (kQ k)]) := by
   unfold jD4 jU9 kE2 jy3 jM7
   rw [jK6]
   exact jo2 h.ok h.ok' hk (h.n ▸ hk) (hm.ok k) hcs.1 hcs.2 (by omega) (by omega) (by omega) (by omega)
  refine kS _ _ (vY kl4 tI (kv := ZE (jD4 S S' C sf) done) rfl hnD (kQ k) (xy (C k))) ?_
  rw [qA hfr]
  dsimp only [zf,jE,jm,jo,jc,jn,kt,jK,ky,jF,je,j1,j0,j3,kC,jt,jr,jb,ja,jd,jA,jf,jq,ji,jj,jk,jl,ju,jL,kq,rd,get,jy,jz,jh,jg,jB,jP,jx,jC,kL,jM,jN,jI,jQ,jD,jX,jw,bA,bN,qX,jT,jS,Nat.reduceBEq,Nat.reduceAdd]
  refine ⟨fun hc => absurd hc (by rw [h.win]; simp), fun _ => ?_⟩
  refine jv (yI S'.kv_nd (S'.kv_lk (h.n ▸ hk))) ?_
  dsimp only [Jx,jE,jm,jo,jc,jn,kt,jK,ky,jF,je,j1,j0,j3,kC,jt,jr,jb,ja,jd,jA,jf,jq,j4,ji,jj,jk,jl,ju,jJ,jL,kq,rd,get,jy,jz,jh,jg,jB,jP,jx,jC,kL,jM,jN,jH,kp,jI,jQ,jD,jX,kd,ki,jw,bA,bN,kD,qX,jT,jS,Nat.reduceBEq,Nat.reduceAdd]
  refine ⟨nofun, fun _ => ?_⟩
  refine kH _ (kM1 hm hk) ?_
  dsimp only [jc,ja,jd,jA,jq,ji,jj,jk,jl,jL,kq,rd,get,jy,jz,jh,jg,jB,jP,jx,jw,bA,bN,jT,jS,Nat.reduceBEq]
  refine jv hic ?_
  dsimp only [jc,ja,jd,jA,jf,j4,ji,jj,jk,jl,jL,kq,rd,get,jy,jz,jh,jg,jB,jP,jx,kL,jw,bA,bN,kD,jT,jS,Nat.reduceBEq]
  refine kS _ _ (vY kl4 tI (kv := ZE (jD4 S S' C sf) done ++ [(kQ k, xy (C k))]) rfl hnD2 (kQ k) (jD4 S S' C sf (kQ k))) ?_
  rw [jS1 hfr, e1]
  dsimp only [zf,jc,ja,jd,jA,j4,ji,jj,jk,jl,jL,kq,rd,get,jy,jz,jh,jg,jB,jP,jx,jQ,jw,bA,bN,kD,jT,jS,Nat.reduceBEq]
  refine kS _ _ (vY tCh tI (kv := ZE (jU9 S S' C sf) done) rfl hnE (kQ k) (jU9 S S' C sf (kQ k))) ?_
  rw [qA hfr2, e2]
  dsimp only [zf,jF,j0,kC,jt,jr,jb,rd,get,jy,jz,jh,jg,jQ,jw,bA,bN,jT,jS,Nat.reduceBEq]
  have hstep := hp.step hpp
  have hlc : jV (kZ (left.eraseIdx i)) = true := XP hcc fun q hq => hstep.perm.mem_iff.1 (List.mem_append_right _ hq)
  rw [Kh, Kg]
  exact kW (ih ⟨⟨done ++ [(kQ k, xy (C k))], left.eraseIdx i, _⟩, hstep⟩ (by have := Vb hpp; dsimp only; omega)) ⟨rfl, rfl, rfl, rfl, rfl, rfl, rfl, rfl, trivial⟩ ⟨rfl, rfl, rfl, rfl, rfl, rfl, rfl, rfl, rfl, trivial⟩ rfl (by simp [kO6, zf, k8, low, vb, qO, q9, kX _ (hG _), kX _ (hH _), kX _ hlc, jD])
end Go.AM
