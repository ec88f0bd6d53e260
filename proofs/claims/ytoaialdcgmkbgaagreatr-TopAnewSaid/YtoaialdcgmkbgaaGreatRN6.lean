import Derived.Test.YtoaialdcgmkbgaaGreatRN3

set_option linter.all false
namespace Go.AM
open Go Go.RowKit Go.Proofs
def ApR (r q : Rc) : Prop := ∀ x y, ¬ (r.has x y /\ q.has x y)
theorem kx4 {y h : Int} : ∀ {s : List (Int × Int)}, jB6 s -> (s.map fun t => (⟨t.1, y, t.2 - t.1, h⟩ : Rc)).Pairwise ApR
 | [], _ => List.Pairwise.nil
 | t :: l, hs => by
   obtain ⟨h1, h2, h3⟩ := xr hs
   rw [List.map_cons, List.pairwise_cons]
   refine ⟨fun q hq x y hh => ?_, kx4 h1⟩
   obtain ⟨u, hu, rfl⟩ := List.mem_map.1 hq
   have := h3 u hu
   obtain ⟨⟨h4, _⟩, h5, _⟩ := hh
   dsimp only at h4 h5
   omega
theorem kx6 : ∀ {b : List Bnd}, ki3 b -> (qG b).Pairwise ApR
 | [], _ => List.Pairwise.nil
 | c :: l, hb => by
   obtain ⟨h1, h2, h3, _⟩ := vy hb
   show (c.s.map _ ++ qG l).Pairwise ApR
   rw [List.pairwise_append]
   refine ⟨kx4 h2.2.2, kx6 h1, fun r hr q hq x y hh => ?_⟩
   obtain ⟨u, hu, rfl⟩ := List.mem_map.1 hr
   obtain ⟨d, hd, hq⟩ := List.mem_flatMap.1 hq
   obtain ⟨v, hv, rfl⟩ := List.mem_map.1 hq
   have := h3 d hd
   obtain ⟨⟨_, h4⟩, _, h5⟩ := hh
   dsimp only at h4 h5
   omega
theorem kB8 {l : List Rc} (h : Jy l) : l.Pairwise ApR := by
 obtain ⟨b, hb, rfl⟩ := h
 exact kx6 hb
theorem kC0 {l : List Rc} (h : Jy l) {i : Nat} {r : Rc} (hr : l[i]? = some r) {x y : Int} : ¬ (r.has x y /\ qL (l.take i) x y) := by
 rintro ⟨h1, q, hq, h2⟩
 obtain ⟨hi, hr⟩ := List.getElem?_eq_some_iff.1 hr
 have hp := kB8 h
 rw [<- List.take_append_drop i l, List.pairwise_append] at hp
 have hm : r ∈ l.drop i := by
  rw [List.drop_eq_getElem_cons hi, hr]; simp
 exact hp.2.2 q hq r hm x y ⟨h2, h1⟩
def rAt (l : List Rc) (j : Nat) : Rc := l.getD j ⟨0, 0, 0, 0⟩
theorem kv2 {l : List Rc} {j : Nat} {r : Rc} (h : l[j]? = some r) : rAt l j = r := by
 unfold rAt
 rw [List.getD_eq_getElem?_getD, h]; rfl
def evN (id : Int) (l : List Rc) (j : Nat) : List D := [.int .i64 id, .int .i64 (rAt l j).x, .int .i64 (rAt l j).y, .int .i64 (rAt l j).w, .int .i64 (rAt l j).h, .int .i64 ((l.length : Int) - 1 - j)]
def evD (code id : Int) (l : List Rc) (j : Nat) : D := .agg [.int .i64 2, .int .i64 code, .int .i64 0, .ls 1 (evN id l j), .str [], .ls 1 []]
def kp7 (code id : Int) (l : List Rc) (n : Nat) : List D := (List.range n).map (evD code id l)
theorem jm3 (code id : Int) (l : List Rc) (n : Nat) : (kp7 code id l n).length = n := by simp [kp7]
theorem kA5 (code id : Int) (l : List Rc) (n : Nat) : kp7 code id l (n + 1) = kp7 code id l n ++ [evD code id l n] := by simp [kp7, List.range_succ]
theorem kU3 {code id : Int} {l : List Rc} {n i : Nat} (h : i < n) : (kp7 code id l n)[i]? = some (evD code id l i) := by simp [kp7, h]
theorem jb0 {code id : Int} {l : List Rc} (hid : j5 .u32 id) (hl : l.length <= 1000000) :
  zA 193 [.int .i64 code, .int .u32 id, .agg [.ls 4 (kJ l)]] (.ls 6 (kp7 code id l l.length)) := by
 refine Ya (by rfl) ?_
 dsimp only [c_expose_events,Qy,jm,jo,jc,jn,jF,je,jt,jr,jb,ja,jd,jA,jf,jq,ji,jj,jk,jl,ju,jL,kq,rd,get,jy,jz,jh,jg,jB,jP,jx,jC,kj,jM,jN,jI,jD,jX,jw,env0,bA,bN,jT,jS,o1,o0,Nat.reduceBEq,Nat.reduceAdd]
 refine jv (JY (by rw [j8]; omega)) ?_
 dsimp only [jm,jo,jc,jn,jU,jF,je,jt,jr,jb,ja,jd,jA,jf,ji,jj,jk,jl,kz,jL,rd,get,jy,jz,jh,jg,jB,jP,km,jx,jD,jX,jw,bA,bN,ji2,jT,jS,Nat.reduceBEq,Nat.reduceAdd]
 rw [j8]
 refine ⟨⟨by omega, by omega, by omega⟩, ?_⟩
 refine kE (α := {i : Nat // i <= l.length})
  (fun i => ⟨[(0, [], .int .i64 code), (1, [], .int .u32 id), (7, [], .ls 4 (kJ l)), (8, [], .own 2 (i.1 + 1)), (17, [], .ls 4 (kJ l)), (18, [], .int .i64 l.length), (19, [], .int .i64 i.1)], [.cells [.ls 4 (kJ l)], .arr 264 6 0 [], .arr 264 6 (i.1 + 1) (kp7 code id l i.1)]⟩)
  (fun i => l.length - i.1) ?_ ⟨0, Nat.zero_le _⟩ rfl
 rintro ⟨i, hi⟩ I ih
 dsimp only at hi |-
 dsimp only [jE,jm,jo,jc,jn,jU,kt,jG,jK,ky,jF,je,j1,j3,kC,jt,jr,jb,ja,jd,jA,jf,ku,ji,jj,jk,jl,ju,j6,jL,rd,get,jy,jz,jh,jg,jB,jP,km,jx,jC,jI,jw,bA,bN,kU,jR,lend,ko,kw,kx,jZ,j7,kr,j9,jT,jS,Nat.reduceBEq]
 refine ⟨fun hlt => ?_, fun hge => ?_⟩
 ·have hil : i < l.length := by simp only [decide_eq_true_eq] at hlt; omega
  obtain ⟨r, hr⟩ : ∃ r, l[i]? = some r := ⟨_, List.getElem?_eq_getElem hil⟩
  have hrow : (kJ l)[((i : Nat) : Int).toNat]? = some (rD r) := by rw [Int.toNat_natCast]; simp [kJ, hr]
  have hat := kv2 hr
  refine ⟨⟨rfl, by omega, by rw [j8]; omega⟩, kh _ _ hrow rfl ?_⟩
  dsimp only [jm,jo,jc,jn,jF,je,j0,kC,jt,jr,jb,ja,jd,jA,jf,ji,jj,jk,jl,ju,jJ,kz,qg,jL,kq,rd,get,jy,jz,jh,jg,jB,jP,km,jx,jC,kj,kL,jH,kp,qB,kT,jI,jQ,jD,jX,kd,ki,jw,bA,bN,kU,jR,closed,jV,ql,ko,jT,jS,Nat.reduceBEq,Nat.reduceAdd]
  rw [j8]
  have hev : D.agg [.int .i64 2, .int .i64 code, .int .i64 0, .ls 1 [.int .i64 id, .int .i64 r.x, .int .i64 r.y, .int .i64 r.w, .int .i64 r.h, .int .i64 ((l.length : Int) - 1 - i)], .str [], .ls 1 []] = evD code id l i := by unfold evD evN; rw [hat]
  rw [hev, <- kA5, jm3]
  exact ⟨by simp only [j5] at hid |-; omega, by simp only [j5]; omega, by simp only [j5]; omega, ⟨rfl, rfl, rfl, rfl, by simp only [List.length_singleton]; omega, by simp only [List.length_singleton]; omega⟩, by simp only [j5]; omega, kW (ih ⟨i + 1, hil⟩ (by dsimp only; omega)) ⟨rfl, rfl, rfl, rfl, rfl, rfl, by simp [get], trivial⟩ ⟨rfl, rfl, rfl, trivial⟩ rfl rfl⟩
 ·have hil : i = l.length := by simp only [decide_eq_false_iff_not] at hge; omega
  subst hil
  exact ⟨rfl, rfl⟩
theorem jb1 {id : Int} {K N : PS} (hid : j5 .u32 id) (hl : (reg N).length <= 4096) :
  zA 166 [kq0 id K N] (.ls 6 (kp7 10 id (reg N) (reg N).length)) := by
 refine Yb (by rfl) ?_
 dsimp only [c_expose_Events,Qz,kq0,jm,jo,jc,jn,jF,je,jt,jr,jb,ja,jd,jA,jf,jq,ji,jj,jk,jl,ju,jL,kq,rd,get,jy,jz,jh,jg,jB,jP,jx,jC,kj,kL,jM,jN,jI,jD,jX,jw,env0,bA,bN,jT,jS,o1,Nat.reduceBEq,Nat.reduceAdd]
 refine jv (jb0 hid (by omega)) ?_
 dsimp only [jc,jG,jF,je,jt,jr,jb,ja,jd,jA,jf,ji,jj,jk,jl,jL,rd,get,jy,jz,jh,jg,jB,jP,jx,jw,bA,bN,lend,kw,kx,jZ,j7,kr,j9,jT,jS,Nat.reduceBEq]
theorem ks3 {l : List Rc} {i : Nat} {r : Rc} (hr : l[i]? = some r) : (fun x y => qL (l.take i) x y \/ r.has x y) = qL (l.take (i + 1)) := zz fun x y => by
 rw [List.take_succ, hr]
 exact (pts_app.trans (or_congr Iff.rfl jI0)).symm
theorem jP3 {id : Int} {K N : PS} (hid : j5 .u32 id) (hN : Sq N) : zA 119 [kq0 id K N] (.tup [KS N, .bool true]) := by
 have hb := hN.bdd
 have hlen := hN.len
 have hpt := yV hb
 have hpt' := yV hb
 have hvr := yU hb
 have hca := jH6 hb
 obtain ⟨l, hl⟩ : ∃ l, reg N = l := ⟨_, rfl⟩
 have hsub : ∀ i, Sq (qL (l.take i)) := fun i => hN.sub fun x y ⟨r, hr, hh⟩ => (hpt x y).1 (by rw [hl]; exact ⟨r, List.mem_of_mem_take hr, hh⟩)
 have hev := jb1 (K := K) hid (hN.len)
 unfold kq0 at hev |-
 rw [hl] at hlen hpt hvr hca hev |-
 refine ja1 (by rfl) ?_
 dsimp only [c_top_anewTold,Zi,jm,jo,jc,jn,jF,je,jt,jr,jb,ja,jd,jA,jf,jq,ji,jj,jk,jl,ju,jL,kq,rd,get,jy,jz,jh,jg,jB,jP,jx,jC,kj,jM,jN,jI,jD,jX,jw,env0,bA,bN,jT,jS,o1,o0,og,Nat.reduceBEq,Nat.reduceAdd]
 refine jv hev ?_
 dsimp only [jm,jo,jc,jn,jU,jF,je,jt,jr,jb,ja,jd,jA,jf,ji,jj,jk,jl,jJ,kz,jL,kq,rd,get,jy,jz,jh,jg,jB,jP,jx,jH,kp,qB,kT,jI,jQ,jD,jX,kd,ki,jw,bA,bN,jT,jS,Nat.reduceBEq,Nat.reduceAdd]
 rw [jm3]
 refine kE (α := {i : Nat // i <= l.length})
  (fun i => ⟨[(1, [], .box 0 0), (2, [], .box 1 0), (4, [], .ls 6 (kp7 10 id l l.length)), (5, [], .box 2 0), (12, [], .ls 6 (kp7 10 id l l.length)), (13, [], .int .i64 l.length), (14, [], .int .i64 i.1)], [.cells [.int .u32 id, .ls 4 (kJ (reg K)), .ls 4 (kJ l)], .cells [.ls 4 []], .cells [.ls 4 (kJ (reg (qL (l.take i.1))))]]⟩)
  (fun i => l.length - i.1) ?_ ⟨0, Nat.zero_le _⟩ (by
    have : reg (qL (l.take 0)) = [] := (KT (hsub 0).bdd).2 fun x y ⟨r, hr, _⟩ => by simp at hr
    dsimp only
    rw [this]; rfl)
 rintro ⟨i, hi⟩ I ih
 dsimp only at hi |-
 dsimp only [jE,jm,jo,jc,jn,jU,kt,jG,jK,ky,jF,je,j1,j3,kC,jt,jr,jb,ja,jd,jA,jf,ku,ji,jj,jk,jl,ju,jJ,j6,jL,rd,get,jy,jz,jh,jg,jB,jP,km,jx,jC,jM,jN,jH,kp,jI,jQ,kd,ki,jw,bA,bN,kU,jR,kA,lend,ko,kw,kx,jZ,j7,kr,j9,zh,jT,jS,Nat.reduceBEq,Nat.reduceAdd]
 refine ⟨fun hlt => ?_, fun hge => ?_⟩
 ·have hil : i < l.length := by simp only [decide_eq_true_eq] at hlt; omega
  obtain ⟨r, hr⟩ : ∃ r, l[i]? = some r := ⟨_, List.getElem?_eq_getElem hil⟩
  have hat := kv2 hr
  have hrow : (kp7 10 id l l.length)[((i : Nat) : Int).toNat]? = some (evD 10 id l i) := by rw [Int.toNat_natCast]; exact kU3 hil
  refine ⟨⟨rfl, by omega, by rw [jm3]; omega⟩, kh _ _ hrow rfl ?_⟩
  dsimp only [evN,jm,jo,jc,jn,jF,je,jt,jr,jb,ja,jd,jA,jf,ku,ji,jj,jk,jl,ju,jJ,j6,kz,jL,rd,get,jy,jz,jh,jg,jB,jP,km,jx,jC,kL,jH,kp,jI,jQ,jD,jX,kd,ki,jw,bA,bO,bN,bE,kU,jR,ko,jT,jS,Nat.reduceBEq,Nat.reduceAdd]
  rw [hat]
  refine ⟨fun _ => ⟨rfl, by omega, by simp⟩, kh _ _ (fun _ => rfl) rfl ?_⟩
  dsimp only [jc,ja,jd,jA,jf,ku,ji,jj,jk,jl,ju,j6,kg,jL,rd,get,jy,jz,jh,jg,jB,jP,km,jx,jC,kL,jI,jw,bA,bO,bN,bE,kU,jR,ko,jT,jS,Nat.reduceBEq,Nat.reduceAdd]
  refine ⟨fun _ => hid, ?_⟩
  refine ⟨fun _ => ⟨rfl, by omega, by simp⟩, kh _ _ (fun _ => rfl) rfl ?_⟩
  dsimp only [jE,jm,jo,jc,jn,jG,jK,ky,jF,je,jO,kR,kC,jt,jr,jb,ja,jd,jA,zb,qC,zm,zu,jf,ku,ji,jj,jk,jl,ju,jJ,j6,kz,kg,jL,rd,get,jy,jz,jh,jg,jB,jP,km,jx,jC,kL,jM,jN,jH,kp,jI,jQ,kd,ki,jw,bA,bO,bN,bE,kU,jR,kA,lend,ko,kw,kx,jZ,j7,kr,j9,zh,jT,jS,Nat.reduceBEq,Nat.reduceAdd]
  rw [jm3]
  refine ⟨fun _ => by simp only [j5]; omega, fun _ => by simp only [j5]; omega, ?_⟩
  refine ⟨fun hc => absurd hc (by simp), fun _ => ?_⟩
  refine ⟨⟨rfl, by omega, by simp⟩, kh _ _ rfl rfl ?_⟩
  dsimp only [jc,ja,jd,jA,zb,qC,zm,zu,jf,ku,ji,jj,jk,jl,ju,j6,jL,rd,get,jy,jz,jh,jg,jB,jP,km,jx,jC,kL,jI,jw,bA,bO,bN,jT,jS,Nat.reduceBEq,Nat.reduceAdd]
  refine ⟨⟨rfl, by omega, by simp⟩, kh _ _ rfl rfl ?_⟩
  dsimp only [jc,ja,jd,jA,zb,qC,zm,zu,jf,ku,ji,jj,jk,jl,ju,j6,jL,rd,get,jy,jz,jh,jg,jB,jP,km,jx,jC,kL,jI,jw,bA,bO,bN,jT,jS,Nat.reduceBEq,Nat.reduceAdd]
  refine ⟨⟨rfl, by omega, by simp⟩, kh _ _ rfl rfl ?_⟩
  dsimp only [jc,ja,jd,jA,zb,qC,zm,zu,jf,ku,ji,jj,jk,jl,ju,j6,jL,rd,get,jy,jz,jh,jg,jB,jP,km,jx,jC,kL,jI,jw,bA,bO,bN,jT,jS,Nat.reduceBEq,Nat.reduceAdd]
  refine ⟨⟨rfl, by omega, by simp⟩, kh _ _ rfl rfl ?_⟩
  dsimp only [jc,ja,jd,jA,jf,za,ji,jj,jk,jl,jL,kq,rd,get,jy,jz,jh,jg,jB,jP,jx,kj,jH,kp,qB,kT,jD,jX,kd,ki,jw,bA,bN,closed,jV,ql,jT,jS,Nat.reduceBEq,Nat.reduceAdd]
  have hrl : r ∈ l := List.mem_of_getElem? hr
  have vr := hvr r hrl
  have qr : Sq fun x y => r.has x y := hN.sub fun x y hh => (hpt x y).1 ⟨r, hrl, hh⟩
  have qt := hsub i
  refine xS (Z1 vr) ?_
  dsimp only [jm,jo,jc,jn,jF,je,jt,jr,jb,ja,jd,jA,zb,qC,zm,zu,jf,jq,ji,jj,jk,jl,ju,jJ,jL,kq,rd,get,jy,jz,jh,jg,jB,jP,jx,jC,jM,jN,jH,kp,jI,jQ,jD,jX,kd,ki,jw,bA,bO,bN,jT,jS,Nat.reduceBEq,Nat.reduceAdd]
  refine jv (KQ qr.bdd qt.bdd (Nat.add_le_add qr.len qt.len)) ?_
  dsimp only [jc,ja,jd,jA,jq,ji,jj,jk,jl,jL,kq,rd,get,jy,jz,jh,jg,jB,jP,jx,jw,bA,bN,jT,jS,Nat.reduceBEq]
  have hno : reg (fun x y => r.has x y /\ qL (l.take i) x y) = [] := (KT (qr.sub fun _ _ h => h.1).bdd).2 fun x y => kC0 hca hr
  refine jv Zb ?_
  dsimp only [jE,jm,jo,jc,jn,jG,jK,ky,jF,je,jO,kR,kC,jt,jr,jb,ja,jd,jA,jf,jq,ji,jj,jk,jl,ju,jJ,jL,kq,rd,get,jy,jz,jh,jg,jB,jP,jx,jC,jM,jN,jH,kp,jI,jQ,kd,ki,jw,bA,bN,kA,lend,kw,kx,jZ,j7,kr,j9,zh,jT,jS,Nat.reduceBEq,Nat.reduceAdd]
  rw [hno]
  refine ⟨fun hc => absurd hc (by simp [kJ]), fun _ => ?_⟩
  have hun := kt5 qt.bdd qr.bdd qt.len qr.len
  unfold KS at hun
  rw [ks3 hr] at hun
  refine jv hun ?_
  dsimp only [jm,jo,jc,jF,je,j0,kC,jt,jr,jb,ja,jd,jA,jf,ji,jj,jk,jl,jJ,jL,rd,get,jy,jz,jh,jg,jB,jP,km,jx,jH,kp,jI,jQ,kd,ki,jw,bA,bN,kU,jR,ko,jT,jS,Nat.reduceBEq,Nat.reduceAdd]
  exact ⟨by simp only [j5]; omega, kW (ih ⟨i + 1, hil⟩ (by dsimp only; omega)) ⟨rfl, rfl, rfl, rfl, rfl, rfl, by simp [get], trivial⟩ ⟨rfl, rfl, rfl, trivial⟩ rfl rfl⟩
 ·have hil : i = l.length := by simp only [decide_eq_false_iff_not] at hge; omega
  subst hil
  rw [List.take_length]
  have he : reg (qL l) = reg N := by rw [<- hl]; exact KU hpt'
  unfold KS
  rw [he, hl]

theorem jz5 {P : PS} (hq : Sq P) {x y : Int} {b : Bool} (hb : b = true ↔ P x y) : zA 45 [KS P, .int .i64 x, .int .i64 y] (.bool b) :=
 kP2 (jH6 hq.bdd) (yU hq.bdd) (Nat.le_trans hq.len (by omega)) (by rw [hb, yV hq.bdd])
theorem kC2 (p : Prop) : ∃ b : Bool, b = true ↔ p := by
 by_cases h : p
 ·exact ⟨true, by simp [h]⟩
 ·exact ⟨false, by simp [h]⟩
theorem jG1 {kv : KV} (hn : zC kv) {id : Int} {i : It} (hi : lk kv id = some (xy i)) (hwin : i.win = true) (hw : 1 <= i.w /\ i.w <= 16) (hh : 1 <= i.h /\ i.h <= 16)
  {w0 h0 : Nat} {f0 : Px} (hw0 : w0 <= 16) (hh0 : h0 <= 16) {V T : PS} (hV : Sq V) (hT : Sq T) (hTV : ∀ x y, T x y -> V x y) {s : Sf} (hs : s.Ok)
  (hval : ∀ x y, vL i.w i.h x y -> V x y -> (T x y -> i.f x y = i.g) /\ (¬ T x y -> i.f x y = atV w0 h0 f0 (x - s.dx) (y - s.dy))) :
  zA 120 [.agg [qO .u32 kv], gD w0 h0 f0, .int .u32 id, KS V, KS T, jG7 s] (.bool true) := by
 have hm := zY (w := i.w) (h := i.h) (by omega) (by omega)
 have hgr := xl hn hi
 have hgd := jb2 hn hi hwin
 unfold Sf.Ok at hs
 unfold qO gD at hgr
 unfold qO at hgd
 refine X3 (by rfl) ?_
 dsimp only [c_top_anewWhole,Qq,qO,gD,KS,jG7,jm,jo,jc,jn,jF,je,jt,jr,jb,ja,jd,jA,jf,jq,ji,jj,jk,jl,ju,jL,kq,rd,get,jy,jz,jh,jg,jB,jP,jx,jC,kj,jM,jN,jI,jD,jX,jw,env0,bA,bN,jT,jS,o1,o0,og,Nat.reduceBEq,Nat.reduceAdd]
 refine jv hgr ?_
 dsimp only [jm,jo,jc,jn,jF,je,jt,jr,jb,ja,jd,jA,jf,jq,ji,jj,jk,jl,ju,jJ,jL,kq,rd,get,jy,jz,jh,jg,jB,jP,jx,jC,kL,jM,jN,jH,kp,jI,jQ,jD,jX,kd,ki,jw,bA,bN,jT,jS,Nat.reduceBEq,Nat.reduceAdd]
 refine jv hgd ?_
 dsimp only [jE,jm,jo,jc,jn,jG,jK,ky,jF,je,jO,jt,jr,jb,ja,jd,jA,jf,jq,ji,jj,jk,jl,ju,kg,jL,kq,rd,get,jy,jz,jh,jg,jB,jP,jx,jC,kL,jM,jN,jI,jw,bA,bO,bN,bE,lend,kw,kx,jZ,j7,kr,j9,jT,jS,Nat.reduceBEq]
 refine ⟨nofun, fun _ => ?_⟩
 refine jv Z0 ?_
 dsimp only [jm,jo,jc,jn,jU,jF,je,jt,jr,jb,ja,jd,jA,jf,ji,jj,jk,jl,jL,rd,get,jy,jz,jh,jg,jB,jP,km,jx,kL,jw,bA,bN,kU,jR,ko,jT,jS,Nat.reduceBEq]
 rw [jJ1]
 refine ⟨by simp only [j5]; omega, ?_⟩
 refine kE (α := {j : Nat // j <= i.w * i.h})
  (fun j => ⟨[(7, [], .box 1 0), (9, [], .box 2 0), (10, [], .box 3 0), (11, [], .box 4 0), (13, [], .box 5 0), (15, [], .int .u8 i.g), (18, [], .int .i64 i.w), (50, [], .int .i64 ((i.w * i.h : Nat) : Int)), (51, [], .int .i64 j.1)],
    [.cells [.mp (qI .u32 kv) (kZ kv)], .cells [.int .i64 w0, .int .i64 h0, .ls 1 (gl w0 h0 f0)], .cells [.ls 4 (kJ (reg V))], .cells [.ls 4 (kJ (reg T))], .cells [.int .i64 s.dx, .int .i64 s.dy, .bool s.fg], .cells [.int .i64 i.w, .int .i64 i.h, .ls 1 (gl i.w i.h i.f)]]⟩)
  (fun j => i.w * i.h - j.1) ?_ ⟨0, Nat.zero_le _⟩ rfl
 rintro ⟨j, hj⟩ I ih
 dsimp only at hj |-
 dsimp only [jE,jm,jo,jc,jn,jU,kt,jK,ky,jF,je,j1,j3,kC,jt,jr,jb,ja,jd,jA,jf,jq,ji,jj,jk,jl,ju,jL,kq,rd,get,jy,jz,jh,jg,jB,jP,km,jx,jC,jM,jN,jI,jw,bA,bN,kU,jR,ko,jj8,jb7,kw,jT,jS,Nat.reduceBEq]
 refine ⟨fun hlt => ?_, fun hge => ?_⟩
 ·have hjl : j < i.w * i.h := by simp only [decide_eq_true_eq] at hlt; omega
  have hin := kj3 hw.1 hjl
  have e1 : ((j : Int) % (i.w : Int)) = ((j % i.w : Nat) : Int) := by simp
  have e2 : ((j : Int) / (i.w : Int)) = ((j / i.w : Nat) : Int) := by simp
  rw [e1, e2]
  clear e1 e2
  obtain ⟨y, hy⟩ : ∃ y, j / i.w = y := ⟨_, rfl⟩
  obtain ⟨x, hx⟩ : ∃ x, j % i.w = x := ⟨_, rfl⟩
  rw [hx, hy] at hin |-
  clear hx hy
  have hin2 := hin
  unfold vL at hin2
  refine ⟨⟨by omega, by omega⟩, ⟨by omega, by omega, by simp only [j5]; omega⟩, ?_⟩
  have hvi := hval x y hin
  obtain ⟨bV, hbV⟩ := kC2 (V x y)
  obtain ⟨bT, hbT⟩ := kC2 (T x y)
  have hHV := jz5 hV hbV
  have hHT := jz5 hT hbT
  unfold KS at hHV hHT
  refine jv hHV ?_
  dsimp only [jE,jm,jo,jc,jn,kt,jK,ky,jF,je,j1,j0,j3,kC,jt,jr,jb,ja,jd,jA,jf,jq,ji,jj,jk,jl,ju,jL,kq,rd,get,jy,jz,jh,jg,jB,jP,km,jx,jC,kL,jM,jN,jI,jw,bA,bN,kU,jR,ko,kw,jT,jS,Nat.reduceBEq,Nat.reduceAdd]
  cases hv : bV with
  | false =>
    refine ⟨fun _ => ?_, fun h => absurd h (by simp)⟩
    exact ⟨by simp only [j5]; omega, kW (ih ⟨j + 1, hjl⟩ (by dsimp only; omega)) ⟨rfl, rfl, rfl, rfl, rfl, rfl, rfl, rfl, by simp [get], trivial⟩ ⟨rfl, rfl, rfl, rfl, rfl, rfl, trivial⟩ rfl rfl⟩
  | true =>
    refine ⟨fun h => absurd h (by simp), fun _ => ?_⟩
    have hvi := hvi (hbV.1 hv)
    refine ⟨by simp only [j5]; omega, by simp only [j5]; omega, ?_⟩
    refine jv (km4 (by omega) (by omega)) ?_
    dsimp only [jm,jo,jc,jn,jF,je,jt,jr,jb,ja,jd,jA,jf,jq,ji,jj,jk,jl,ju,jL,kq,rd,get,jy,jz,jh,jg,jB,jP,jx,jC,jM,jN,jI,jw,bA,bN,jT,jS,Nat.reduceBEq]
    refine jv hHT ?_
    dsimp only [jE,jm,jo,jc,jn,jK,ky,jF,je,jt,jr,jb,ja,jd,jA,jf,jq,ji,jj,jk,jl,ju,jL,kq,rd,get,jy,jz,jh,jg,jB,jP,jx,jC,jM,jN,jI,jw,bA,bN,jT,jS,Nat.reduceBEq]
    cases ht : bT with
    | true =>
      refine ⟨fun _ => ?_, fun h => absurd h (by simp)⟩
      refine jv (jP5 (by omega) (by omega) hin) ?_
      dsimp only [jE,jm,jo,jc,jn,jG,jK,ky,jF,je,jO,j0,kR,kC,jt,jr,jb,ja,jd,jA,jf,ji,jj,jk,jl,jL,rd,get,jy,jz,jh,jg,jB,jP,km,jx,jw,bA,bN,kU,jR,lend,ko,kw,kx,jZ,j7,kr,j9,jT,jS,Nat.reduceBEq]
      refine ⟨fun hc => absurd hc (by rw [hvi.1 (hbT.1 ht)]; simp), fun _ => ?_⟩
      exact ⟨by simp only [j5]; omega, kW (ih ⟨j + 1, hjl⟩ (by dsimp only; omega)) ⟨rfl, rfl, rfl, rfl, rfl, rfl, rfl, rfl, by simp [get], trivial⟩ ⟨rfl, rfl, rfl, rfl, rfl, rfl, trivial⟩ rfl rfl⟩
    | false =>
      have hnt : ¬ T x y := fun h => by have := hbT.2 h; rw [ht] at this; cases this
      refine ⟨fun h => absurd h (by simp), fun _ => ?_⟩
      refine jv (jP5 (by omega) (by omega) hin) ?_
      dsimp only [jE,jm,jo,jc,jn,jG,jK,ky,jF,je,jO,j0,kR,kC,jt,jr,jb,ja,jd,jA,jf,ji,jj,jk,jl,jL,rd,get,jy,jz,jh,jg,jB,jP,km,jx,jw,bA,bN,kU,jR,lend,ko,kw,kx,jZ,j7,kr,j9,jT,jS,Nat.reduceBEq]
      refine ⟨fun hc => absurd hc (by rw [hvi.2 hnt]; simp), fun _ => ?_⟩
      exact ⟨by simp only [j5]; omega, kW (ih ⟨j + 1, hjl⟩ (by dsimp only; omega)) ⟨rfl, rfl, rfl, rfl, rfl, rfl, rfl, rfl, by simp [get], trivial⟩ ⟨rfl, rfl, rfl, rfl, rfl, rfl, trivial⟩ rfl rfl⟩
 ·refine jv (km3 (b := true) hT.bdd hV.bdd (Nat.add_le_add hT.len hV.len) (by simp only [true_iff]; exact hTV)) ?_
  dsimp only [jc,jG,jF,je,jt,jr,jb,ja,jd,jA,jf,ji,jj,jk,jl,jL,rd,get,jy,jz,jh,jg,jB,jP,jx,jw,bA,bN,lend,kw,kx,jZ,j7,kr,j9,jT,jS,Nat.reduceBEq]

theorem kh3 {f : Nat -> D} {n k : Nat} {d : D} (hk : k <= n) : put (QQ f n) (kQ k) d = QQ (fun j => if j = k then d else f j) n := by
 have hl := K5 (f := f) (k := k) (n := n)
 rw [if_pos hk] at hl
 rw [jH9 JK hl]
 unfold QQ
 rw [List.map_map]
 apply List.map_congr_left
 intro j _
 show (if kQ j = kQ k then (kQ k, d) else (kQ j, f j)) = (kQ j, if j = k then d else f j)
 by_cases h : j = k
 ·rw [h, if_pos rfl, if_pos rfl]
 ·rw [if_neg (fun he => h (vE.1 he)), if_neg h]
def jY2 (C : Nat -> It) (k : Nat) (i : It) : Nat -> It := fun j => if j = k then i else C j
theorem kG9 {C : Nat -> It} {n k : Nat} {i : It} (hk : k <= n) : put (yH C n) (kQ k) (xy i) = yH (jY2 C k i) n := by
 unfold yH
 rw [kh3 hk]
 congr 1
 funext j
 unfold jY2
 by_cases h : j = k
 ·rw [if_pos h, if_pos h]
 ·rw [if_neg h, if_neg h]
def Ws.upd (S : Ws) (k : Nat) (b : Bx) : Ws := ⟨S.par, S.n, fun j => if j = k then b else S.B j⟩
theorem Ws.upd_kv {S : Ws} {k : Nat} {b : Bx} (hk : k <= S.n) : put S.kv (kQ k) (Jx b) = (S.upd k b).kv := by
 unfold Ws.kv
 rw [kh3 hk]
 show _ = QQ (fun j => Jx (if j = k then b else S.B j)) S.n
 congr 1
 funext j
 by_cases h : j = k
 ·rw [if_pos h, if_pos h]
 ·rw [if_neg h, if_neg h]
theorem jZ4 {P : PS} {c : Rc} (hP : XT P) (hc : c.In) (hl : (reg P).length <= 8000) :
  zA 19 [KS P, rD c] (KS fun x y => P x y /\ qL (zk [c]) x y) := by
 have hV : ∀ r ∈ zk [c], Vr r := fun r hr => ZS.1 (List.mem_filter.1 hr).2
 have hlen : (zk [c]).length <= 1 := List.length_filter_le _ _
 have hr := (ka9 hV).2
 have hof := xG (l := [c]) (fun r hr => by simp at hr; rw [hr]; exact hc) (by simp)
 unfold KS
 refine Jh (by rfl) ?_
 dsimp only [c_region_Within,yq,rD,jm,jo,jc,jn,jF,je,jt,jr,jb,ja,jd,jA,jf,jq,ji,jj,jk,jl,ju,jL,kq,rd,get,jy,jz,jh,jg,jB,jP,jx,jC,kj,jM,jN,jH,kp,jI,jD,jX,jw,env0,bA,bN,closed,jV,ql,jT,jS,o1,o0,Nat.reduceBEq,Nat.reduceAdd]
 refine jv hof ?_
 dsimp only [jc,ja,jd,jA,jq,ji,jj,jk,jl,jL,kq,rd,get,jy,jz,jh,jg,jB,jP,jx,jw,bA,bN,jT,jS,Nat.reduceBEq]
 refine jv (KQ hP (kr7 hV) (by have := Nat.mul_le_mul (Nat.mul_le_mul_left 2 hlen) hlen; omega)) ?_
 dsimp only [jc,jG,jF,je,jt,jr,jb,ja,jd,jA,jf,ji,jj,jk,jl,jJ,jL,rd,get,jy,jz,jh,jg,jB,jP,jx,jC,jM,jN,jH,kp,jI,jQ,kd,ki,jw,bA,bN,kA,lend,kw,kx,jZ,j7,kr,j9,zh,jT,jS,Nat.reduceBEq,Nat.reduceAdd]
structure Ac where
 act : Int
 at' : Int
 x : Int
 y : Int
 w : Int
 h : Int
 on : Bool
 s : Sf
 r : Rc
 ink : Int
def kN5 (a : Ac) : D := .agg [.int .u8 a.act, .int .u8 a.at', .int .i8 a.x, .int .i8 a.y, .int .u8 a.w, .int .u8 a.h, .bool a.on, .int .i64 a.s.dx, .int .i64 a.s.dy, .bool a.s.fg, .int .i64 a.r.x, .int .i64 a.r.y, .int .i64 a.r.w, .int .i64 a.r.h, .int .u8 a.ink]
noncomputable def jW5 (S : Ws) (C : Nat -> It) (k : Nat) : PS := if (C k).back = true then zN (S.B k) else S.vis k
noncomputable def kN1 (S : Ws) (C : Nat -> It) (k : Nat) (a : Ac) : It := { C k with f := jv4 (fun x y => jW5 S C k x y /\ qL (zk [a.r]) x y) (fun _ _ => a.ink) (C k).f }
theorem cKV_v {C : Nat -> It} {n : Nat} : ItV (yH C n) := fun p hp => by
 obtain ⟨k, _, rfl⟩ := jl8 hp
 exact ⟨C k, rfl⟩
theorem jM8 {C : Nat -> It} {n : Nat} : (yH C n).length = n + 1 := by simp [yH, QQ]
theorem kK8 {S : Ws} (h : S.Ok) {C : Nat -> It} {k : Nat} : Sq (jW5 S C k) := by
 have hs := h.size k
 unfold jW5
 split
 ·exact ZW (by omega) (by omega)
 ·exact h.visSq
theorem jw3 {S : Ws} (h : S.Ok) {C : Nat -> It} (hC : COk S C) (hwin : ∀ k, (C k).win = true) {k : Nat} (hk : k <= S.n) {a : Ac} (ha : a.r.In) :
  zA 53 [tD S.tr, .agg [qO .u32 S.kv], .agg [qO .u32 (yH C S.n)], .int .u32 (kQ k), kN5 a] (.tup [.agg [qO .u32 (yH (jY2 C k (kN1 S C k a)) S.n)], .bool true]) := by
 have hnd : zC (yH C S.n) := JK
 have hfew := h.few
 have hsz := hC.size h hk
 have hof := yN h
 have hcl := jo4 h hnd hk (jf2 (C := C) hk) (hwin k)
 have hgr := xl hnd (jf2 (C := C) hk)
 have hq := kK8 (C := C) (k := k) h
 have hwi := jZ4 hq.bdd ha (Nat.le_trans hq.len (by omega))
 have hq2 : Sq fun x y => jW5 S C k x y /\ qL (zk [a.r]) x y := hq.sub fun _ _ h => h.1
 have hfi := kF9 (w := (C k).w) (h := (C k).h) (f := (C k).f) (p := a.ink) (by omega) (by omega) hq2.bdd (Nat.le_trans hq2.len (by omega))
 have hly := VD hnd cKV_v (by rw [jM8]; omega) (jf2 (C := C) hk) (f := jv4 (fun x y => jW5 S C k x y /\ qL (zk [a.r]) x y) (fun _ _ => a.ink) (C k).f)
 rw [kG9 hk] at hly
 unfold Qj at hof hcl
 unfold qO gD at hgr
 unfold qO at hof hcl hly |-
 rw [show tD S.tr = .agg [qO .u32 (vI S.tr.kids), qO .u32 (zH S.tr.up)] from rfl] at hof |-
 unfold qO at hof |-
 unfold KS at hcl hwi
 unfold kN5
 refine V3 (by rfl) ?_
 dsimp only [c_top_showsDrawn,J6,jm,jo,jc,jn,jF,je,jt,jr,jb,ja,jd,jA,zb,qC,zm,zu,jf,za,ji,jj,jk,jl,ju,jL,kq,rd,get,jy,jz,jh,jg,jB,jP,jx,jC,kj,jM,jN,jI,jD,jX,jw,env0,bA,bO,bN,jT,jS,o1,o0,og,Nat.reduceBEq,Nat.reduceAdd]
 refine xS hof ?_
 dsimp only [jc,ja,jd,jA,zb,qC,zm,zu,jf,za,ji,jj,jk,jl,ju,jL,kq,rd,get,jy,jz,jh,jg,jB,jP,jx,jC,jM,jN,jI,jw,bA,bO,bN,jT,jS,Nat.reduceBEq]
 refine xS hcl ?_
 dsimp only [jm,jo,jc,jn,jF,je,jt,jr,jb,ja,jd,jA,zb,zm,zu,jf,jq,ji,jj,jk,jl,ju,jJ,jL,kq,rd,get,jy,jz,jh,jg,jB,jP,jx,jC,kL,jM,jN,jH,kp,jI,jQ,jD,jX,kd,ki,jw,bA,bO,bN,jT,jS,Nat.reduceBEq,Nat.reduceAdd]
 refine jv hgr ?_
 dsimp only [jE,jm,jo,jc,jn,jG,jK,ky,jF,je,jO,jt,jr,jb,ja,jd,jA,zb,qC,zm,zu,jf,za,ji,jj,jk,jl,ju,jJ,kg,jL,kq,rd,get,jy,jz,jh,jg,jB,jP,jx,jC,kL,jM,jN,jH,kp,jI,jQ,jD,jX,kd,ki,jw,bA,bO,bN,bE,kA,lend,kw,kx,jZ,j7,kr,j9,zh,jT,jS,Nat.reduceBEq,Nat.reduceAdd]
 refine ⟨nofun, fun _ => ?_⟩
 refine xS hwi ?_
 dsimp only [jc,ja,jd,jA,zb,qC,zm,zu,jf,za,ji,jj,jk,jl,ju,jL,kq,rd,get,jy,jz,jh,jg,jB,jP,jx,jC,kL,jI,jw,bA,bO,bN,jT,jS,Nat.reduceBEq,Nat.reduceAdd]
 refine xS hfi ?_
 dsimp only [jc,ja,jd,jA,za,ji,jj,jk,jl,jL,kq,rd,get,jy,jz,jh,jg,jB,jP,jx,jw,bA,bN,jT,jS,Nat.reduceBEq]
 refine xS hly ?_
 dsimp only [jm,jo,jc,jn,jG,jF,je,jt,jr,jb,ja,jd,jA,zb,zm,zu,jf,ji,jj,jk,jl,ju,jJ,jL,rd,get,jy,jz,jh,jg,jB,jP,jx,jC,kL,jM,jN,jH,kp,jI,jQ,jD,jX,kd,ki,jw,bA,bO,bN,kU,jR,kA,lend,ko,kw,kx,jZ,j7,kr,j9,zh,jT,jS,Nat.reduceBEq,Nat.reduceAdd]
 first | rfl | (simp; rfl)
end Go.AM
