import Derived.Test.YtoaialdcgmkbgaaGreatRZ6
import Derived.Test.YtoaialdcgmkbgaaGreatRP6
import Derived.Test.YtoaialdcgmkbgaaGreatRA31

set_option linter.all false
namespace Go.AM
open Go Go.Proofs
theorem ku3 {l : List D} (hl : l.length <= 4294967296) : vT 138 [.ls 4 l] [] (.own 1 2) [.arr 45 4 0 [], .arr 45 4 2 l] := by
 refine vX (by rfl) ?_
 dsimp only [c_slices_Clone_api_Rect_api_Rect,qx,jm,jo,jc,jn,jF,je,jt,jr,jb,ja,jd,jA,jf,yl,ji,jj,jk,jl,jL,kq,rd,get,jy,jz,jh,jg,jB,jP,jx,jD,jX,jw,env0,bA,bN,kD,jT,jS,o1,Nat.reduceBEq,Nat.reduceAdd]
 refine Jp _ (jI4 KG false) ?_
 rintro d bx' ⟨rfl, b, rfl, hb⟩
 dsimp only [jE,jm,jo,jc,jn,jG,jK,ky,jF,je,jO,jt,jr,jb,ja,jd,jA,jf,ji,jj,jk,jl,qg,jL,kq,rd,get,jy,jz,jh,jg,jB,jP,km,jx,jI,jQ,jD,jX,jw,bA,bN,jV,ql,qX,qH,j7,kr,j9,zh,jT,jS,Nat.reduceBEq,Nat.reduceAdd]
 refine ⟨fun h => ?_, fun h => ?_⟩
 ·have : l = [] := hb (by simpa using h)
  subst this
  exact Rt.trans (Rt.next (k := 1) rfl) (Rt.next (k := 1) rfl)
 ·refine ⟨⟨rfl, rfl, rfl, rfl, ?_, ?_⟩, Rt.id⟩ <;> simp only [List.length_nil] <;> omega
theorem jQ0 {l : List D} (hl : l.length <= 4294967296) : vT 76 [.agg [.ls 4 l]] [] (.own 3 2) [.cells [.ls 4 l], .arr 45 4 0 [], .arr 45 4 0 [], .arr 45 4 2 l] := by
 refine QP (by rfl) ?_
 dsimp only [c_band_Region_Rects,zV,jm,jo,jc,jn,jF,je,jt,jr,jb,ja,jd,jA,jf,jq,ji,jj,jk,jl,ju,jL,kq,rd,get,jy,jz,jh,jg,jB,jP,jx,jC,kj,kL,jI,jD,jX,jw,env0,bA,bN,jT,jS,o1,Nat.reduceBEq,Nat.reduceAdd]
 refine kY [] (ku3 hl) rfl rfl ?_
 dsimp only [jc,jG,jF,je,jt,jr,jb,ja,jd,jA,jf,ji,jj,jk,jl,jL,rd,get,jy,jz,jh,jg,jB,jP,jx,jD,jw,bA,bN,qX,qH,j7,kr,j9,kV,zp,kM,z6,kO,Je,Jd,jT,jS,Nat.reduceBEq,Nat.reduceAdd]
 exact Rt.id
theorem JY {l : List D} (hl : l.length <= 4294967296) : zA 76 [.agg [.ls 4 l]] (.ls 4 l) := by
 refine QL (by rfl) ?_
 dsimp only [c_band_Region_Rects,zV,jm,jo,jc,jn,jF,je,jt,jr,jb,ja,jd,jA,jf,jq,ji,jj,jk,jl,ju,jL,kq,rd,get,jy,jz,jh,jg,jB,jP,jx,jC,kj,kL,jI,jD,jX,jw,env0,bA,bN,jT,jS,o1,Nat.reduceBEq,Nat.reduceAdd]
 refine jv (kt6 hl) ?_
 dsimp only [jc,jG,jF,je,jt,jr,jb,ja,jd,jA,jf,ji,jj,jk,jl,jL,rd,get,jy,jz,jh,jg,jB,jP,jx,jw,bA,bN,lend,kw,kx,jZ,j7,kr,j9,jT,jS,Nat.reduceBEq]
theorem Zb {l : List D} : zA 30 [.agg [.ls 4 l]] (.bool (decide ((l.length : Int) = 0))) := by
 refine QM (by rfl) ?_
 dsimp only [c_band_Region_Empty,yE,jm,jo,jc,jn,jG,jF,je,jt,jr,jb,ja,jd,jA,jf,ji,jj,jk,jl,ju,kz,jL,rd,get,jy,jz,jh,jg,jB,jP,jx,jC,kj,kL,jI,jD,jX,jw,env0,bA,bN,kU,jR,lend,ko,kw,kx,jZ,j7,kr,j9,jT,jS,o1,Nat.reduceBEq,Nat.reduceAdd]
theorem kP2 {l : List Rc} (hc : Jy l) (hv : ∀ r ∈ l, Vr r) (hl : l.length <= 1048576) {x y : Int} {b : Bool} (hb : b = true ↔ qL l x y) : zA 45 [.agg [.ls 4 (kJ l)], .int .i64 x, .int .i64 y] (.bool b) := by
 refine Vj (by rfl) ?_
 dsimp only [c_band_Region_Has,Jo,jE,jm,jo,jc,jn,jU,jF,je,jt,jr,jb,ja,jd,jA,jf,ji,jj,jk,jl,ju,kz,jL,rd,get,jy,jz,jh,jg,jB,jP,jx,jC,kj,kL,jI,jD,jX,jw,env0,bA,bN,jT,jS,o1,o0,og,Nat.reduceBEq,Nat.reduceAdd]
 rw [j8]
 refine kE (α := {i : Nat // i <= l.length /\ ∀ r ∈ l.take i, ¬ r.has x y})
  (fun i => ⟨[(1, [], .int .i64 x), (2, [], .int .i64 y), (7, [], .bool false), (11, [], .ls 4 (kJ l)), (12, [], .int .i64 l.length), (13, [], .int .i64 i.1)], [.cells [.ls 4 (kJ l)]]⟩)
  (fun i => l.length - i.1) ?_ ⟨0, Nat.zero_le _, by simp⟩ (by simp)
 rintro ⟨i, hi, hno⟩ I ih
 dsimp only at hi hno |-
 dsimp only [jE,jm,jo,jc,jn,jU,kt,jG,jK,ky,jF,je,j1,j3,kC,jt,jr,jb,ja,jd,jA,jf,ku,ji,jj,jk,jl,ju,j6,jL,rd,get,jy,jz,jh,jg,jB,jP,km,jx,jC,jw,bA,bN,kU,jR,lend,ko,kw,kx,jZ,j7,kr,j9,jT,jS,Nat.reduceBEq]
 refine ⟨fun hlt => ?_, fun hge => ?_⟩
 ·have hil : i < l.length := by simpa using hlt
  obtain ⟨r, hr⟩ : ∃ r, l[i]? = some r := ⟨_, List.getElem?_eq_getElem hil⟩
  refine ⟨⟨rfl, by omega, by rw [j8]; omega⟩, kh (rD r) (rD r) (qZ (by simpa using hr)) rfl ?_⟩
  dsimp only [rD,jE,jm,jo,jc,jn,jU,kt,jG,jK,ky,jF,je,j1,j0,j3,kC,jt,jr,jb,ja,jd,jA,jf,ji,jj,jk,jl,ju,jJ,kg,jL,rd,get,jy,jz,jh,jg,jB,jP,km,jx,jC,kL,jH,kp,jI,jQ,jD,jX,kd,ki,jw,bA,bO,bN,bE,kU,jR,lend,ko,kw,kx,jZ,j7,kr,j9,jT,jS,Nat.reduceBEq,Nat.reduceAdd]
  have hV := hv r (List.mem_of_getElem? hr)
  unfold Vr at hV
  have hnext : ¬ r.has x y -> ∀ q ∈ l.take (i + 1), ¬ q.has x y := fun h q hq => by
   rw [List.take_add_one, hr] at hq
   rcases List.mem_append.1 hq with hq | hq
   ·exact hno q hq
   ·simp at hq; subst hq; exact h
  refine ⟨fun h1 => ?_, fun h1 => ?_⟩
  ·have hbf : b = false := by
    rw [Bool.eq_false_iff]
    intro h2
    obtain ⟨q, hq, h3, h4⟩ := hb.1 h2
    rw [<- List.take_append_drop (i + 1) l] at hq
    simp only [decide_eq_true_eq] at h1
    rcases List.mem_append.1 hq with hq | hq
    ·exact hnext (fun h => by unfold Rc.has at h; omega) q hq ⟨h3, h4⟩
    ·have hp := (Qh hc).1
     obtain ⟨hil', e⟩ := List.getElem?_eq_some_iff.1 hr
     have hpp : (l.drop i).Pairwise kV4 := hp.sublist (List.drop_sublist _ _)
     rw [List.drop_eq_getElem_cons hil', e] at hpp
     have := (List.pairwise_cons.1 hpp).1 q hq
     unfold kV4 at this
     omega
   rw [hbf]
  ·simp only [decide_eq_false_iff_not] at h1
   refine ⟨by simp only [j5]; omega, fun h => by simp only [j5]; omega, ?_⟩
   have hag : ¬ r.has x y -> Yi 0 I ⟨[(1, [], .int .i64 x), (2, [], .int .i64 y), (7, [], .bool false), (11, [], .ls 4 (kJ l)), (12, [], .int .i64 l.length), (13, [], .int .i64 ((i : Int) + 1))], [.cells [.ls 4 (kJ l)], .cells [.int .i64 r.x, .int .i64 r.y, .int .i64 r.w, .int .i64 r.h]]⟩ := fun h =>
    kW (ih ⟨i + 1, by omega, hnext h⟩ (by dsimp only; omega)) ⟨rfl, rfl, rfl, rfl, rfl, by simp [get], trivial⟩ ⟨rfl, trivial⟩ rfl rfl
   refine ⟨fun h2 => ⟨by simp only [j5]; omega, hag fun h => ?_⟩, fun h2 => ⟨fun h3 => ?_, fun h3 => ⟨by simp only [j5]; omega, hag fun h => ?_⟩⟩⟩
   ·unfold Rc.has at h
    simp only [Bool.or_eq_true, decide_eq_true_eq] at h2
    omega
   ·have : b = true := hb.2 ⟨r, List.mem_of_getElem? hr, by
     simp only [Bool.or_eq_false_iff, decide_eq_false_iff_not, decide_eq_true_eq] at h2 h3
     unfold Rc.has; omega⟩
    rw [this]
   ·unfold Rc.has at h
    simp only [decide_eq_false_iff_not] at h3
    omega
 ·have hil : i = l.length := by simp at hge; omega
  subst hil
  rw [List.take_length] at hno
  have hbf : b = false := by
   rw [Bool.eq_false_iff]
   intro h2
   obtain ⟨q, hq, h3⟩ := hb.1 h2
   exact hno q hq h3
  rw [hbf]

theorem km0 {r : Rc} : zA 132 [rD r] (.tup [.int .i64 r.y, .int .i64 r.h]) := by
 refine KI (by rfl) ?_
 dsimp only [c_region_rule_join_1,ya,rD,jm,jo,jc,jn,jG,jF,je,jt,jr,jb,ja,jd,jA,jf,ji,jj,jk,jl,ju,jL,rd,get,jy,jz,jh,jg,jB,jP,jx,jC,kj,kL,jI,jD,jX,jw,env0,bA,bN,kA,lend,kw,kx,jZ,j7,kr,j9,zh,jT,jS,o1,Nat.reduceBEq,Nat.reduceAdd]
theorem kl9 {r : Rc} : zA 134 [rD r] (.tup [.int .i64 r.x, .int .i64 r.w]) := by
 refine KH (by rfl) ?_
 dsimp only [c_region_rule_join_2,x9,rD,jm,jo,jc,jn,jG,jF,je,jt,jr,jb,ja,jd,jA,jf,ji,jj,jk,jl,ju,jL,rd,get,jy,jz,jh,jg,jB,jP,jx,jC,kj,kL,jI,jD,jX,jw,env0,bA,bN,kA,lend,kw,kx,jZ,j7,kr,j9,zh,jT,jS,o1,Nat.reduceBEq,Nat.reduceAdd]
def eT (tl : Rc -> Int × Int) (l : List Rc) : List Int := l.flatMap fun r => [(tl r).1, (tl r).1 + (tl r).2]
theorem jt5 (tl : Rc -> Int × Int) : ∀ l : List Rc, (eT tl l).length = 2 * l.length
 | [] => rfl
 | r :: l => by
   have := jt5 tl l
   unfold eT at this |-
   simp only [List.flatMap_cons, List.length_append, List.length_cons, List.length_nil, this]; omega
theorem eT_y : ∀ l : List Rc, eT (fun r => (r.y, r.h)) l = Kq l
 | [] => rfl
 | r :: l => by
   have := eT_y l
   unfold eT at this |-
   simp only [List.flatMap_cons, Kq, this]; rfl
theorem eT_x : ∀ l : List Rc, eT (fun r => (r.x, r.w)) l = kE1 l
 | [] => rfl
 | r :: l => by
   have := eT_x l
   unfold eT at this |-
   simp only [List.flatMap_cons, kE1, this]; rfl
theorem kK6 (tl : Rc -> Int × Int) (l : List Rc) (r : Rc) : eT tl (l ++ [r]) = eT tl l ++ [(tl r).1, (tl r).1 + (tl r).2] := by simp [eT]
def kT4 (LL : List (List Rc)) : List D := LL.map fun l => .ls 4 (kJ l)
theorem kJ0 {LL : List (List Rc)} {i : Nat} {l : List Rc} (h : LL[i]? = some l) : (kT4 LL)[i]? = some (.ls 4 (kJ l)) := by simp [kT4, h]
theorem ki9 (LL : List (List Rc)) : (kT4 LL).length = LL.length := by simp [kT4]
theorem kg5 {g : Nat} {tl : Rc -> Int × Int} (ht : ∀ r, zA g [rD r] (.tup [.int .i64 (tl r).1, .int .i64 (tl r).2])) {LL : List (List Rc)} (hb : ∀ l ∈ LL, ∀ r ∈ l, -1048576 <= (tl r).1 /\ 0 <= (tl r).2 /\ (tl r).1 + (tl r).2 <= 1048576)
  (hL : LL.length <= 1048576) (hN : (LL.flatMap (eT tl)).length <= 4194304) : zA 131 [.fn g [], .ls 1 (kT4 LL)] (.ls 1 (iI (Lib.compact (QG (LL.flatMap (eT tl)))))) := by
 refine ji6 (by rfl) ?_
 dsimp only [c_region_cuts,VK,jm,jo,jc,jn,jU,jF,je,jt,jr,jb,ja,jd,jA,jf,ji,jj,jk,jl,kz,jL,rd,get,jy,jz,jh,jg,jB,jP,jx,jD,jX,jw,env0,bA,bN,jT,jS,o1,o0,Nat.reduceBEq,Nat.reduceAdd]
 rw [ki9]
 refine kE (α := {p : Nat × Nat // p.1 <= LL.length})
  (fun p => ⟨[(0, [], .fn g []), (5, [], .own 1 p.1.2), (12, [], .ls 1 (kT4 LL)), (13, [], .int .i64 LL.length), (14, [], .int .i64 p.1.1)], [.arr 3 1 0 [], .arr 3 1 p.1.2 (iI ((LL.take p.1.1).flatMap (eT tl)))]⟩)
  (fun p => LL.length - p.1.1) ?_ ⟨(0, 0), Nat.zero_le _⟩ (by simp [iI])
 rintro ⟨⟨j, ver⟩, hj⟩ I ih
 dsimp only at hj |-
 dsimp only [jE,jm,jo,jc,jn,jU,kt,jK,ky,jF,je,j1,j3,kC,jt,jr,jb,ja,jd,jA,jf,jq,ku,ji,jj,jk,jl,ju,j6,jL,kq,rd,get,jy,jz,jh,jg,jB,jP,km,jx,jC,jw,bA,bN,kU,jR,ko,kw,jT,jS,Nat.reduceBEq]
 refine ⟨fun hlt => ?_, fun hge => ?_⟩
 ·have hjl : j < LL.length := by simpa using hlt
  obtain ⟨l, hl⟩ : ∃ l, LL[j]? = some l := ⟨_, List.getElem?_eq_getElem hjl⟩
  have hbl := hb l (List.mem_of_getElem? hl)
  have hpre : ((LL.take j).flatMap (eT tl)).length + 2 * l.length <= 4194304 := by
   obtain ⟨h1, h2⟩ := List.getElem?_eq_some_iff.1 hl
   have e : LL.flatMap (eT tl) = (LL.take j).flatMap (eT tl) ++ (eT tl l ++ (LL.drop (j + 1)).flatMap (eT tl)) := by
    conv => lhs; rw [<- List.take_append_drop j LL, List.drop_eq_getElem_cons h1, h2]
    simp
   rw [e, List.length_append, List.length_append, jt5] at hN
   omega
  refine ⟨⟨rfl, by omega, by rw [ki9]; omega⟩, kh (.ls 4 (kJ l)) (.ls 4 (kJ l)) (kJ0 (by simpa using hl)) rfl ?_⟩
  dsimp only [jm,jo,jc,jn,jU,jF,je,jt,jr,jb,ja,jd,jA,jf,ji,jj,jk,jl,kz,jL,rd,get,jy,jz,jh,jg,jB,jP,jx,jw,bA,bN,jT,jS,Nat.reduceBEq]
  rw [j8]
  generalize hPd : (LL.take j).flatMap (eT tl) = P at *
  refine kE (α := {p : Nat × Nat // p.1 <= l.length})
   (fun p => ⟨[(0, [], .fn g []), (5, [], .own 1 p.1.2), (12, [], .ls 1 (kT4 LL)), (13, [], .int .i64 LL.length), (14, [], .int .i64 j), (18, [], .ls 4 (kJ l)), (19, [], .int .i64 l.length), (20, [], .int .i64 p.1.1)], [.arr 3 1 0 [], .arr 3 1 p.1.2 (iI (P ++ eT tl (l.take p.1.1)))]⟩)
   (fun p => l.length - p.1.1) ?_ ⟨(0, ver), Nat.zero_le _⟩ (by simp [eT])
  rintro ⟨⟨i, v2⟩, hi⟩ I2 ih2
  dsimp only at hi |-
  dsimp only [jE,jm,jo,jc,jn,jU,kt,jK,ky,jF,je,j1,j0,j3,kC,jt,jr,jb,ja,jd,jA,jf,jq,ku,ji,jj,jk,jl,ju,j6,jL,kq,rd,get,jy,jz,jh,jg,jB,jP,km,jx,jC,jw,bA,bN,kU,jR,ko,kw,jT,jS,Nat.reduceBEq]
  refine ⟨fun hlt2 => ?_, fun hge2 => ?_⟩
  ·have hil : i < l.length := by simpa using hlt2
   obtain ⟨r, hr⟩ : ∃ r, l[i]? = some r := ⟨_, List.getElem?_eq_getElem hil⟩
   have hbr := hbl r (List.mem_of_getElem? hr)
   refine ⟨⟨rfl, by omega, by rw [j8]; omega⟩, kh (rD r) (rD r) (qZ (by simpa using hr)) rfl ?_⟩
   dsimp only [rD,jm,jo,jc,jn,jF,je,jt,jr,jb,ja,jd,jA,jf,jq,ji,jj,jk,jl,ju,jJ,jL,kq,rd,get,jy,jz,jh,jg,jB,jP,jx,jC,jM,jN,jH,kp,jI,jQ,jD,jX,kd,ki,jw,bA,bN,Je,Jd,jT,jS,Nat.reduceBEq,Nat.reduceAdd]
   refine jv (ht r) ?_
   dsimp only [jm,jo,jc,jF,je,j0,kC,jt,jr,jb,ja,jd,jA,jf,ji,jj,jk,jl,qg,jL,kq,rd,get,jy,jz,jh,jg,jB,jP,km,jx,kj,kL,jH,jI,jQ,jD,jX,jw,bA,bN,kU,jR,closed,jV,ql,ko,jT,jS,Nat.reduceBEq,Nat.reduceAdd]
   have hll : (iI (P ++ eT tl (l.take i))).length <= 4194304 := by rw [zI, List.length_append, jt5, List.length_take]; omega
   refine ⟨by simp only [j5]; omega, ⟨rfl, rfl, rfl, rfl, by simp only [List.length_cons, List.length_nil]; omega, by simp only [List.length_cons, List.length_nil]; omega⟩, by simp only [j5]; omega, ?_⟩
   refine kW (ih2 ⟨(i + 1, v2 + 1), by omega⟩ (by dsimp only; omega)) ⟨rfl, rfl, rfl, rfl, rfl, rfl, rfl, rfl, trivial⟩ ⟨rfl, ?_, trivial⟩ rfl rfl
   rw [List.take_add_one, hr, Option.toList, kK6, <- List.append_assoc]
   simp [iI]
  ·have hil : i = l.length := by simp at hge2; omega
   subst hil
   rw [List.take_length]
   refine ⟨by simp only [j5]; omega, ?_⟩
   refine kW (ih ⟨(j + 1, v2), hjl⟩ (by dsimp only; omega)) ⟨rfl, rfl, rfl, rfl, by simp [get], trivial⟩ ⟨rfl, ?_, trivial⟩ rfl rfl
   dsimp only
   rw [List.take_add_one, hl, Option.toList, List.flatMap_append, hPd]
   simp
 ·have hjl : j = LL.length := by simp at hge; omega
  subst hjl
  rw [List.take_length]
  refine kY [1] (jP9 (ver := ver) (by omega)) rfl rfl ?_
  dsimp only [jm,jo,jc,jn,jF,je,jt,jr,jb,ja,jd,jA,jf,jq,ji,jj,jk,jl,jL,kq,rd,get,jy,jz,jh,jg,jB,jP,jx,jQ,jD,jw,bA,bN,kV,qY,zp,kM,kO,Je,Jd,jT,jS,Nat.reduceBEq,Nat.reduceAdd]
  refine kY [1] (jg2 (ver := ver) (by rw [X0]; omega)) rfl rfl ?_
  dsimp only [jc,jG,jF,je,jt,jr,jb,ja,jd,jA,jf,ji,jj,jk,jl,jL,rd,get,jy,jz,jh,jg,jB,jP,jx,jI,jQ,jD,jw,bA,bN,lend,kw,kx,jZ,j7,kr,j9,kV,zp,kM,z6,kO,Je,Jd,jT,jS,Nat.reduceBEq,Nat.reduceAdd]
  exact ⟨rfl, rfl⟩
theorem kF5 {a b : List Rc} (ha : ∀ r ∈ a, Vr r) (hb : ∀ r ∈ b, Vr r) (hl : a.length + b.length <= 1048576) : zA 131 [.fn 132 [], .ls 1 [.ls 4 (kJ a), .ls 4 (kJ b)]] (.ls 1 (iI (xv a b))) := by
 have := kg5 (tl := fun r => (r.y, r.h)) (fun r => km0) (LL := [a, b]) (fun l hl r hr => by
  have hv : Vr r := by
   simp only [List.mem_cons, List.not_mem_nil, or_false] at hl
   rcases hl with rfl | rfl
   ·exact ha r hr
   ·exact hb r hr
  unfold Vr at hv; dsimp only; omega) (by simp) (by simp only [List.flatMap_cons, List.flatMap_nil, List.append_nil, List.length_append, jt5]; omega)
 simp only [List.flatMap_cons, List.flatMap_nil, List.append_nil, eT_y] at this
 exact this
theorem kF6 {a b : List Rc} (ha : ∀ r ∈ a, Vr r) (hb : ∀ r ∈ b, Vr r) (hl : a.length + b.length <= 1048576) : zA 131 [.fn 134 [], .ls 1 [.ls 4 (kJ a), .ls 4 (kJ b)]] (.ls 1 (iI (vZ a b))) := by
 have := kg5 (tl := fun r => (r.x, r.w)) (fun r => kl9) (LL := [a, b]) (fun l hl r hr => by
  have hv : Vr r := by
   simp only [List.mem_cons, List.not_mem_nil, or_false] at hl
   rcases hl with rfl | rfl
   ·exact ha r hr
   ·exact hb r hr
  unfold Vr at hv; dsimp only; omega) (by simp) (by simp only [List.flatMap_cons, List.flatMap_nil, List.append_nil, List.length_append, jt5]; omega)
 simp only [List.flatMap_cons, List.flatMap_nil, List.append_nil, eT_x] at this
 exact this
theorem kM9 (c : List Rc) : ∃ r0, 0 < c.length -> c[0]? = some r0 := by
 cases c with
 | nil => exact ⟨.o, fun h => by simp at h⟩
 | cons r c => exact ⟨r, fun _ => rfl⟩
theorem jV9 {p : Rc -> Bool} {c : List Rc} {r0 : Rc} (h0 : 0 < c.length -> c[0]? = some r0) (hb : (decide ((0 : Int) < c.length) && p r0) = true) : c.dropWhile p = (c.drop 1).dropWhile p /\ 0 < c.length := by
 simp only [Bool.and_eq_true, decide_eq_true_eq] at hb
 cases c with
 | nil => simp at hb
 | cons r c =>
   have : r = r0 := by simpa using h0 (by simp)
   subst this
   rw [List.dropWhile_cons, if_pos hb.2]
   exact ⟨rfl, by simp⟩
theorem jV8 {p : Rc -> Bool} {c : List Rc} {r0 : Rc} (h0 : 0 < c.length -> c[0]? = some r0) (hb : (decide ((0 : Int) < c.length) && p r0) = false) : c.dropWhile p = c := by
 cases c with
 | nil => rfl
 | cons r c =>
   have : r = r0 := by simpa using h0 (by simp)
   subst this
   simp only [List.length_cons, Bool.and_eq_false_iff, decide_eq_false_iff_not] at hb
   rw [List.dropWhile_cons, if_neg]
   rcases hb with hb | hb
   ·omega
   ·rw [hb]; simp
theorem jO1 {p : Rc -> Bool} : ∀ {d : List Rc} {n : Nat}, (∀ r ∈ d.take n, p r = true) -> n <= d.length -> (∀ r, d[n]? = some r -> p r = false) -> d.takeWhile p = d.take n
 | [], n, _, hn, _ => by simp at hn; subst hn; rfl
 | r :: d, 0, _, _, h => by
   have := h r rfl
   rw [List.takeWhile_cons, if_neg (by rw [this]; simp)]; rfl
 | r :: d, n + 1, h, hn, h2 => by
   rw [List.takeWhile_cons, if_pos (h r (by simp)), List.take_succ_cons, jO1 (d := d) (n := n) (fun q hq => h q (by simp [hq])) (by simpa using hn) (fun q hq => h2 q (by simpa using hq))]
theorem jR8 (c : List Rc) : ((kJ c).take ((c.length : Int)).toNat).drop (1 : Int).toNat = kJ (c.drop 1) := by
 rw [Int.toNat_natCast, Zh, List.take_length, jp8]; rfl
theorem kt8 {l : List Rc} {y : Int} (hv : ∀ r ∈ l, Vr r) (hl : l.length <= 1073741824) : vT 133 [.box 0 0, .int .i64 y] [.cells [.ls 4 (kJ l)]] (.ls 4 (kJ (Yn y (J0 y l)))) [.cells [.ls 4 (kJ (J0 y l))]] := by
 refine Vk (by rfl) ?_
 dsimp only [c_region_walk_row,Jj,jm,jo,jc,jn,jU,jF,je,jt,jr,jb,ja,jd,jA,jf,ji,jj,jk,jl,rd,get,jy,jz,jh,jg,jB,jP,jx,jD,jX,jw,env0,bA,bN,jT,jS,o1,o0,og,Nat.reduceBEq,Nat.reduceAdd]
 refine kE (α := {c : List Rc // c.dropWhile (qN y) = J0 y l /\ ∀ r ∈ c, Vr r})
  (fun c => ⟨[(0, [], .box 0 0), (1, [], .int .i64 y)], [.cells [.ls 4 (kJ c.1)], .arr 45 4 0 []]⟩)
  (fun c => c.1.length) ?_ ⟨l, rfl, hv⟩ rfl
 rintro ⟨c, hc, hcv⟩ I ih
 dsimp only at hc hcv |-
 dsimp only [jm,jo,jc,jn,ja,jd,jA,jf,ku,ji,jj,jk,jl,ju,j6,kz,jL,rd,get,jy,jz,jh,jg,jB,jP,km,jx,jC,ZC,kL,jI,jw,bA,bO,bN,bE,kU,jR,ko,jT,jS,Nat.reduceBEq,Nat.reduceAdd]
 rw [j8]
 obtain ⟨r0, hr0⟩ := kM9 c
 have hg : (decide ((0 : Int) < c.length) = true) -> (kJ c)[(0 : Int).toNat]? = some (rD r0) := fun h => qZ (hr0 (by simp only [decide_eq_true_eq] at h; omega))
 have hgi : (decide ((0 : Int) < c.length) = true) -> 4 = 4 /\ (0 : Int) <= 0 /\ (0 : Int) < ((kJ c).length : Int) := fun h => ⟨rfl, Int.le_refl _, by rw [j8]; simpa using h⟩
 have hgv : (decide ((0 : Int) < c.length) = true) -> Vr r0 := fun h => hcv r0 (List.mem_of_getElem? (hr0 (by simp only [decide_eq_true_eq] at h; omega)))
 have hgc : (decide ((0 : Int) < c.length) = true) -> 4 = 4 /\ (0 : Int) <= 0 /\ (0 : Int) < (c.length : Int) := fun h => ⟨rfl, Int.le_refl _, by simpa using h⟩
 refine ⟨hgc, kh (rD r0) (.int .i64 r0.y) hg rfl ?_⟩
 dsimp only [jc,ja,jd,jA,jf,ku,ji,jj,jk,jl,ju,j6,jL,rd,get,jy,jz,jh,jg,jB,jP,km,jx,jC,ZC,kL,jI,jw,bA,bO,bN,bE,jT,jS,Nat.reduceBEq,Nat.reduceAdd]
 refine ⟨hgi, kh (rD r0) (.int .i64 r0.h) hg rfl ?_⟩
 dsimp only [jE,jm,jo,jc,jn,jU,kt,jK,ky,jF,je,j1,j0,j3,kC,jt,jr,jb,ja,jd,jA,jf,ji,jj,jk,jl,ju,jJ,kg,zT,jL,jx7,rd,get,jy,jz,jh,jg,jB,jP,km,jx,jC,kj,ZC,kL,jH,jI,jQ,kd,ki,jw,bA,bO,bN,bE,kU,jR,ko,qX,jT,jS,Nat.reduceBEq,Nat.reduceAdd]
 refine ⟨fun h => by have := hgv h; unfold Vr at this; simp only [j5]; omega, fun hb => ?_, fun hb => ?_⟩
 ·have hb' : (decide ((0 : Int) < c.length) && qN y r0) = true := hb
  obtain ⟨e1, e2⟩ := jV9 hr0 hb'
  rw [j8]
  refine ⟨⟨rfl, by omega, by omega, by omega⟩, ?_⟩
  rw [jR8]
  exact kW (ih ⟨c.drop 1, e1.symm.trans hc, fun r hr => hcv r (List.mem_of_mem_drop hr)⟩ (by simp; omega)) ⟨rfl, rfl, trivial⟩ ⟨rfl, rfl, trivial⟩ rfl rfl
 ·have hb' : (decide ((0 : Int) < c.length) && qN y r0) = false := hb
  have hce : c = J0 y l := (jV8 hr0 hb').symm.trans hc
  have hdl : (J0 y l).length <= 1073741824 := Nat.le_trans (List.dropWhile_sublist _).length_le hl
  clear ih hb hb' hgv hgi hg hr0 hgc hc
  subst hce
  generalize J0 y l = d at *
  refine kE (α := {n : Nat // n <= d.length /\ ∀ r ∈ d.take n, decide (r.y <= y) = true})
   (fun n => ⟨[(0, [], .box 0 0), (1, [], .int .i64 y), (5, [], .int .i64 n.1)], [.cells [.ls 4 (kJ d)], .arr 45 4 0 []]⟩)
   (fun n => d.length - n.1) ?_ ⟨0, Nat.zero_le _, by simp⟩ (by simp)
  rintro ⟨n, hn, hnp⟩ I2 ih2
  dsimp only at hn hnp |-
  dsimp only [jm,jo,jc,jn,ja,jd,jA,jf,ku,ji,jj,jk,jl,ju,j6,kz,jL,rd,get,jy,jz,jh,jg,jB,jP,km,jx,jC,ZC,kL,jI,jw,bA,bO,bN,bE,kU,jR,ko,jT,jS,Nat.reduceBEq,Nat.reduceAdd]
  rw [j8]
  obtain ⟨q, hq⟩ : ∃ q, n < d.length -> d[n]? = some q := by
   by_cases h : n < d.length
   ·exact ⟨_, fun _ => List.getElem?_eq_getElem h⟩
   ·exact ⟨.o, fun h' => absurd h' h⟩
  refine ⟨fun h => ⟨rfl, by omega, by simpa using h⟩, kh (rD q) (.int .i64 q.y) (fun h => qZ (by rw [Int.toNat_natCast]; exact hq (by simp only [decide_eq_true_eq] at h; omega))) rfl ?_⟩
  dsimp only [jE,jm,jo,jc,jn,jU,kt,jG,jK,ky,jF,je,j1,j0,j3,kC,jt,jr,jb,ja,jd,jA,jf,ji,jj,jk,jl,ju,kg,zT,jL,jx7,rd,get,jy,jz,jh,jg,jB,jP,km,jx,jC,ZC,kL,jI,jw,bA,bO,bN,bE,kU,jR,ko,qX,qH,j7,kr,j9,jT,jS,Nat.reduceBEq,Nat.reduceAdd]
  refine ⟨fun hb2 => ?_, fun hb2 => ?_⟩
  ·simp only [Bool.and_eq_true, decide_eq_true_eq] at hb2
   have hnl : n < d.length := by omega
   refine ⟨by simp only [j5]; omega, ?_⟩
   refine kW (ih2 ⟨n + 1, hnl, fun r hr => ?_⟩ (by dsimp only; omega)) ⟨rfl, rfl, rfl, trivial⟩ ⟨rfl, rfl, trivial⟩ rfl rfl
   rw [List.take_add_one, hq hnl] at hr
   rcases List.mem_append.1 hr with hr | hr
   ·exact hnp r hr
   ·simp at hr; subst hr; simpa using hb2.2
  ·have ht : Yn y d = d.take n := jO1 hnp hn fun r hr => by
    have hnl := (List.getElem?_eq_some_iff.1 hr).1
    have e := hq hnl
    rw [hr] at e
    injection e with e
    subst e
    simp only [Bool.and_eq_false_iff, decide_eq_false_iff_not] at hb2
    rw [decide_eq_false_iff_not]
    rcases hb2 with hb2 | hb2
    ·omega
    ·exact hb2
   refine ⟨⟨rfl, by omega, by omega, by rw [j8]; omega⟩, ?_⟩
   have e : ((kJ d).take ((n : Int)).toNat).drop (0 : Int).toNat = kJ (Yn y d) := by rw [ht, Int.toNat_natCast, Zh]; rfl
   rw [e]
   exact Rt.cut (Nat.le_refl _) ⟨rfl, trivial⟩ rfl rfl
theorem jz8 {l : List Rc} {x : Int} (hv : ∀ r ∈ l, Vr r) : vT 135 [.box 0 0, .int .i64 x] [.cells [.ls 4 (kJ l)]] (.bool (jl1 x (Qf x l))) [.cells [.ls 4 (kJ (Qf x l))]] := by
 refine Yd (by rfl) ?_
 dsimp only [c_region_across,Qr,jm,jo,jc,jn,jU,jF,je,jt,jr,jb,ja,jd,jA,jf,ji,jj,jk,jl,jL,rd,get,jy,jz,jh,jg,jB,jP,jx,jD,jw,env0,bA,bN,jT,jS,o1,o0,og,Nat.reduceBEq,Nat.reduceAdd]
 refine kE (α := {c : List Rc // c.dropWhile (yF x) = Qf x l /\ ∀ r ∈ c, Vr r})
  (fun c => ⟨[(0, [], .box 0 0), (1, [], .int .i64 x)], [.cells [.ls 4 (kJ c.1)]]⟩)
  (fun c => c.1.length) ?_ ⟨l, rfl, hv⟩ rfl
 rintro ⟨c, hc, hcv⟩ I ih
 dsimp only at hc hcv |-
 dsimp only [jm,jo,jc,jn,ja,jd,jA,jf,ku,ji,jj,jk,jl,ju,j6,kz,jL,rd,get,jy,jz,jh,jg,jB,jP,km,jx,jC,ZC,kL,jI,jw,bA,bO,bN,bE,kU,jR,ko,jT,jS,Nat.reduceBEq,Nat.reduceAdd]
 rw [j8]
 obtain ⟨r0, hr0⟩ := kM9 c
 have hg : (decide ((0 : Int) < c.length) = true) -> (kJ c)[(0 : Int).toNat]? = some (rD r0) := fun h => qZ (hr0 (by simp only [decide_eq_true_eq] at h; omega))
 have hgi : (decide ((0 : Int) < c.length) = true) -> 4 = 4 /\ (0 : Int) <= 0 /\ (0 : Int) < ((kJ c).length : Int) := fun h => ⟨rfl, Int.le_refl _, by rw [j8]; simpa using h⟩
 have hgv : (decide ((0 : Int) < c.length) = true) -> Vr r0 := fun h => hcv r0 (List.mem_of_getElem? (hr0 (by simp only [decide_eq_true_eq] at h; omega)))
 have hgc : (decide ((0 : Int) < c.length) = true) -> 4 = 4 /\ (0 : Int) <= 0 /\ (0 : Int) < (c.length : Int) := fun h => ⟨rfl, Int.le_refl _, by simpa using h⟩
 refine ⟨hgc, kh (rD r0) (.int .i64 r0.x) hg rfl ?_⟩
 dsimp only [jc,ja,jd,jA,jf,ku,ji,jj,jk,jl,ju,j6,jL,rd,get,jy,jz,jh,jg,jB,jP,km,jx,jC,ZC,kL,jI,jw,bA,bO,bN,bE,jT,jS,Nat.reduceBEq,Nat.reduceAdd]
 refine ⟨hgi, kh (rD r0) (.int .i64 r0.w) hg rfl ?_⟩
 dsimp only [jE,jm,jo,jc,jn,jU,kt,jK,ky,jF,je,j1,j0,j3,kC,jt,jr,jb,ja,jd,jA,jf,ku,ji,jj,jk,jl,ju,jJ,j6,kz,kg,zT,jL,jx7,rd,get,jy,jz,jh,jg,jB,jP,km,jx,jC,kj,ZC,kL,jH,jI,jQ,kd,ki,jw,bA,bO,bN,bE,kU,jR,ko,qX,jT,jS,Nat.reduceBEq,Nat.reduceAdd]
 refine ⟨fun h => by have := hgv h; unfold Vr at this; simp only [j5]; omega, fun hb => ?_, fun hb => ?_⟩
 ·have hb' : (decide ((0 : Int) < c.length) && yF x r0) = true := hb
  obtain ⟨e1, e2⟩ := jV9 hr0 hb'
  rw [j8]
  refine ⟨⟨rfl, by omega, by omega, by omega⟩, ?_⟩
  rw [jR8]
  exact kW (ih ⟨c.drop 1, e1.symm.trans hc, fun r hr => hcv r (List.mem_of_mem_drop hr)⟩ (by simp; omega)) ⟨rfl, rfl, trivial⟩ ⟨rfl, trivial⟩ rfl rfl
 ·have hb' : (decide ((0 : Int) < c.length) && yF x r0) = false := hb
  have hce : c = Qf x l := (jV8 hr0 hb').symm.trans hc
  rw [j8]
  refine ⟨hgc, kh (rD r0) (.int .i64 r0.x) hg rfl ?_⟩
  dsimp only [jc,jG,jF,je,jt,jr,jb,ja,jd,jA,jf,ji,jj,jk,jl,kg,jL,rd,get,jy,jz,jh,jg,jB,jP,jx,jw,bA,bO,bN,bE,kU,jR,ko,qX,qH,j7,kr,j9,jT,jS,Nat.reduceBEq]
  rw [<- hce]
  have ha : jl1 x c = (decide ((0 : Int) < c.length) && decide (r0.x <= x)) := by
   cases c with
   | nil => rfl
   | cons r c =>
     have : r = r0 := by simpa using hr0 (by simp)
     subst this
     simp [jl1]
  rw [ha]
  exact Rt.id
end Go.AM
