import Derived.Test.YtoaialdcgmkbgaaGreatRP4
import Derived.Test.YtoaialdcgmkbgaaGreatRY1

set_option linter.all false
namespace Go.AM
open Go Go.Proofs
def zk (l : List Rc) : List Rc := l.filter kB1
theorem Yp {Sp : CallP} {gt : Nat -> Option (List D)} {n0 : Nat} {x : X} {ps : List Nat} {a b : C} {K : Ex -> St -> Prop} {st : St} {f : Nat} {caps : List D} (hx : jL st.env [] x = some (.fn f caps)) (hl : (zw a && zw b) = true)
  (xs : List (List D)) (Kp : List Ent -> Prop) (S : Nat -> List Ent) (m : Nat) (h : Rng Sp.it ps (run Sp gt n0 a) (run Sp gt n0 b) K st f caps xs Kp S m) : run Sp gt n0 (.rangef x ps a b) K st := by
 unfold run
 rw [hl, hx]
 exact ⟨xs, Kp, S, m, h⟩
theorem kL5 {all : List Rc} {ys : List Int} {i : Nat} {row : List Rc} {next above : Nat} {B : List Bnd} {y : Int} (hB : BInv all ys i row next above B) (hy : ys[i]? = some y) :
  above <= (qG B.reverse).length /\ ∀ q ∈ (qG B.reverse).drop above, -1048576 <= q.y /\ 0 < q.h /\ q.y + q.h <= y := by
 have hI := hB.at' y hy
 rcases hI.ab with ⟨h1, _⟩ | ⟨c, r, rfl, h1⟩
 ·rw [h1, List.drop_length]
  exact ⟨Nat.le_refl _, nofun⟩
 ·rw [h1, xP, List.drop_left, List.length_append]
  refine ⟨Nat.le_add_right _ _, fun q hq => ?_⟩
  obtain ⟨s, _, rfl⟩ := List.mem_map.1 hq
  exact ⟨hB.low c (by simp), (Zu hB.ok).1, hI.en c r rfl⟩
def kE0 (h : Int) (q : Rc) : Rc := ⟨q.x, q.y, q.w, q.h + h⟩
theorem kb0 {all : List Rc} {ys : List Int} {i : Nat} {row : List Rc} {next above : Nat} {B : List Bnd} {y h : Int} {S : List (Int × Int)} (hB : BInv all ys i row next above B) (hy : ys[i]? = some y) (hg : jy5 B y S) :
  qG (vG y h S B).reverse = (qG B.reverse).take above ++ ((qG B.reverse).drop above).map (kE0 h) := by
 have hI := hB.at' y hy
 obtain ⟨c, r, rfl, _, e⟩ := Kd (h := h) hg
 rcases hI.ab with ⟨_, h2⟩ | ⟨c', r', e', h2⟩
 ·obtain ⟨d', r', e', h3, _⟩ := hg
  simp only [List.cons.injEq] at e'
  obtain ⟨rfl, rfl⟩ := e'
  have := h2 c r rfl; omega
 ·simp only [List.cons.injEq] at e'
  obtain ⟨rfl, rfl⟩ := e'
  rw [e, h2, xP, List.take_left, List.drop_left]
  rfl
def jY3 (f : Rc -> Rc) (A M T : List Rc) (k : Nat) : List Rc := A ++ ((M.take k).map f ++ (M.drop k ++ T))
theorem kF0 {f : Rc -> Rc} {A M T : List Rc} {k : Nat} {r : Rc} (h : M[k]? = some r) : (jY3 f A M T k)[A.length + k]? = some r := by
 obtain ⟨hk, h2⟩ := List.getElem?_eq_some_iff.1 h
 unfold jY3
 rw [List.getElem?_append_right (by omega), List.getElem?_append_right (by simp; omega), List.getElem?_append_left (by simp; omega), List.getElem?_drop]
 have : k + (A.length + k - A.length - (List.map f (List.take k M)).length) = k := by simp; omega
 rw [this]; exact h
theorem kE9 {f : Rc -> Rc} {A M T : List Rc} {k : Nat} {r : Rc} (h : M[k]? = some r) : (jY3 f A M T k).set (A.length + k) (f r) = jY3 f A M T (k + 1) := by
 obtain ⟨hk, h2⟩ := List.getElem?_eq_some_iff.1 h
 unfold jY3
 rw [List.set_append_right _ _ (by omega), List.set_append_right _ _ (by simp; omega)]
 congr 1
 have e1 : A.length + k - A.length - (List.map f (List.take k M)).length = 0 := by simp; omega
 rw [e1, List.drop_eq_getElem_cons hk, h2, List.cons_append, List.set_cons_zero, List.take_add_one, h, List.map_append]
 simp
theorem kf6 {f : Rc -> Rc} {A M T : List Rc} {k : Nat} : (jY3 f A M T k).length = A.length + (M.length + T.length) := by
 unfold jY3
 simp only [List.length_append, List.length_map, List.length_take, List.length_drop]; omega
theorem jp8 (l : List Rc) (i : Nat) : (kJ l).drop i = kJ (l.drop i) := by simp [kJ]
theorem jR9 (l : List Rc) (i : Nat) (r : Rc) : (kJ l).set i (rD r) = kJ (l.set i r) := by simp [kJ, List.map_set]
structure BD where
 i : Nat
 row : List Rc
 next : Nat
 above : Nat
 B : List Bnd
 vo : Nat
 vr : Nat
theorem kl3 {Sp : CallP} {gt : Nat -> Option (List D)} {n : Nat} {a b : C} {K : Ex -> St -> Prop} : XZ Sp gt n (a.seq b) K = XZ Sp gt n a (XZ Sp gt n b K) := by
 funext e st
 cases e <;> rfl
theorem jc7 {l : List Int} {i : Nat} {n : Int} (h : l[i]? = some n) : (iI l)[i]? = some (.int .i64 n) := by simp [iI, h]
theorem xG {l : List Rc} (hin : ∀ r ∈ l, r.In) (hlen : l.length <= 1073741824) : zA 11 [.ls 4 (kJ l)] (.agg [.ls 4 (kJ (reg (qL (zk l))))]) := by
 refine jO6 (by rfl) ?_
 dsimp only [c_band_Of,jA7,jm,jo,jc,jn,jU,jF,je,jt,jr,jb,ja,jd,jA,jf,ji,jj,jk,jl,kz,jL,rd,get,jy,jz,jh,jg,jB,jP,jx,jD,jX,jw,env0,bA,bN,jT,jS,o1,o0,og,Nat.reduceBEq,Nat.reduceAdd]
 rw [j8]
 refine kE (α := {i : Nat // i <= l.length})
  (fun i => ⟨[(2, [], .box 0 0), (3, [], .own 1 (zk (l.take i.1)).length), (18, [], .ls 4 (kJ l)), (19, [], .int .i64 l.length), (20, [], .int .i64 i.1)], [.cells [.ls 4 []], .arr 45 4 (zk (l.take i.1)).length (kJ (zk (l.take i.1)))]⟩)
  (fun i => l.length - i.1) ?_ ⟨0, Nat.zero_le _⟩ (by simp [zk, kJ])
 rintro ⟨i, hi⟩ I ih
 dsimp only at hi |-
 dsimp only [jE,jm,jo,jc,jn,jU,kt,jK,ky,jF,je,j1,j3,kC,jt,jr,jb,ja,jd,jA,jf,jq,ku,ji,jj,jk,jl,ju,j6,jL,kq,rd,get,jy,jz,jh,jg,jB,jP,km,jx,jC,jw,bA,bN,kU,jR,ko,kw,jT,jS,Nat.reduceBEq]
 refine ⟨fun hlt => ?_, fun hge => ?_⟩
 ·have hl : i < l.length := by simpa using hlt
  obtain ⟨r, hr⟩ : ∃ r, l[i]? = some r := ⟨_, List.getElem?_eq_getElem hl⟩
  have hI := hin r (List.mem_of_getElem? hr)
  refine ⟨⟨by omega, by rw [j8]; omega⟩, kh (rD r) (rD r) (qZ (by simpa using hr)) rfl ?_⟩
  dsimp only [rD,jm,jo,jc,jn,jF,je,jt,jr,jb,ja,jd,jA,jf,jq,ji,jj,jk,jl,ju,jJ,jL,kq,rd,get,jy,jz,jh,jg,jB,jP,jx,jC,jM,jN,jH,kp,jI,jQ,jD,jX,kd,ki,jw,bA,bN,jT,jS,Nat.reduceBEq,Nat.reduceAdd]
  refine jv (jo5 hI) ?_
  dsimp only [jE,jm,jo,jc,jK,ky,jF,je,j0,kC,jt,jr,jb,ja,jd,jA,jf,ji,jj,jk,jl,ju,qg,jL,kq,rd,get,jy,jz,jh,jg,jB,jP,km,jx,jC,jM,jN,jH,kp,jI,jQ,jD,jX,jw,bA,bN,kU,jR,closed,jV,ql,ko,jT,jS,Nat.reduceBEq,Nat.reduceAdd]
  have ht : l.take (i + 1) = l.take i ++ [r] := by rw [List.take_add_one, hr]; rfl
  have hal : (zk (l.take i)).length <= l.length := Nat.le_trans (List.length_filter_le _ _) (by rw [List.length_take]; omega)
  refine ⟨fun hc => ⟨⟨rfl, rfl, rfl, rfl, by rw [j8]; simp only [List.length_cons, List.length_nil]; omega, by rw [j8]; simp only [List.length_cons, List.length_nil]; omega⟩, by simp only [j5]; omega, ?_⟩, fun hc => ⟨by simp only [j5]; omega, ?_⟩⟩
  ·have he : zk (l.take (i + 1)) = zk (l.take i) ++ [r] := by rw [ht]; simp [zk, List.filter_append, hc]
   refine kW (ih ⟨i + 1, by omega⟩ (by dsimp only; omega)) ⟨rfl, ?_, rfl, rfl, rfl, trivial⟩ ⟨rfl, ?_, trivial⟩ rfl rfl
   ·simp only [he, List.length_append, List.length_cons, List.length_nil]; rfl
   ·simp only [he, List.length_append, List.length_cons, List.length_nil, kJ, List.map_append]; rfl
  ·have he : zk (l.take (i + 1)) = zk (l.take i) := by rw [ht]; simp [zk, List.filter_append, hc]
   refine kW (ih ⟨i + 1, by omega⟩ (by dsimp only; omega)) ⟨rfl, ?_, rfl, rfl, rfl, trivial⟩ ⟨rfl, ?_, trivial⟩ rfl rfl
   ·simp only [he]; rfl
   ·simp only [he]
 ·have hil : i = l.length := by simp at hge; omega
  subst hil
  rw [List.take_length]
  have hall : (zk l).length <= l.length := List.length_filter_le _ _
  refine kY [1] (ku1 (l := zk l) (ver := (zk l).length) (by omega)) rfl rfl ?_
  dsimp only [jm,jo,jc,jn,jF,je,jt,jr,jb,ja,jd,jA,jf,jq,ji,jj,jk,jl,jL,kq,rd,get,jy,jz,jh,jg,jB,jP,jx,jQ,jD,jw,bA,bN,kV,qY,zp,kM,kO,Je,Jd,jT,jS,Nat.reduceBEq,Nat.reduceAdd]
  have hvr : ∀ r ∈ jv6 (zk l), Vr r := fun r hr => ZS.1 (List.mem_filter.1 ((ZZ (zk l)).2.1.subset hr)).2
  have hal : (jv6 (zk l)).length <= 1073741824 := by rw [(ZZ (zk l)).1]; omega
  refine Vd [1] (kt9 (l := jv6 (zk l)) (ver := (zk l).length) hvr (by omega)) rfl rfl rfl ?_
  dsimp only [jm,jo,jc,jn,jU,jF,je,jt,jr,jb,ja,jd,jA,jf,ji,jj,jk,jl,jL,rd,get,jy,jz,jh,jg,jB,jP,jx,jD,jX,jw,bA,bN,kV,jT,jS,Nat.reduceBEq,Nat.reduceAdd]
  generalize (zk l).length = v1
  have hsort : (jv6 (zk l)).Pairwise fun a b => a.y <= b.y := (ZZ (zk l)).2.2.imp fun h => by omega
  have hptall : ∀ x y, qL (jv6 (zk l)) x y ↔ qL (zk l) x y := fun x y => kh4 fun r => (ZZ (zk l)).2.1.mem_iff
  generalize hA : jv6 (zk l) = all at *
  obtain ⟨hebd, hell⟩ := jh6 hvr
  refine kE (α := {p : BD // BInv all (k9 all) p.i p.row p.next p.above p.B})
   (fun p => ⟨[(2, [], .box 0 0), (3, [], .own 1 v1), (6, [], .ls 1 (iI (k9 all))), (7, [], .box 2 0), (8, [], .own 4 p.1.vr), (9, [], .int .i64 p.1.above), (10, [], .int .i64 p.1.next), (11, [], .int .i64 p.1.i)],
     [.cells [.ls 4 []], .arr 45 4 v1 (kJ all), .cells [.own 3 p.1.vo], .arr 45 4 p.1.vo (kJ (qG p.1.B.reverse)), .arr 45 4 p.1.vr (kJ p.1.row)]⟩)
   (fun p => (k9 all).length - p.1.i) ?_ ⟨⟨0, [], 0, 0, [], 0, 0⟩, jX0 hvr⟩ rfl
  clear ih
  rintro ⟨⟨i, row, next, above, B, vo, vr⟩, hB⟩ J ih
  dsimp only at hB |-
  dsimp only [jE,jm,jo,jc,jn,jU,kt,jK,ky,jF,je,j1,j3,kC,jt,jr,jb,ja,jd,jA,zb,qC,zm,jf,jq,ku,ji,jj,jk,jl,ju,j6,kz,jL,kq,rd,get,jy,jz,jh,jg,jB,jP,km,jx,jC,kL,jI,jw,bA,bN,kU,jR,ko,kw,jT,jS,Nat.reduceBEq]
  have hiv : (i : Int) <= 2097153 := by have := hB.il; omega
  refine ⟨by simp only [j5]; omega, fun hlt => ?_, fun hge => ?_⟩
  ·rw [zI] at hlt
   have hl : i + 1 < (k9 all).length := by simp at hlt; omega
   obtain ⟨y, hy⟩ : ∃ y, (k9 all)[i]? = some y := ⟨_, List.getElem?_eq_getElem (by omega)⟩
   obtain ⟨b, hb⟩ : ∃ b, (k9 all)[i + 1]? = some b := ⟨_, List.getElem?_eq_getElem hl⟩
   have hI := hB.at' y hy
   refine ⟨⟨rfl, by omega, by rw [zI]; omega⟩, kh (.int .i64 y) (.int .i64 y) (jc7 (by simpa using hy)) rfl ?_⟩
   dsimp only [jc,ja,jd,jA,zb,qC,zm,jf,ku,ji,jj,jk,jl,ju,j6,jL,rd,get,jy,jz,jh,jg,jB,jP,km,jx,jC,jw,bA,bN,kU,jR,ko,jT,jS,Nat.reduceBEq]
   refine ⟨by simp only [j5]; omega, ⟨rfl, by omega, by rw [zI]; omega⟩, kh (.int .i64 b) (.int .i64 b) (jc7 (by rw [show ((i : Int) + 1).toNat = i + 1 from by omega]; exact hb)) rfl ?_⟩
   dsimp only [jm,jo,jc,jn,jF,je,jt,jr,jb,ja,jd,jA,zb,qC,zm,zu,jf,jq,ji,jj,jk,jl,jJ,jL,kq,rd,get,jy,jz,jh,jg,jB,jP,jx,kj,jH,jI,jQ,jD,jX,kd,ki,jw,bA,bO,bN,jT,jS,Nat.reduceBEq,Nat.reduceAdd]
   have hrV : ∀ r ∈ row, Vr r := fun r hr => hvr r (List.mem_of_mem_take (hI.sub r hr))
   have hrl : row.length <= 1073741824 := Nat.le_trans hI.rl (Nat.le_trans hI.nx hal)
   refine kY [4, 5] (jw8 (l := row) (ver := vr) (y := y) hrV (by omega)) rfl rfl ?_
   dsimp only [jm,jo,jc,jn,jU,jF,je,jt,jr,jb,ja,jd,jA,jf,ji,jj,jk,jl,jL,rd,get,jy,jz,jh,jg,jB,jP,jx,jQ,jD,jw,bA,bN,kV,qY,zp,kM,z6,kO,Je,Jd,jT,jS,Nat.reduceBEq,Nat.reduceAdd]
   generalize kA6 y row vr = vr1
   generalize hr1 : xA y row = row1
   generalize hcm : ((all.drop next).takeWhile fun r => decide (r.y = y)) = cm
   obtain ⟨hcl, hcg, hcg2, hcy, hct, hcd⟩ := je8 hsort hI.nx hI.hi hcm
   have hr1l : row1.length <= next := by rw [<- hr1]; exact Nat.le_trans (List.length_filter_le _ _) hI.rl
   generalize hK4 : kC 4 _ = K4
   have hrest : K4 (.exit 4) ⟨[(2, [], .box 0 0), (3, [], .own 1 v1), (6, [], .ls 1 (iI (k9 all))), (7, [], .box 2 0), (8, [], .own 4 (vr1 + cm.length)), (9, [], .int .i64 above), (10, [], .int .i64 ((next + cm.length : Nat) : Int)), (11, [], .int .i64 i), (12, [], .box 5 0), (13, [], .box 6 0), (14, [], .int .i64 next), (67, [], .bool false)],
     [.cells [.ls 4 []], .arr 45 4 v1 (kJ all), .cells [.own 3 vo], .arr 45 4 vo (kJ (qG B.reverse)), .arr 45 4 (vr1 + cm.length) (kJ (row1 ++ cm)), .cells [.int .i64 y], .cells [.int .i64 b]]⟩ := by
    rw [<- hK4]
    dsimp only [kC, Nat.beq, cond, je, Nat.reduceBEq]
    rw [jn]
    rw [kl3]
    generalize hK6 : XZ kL6 zM 0 (C.seq (C.seq (C.reg false _ _) (C.blk 6 _)) _) _ = K6
    have hrest2 : ∀ (row3 : List Rc) (vr3 : Nat), row3.Perm (row1 ++ cm) -> row3.Pairwise (fun a b => a.x <= b.x) -> K6 .nrm ⟨[(2, [], .box 0 0), (3, [], .own 1 v1), (6, [], .ls 1 (iI (k9 all))), (7, [], .box 2 0), (8, [], .own 4 vr3), (9, [], .int .i64 above), (10, [], .int .i64 ((next + cm.length : Nat) : Int)), (11, [], .int .i64 i), (12, [], .box 5 0), (13, [], .box 6 0), (15, [], .int .i64 (qG B.reverse).length)],
     [.cells [.ls 4 []], .arr 45 4 v1 (kJ all), .cells [.own 3 vo], .arr 45 4 vo (kJ (qG B.reverse)), .arr 45 4 vr3 (kJ row3), .cells [.int .i64 y], .cells [.int .i64 b]]⟩ := by
     intro row3 vr3 hp3 hs3
     have hl3 : row3.length <= 2147483648 := by rw [hp3.length_eq, List.length_append]; omega
     have hV3 : ∀ r ∈ row3, Vr r := fun r hr => by
      rcases List.mem_append.1 (hp3.mem_iff.1 hr) with h | h
      ·rw [<- hr1] at h; exact hrV r (jC7.1 h).1
      ·exact hvr r (List.mem_of_mem_take (i := next + cm.length) (by rw [hct]; exact List.mem_append_right _ h))
     have hyb : (-1048576 <= y /\ y < b) /\ b <= 1048576 := ⟨⟨(hebd y (List.mem_of_getElem? hy)).1, (vD (Kr all) hy hb (List.mem_of_getElem? hy)).2.2⟩, (hebd b (List.mem_of_getElem? hb)).2⟩
     obtain ⟨hsb, hsl⟩ := Ye hV3 hs3
     have hol : (qG B.reverse).length <= 2199024304128 := Nat.le_trans hB.len (by omega)
     rw [<- hK6]
     rw [je, jn]
     generalize hK7 : XZ kL6 zM 0 (C.seq (C.reg true _ _) _) _ = K7
     generalize hsp : z7 (row3.map KR) = sls at *
     generalize hot : qG B.reverse = out at *
     have hrest3 : K7 .nrm ⟨[(2, [], .box 0 0), (3, [], .own 1 v1), (6, [], .ls 1 (iI (k9 all))), (7, [], .box 2 0), (8, [], .own 4 vr3), (9, [], .int .i64 above), (10, [], .int .i64 ((next + cm.length : Nat) : Int)), (11, [], .int .i64 i), (12, [], .box 5 0), (13, [], .box 6 0), (15, [], .int .i64 out.length), (85, [], .fn 128 [.box 7 0])],
      [.cells [.ls 4 []], .arr 45 4 v1 (kJ all), .cells [.own 3 (vo + sls.length)], .arr 45 4 (vo + sls.length) (kJ (out ++ ze y (b - y) sls)), .arr 45 4 vr3 (kJ row3), .cells [.int .i64 y], .cells [.int .i64 b], .cells [.own 4 vr3]]⟩ := by
      rw [<- hK7]
      clear hK7
      dsimp only [jm,jo,jc,jn,je,ja,jd,jA,jf,j4,ji,jj,jk,jl,ju,jL,kq,rd,get,jy,jz,jh,jg,jB,jP,jx,jC,kL,jI,jw,bA,bN,kD,jT,jS,Nat.reduceBEq]
      obtain ⟨hab1, hab2⟩ := kL5 hB hy
      have hgi := kz4 (h := b - y) (S := sls) hB hy
      have hgo2 := kb0 (h := b - y) (S := sls) hB hy
      have hpn := Zs (h := b - y) (S := sls) (B := B) (y := y)
      have hst : ∀ a', ((jy5 B y sls /\ a' = above) \/ (¬ jy5 B y sls /\ a' = out.length)) -> BInv all (k9 all) (i + 1) row3 (next + cm.length) a' (vG y (b - y) sls B) := fun a' h => by
       have := jM9 (above' := a') hsort hvr hB hy hb hcm (row3 := row3) (by rw [hr1]; exact hp3) hs3
       rw [hsp, hot] at this
       exact this h
      rw [hot] at hab1 hab2 hgi hgo2 hpn
      have hsr : (ze y (b - y) sls).length = sls.length := by simp [ze]
      refine kH _ (kQ2 KG Y9 rfl (by omega) (by omega) (by rw [j8, List.length_append]; omega)) ?_
      dsimp only [jc,ja,jd,jA,jf,j4,ji,jj,jk,jl,ju,jL,kq,rd,get,jy,jz,jh,jg,jB,jP,jx,jC,kL,jI,jw,bA,bN,kD,jT,jS,Nat.reduceBEq]
      refine kH _ (kh5 KG Y9 rfl (by omega) (by rw [j8, List.length_append]; omega)) ?_
      dsimp only [jc,ja,jd,jA,jq,ji,jj,jk,jl,jL,kq,rd,get,jy,jz,jh,jg,jB,jP,jx,jw,bA,bN,jT,jS,Nat.reduceBEq]
      have e1 : ((kJ (out ++ ze y (b - y) sls)).take ((above : Int).toNat + ((out.length : Int).toNat - (above : Int).toNat))).drop (above : Int).toNat = kJ (out.drop above) := by
       rw [Int.toNat_natCast, Int.toNat_natCast, show above + (out.length - above) = out.length by omega, Zh, List.take_left, jp8]
      have e2 : ((kJ (out ++ ze y (b - y) sls)).take ((out.length : Int).toNat + ((kJ (out ++ ze y (b - y) sls)).length - (out.length : Int).toNat))).drop (out.length : Int).toNat = kJ (ze y (b - y) sls) := by
       rw [Int.toNat_natCast, List.take_of_length_le (by omega), jp8, List.drop_left]
      have hA := kt4 (a := out.drop above) (b := ze y (b - y) sls) (fun q hq => by have := hab2 q hq; simp only [j5]; omega) (by rw [List.length_drop]; omega)
      rw [<- e1, <- e2] at hA
      refine kq4 hA rfl ⟨⟨rfl, rfl, by rw [j8, List.length_append]; omega⟩, ⟨rfl, rfl, by rw [j8, List.length_append]; omega⟩, trivial⟩ rfl ?_
      dsimp only [jm,jo,jc,jn,jU,jK,ky,jF,je,j0,kC,jt,jr,jb,ja,jd,jA,jf,ji,jj,jk,jl,jL,rd,get,jy,jz,jh,jg,jB,jP,km,jx,jw,bA,bN,kU,jR,ko,jT,jS,Nat.reduceBEq]
      clear hA e1 e2
      refine ⟨fun hc => ?_, fun hc => ?_⟩
      ·have hg := hgi.1 hc
       have hgf := hgo2 hg
       have hst1 := hst above (.inl ⟨hg, rfl⟩)
       clear hst hgo2 hpn hgi
       generalize vG y (b - y) sls B = B2 at hgf hst1
       obtain ⟨T, hT⟩ : ∃ T, T = ze y (b - y) sls := ⟨_, rfl⟩
       rw [<- hT] at hsr |-
       clear hT
       obtain ⟨A, hA⟩ : ∃ A, A = out.take above := ⟨_, rfl⟩
       obtain ⟨N, hN⟩ : ∃ N, N = out.drop above := ⟨_, rfl⟩
       have hAN : out = A ++ N := by rw [hA, hN, List.take_append_drop]
       have hAl : A.length = above := by rw [hA, List.length_take]; omega
       rw [<- hA, <- hN] at hgf
       rw [<- hN] at hab2
       have hol2 : out.length = above + N.length := by rw [hAN, List.length_append, hAl]
       rw [show out ++ T = jY3 (kE0 (b - y)) A N T 0 from by rw [hAN]; simp [jY3], hol2]
       rw [hol2] at hol
       clear hol2 hAN hot hN hA
       refine kE (α := {k : Nat // k <= N.length})
        (fun k => ⟨[(2, [], .box 0 0), (3, [], .own 1 v1), (6, [], .ls 1 (iI (k9 all))), (7, [], .box 2 0), (8, [], .own 4 vr3), (9, [], .int .i64 above), (10, [], .int .i64 ((next + cm.length : Nat) : Int)), (11, [], .int .i64 i), (12, [], .box 5 0), (13, [], .box 6 0), (15, [], .int .i64 ((above + N.length : Nat) : Int)), (17, [], .int .i64 ((above + k.1 : Nat) : Int))],
          [.cells [.ls 4 []], .arr 45 4 v1 (kJ all), .cells [.own 3 (vo + sls.length)], .arr 45 4 (vo + sls.length) (kJ (jY3 (kE0 (b - y)) A N T k.1)), .arr 45 4 vr3 (kJ row3), .cells [.int .i64 y], .cells [.int .i64 b], .cells [.own 4 vr3]]⟩)
        (fun k => N.length - k.1) ?_ ⟨0, Nat.zero_le _⟩ (by simp)
       rintro ⟨k, hk⟩ I4 ih4
       dsimp only at hk |-
       dsimp only [jE,jm,jo,jc,jn,jU,kt,jK,ky,jF,je,j1,j0,j3,kC,jt,jr,jb,ja,jd,jA,jf,jq,ku,j4,ji,jj,jk,jl,ju,j6,jL,kq,rd,get,jy,jz,jh,jg,jB,jP,km,jx,jC,kL,jI,jw,bA,bN,kU,jR,kD,ko,kw,jT,jS,Nat.reduceBEq,Nat.reduceAdd]
       refine ⟨fun hlt => ?_, fun hge => ?_⟩
       ·have hkl : k < N.length := by simp only [decide_eq_true_eq] at hlt; omega
        obtain ⟨q, hq⟩ : ∃ q, N[k]? = some q := ⟨_, List.getElem?_eq_getElem hkl⟩
        have hqb := hab2 q (List.mem_of_getElem? hq)
        have hqg := kF0 (f := kE0 (b - y)) (A := A) (T := T) hq
        rw [hAl] at hqg
        have hul : (kJ (jY3 (kE0 (b - y)) A N T k)).length = above + (N.length + T.length) := by rw [j8, kf6, hAl]
        have hix : (0 : Int) <= ((above + k : Nat) : Int) /\ (((above + k : Nat) : Int)) < ((kJ (jY3 (kE0 (b - y)) A N T k)).length : Int) := by rw [hul]; omega
        have hrq : (kJ (jY3 (kE0 (b - y)) A N T k))[((above + k : Nat) : Int).toNat]? = some (rD q) := qZ (by rw [Int.toNat_natCast]; exact hqg)
        refine ⟨⟨rfl, rfl, hix⟩, ⟨rfl, rfl⟩, kh (rD q) (.int .i64 q.h) hrq rfl ?_⟩
        dsimp only [jc,ja,jd,jA,jf,vB,ji,jj,jk,jl,ju,jJ,j6,jL,rd,get,jy,jz,jh,jg,jB,jP,km,jx,jC,kj,kL,jH,jI,jQ,jw,bA,bN,kU,jR,closed,ko,jT,jS,Nat.reduceBEq,Nat.reduceAdd]
        refine ⟨by simp only [j5]; omega, by simp only [j5]; omega, ⟨rfl, rfl, hix⟩, ⟨rfl, rfl⟩, qR (hs := []) (rD q) (rD (kE0 (b - y) q)) hrq rfl ?_⟩
        dsimp only [jm,jo,jc,jF,je,j0,kC,jt,jr,jb,ja,jd,jA,jf,ji,jj,jk,jl,jL,rd,get,jy,jz,jh,jg,jB,jP,km,jx,jw,bA,bN,kU,jR,ko,jT,jS,Nat.reduceBEq]
        rw [jR9, Int.toNat_natCast, <- hAl, kE9 hq, hAl]
        refine ⟨by simp only [j5]; omega, ?_⟩
        exact kW (ih4 ⟨k + 1, by omega⟩ (by dsimp only; omega)) ⟨rfl, rfl, rfl, rfl, rfl, rfl, rfl, rfl, rfl, rfl, rfl, rfl, trivial⟩ ⟨rfl, rfl, rfl, rfl, rfl, rfl, rfl, rfl, trivial⟩ rfl rfl
       ·have hke : k = N.length := by simp only [decide_eq_false_iff_not] at hge; omega
        subst hke
        refine kS _ _ (kv5 KG Y9 (kb := .i64) (b := ((above + N.length : Nat) : Int)) rfl (by omega) (by rw [j8, kf6]; omega)) ?_
        dsimp only [jm,jo,jc,jF,je,j0,kC,jt,jr,jb,ja,jd,jA,jf,ji,jj,jk,jl,jJ,jL,rd,get,jy,jz,jh,jg,jB,jP,km,jx,kj,jH,jI,jQ,kd,ki,jw,bA,bN,kU,jR,ko,jT,jS,Nat.reduceBEq,Nat.reduceAdd]
        refine ⟨by simp only [j5]; omega, ?_⟩
        refine kW (ih ⟨⟨i + 1, row3, next + cm.length, above, B2, vo + sls.length + 1, vr3⟩, hst1⟩ (by dsimp only; omega)) ⟨rfl, rfl, rfl, rfl, rfl, rfl, rfl, rfl, trivial⟩ ⟨rfl, rfl, rfl, ?_, rfl, trivial⟩ rfl rfl
        dsimp only
        rw [hgf, Int.toNat_natCast, Zh, <- hAl, show (jY3 (kE0 (b - y)) A N T N.length).take (A.length + N.length) = A ++ N.map (kE0 (b - y)) from by
         unfold jY3
         rw [List.take_length, List.drop_length, List.nil_append, <- List.append_assoc]
         exact List.take_left' (by simp)]
      ·have hg : ¬ jy5 B y sls := fun h => by rw [hgi.2 h] at hc; cases hc
       obtain ⟨hgf, _⟩ := hpn hg
       refine ⟨by simp only [j5]; omega, ?_⟩
       refine kW (ih ⟨⟨i + 1, row3, next + cm.length, out.length, vG y (b - y) sls B, vo + sls.length, vr3⟩, hst _ (.inr ⟨hg, rfl⟩)⟩ (by dsimp only; omega)) ⟨rfl, rfl, rfl, rfl, rfl, rfl, rfl, rfl, trivial⟩ ⟨rfl, rfl, rfl, ?_, rfl, trivial⟩ rfl rfl
       rw [hgf]
     clear hK7
     dsimp only [jm,jo,jc,jn,ja,jd,jA,jf,jq,ji,jj,jk,jl,jL,kq,rd,get,jy,jz,jh,jg,jB,jP,jx,jw,bA,bN,jT,jS,Nat.reduceBEq]
     refine kY [4] (kt7 (l := kJ row3) (ver := vr3)) rfl rfl ?_
     dsimp only [jU,jF,je,jt,jr,jb,rd,get,jy,jz,jh,jg,jQ,jD,jw,bA,bN,kV,qY,zp,kM,z6,kO,Je,Jd,jT,jS,Nat.reduceBEq,Nat.reduceAdd]
     have hspl : ∀ s ∈ sls, (-1048576 <= s.1 /\ s.1 < s.2) /\ s.2 <= 1048576 := hsb
     have hit := ky9 (l := row3) (ver := vr3) hV3 (by omega)
     rw [hsp] at hit
     refine Yp rfl rfl (sls.map QN) (SpnK vr3 row3) (fun i => [.cells [.ls 4 []], .arr 45 4 v1 (kJ all), .cells [.own 3 (vo + i)], .arr 45 4 (vo + i) (kJ (out ++ ze y (b - y) (sls.take i))), .arr 45 4 vr3 (kJ row3), .cells [.int .i64 y], .cells [.int .i64 b], .cells [.own 4 vr3]]) (sls.map QN).length ?_
     refine ⟨hit, rfl, fun x hx => ?_, Nat.le_refl _, fun i _ => ⟨rfl, rfl, _, _, _, _, _, _, rfl⟩, ?_, fun i x o hi hx => ?_, fun h => absurd h (Nat.lt_irrefl _), fun _ => ?_⟩
     ·obtain ⟨s, _, rfl⟩ := List.mem_map.1 hx
      rfl
     ·simp [ze]
     ·rw [List.length_map] at hi
      obtain ⟨s, hs⟩ : ∃ s, sls[i]? = some s := ⟨_, List.getElem?_eq_getElem hi⟩
      have hx' : x = QN s := by simpa [hs] using hx.symm
      subst hx'
      have hsv := hspl s (List.mem_of_getElem? hs)
      have htl : (sls.take i).length <= 1048576 := by rw [List.length_take]; omega
      dsimp only [ko0,goK,VT,QN,vH,jm,jo,jc,jU,jF,kC,jt,jr,jb,ja,jd,jA,jf,ji,jj,jk,jl,ju,jJ,qg,jL,kq,rd,get,jy,jz,jh,jg,jB,jP,km,jx,jC,kj,kL,jH,kp,qB,kT,jI,jQ,jD,jX,kd,ki,jw,bA,bN,kU,jR,closed,jV,ql,ko,jT,jS,Nat.reduceBEq,Nat.reduceAdd]
      have hll : (kJ (out ++ ze y (b - y) (sls.take i))).length <= 2199025352704 := by rw [j8, List.length_append, ze, List.length_map]; omega
      refine ⟨rfl, fun o' => ⟨by simp only [j5]; omega, by simp only [j5]; omega, ⟨rfl, rfl, rfl, rfl, by simp only [List.length_cons, List.length_nil]; omega, by simp only [List.length_cons, List.length_nil]; omega⟩, rfl, ?_⟩⟩
      have e1 : kJ (out ++ ze y (b - y) (sls.take (i + 1))) = kJ (out ++ ze y (b - y) (sls.take i)) ++ [rD ⟨s.1, y, s.2 - s.1, b - y⟩] := by
       rw [List.take_add_one, hs]
       simp [ze, kJ]
      rw [e1]
      rfl
     ·rw [List.length_map, List.take_length]
      exact hrest3
    clear hK6
    dsimp only [jE,jm,jo,jc,jn,jK,ky,jF,je,jt,jr,jb,ja,jd,jA,jf,jq,ji,jj,jk,jl,ju,kz,jL,kq,rd,get,jy,jz,jh,jg,jB,jP,km,jx,jC,kL,jI,jw,bA,bN,kU,jR,ko,jT,jS,Nat.reduceBEq]
    refine ⟨fun hc => ?_, fun hc => ?_⟩
    ·refine kY [4] (ku0 (l := row1 ++ cm) (ver := vr1 + cm.length) (by rw [List.length_append]; omega)) rfl rfl ?_
     dsimp only [jm,jo,jc,jF,je,jt,jr,jb,ja,jd,jA,jf,ji,jj,jk,jl,ju,kz,jL,rd,get,jy,jz,jh,jg,jB,jP,km,jx,jC,kL,jI,jQ,jD,jw,bA,bN,kV,qY,zp,kM,kO,Je,Jd,jT,jS,Nat.reduceBEq,Nat.reduceAdd]
     rw [j8]
     exact ⟨rfl, hrest2 _ _ (jz4 _).2.1 (jz4 _).2.2⟩
    ·have hc0 : cm = [] := by
      cases cm with
      | nil => rfl
      | cons a r => simp at hc; omega
     subst hc0
     rw [j8, <- hr1, List.append_nil]
     exact ⟨rfl, hrest2 _ _ (by rw [List.append_nil, hr1]) (hI.srt.sublist (List.filter_sublist ..))⟩
   clear hK4
   refine kE (α := {k : Nat // k <= cm.length})
    (fun k => ⟨[(2, [], .box 0 0), (3, [], .own 1 v1), (6, [], .ls 1 (iI (k9 all))), (7, [], .box 2 0), (8, [], .own 4 (vr1 + k.1)), (9, [], .int .i64 above), (10, [], .int .i64 ((next + k.1 : Nat) : Int)), (11, [], .int .i64 i), (12, [], .box 5 0), (13, [], .box 6 0), (14, [], .int .i64 next)],
      [.cells [.ls 4 []], .arr 45 4 v1 (kJ all), .cells [.own 3 vo], .arr 45 4 vo (kJ (qG B.reverse)), .arr 45 4 (vr1 + k.1) (kJ (row1 ++ cm.take k.1)), .cells [.int .i64 y], .cells [.int .i64 b]]⟩)
    (fun k => cm.length - k.1) ?_ ⟨0, Nat.zero_le _⟩ (by simp)
   rintro ⟨k, hk⟩ I3 ih3
   dsimp only at hk |-
   dsimp only [jm,jo,jc,jn,ja,jd,jA,jf,ku,ji,jj,jk,jl,ju,j6,kz,jL,rd,get,jy,jz,jh,jg,jB,jP,km,jx,jC,jI,jw,bA,bO,bN,bE,kU,jR,ko,jT,jS,Nat.reduceBEq,Nat.reduceAdd]
   rw [j8]
   obtain ⟨r0, hr0⟩ : ∃ r0, next + k < all.length -> all[next + k]? = some r0 := by
    by_cases h : next + k < all.length
    ·exact ⟨_, fun _ => List.getElem?_eq_getElem h⟩
    ·exact ⟨.o, fun h' => absurd h' h⟩
   refine ⟨rfl, fun h => ⟨rfl, rfl, by omega, by simpa using h⟩, fun _ => ⟨rfl, rfl⟩, kh (rD r0) (.int .i64 r0.y) (fun h => qZ (by rw [Int.toNat_natCast]; exact hr0 (by simp only [decide_eq_true_eq] at h; omega))) rfl ?_⟩
   dsimp only [jE,jm,jo,jc,jn,jU,kt,jK,ky,jF,je,j1,j3,jt,jr,jb,ja,jd,jA,jf,ku,ji,jj,jk,jl,ju,j6,kg,jL,rd,get,jy,jz,jh,jg,jB,jP,km,jx,jC,kL,jI,jw,bA,bO,bN,bE,kU,jR,ko,jT,jS,Nat.reduceBEq]
   refine ⟨fun hc => ?_, fun hc => ?_⟩
   ·rw [Bool.and_eq_true, decide_eq_true_eq, decide_eq_true_eq] at hc
    have hlt2 : next + k < all.length := by omega
    have hr00 := hr0 hlt2
    have hk1 := (hcg k r0 hk hr00).1 hc.2
    refine ⟨⟨rfl, rfl, by omega, by rw [j8]; omega⟩, ⟨rfl, rfl⟩, kh (rD r0) (rD r0) (qZ (by rw [Int.toNat_natCast]; exact hr00)) rfl ?_⟩
    dsimp only [rD,jm,jo,jc,jF,je,j0,kC,jt,jr,jb,ja,jd,jA,jf,ji,jj,jk,jl,qg,jL,kq,rd,get,jy,jz,jh,jg,jB,jP,km,jx,jH,kp,jI,jQ,jD,jX,jw,bA,bN,kU,jR,closed,jV,ql,ko,jT,jS,Nat.reduceBEq,Nat.reduceAdd]
    have hlk : (kJ (row1 ++ cm.take k)).length <= 2147483648 := by rw [j8, List.length_append, List.length_take]; omega
    refine ⟨⟨rfl, rfl, rfl, rfl, by simp only [List.length_cons, List.length_nil]; omega, by simp only [List.length_cons, List.length_nil]; omega⟩, by simp only [j5]; omega, ?_⟩
    refine kW (ih3 ⟨k + 1, by omega⟩ (by dsimp only; omega)) ⟨rfl, rfl, rfl, rfl, rfl, rfl, rfl, rfl, rfl, rfl, rfl, trivial⟩ ⟨rfl, rfl, rfl, rfl, ?_, rfl, rfl, trivial⟩ rfl rfl
    rw [hcg2 k r0 hk1 hr00, <- List.append_assoc]
    simp only [kJ, List.map_append]
    rfl
   ·have hke : k = cm.length := by
     by_cases h : next + k < all.length
     ·have h2 := hcg k r0 hk (hr0 h)
      have h3 : ¬ r0.y = y := fun e => by
       rw [show decide (((next + k : Nat) : Int) < (all.length : Int)) = true from by rw [decide_eq_true_eq]; omega, Bool.true_and, decide_eq_false_iff_not] at hc
       exact hc e
      omega
     ·omega
    subst hke
    rw [hc, List.take_length]
    exact hrest
  ·rw [zI] at hge
   refine KD rfl ⟨rfl, trivial⟩ (Sp.lift kG0 rfl) ?_
   dsimp only [jc,jG,jF,je,jt,jr,jb,ja,jd,jA,jf,ji,jj,jk,jl,jJ,jL,kq,rd,get,jy,jz,jh,jg,jB,jP,jx,jC,kj,jM,jN,jH,kp,qB,kT,jI,jQ,kd,ki,jw,bA,bN,kA,lend,kw,kx,jZ,j7,kr,j9,zh,jT,jS,Nat.reduceBEq,Nat.reduceAdd]
   have hge' : ¬ i + 1 < (k9 all).length := by simp only [decide_eq_false_iff_not] at hge; omega
   rw [show qG B.reverse = reg (qL (zk l)) from (jp7 (ke5 hB hge').1 fun x y => ((ke5 hB hge').2 x y).trans (hptall x y)).symm]
end Go.AM
