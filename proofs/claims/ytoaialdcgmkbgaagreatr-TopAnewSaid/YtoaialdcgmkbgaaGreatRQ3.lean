import Derived.Test.YtoaialdcgmkbgaaGreatRQ1
import Derived.Test.YtoaialdcgmkbgaaGreatRCode3
import Derived.Test.YtoaialdcgmkbgaaGreatRA24

set_option linter.all false
namespace Go.AM
open Go Go.Proofs
theorem jf1 {P : Program} {gt : Nat -> Option (List D)} {l : List Nat} {f : Nat} {ds ds' : List D} {dst : Option Nat} {g : G} {os : List O} {st : St} {K : St -> Prop} {es es' : List Ent} {d : D} (ks : List Nat) (h : SpM P gt f ds' es d es') (h1 : ds = qY ks (jD st.bx) ds') (h2 : Ko st.bx ks = some (kM ks (jD st.bx) es))
  (hl : Kept l st.bx (kO st.bx ks (kM ks (jD st.bx) es'))) (hk : qj (jE6 P gt) gt os K ⟨jw dst g (kV ks (jD st.bx) d) st.env, kO st.bx ks (kM ks (jD st.bx) es')⟩) (hks : jc1 ks = true := by rfl) : kk6 (jE6 P gt) gt l f ds dst g os st K :=
 ⟨_, _, SpM.own h ks h1 h2 hks, hl, hk⟩
theorem Kept.one {bx : List Ent} {k n : Nat} {e : Ent} : Kept [k] bx (kO bx [k] (kM [k] n [e])) := fun j hj => by
 have hjk : k ≠ j := fun h => hj (by simp [h])
 show jI (List.append (jQ bx k (zp [k] n e)) []) j = _
 rw [show List.append (jQ bx k (zp [k] n e)) [] = jQ bx k (zp [k] n e) from List.append_nil _, qF, kG, kG, List.getElem?_set_ne hjk]
structure JS where
 i : Nat
 ver : Nat
 out : List Rc
 u : List Rc
 d : List Rc
structure JS2 where
 j : Nat
 ver : Nat
 out : List Rc
 p : List Rc
 q : List Rc
theorem ks6 {pst : Int -> Rc -> Bool} {L c : List Rc} {y : Int} (h : Suf pst L c y) (hv : ∀ r ∈ L, Vr r) : (∀ r ∈ c, Vr r) /\ c.length <= L.length := by
 obtain ⟨pre, e, _⟩ := h
 refine ⟨fun r hr => hv r (by rw [e]; exact List.mem_append_right _ hr), by rw [e, List.length_append]; omega⟩
theorem kg4 {g : Nat} {kf : Bool -> Bool -> Bool} (hk : kf false false = false) (hg : ∀ a b, zA g [.bool a, .bool b] (.bool (kf a b))) {P Q : Int -> Int -> Prop} (hP : XT P) (hQ : XT Q) (hl : (reg P).length + (reg Q).length <= 8192) :
  zA 71 [.agg [.fn g []], .agg [.ls 4 (kJ (reg P))], .agg [.ls 4 (kJ (reg Q))]] (.agg [.ls 4 (kJ (reg fun x y => jl2 kf (P x y) (Q x y)))]) := by
 have hav := yU hP
 have hbv := yU hQ
 obtain ⟨hap, haP⟩ := Qh (jH6 hP)
 obtain ⟨hbp, hbP⟩ := Qh (jH6 hQ)
 have hres : ∀ out : List Rc, (∀ r ∈ out, Vr r) -> (∀ X Y, qL out X Y ↔ jl2 kf (qL (reg P) X Y) (qL (reg Q) X Y)) -> reg (qL (zk out)) = reg fun x y => jl2 kf (P x y) (Q x y) := fun out hv hp => KU fun x y => by
  unfold zk
  rw [jv0 (fun r hr _ => hv r hr), hp]
  exact kL7 (yV hP x y) (yV hQ x y)
 generalize (reg fun x y => jl2 kf (P x y) (Q x y)) = rs at hres |-
 generalize reg P = a at *
 generalize reg Q = b at *
 refine Q3 (by rfl) ?_
 dsimp only [c_region_rule_join,yX,jm,jo,jc,jn,jF,je,jt,jr,jb,ja,jd,jA,jf,jq,ji,jj,jk,jl,ju,jL,kq,rd,get,jy,jz,jh,jg,jB,jP,jx,jC,kj,jM,jN,jI,jD,jX,jw,env0,bA,bN,jT,jS,o1,o0,Nat.reduceBEq,Nat.reduceAdd]
 refine jv (JY (by rw [j8]; omega)) ?_
 dsimp only [jc,ja,jd,jA,jf,jq,ji,jj,jk,jl,ju,jL,kq,rd,get,jy,jz,jh,jg,jB,jP,jx,jC,jM,jN,jI,jw,bA,bN,jT,jS,Nat.reduceBEq]
 refine jv (JY (by rw [j8]; omega)) ?_
 dsimp only [jm,jo,jc,jn,jF,je,jt,jr,jb,ja,jd,jA,jf,jq,ji,jj,jk,jl,jL,kq,rd,get,jy,jz,jh,jg,jB,jP,jx,kj,jH,jD,jX,jw,bA,bN,closed,jV,ql,jT,jS,Nat.reduceBEq,Nat.reduceAdd]
 refine jv (kF5 hav hbv (by omega)) ?_
 dsimp only [jm,jo,jc,jn,jU,jF,je,jt,jr,jb,ja,jd,jA,jf,ji,jj,jk,jl,jJ,jL,kq,rd,get,jy,jz,jh,jg,jB,jP,jx,kj,jH,kp,qB,kT,jI,jQ,jD,jX,kd,ki,jw,bA,bN,jT,jS,Nat.reduceBEq,Nat.reduceAdd]
 have hyl := kA7 a b
 refine kE (α := {p : JS // Jn kf a b p.i p.out p.u p.d})
  (fun p => ⟨[(3, [], .box 0 0), (6, [], .box 3 0), (9, [], .ls 1 (iI (xv a b))), (10, [], .box 4 0), (11, [], .box 5 0), (12, [], .own 6 p.1.ver), (13, [], .int .i64 p.1.i)],
    [.cells [.fn g []], .cells [.ls 4 (kJ a)], .cells [.ls 4 (kJ b)], .cells [.ls 4 []], .cells [.ls 4 (kJ p.1.u)], .cells [.ls 4 (kJ p.1.d)], .arr 45 4 p.1.ver (kJ p.1.out)]⟩)
  (fun p => (xv a b).length - p.1.i) ?_ ⟨⟨0, 0, [], a, b⟩, ky8 hk⟩ rfl
 rintro ⟨⟨i, ver, out, u, d⟩, hJ⟩ I ih
 dsimp only at hJ |-
 dsimp only [jE,jm,jo,jc,jn,jU,kt,jK,ky,jF,je,j1,j3,kC,jt,jr,jb,ja,jd,jA,jf,jq,ku,ji,jj,jk,jl,ju,j6,kz,jL,kq,rd,get,jy,jz,jh,jg,jB,jP,km,jx,jC,jw,bA,bN,kU,jR,ko,kw,jT,jS,Nat.reduceBEq]
 rw [zI]
 have hil : i <= 16384 := by have := hJ.il; omega
 have hol : out.length <= 268435456 := Nat.le_trans hJ.len (by omega)
 refine ⟨by simp only [j5]; omega, fun hlt => ?_, fun hge => ?_⟩
 ·have hl1 : i + 1 < (xv a b).length := by simp at hlt; omega
  obtain ⟨y, hy⟩ : ∃ y, (xv a b)[i]? = some y := ⟨_, List.getElem?_eq_getElem (by omega)⟩
  obtain ⟨y2, hy2⟩ : ∃ y2, (xv a b)[i + 1]? = some y2 := ⟨_, List.getElem?_eq_getElem hl1⟩
  have hybd : ∀ n ∈ xv a b, -1048576 <= n /\ n <= 1048576 := fun n hn => by
   obtain ⟨r, hr, h2⟩ := vR.1 hn
   have hv : Vr r := hr.elim (hav r) (hbv r)
   unfold Vr at hv; omega
  have hy1b := hybd y (List.mem_of_getElem? hy)
  have hy2b := hybd y2 (List.mem_of_getElem? hy2)
  have hyy := (vD (Kt a b) hy hy2 (List.mem_of_getElem? hy)).2.2
  have hgy : (iI (xv a b))[((i : Nat) : Int).toNat]? = some (.int .i64 y) := jc7 (by simpa using hy)
  have hgy2 : (iI (xv a b))[((i : Nat) : Int) + 1 |>.toNat]? = some (.int .i64 y2) := jc7 (by rw [show ((i : Int) + 1).toNat = i + 1 from by omega]; exact hy2)
  refine ⟨⟨rfl, by omega, by omega⟩, kh (.int .i64 y) (.int .i64 y) hgy rfl ?_⟩
  dsimp only [jc,ja,jd,jA,jf,ku,ji,jj,jk,jl,ju,j6,jL,rd,get,jy,jz,jh,jg,jB,jP,km,jx,jC,jw,bA,bN,kU,jR,ko,jT,jS,Nat.reduceBEq]
  refine ⟨by simp only [j5]; omega, ⟨rfl, by omega, by rw [zI]; omega⟩, kh (.int .i64 y2) (.int .i64 y2) hgy2 rfl ?_⟩
  dsimp only [jc,ja,jd,jA,jf,ku,ji,jj,jk,jl,ju,j6,jL,rd,get,jy,jz,jh,jg,jB,jP,km,jx,jC,jw,bA,bN,jT,jS,Nat.reduceBEq]
  refine ⟨⟨rfl, by omega, by rw [zI]; omega⟩, kh (.int .i64 y) (.int .i64 y) hgy rfl ?_⟩
  dsimp only [jm,jo,jc,jn,jF,je,jt,jr,jb,ja,jd,jA,jf,jq,ji,jj,jk,jl,jL,kq,rd,get,jy,jz,jh,jg,jB,jP,km,jx,jw,bA,bN,kU,jR,ko,jT,jS,Nat.reduceBEq]
  obtain ⟨hout, ⟨y0, hy0, hsu⟩, ⟨y0', hy0', hsd⟩⟩ := hJ.at' y hy
  have hau : ∀ r ∈ a, r.y ∈ xv a b /\ r.y + r.h ∈ xv a b := fun r hr => ⟨vR.2 ⟨r, .inl hr, .inl rfl⟩, vR.2 ⟨r, .inl hr, .inr rfl⟩⟩
  have hbu : ∀ r ∈ b, r.y ∈ xv a b /\ r.y + r.h ∈ xv a b := fun r hr => ⟨vR.2 ⟨r, .inr hr, .inl rfl⟩, vR.2 ⟨r, .inr hr, .inr rfl⟩⟩
  obtain ⟨hsp, hsu2⟩ := kg0 hap haP hav (Kt a b) hau hy hy2 hy0 hsu
  obtain ⟨hsq, hsd2⟩ := kg0 hbp hbP hbv (Kt a b) hbu hy hy2 hy0' hsd
  obtain ⟨huv, hul⟩ := ks6 hsu hav
  obtain ⟨hdv, hdl⟩ := ks6 hsd hbv
  have hpl : (Yn y (J0 y u)).length <= a.length := Nat.le_trans (Nat.le_trans (List.takeWhile_sublist _).length_le (List.dropWhile_sublist _).length_le) hul
  have hql : (Yn y (J0 y d)).length <= b.length := Nat.le_trans (Nat.le_trans (List.takeWhile_sublist _).length_le (List.dropWhile_sublist _).length_le) hdl
  refine ⟨by simp only [j5]; omega, ?_⟩
  refine kY [4] (kt8 (y := y) huv (by omega)) rfl rfl ?_
  dsimp only [jc,ja,jd,jA,jf,jq,ji,jj,jk,jl,jL,kq,rd,get,jy,jz,jh,jg,jB,jP,jx,jQ,jD,jw,bA,bN,kV,qY,zp,kM,kO,Je,Jd,jT,jS,Nat.reduceBEq,Nat.reduceAdd]
  refine kY [5] (kt8 (y := y) hdv (by omega)) rfl rfl ?_
  dsimp only [jm,jo,jc,jn,jF,je,jt,jr,jb,ja,jd,jA,jf,jq,ji,jj,jk,jl,ju,jJ,jL,kq,rd,get,jy,jz,jh,jg,jB,jP,jx,jC,kj,kL,jH,jI,jQ,jD,jX,kd,ki,jw,bA,bN,closed,jV,ql,kV,qY,zp,kM,kO,Je,Jd,jT,jS,Nat.reduceBEq,Nat.reduceAdd]
  generalize Yn y (J0 y u) = p at *
  generalize Yn y (J0 y d) = q at *
  generalize J0 y u = u2 at *
  generalize J0 y d = d2 at *
  refine jv (kF6 hsp.vr hsq.vr (by omega)) ?_
  dsimp only [jm,jo,jc,jn,jU,jF,je,jt,jr,jb,ja,jd,jA,jf,ji,jj,jk,jl,jL,rd,get,jy,jz,jh,jg,jB,jP,jx,jw,bA,bN,jT,jS,Nat.reduceBEq]
  have hxl := kA8 p q
  have hxbd : ∀ n ∈ vZ p q, -1048576 <= n /\ n <= 1048576 := fun n hn => by
   obtain ⟨r, hr, h2⟩ := xw.1 hn
   have hv : Vr r := hr.elim (hsp.vr r) (hsq.vr r)
   unfold Vr at hv; omega
  refine kE (α := {s : JS2 // JnI kf a b p q y y2 out.length s.j s.out s.p s.q /\ (∀ r ∈ s.p, Vr r) /\ ∀ r ∈ s.q, Vr r})
   (fun s => ⟨[(3, [], .box 0 0), (6, [], .box 3 0), (9, [], .ls 1 (iI (xv a b))), (10, [], .box 4 0), (11, [], .box 5 0), (12, [], .own 6 s.1.ver), (13, [], .int .i64 i), (14, [], .int .i64 y), (15, [], .int .i64 (y2 - y)), (16, [], .box 7 0), (17, [], .box 8 0), (18, [], .ls 1 (iI (vZ p q))), (19, [], .int .i64 s.1.j)],
     [.cells [.fn g []], .cells [.ls 4 (kJ a)], .cells [.ls 4 (kJ b)], .cells [.ls 4 []], .cells [.ls 4 (kJ u2)], .cells [.ls 4 (kJ d2)], .arr 45 4 s.1.ver (kJ s.1.out), .cells [.ls 4 (kJ s.1.p)], .cells [.ls 4 (kJ s.1.q)]]⟩)
   (fun s => (vZ p q).length - s.1.j) ?_ ⟨⟨0, ver, out, p, q⟩, ko6 hk hsp hsq hJ.vr (Nat.le_refl _) hout, hsp.vr, hsq.vr⟩ rfl
  rintro ⟨⟨j, ver2, out2, pc, qc⟩, hI, hpv, hqv⟩ I2 ih2
  dsimp only at hI hpv hqv |-
  dsimp only [jE,jm,jo,jc,jn,jU,kt,jK,ky,jF,je,j1,j0,j3,kC,jt,jr,jb,ja,jd,jA,jf,jq,ku,ji,jj,jk,jl,ju,j6,kz,jL,kq,rd,get,jy,jz,jh,jg,jB,jP,km,jx,jC,jw,bA,bN,kU,jR,ko,kw,jT,jS,Nat.reduceBEq]
  rw [zI]
  have hjl : j <= 16384 := by have := hI.il; omega
  have hol2 := hI.len
  refine ⟨by simp only [j5]; omega, fun hlt2 => ?_, fun hge2 => ?_⟩
  ·have hj1 : j + 1 < (vZ p q).length := by simp at hlt2; omega
   obtain ⟨x, hx⟩ : ∃ x, (vZ p q)[j]? = some x := ⟨_, List.getElem?_eq_getElem (by omega)⟩
   obtain ⟨x2, hx2⟩ : ∃ x2, (vZ p q)[j + 1]? = some x2 := ⟨_, List.getElem?_eq_getElem hj1⟩
   have hx1b := hxbd x (List.mem_of_getElem? hx)
   have hx2b := hxbd x2 (List.mem_of_getElem? hx2)
   have hxx := (vD (YQ p q) hx hx2 (List.mem_of_getElem? hx)).2.2
   have hgx : (iI (vZ p q))[((j : Nat) : Int).toNat]? = some (.int .i64 x) := jc7 (by simpa using hx)
   have hgx2 : (iI (vZ p q))[((j : Nat) : Int) + 1 |>.toNat]? = some (.int .i64 x2) := jc7 (by rw [show ((j : Int) + 1).toNat = j + 1 from by omega]; exact hx2)
   refine ⟨⟨rfl, by omega, by omega⟩, kh (.int .i64 x) (.int .i64 x) hgx rfl ?_⟩
   dsimp only [jc,ja,jd,jA,jf,ku,ji,jj,jk,jl,ju,j6,jL,rd,get,jy,jz,jh,jg,jB,jP,km,jx,jC,jw,bA,bN,kU,jR,ko,jT,jS,Nat.reduceBEq]
   refine ⟨by simp only [j5]; omega, ⟨rfl, by omega, by rw [zI]; omega⟩, kh (.int .i64 x2) (.int .i64 x2) hgx2 rfl ?_⟩
   dsimp only [jc,ja,jd,jA,jf,ku,ji,jj,jk,jl,ju,j6,jL,rd,get,jy,jz,jh,jg,jB,jP,km,jx,jC,jw,bA,bN,jT,jS,Nat.reduceBEq]
   refine ⟨⟨rfl, by omega, by rw [zI]; omega⟩, kh (.int .i64 x) (.int .i64 x) hgx rfl ?_⟩
   dsimp only [jm,jo,jc,jn,jF,je,jt,jr,jb,ja,jd,jA,zb,qC,zm,zu,jf,Xt,ji,jj,jk,jl,ju,jL,kq,rd,get,jy,jz,jh,jg,jB,jP,km,jx,jC,kL,jI,jw,bA,bO,bN,kU,jR,ko,jT,jS,Nat.reduceBEq,Nat.reduceAdd]
   refine ⟨by simp only [j5]; omega, ?_⟩
   refine jf1 [7] (jz8 (x := x) hpv) rfl rfl Kept.one ?_
   dsimp only [jc,ja,jd,jA,jf,Xt,ji,jj,jk,jl,jL,kq,rd,get,jy,jz,jh,jg,jB,jP,jx,jQ,jD,jw,bA,bN,kV,qY,zp,kM,kO,Je,Jd,jT,jS,Nat.reduceBEq,Nat.reduceAdd]
   refine jf1 [8] (jz8 (x := x) hqv) rfl rfl Kept.one ?_
   dsimp only [jc,ja,jd,jA,jq,ji,jj,jk,jl,jL,kq,rd,get,jy,jz,jh,jg,jB,jP,jx,jQ,jD,jw,bA,bN,kV,qY,zp,kM,kO,Je,Jd,jT,jS,Nat.reduceBEq,Nat.reduceAdd]
   refine jv (hg _ _) ?_
   dsimp only [jE,jm,jo,jc,jK,ky,jF,je,j0,kC,jt,jr,jb,ja,jd,jA,jf,ji,jj,jk,jl,qg,jL,kq,rd,get,jy,jz,jh,jg,jB,jP,km,jx,kj,jH,kp,qB,kT,jI,jQ,jD,jX,kd,ki,jw,bA,bN,kU,jR,closed,jV,ql,ko,jT,jS,Nat.reduceBEq,Nat.reduceAdd]
   have hstep := ky7 hsp hsq ⟨hy1b.1, hyy, hy2b.2⟩ hI hx hx2
   have hpv2 : ∀ r ∈ Qf x pc, Vr r := fun r hr => hpv r ((List.dropWhile_sublist _).subset hr)
   have hqv2 : ∀ r ∈ Qf x qc, Vr r := fun r hr => hqv r ((List.dropWhile_sublist _).subset hr)
   refine ⟨fun hc => ?_, fun hc => ?_⟩
   ·rw [if_pos hc] at hstep
    have hol3 : (kJ out2).length <= 268451840 := by rw [j8]; omega
    refine ⟨⟨rfl, rfl, rfl, rfl, by simp only [List.length_cons, List.length_nil]; omega, by simp only [List.length_cons, List.length_nil]; omega⟩, by simp only [j5]; omega, ?_⟩
    refine kW (ih2 ⟨⟨j + 1, ver2 + 1, _, _, _⟩, hstep, hpv2, hqv2⟩ (by dsimp only; omega)) ⟨rfl, rfl, rfl, rfl, rfl, rfl, rfl, rfl, rfl, rfl, rfl, rfl, rfl, trivial⟩ ⟨rfl, rfl, rfl, rfl, rfl, rfl, ?_, rfl, rfl, trivial⟩ rfl rfl
    simp [kJ, rD]
   ·rw [if_neg (by rw [hc]; simp)] at hstep
    refine ⟨by simp only [j5]; omega, ?_⟩
    exact kW (ih2 ⟨⟨j + 1, ver2, _, _, _⟩, hstep, hpv2, hqv2⟩ (by dsimp only; omega)) ⟨rfl, rfl, rfl, rfl, rfl, rfl, rfl, rfl, rfl, rfl, rfl, rfl, rfl, trivial⟩ ⟨rfl, rfl, rfl, rfl, rfl, rfl, rfl, rfl, rfl, trivial⟩ rfl rfl
  ·have hge2' : ¬ j + 1 < (vZ p q).length := by simp only [decide_eq_false_iff_not] at hge2; omega
   have hpt2 := kJ2 hk hsp hsq hyy hI hge2'
   refine ⟨by simp only [j5]; omega, ?_⟩
   have hJ2 : Jn kf a b (i + 1) out2 u2 d2 := kJ3 (out := out) (u := u) (d := d) hy hy2 hI.vr (by have := hJ.len; omega) hpt2 hsu2 hsd2
   exact kW (ih ⟨⟨i + 1, ver2, out2, u2, d2⟩, hJ2⟩ (by dsimp only; omega)) ⟨rfl, rfl, rfl, rfl, rfl, rfl, rfl, trivial⟩ ⟨rfl, rfl, rfl, rfl, rfl, rfl, rfl, trivial⟩ rfl rfl
 ·have hge' : ¬ i + 1 < (xv a b).length := by simp only [decide_eq_false_iff_not] at hge; omega
  have hpt := kT9 hk hJ hge'
  refine KD rfl ⟨rfl, trivial⟩ (Sp.lift (xG (fun r hr => (hJ.vr r hr).in) (by omega)) rfl) ?_
  dsimp only [jc,jG,jF,je,jt,jr,jb,ja,jd,jA,jf,ji,jj,jk,jl,jJ,jL,rd,get,jy,jz,jh,jg,jB,jP,jx,jC,jM,jN,jH,kp,jI,jQ,kd,ki,jw,bA,bN,kA,lend,kw,kx,jZ,j7,kr,j9,zh,jT,jS,Nat.reduceBEq,Nat.reduceAdd]
  rw [hres out hJ.vr hpt]

theorem km2 (a b : Bool) : zA 70 [.bool a, .bool b] (.bool (a && b)) := by
 refine X4 (by rfl) ?_
 dsimp only [c_region_Meet_1,Qs,jm,jo,jc,jn,jG,jF,je,jt,jr,jb,ja,jd,jA,jf,ji,jj,jk,jl,kg,jL,rd,get,jy,jz,jh,jg,jB,jP,jx,jw,env0,bA,bO,bN,bE,lend,kw,kx,jZ,j7,kr,j9,jT,jS,o1,og,Nat.reduceBEq,Nat.reduceAdd]
theorem jZ6 (a b : Bool) : zA 82 [.bool a, .bool b] (.bool (a && !b)) := by
 refine V5 (by rfl) ?_
 dsimp only [c_region_Minus_1,J8,jm,jo,jc,jn,jG,jF,je,jt,jr,jb,ja,jd,jA,jf,ji,jj,jk,jl,kg,jL,rd,get,jy,jz,jh,jg,jB,jP,jx,jw,env0,bA,bO,bN,bE,lend,kw,kx,jZ,j7,kr,j9,jT,jS,o1,og,Nat.reduceBEq,Nat.reduceAdd]
theorem Kp2_and {P Q : Prop} : jl2 (fun a b => a && b) P Q ↔ P /\ Q := by
 unfold jl2; simp
theorem Kp2_not {P Q : Prop} : jl2 (fun a b => a && !b) P Q ↔ P /\ ¬ Q := by
 unfold jl2; simp
theorem KQ {P Q : Int -> Int -> Prop} (hP : XT P) (hQ : XT Q) (hl : (reg P).length + (reg Q).length <= 8192) :
  zA 13 [.agg [.ls 4 (kJ (reg P))], .agg [.ls 4 (kJ (reg Q))]] (.agg [.ls 4 (kJ (reg fun x y => P x y /\ Q x y))]) := by
 rw [show (reg fun x y => P x y /\ Q x y) = reg fun x y => jl2 (fun a b => a && b) (P x y) (Q x y) from KU fun x y => Kp2_and.symm]
 refine ji7 (by rfl) ?_
 dsimp only [c_region_Meet,VL,jm,jo,jc,jn,jF,je,jt,jr,jb,ja,jd,jA,jf,jq,ji,jj,jk,jl,ju,jL,kq,rd,get,jy,jz,jh,jg,jB,jP,jx,jC,kj,jM,jN,jH,qB,kT,jI,jD,jX,kd,ki,jw,env0,bA,bN,jT,jS,o1,o0,Nat.reduceBEq,Nat.reduceAdd]
 refine jv (kg4 (kf := fun a b => a && b) rfl km2 hP hQ hl) ?_
 dsimp only [jc,jG,jF,je,jt,jr,jb,ja,jd,jA,jf,ji,jj,jk,jl,jJ,jL,rd,get,jy,jz,jh,jg,jB,jP,jx,jC,jM,jN,jH,kp,jI,jQ,kd,ki,jw,bA,bN,kA,lend,kw,kx,jZ,j7,kr,j9,zh,jT,jS,Nat.reduceBEq,Nat.reduceAdd]
theorem Za {P Q : Int -> Int -> Prop} (hP : XT P) (hQ : XT Q) (hl : (reg P).length + (reg Q).length <= 8192) :
  zA 23 [.agg [.ls 4 (kJ (reg P))], .agg [.ls 4 (kJ (reg Q))]] (.agg [.ls 4 (kJ (reg fun x y => P x y /\ ¬ Q x y))]) := by
 rw [show (reg fun x y => P x y /\ ¬ Q x y) = reg fun x y => jl2 (fun a b => a && !b) (P x y) (Q x y) from KU fun x y => Kp2_not.symm]
 refine ja6 (by rfl) ?_
 dsimp only [c_region_Minus,Zn,jm,jo,jc,jn,jF,je,jt,jr,jb,ja,jd,jA,jf,jq,ji,jj,jk,jl,ju,jL,kq,rd,get,jy,jz,jh,jg,jB,jP,jx,jC,kj,jM,jN,jH,qB,kT,jI,jD,jX,kd,ki,jw,env0,bA,bN,jT,jS,o1,o0,Nat.reduceBEq,Nat.reduceAdd]
 refine jv (kg4 (kf := fun a b => a && !b) rfl jZ6 hP hQ hl) ?_
 dsimp only [jc,jG,jF,je,jt,jr,jb,ja,jd,jA,jf,ji,jj,jk,jl,jJ,jL,rd,get,jy,jz,jh,jg,jB,jP,jx,jC,jM,jN,jH,kp,jI,jQ,kd,ki,jw,bA,bN,kA,lend,kw,kx,jZ,j7,kr,j9,zh,jT,jS,Nat.reduceBEq,Nat.reduceAdd]
theorem km3 {P Q : Int -> Int -> Prop} (hP : XT P) (hQ : XT Q) (hl : (reg P).length + (reg Q).length <= 8192) {b : Bool} (hb : b = true ↔ ∀ x y, P x y -> Q x y) :
  zA 38 [.agg [.ls 4 (kJ (reg P))], .agg [.ls 4 (kJ (reg Q))]] (.bool b) := by
 have hM : XT fun x y => P x y /\ ¬ Q x y := fun x y h => hP x y h.1
 have e : (decide (((kJ (reg fun x y => P x y /\ ¬ Q x y)).length : Int) = 0)) = b := by
  rw [j8, Bool.eq_iff_iff, decide_eq_true_iff, hb]
  have h1 : ((reg fun x y => P x y /\ ¬ Q x y).length : Int) = 0 ↔ (reg fun x y => P x y /\ ¬ Q x y) = [] := by
   rw [<- List.length_eq_zero_iff]; omega
  rw [h1, KT hM]
  constructor
  ·intro h x y hp
   exact Classical.byContradiction fun hq => h x y ⟨hp, hq⟩
  ·rintro h x y ⟨hp, hq⟩; exact hq (h x y hp)
 rw [<- e]
 refine X5 (by rfl) ?_
 dsimp only [c_region_Inside,Qt,jm,jo,jc,jn,jF,je,jt,jr,jb,ja,jd,jA,jf,jq,ji,jj,jk,jl,ju,jL,kq,rd,get,jy,jz,jh,jg,jB,jP,jx,jC,kj,jM,jN,jI,jD,jX,jw,env0,bA,bN,jT,jS,o1,Nat.reduceBEq,Nat.reduceAdd]
 refine jv (Za hP hQ hl) ?_
 dsimp only [jc,ja,jd,jA,jq,ji,jj,jk,jl,jL,kq,rd,get,jy,jz,jh,jg,jB,jP,jx,jw,bA,bN,jT,jS,Nat.reduceBEq]
 refine jv Zb ?_
 dsimp only [jc,jG,jF,je,jt,jr,jb,ja,jd,jA,jf,ji,jj,jk,jl,jL,rd,get,jy,jz,jh,jg,jB,jP,jx,jw,bA,bN,lend,kw,kx,jZ,j7,kr,j9,jT,jS,Nat.reduceBEq]
theorem jl5 {c : Rc} (hc : Vr c) : reg (qL (zk [c])) = [c] /\ (reg fun x y => c.has x y) = [c] /\ XT fun x y => c.has x y := by
 have hv := hc
 unfold Vr at hv
 have hcan : Jy [c] := ⟨[⟨c.y, c.h, [(c.x, c.x + c.w)]⟩], ⟨by dsimp only; omega, by simp, by show c.x < c.x + c.w; omega⟩, by
  simp [qG]; cases c; simp; omega⟩
 have hall : zk [c] = [c] := by simp [zk, ZS.2 hc]
 rw [hall]
 refine ⟨jp7 hcan fun _ _ => Iff.rfl, jp7 hcan fun x y => jI0, fun x y h => ?_⟩
 unfold Rc.has at h; omega
theorem Z1 {c : Rc} (hc : Vr c) : zA 11 [.ls 4 [rD c]] (.agg [.ls 4 (kJ (reg fun x y => c.has x y))]) := by
 have := xG (l := [c]) (fun r hr => by simp at hr; subst hr; exact hc.in) (by simp)
 rw [(jl5 hc).1.trans (jl5 hc).2.1.symm] at this
 exact this
theorem km1 {P : Int -> Int -> Prop} {c : Rc} (hP : XT P) (hc : Vr c) (hl : (reg P).length <= 8191) :
  zA 19 [.agg [.ls 4 (kJ (reg P))], rD c] (.agg [.ls 4 (kJ (reg fun x y => P x y /\ c.has x y))]) := by
 refine Jh (by rfl) ?_
 dsimp only [c_region_Within,yq,rD,jm,jo,jc,jn,jF,je,jt,jr,jb,ja,jd,jA,jf,jq,ji,jj,jk,jl,ju,jL,kq,rd,get,jy,jz,jh,jg,jB,jP,jx,jC,kj,jM,jN,jH,kp,jI,jD,jX,jw,env0,bA,bN,closed,jV,ql,jT,jS,o1,o0,Nat.reduceBEq,Nat.reduceAdd]
 refine jv (Z1 hc) ?_
 dsimp only [jc,ja,jd,jA,jq,ji,jj,jk,jl,jL,kq,rd,get,jy,jz,jh,jg,jB,jP,jx,jw,bA,bN,jT,jS,Nat.reduceBEq]
 refine jv (KQ hP (jl5 hc).2.2 (by rw [(jl5 hc).2.1]; simp; omega)) ?_
 dsimp only [jc,jG,jF,je,jt,jr,jb,ja,jd,jA,jf,ji,jj,jk,jl,jJ,jL,rd,get,jy,jz,jh,jg,jB,jP,jx,jC,jM,jN,jH,kp,jI,jQ,kd,ki,jw,bA,bN,kA,lend,kw,kx,jZ,j7,kr,j9,zh,jT,jS,Nat.reduceBEq,Nat.reduceAdd]

abbrev yo := List (Int × List Int)
abbrev ZX := List (Int × Int)
def iL (l : List Int) : List D := l.map fun n => .int .u32 n
theorem zO (l : List Int) : (iL l).length = l.length := by simp [iL]
theorem js2 {l : List Int} {i : Nat} (h : i < l.length) : (iL l)[i]? = some (.int .u32 l[i]) := by simp [iL, h]
theorem kc8 (a b : List Int) : iL a ++ iL b = iL (a ++ b) := by simp [iL]
def vI (k : yo) : KV := k.map fun p => (p.1, .ls 1 (iL p.2))
def zH (u : ZX) : KV := u.map fun p => (p.1, .int .u32 p.2)
structure TT where
 kids : yo
 up : ZX
def tD (t : TT) : D := .agg [qO .u32 (vI t.kids), qO .u32 (zH t.up)]
def kP (t : TT) (id : Int) : List Int := (lk t.kids id).getD []
def jc8 (t : TT) (id : Int) : Bool := (lk t.up id).isSome || decide (id = 1)
structure TT.Ok (t : TT) : Prop where
 kn : zC t.kids
 un : zC t.up
 kl : ∀ id, (kP t id).length <= 64
 ul : t.up.length <= 63
theorem tK : Tryz.prog.underlying 83 = some (.map 53 95) := by kernel_rfl
theorem tU : Tryz.prog.underlying 84 = some (.map 53 53) := by kernel_rfl
theorem tI : Tryz.prog.underlying 53 = some (.int .u32) := by kernel_rfl
theorem tLs : Tryz.prog.underlying 95 = some (.slice 53) := by kernel_rfl
theorem zU : ZV Tryz.prog 53 (.int .u32 0) := by unfold ZV; kernel_rfl
theorem zK : ZV Tryz.prog 95 (.slice none 0 0) := by unfold ZV; kernel_rfl
theorem lkU (u : ZX) (id : Int) (c : Bool) : jU3 c (lk (zH u) id) (.int .u32 0) = match c with | false => .int .u32 ((lk u id).getD 0) | true => .tup [.int .u32 ((lk u id).getD 0), .bool (lk u id).isSome] := by
 unfold zH
 rw [jK1 (f := fun n => D.int .u32 n)]
 cases lk u id <;> cases c <;> rfl
theorem lkK (k : yo) (id : Int) : jU3 false (lk (vI k) id) (.ls 1 []) = .ls 1 (iL ((lk k id).getD [])) := by
 unfold vI
 rw [jK1 (f := fun l => D.ls 1 (iL l))]
 cases lk k id <;> rfl
theorem jm8 {u : ZX} (h : zC u) : zC (zH u) := ki4.2 h
theorem kT7 {k : yo} (h : zC k) : zC (vI k) := (ki4 (f := fun l : List Int => D.ls 1 (iL l))).2 h
theorem kQ0 {bx : List Ent} {u : ZX} (h : zC u) (id : Int) : PrM Tryz.prog zM (.lkp 84 true) [.mp (qI .u32 (zH u)) (kZ (zH u)), .int .u32 id] bx (.tup [.int .u32 ((lk u id).getD 0), .bool (lk u id).isSome]) bx := by
 have := JJ (gt := zM) (bx := bx) tU tI zU (jm8 h) id true (zd := .int .u32 0) (fun _ _ _ => by simp [Rep])
 rw [lkU] at this; exact this
theorem kQ1 {bx : List Ent} {u : ZX} (h : zC u) (id : Int) : PrM Tryz.prog zM (.lkp 84 false) [.mp (qI .u32 (zH u)) (kZ (zH u)), .int .u32 id] bx (.int .u32 ((lk u id).getD 0)) bx := by
 have := JJ (gt := zM) (bx := bx) tU tI zU (jm8 h) id false (zd := .int .u32 0) (fun _ _ _ => by simp [Rep])
 rw [lkU] at this; exact this
theorem kh7 {bx : List Ent} {k : yo} (h : zC k) (id : Int) : PrM Tryz.prog zM (.lkp 83 false) [.mp (qI .u32 (vI k)) (kZ (vI k)), .int .u32 id] bx (.ls 1 (iL ((lk k id).getD []))) bx := by
 have := JJ (gt := zM) (bx := bx) tK tI zK (kT7 h) id false (zd := .ls 1 []) (fun _ _ _ => by simp only [Rep]; exact ⟨none, 0, 0, rfl, rfl, Nat.le_refl _, fun _ => rfl, .inl trivial⟩)
 rw [lkK] at this; exact this
theorem x5 {t : TT} (h : t.Ok) (id : Int) : zA 153 [tD t, .int .u32 id] (.bool (jc8 t id)) := by
 refine X1 (by rfl) ?_
 dsimp only [c_tree_Tree_Has,Qo,tD,jm,jo,jc,jn,jF,je,jt,jr,jb,ja,jd,jA,jf,j4,ji,jj,jk,jl,ju,jL,kq,rd,get,jy,jz,jh,jg,jB,jP,jx,jC,kj,kL,jI,jD,jX,jw,env0,bA,bN,kD,jT,jS,o1,og,Nat.reduceBEq,Nat.reduceAdd]
 refine kH _ (kQ0 h.un id) ?_
 dsimp only [jm,jo,jc,jn,jG,jF,je,jt,jr,jb,ja,jd,jA,jf,ji,jj,jk,jl,kg,jL,rd,get,jy,jz,jh,jg,jB,jP,jx,kL,jw,bA,bO,bN,bE,kU,jR,lend,ko,kw,kx,jZ,j7,kr,j9,jT,jS,Nat.reduceBEq]
 unfold jc8
 cases lk t.up id <;> simp
theorem jO8 : zA 93 [] (tD ⟨[], []⟩) := by
 refine jF3 (by rfl) ?_
 dsimp only [c_tree_New,jp9,tD,jm,jo,jc,jn,jG,jF,je,jt,jr,jb,ja,jd,jA,jf,ji,jj,jk,jl,jJ,jL,kq,rd,get,jy,jz,jh,jg,jB,jP,jx,jC,jM,jN,jH,kp,qB,kT,jI,jQ,jD,jX,kd,ki,jw,env0,bA,bN,kA,lend,kw,kx,jZ,j7,kr,j9,zh,jT,jS,o1,o0,Nat.reduceBEq,Nat.reduceAdd]
 rfl
theorem Ql {l : List Int} (hl : l.length < 1000000) : zA 103 [.ls 1 (iL l)] (.ls 1 (iL l)) := by
 refine xD (by rfl) ?_
 dsimp only [c_slices_Clone_api_ID_api_ID,qK,jm,jo,jc,jn,jF,je,jt,jr,jb,ja,jd,jA,jf,yl,ji,jj,jk,jl,jL,kq,rd,get,jy,jz,jh,jg,jB,jP,jx,jD,jX,jw,env0,bA,bN,kD,jT,jS,o1,Nat.reduceBEq,Nat.reduceAdd]
 refine Jp _ (jI4 (e := 53) tLs false) ?_
 rintro d bx' ⟨rfl, b, rfl, hb⟩
 dsimp only [jE,jm,jo,jc,jn,jG,jK,ky,jF,je,jO,jt,jr,jb,ja,jd,jA,jf,ji,jj,jk,jl,qg,jL,kq,rd,get,jy,jz,jh,jg,jB,jP,km,jx,jI,jQ,jD,jX,jw,bA,bN,lend,jV,ql,kw,kx,jZ,j7,kr,j9,zh,jT,jS,Nat.reduceBEq,Nat.reduceAdd]
 refine ⟨fun h => ?_, fun h => ?_⟩
 ·have : b = true := by simpa using h
  rw [hb this]
  exact ⟨rfl, rfl⟩
 ·refine ⟨⟨rfl, rfl, rfl, rfl, by rw [zO]; simp; omega⟩, ?_⟩
  exact ⟨rfl, by simp⟩
theorem jj7 {l : List Int} (hl : l.length < 1000000) : vT 103 [.ls 1 (iL l)] [] (.own 0 1) [.arr 53 1 1 (iL l)] := by
 refine xE (by rfl) ?_
 dsimp only [c_slices_Clone_api_ID_api_ID,qK,jm,jo,jc,jn,jF,je,jt,jr,jb,ja,jd,jA,jf,yl,ji,jj,jk,jl,jL,kq,rd,get,jy,jz,jh,jg,jB,jP,jx,jD,jX,jw,env0,bA,bN,kD,jT,jS,o1,Nat.reduceBEq,Nat.reduceAdd]
 refine Jp _ (jI4 (e := 53) tLs false) ?_
 rintro d bx' ⟨rfl, b, rfl, hb⟩
 dsimp only [jE,jm,jo,jc,jn,jG,jK,ky,jF,je,jO,jt,jr,jb,ja,jd,jA,jf,ji,jj,jk,jl,qg,jL,kq,rd,get,jy,jz,jh,jg,jB,jP,km,jx,jI,jQ,jD,jX,jw,bA,bN,jV,ql,qX,qH,j7,kr,j9,zh,jT,jS,Nat.reduceBEq,Nat.reduceAdd]
 refine ⟨fun h => ?_, fun h => ?_⟩
 ·have : b = true := by simpa using h
  rw [hb this]
  exact Rt.row rfl
 ·refine ⟨⟨rfl, rfl, rfl, rfl, by rw [zO]; simp; omega⟩, ?_⟩
  exact Rt.row rfl
end Go.AM
