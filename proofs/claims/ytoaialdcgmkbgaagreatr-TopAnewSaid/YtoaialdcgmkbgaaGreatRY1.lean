import Derived.Test.YtoaialdcgmkbgaaGreatRCode
import Derived.Test.YtoaialdcgmkbgaaGreatRU3
import Derived.Test.YtoaialdcgmkbgaaGreatRA29

set_option linter.all false
namespace Go.AM
open Go Go.Proofs
def rD (r : Rc) : D := .agg [.int .i64 r.x, .int .i64 r.y, .int .i64 r.w, .int .i64 r.h]
def Rc.o : Rc := ⟨0, 0, 0, 0⟩
def Rc.In (r : Rc) : Prop := j5 .i64 r.x /\ j5 .i64 r.y /\ j5 .i64 r.w /\ j5 .i64 r.h
def jV3 (a n : Int) : Bool := decide (-1048576 <= a) && decide (1 <= n) && decide (n <= 1048576 - a)
def Vr (r : Rc) : Prop := -1048576 <= r.x /\ -1048576 <= r.y /\ 1 <= r.w /\ 1 <= r.h /\ r.w <= 1048576 - r.x /\ r.h <= 1048576 - r.y
def Vz (r : Rc) : Prop := r = .o \/ Vr r
theorem Vr.in {r : Rc} (h : Vr r) : r.In := by unfold Vr at h; simp only [Rc.In, j5]; omega
theorem In_o : Rc.o.In := by simp [Rc.In, Rc.o, j5]
theorem Vz.in {r : Rc} (h : Vz r) : r.In := h.elim (fun h => h ▸ In_o) Vr.in
theorem kp0 {a n : Int} : jV3 a n = true ↔ -1048576 <= a /\ 1 <= n /\ n <= 1048576 - a := by simp [jV3, and_assoc]

def kB1 (r : Rc) : Bool := jV3 r.x r.w && jV3 r.y r.h
theorem ZS {r : Rc} : kB1 r = true ↔ Vr r := by
 simp only [kB1, Bool.and_eq_true, kp0, Vr]
 omega
theorem Yg {a n : Int} (ha : j5 .i64 a) : zA 121 [.int .i64 a, .int .i64 n] (.bool (jV3 a n)) := by
 refine jw0 (by rfl) ?_
 dsimp only [c_band_fits,jh0,jm,jo,jc,jn,jG,jF,je,jt,jr,jb,ja,jd,jA,jf,ji,jj,jk,jl,kg,jL,rd,get,jy,jz,jh,jg,jB,jP,km,jx,jw,env0,bA,bO,bN,bE,kU,jR,lend,ko,kw,kx,jZ,j7,kr,j9,jT,jS,o1,og,Nat.reduceBEq,Nat.reduceAdd]
 refine ⟨fun h => ?_, ?_⟩
 ·simp only [j5, Bool.and_eq_true, decide_eq_true_eq] at *
  omega
 ·congr 1
theorem jo5 {r : Rc} (hr : r.In) : zA 58 [rD r] (.bool (kB1 r)) := by
 refine jj4 (by rfl) ?_
 dsimp only [c_band_counts,VS,rD,jm,jo,jc,jn,jF,je,jt,jr,jb,ja,jd,jA,jf,jq,ji,jj,jk,jl,ju,jL,kq,rd,get,jy,jz,jh,jg,jB,jP,jx,jC,kj,kL,jI,jD,jX,jw,env0,bA,bN,jT,jS,o1,og,Nat.reduceBEq,Nat.reduceAdd]
 refine jv (Yg hr.1) ?_
 dsimp only [jc,ja,jd,jA,jf,jq,ji,jj,jk,jl,ju,jL,kq,rd,get,jy,jz,jh,jg,jB,jP,jx,jC,kL,jI,jw,bA,bO,bN,bE,jT,jS,Nat.reduceBEq,Nat.reduceAdd]
 refine jv (fun _ => Yg hr.2.1) ?_
 dsimp only [jc,jG,jF,je,jt,jr,jb,ja,jd,jA,jf,ji,jj,jk,jl,kg,jL,rd,get,jy,jz,jh,jg,jB,jP,jx,jw,bA,bO,bN,bE,lend,kw,kx,jZ,j7,kr,j9,jT,jS,Nat.reduceBEq]
 rfl
def kJ (l : List Rc) : List D := l.map rD
theorem Yj {r : Rc} {y : Int} (h : j5 .i64 (r.y + r.h)) : vT 65 [rD r, .box 0 0] [.cells [.int .i64 y]] (.bool (decide (r.y + r.h <= y))) [.cells [.int .i64 y]] := by
 refine jw2 (by rfl) ?_
 dsimp only [c_band_Of_2,jh1,rD,jm,jo,jc,jn,jG,jF,je,jt,jr,jb,ja,jd,jA,jf,ji,jj,jk,jl,ju,jL,rd,get,jy,jz,jh,jg,jB,jP,km,jx,jC,kj,kL,jI,jD,jX,jw,env0,bA,bN,kU,jR,ko,qX,qH,j7,kr,j9,jT,jS,o1,Nat.reduceBEq,Nat.reduceAdd]
 refine ⟨h, ?_⟩
 exact Rt.cut (Nat.le_refl _) ⟨rfl, trivial⟩ rfl rfl

theorem ja0 (b : List Ent) : Vf b b := by simpa using vV b []
def KR (r : Rc) : Int × Int := (r.x, r.x + r.w)
def z7 : List (Int × Int) -> List (Int × Int)
 | [] => []
 | s :: l => vP s l
theorem kc6 {s : Int × Int} {l : List (Int × Int)} (h : ∀ t r, l = t :: r -> s.2 < t.1) : vP s l = s :: z7 l := by
 cases l with
 | nil => rfl
 | cons t r =>
   have := h t r rfl
   simp only [vP, z7]
   rw [if_neg (by omega)]
theorem ky6 {s t : Int × Int} {l : List (Int × Int)} (h : t.1 <= s.2) : vP s (t :: l) = vP (s.1, max s.2 t.2) l := by
 simp only [vP]; rw [if_pos h]
def QN (s : Int × Int) : List D := [.agg [.int .i64 s.1, .int .i64 s.2]]
def rowE (e0 e1 e2 e3 : Ent) (ver : Nat) (l : List Rc) (e5 e6 : Ent) : List Ent := [e0, e1, e2, e3, .arr 45 4 ver (kJ l), e5, e6, .cells [.own 4 ver]]
def SpnK (ver : Nat) (l : List Rc) (b : List Ent) : Prop := ∃ e0 e1 e2 e3 e5 e6, b = rowE e0 e1 e2 e3 ver l e5 e6
theorem j8 (l : List Rc) : (kJ l).length = l.length := by simp [kJ]
theorem qZ {l : List Rc} {i : Nat} {r : Rc} (h : l[i]? = some r) : (kJ l)[i]? = some (rD r) := by simp [kJ, h]
theorem ky9 {l : List Rc} {ver : Nat} (hin : ∀ r ∈ l, Vr r) (hlen : l.length <= 4294967296) : jX8 Tryz.prog zM 128 [.box 7 0] ((z7 (l.map KR)).map QN) (SpnK ver l) := by
 refine Y6 mixed c_band_spans_1 Zp (fn := Tryz.f128) (by kernel_rfl) (by kernel_rfl) YZ (by kernel_rfl) (by rfl) (by kernel_rfl) fun y m S bs n F1 hn0 hm hy hS hbs hlb hgo hst => ?_
 have hsh : ∀ k, k <= m -> ∃ e0 e1 e2 e3 e5 e6 o, S k = [e0, e1, e2, e3, .arr 45 4 ver (kJ l), e5, e6, .cells [.own 4 ver], .obj o] /\ n = 9 /\ k8 n (S k) = true := fun k hk => by
  obtain ⟨h1, h2, b0, o, h3, e0, e1, e2, e3, e5, e6, h4⟩ := hS k hk
  refine ⟨e0, e1, e2, e3, e5, e6, o, by rw [h3, h4]; rfl, ?_, h2⟩
  rw [<- h1, h3, h4]; rfl
 have hn9 : n = 9 := (hsh 0 (Nat.zero_le _)).choose_spec.choose_spec.choose_spec.choose_spec.choose_spec.choose_spec.choose_spec.2.1
 subst hn9
 dsimp only [c_band_spans_1,Zp,jm,jo,jc,jn,jU,jF,je,jt,jr,jb,ja,jd,jA,jf,ji,jj,jk,jl,jL,rd,get,jy,jz,jh,jg,jB,jP,jx,jw,env0,bA,bN,jT,jS,o1,o0,og,Nat.reduceBEq,Nat.reduceAdd]
 refine kE (α := {p : Nat × Nat // p.1 <= l.length /\ p.2 <= m /\ ((z7 (l.map KR)).map QN).drop p.2 = (z7 ((l.drop p.1).map KR)).map QN})
  (fun p => ⟨[(0, [], .yld y), (1, [], .box 7 0), (3, [], .int .i64 p.1.1)], S p.1.2⟩) (fun p => l.length - p.1.1) ?_ ⟨(0, 0), by simp⟩ rfl
 rintro ⟨⟨i, k⟩, hi, hk, hd⟩ I ih
 dsimp only at hi hk hd |-
 obtain ⟨e0, e1, e2, e3, e5, e6, o, hSk, _, hlow⟩ := hsh k hk
 rw [hSk]
 dsimp only [jE,jm,jo,jc,jn,jU,kt,jK,ky,jF,je,j1,j3,kC,jt,jr,jb,ja,jd,jA,zb,qC,zm,zu,jf,ku,ji,jj,jk,jl,ju,j6,kz,jL,rd,get,jy,jz,jh,jg,jB,jP,km,jx,jC,kL,jI,jw,bA,bO,bN,kU,jR,ko,qX,qH,j7,j9,jT,jS,Nat.reduceBEq,Nat.reduceAdd]
 refine ⟨rfl, fun hlt => ?_, fun hge => ?_⟩
 ·have hl : i < l.length := by rw [j8] at hlt; simpa using hlt
  obtain ⟨r, hr⟩ : ∃ r, l[i]? = some r := ⟨_, List.getElem?_eq_getElem hl⟩
  have hV := hin r (List.mem_of_getElem? hr)
  have hix : (0 : Int) <= i /\ (i : Int) < ((kJ l).length : Int) := by rw [j8]; omega
  have hrow : (kJ l)[(i : Int).toNat]? = some (rD r) := qZ (by simpa using hr)
  refine ⟨⟨rfl, rfl, hix⟩, ⟨rfl, rfl⟩, kh (rD r) (.int .i64 r.x) hrow rfl ?_⟩
  dsimp only [jc,ja,jd,jA,zb,qC,zm,zu,jf,ku,ji,jj,jk,jl,ju,j6,jL,rd,get,jy,jz,jh,jg,jB,jP,km,jx,jC,kL,jI,jw,bA,bO,bN,jT,jS,Nat.reduceBEq,Nat.reduceAdd]
  refine ⟨⟨rfl, rfl, hix⟩, ⟨rfl, rfl⟩, kh (rD r) (.int .i64 r.x) hrow rfl ?_⟩
  dsimp only [jc,ja,jd,jA,zb,qC,zm,zu,jf,ku,ji,jj,jk,jl,ju,j6,jL,rd,get,jy,jz,jh,jg,jB,jP,km,jx,jC,kL,jI,jw,bA,bO,bN,jT,jS,Nat.reduceBEq,Nat.reduceAdd]
  refine ⟨⟨rfl, rfl, hix⟩, ⟨rfl, rfl⟩, kh (rD r) (.int .i64 r.w) hrow rfl ?_⟩
  dsimp only [jm,jo,jc,jn,jU,jF,je,jt,jr,jb,ja,jd,jA,zb,qC,zm,zu,jf,ji,jj,jk,jl,jJ,jL,kq,rd,get,jy,jz,jh,jg,jB,jP,km,jx,kj,jH,kp,qB,kT,jI,jQ,jD,jX,kd,ki,jw,bA,bO,bN,kU,jR,ko,jT,jS,Nat.reduceBEq,Nat.reduceAdd]
  have hV' := hV
  simp only [Vr] at hV'
  refine ⟨by simp only [j5]; omega, by simp only [j5]; omega, ?_⟩
  refine kE (α := {p : Nat × Int // (i + 1 <= p.1 /\ p.1 <= l.length) /\ vP (r.x, p.2) ((l.drop p.1).map KR) = vP (KR r) ((l.drop (i + 1)).map KR) /\ -1048576 <= p.2 /\ p.2 <= 1048576})
   (fun p => ⟨[(0, [], .yld y), (1, [], .box 7 0), (3, [], .int .i64 p.1.1), (4, [], .box 9 0)], [e0, e1, e2, e3, .arr 45 4 ver (kJ l), e5, e6, .cells [.own 4 ver], .obj o, .cells [.int .i64 r.x, .int .i64 p.1.2]]⟩) (fun p => l.length - p.1.1) ?_
   ⟨(i + 1, r.x + r.w), ⟨Nat.le_refl _, hl⟩, rfl, by omega, by omega⟩ (by simp)
  rintro ⟨⟨j, to⟩, ⟨hj1, hj2⟩, hjo, ht1, ht2⟩ I' ih'
  dsimp only at hj1 hj2 hjo ht1 ht2 |-
  dsimp only [jm,jo,jc,jn,ja,jd,jA,jf,ku,ji,jj,jk,jl,ju,j6,kz,jL,rd,get,jy,jz,jh,jg,jB,jP,km,jx,jC,kL,jI,jw,bA,bO,bN,bE,kU,jR,ko,jT,jS,Nat.reduceBEq,Nat.reduceAdd]
  obtain ⟨q, hq⟩ : ∃ q, q = l[j]?.getD .o := ⟨_, rfl⟩
  have hqj : j < l.length -> l[j]? = some q := fun h => by rw [hq, List.getElem?_eq_getElem h]; rfl
  have hlt2 : ∀ {p : Prop}, (decide ((j : Int) < ((kJ l).length : Int)) = true -> p) ↔ (j < l.length -> p) := by rw [j8]; simp
  refine ⟨rfl, hlt2.2 fun h => ⟨rfl, rfl, by omega, by rw [j8]; omega⟩, hlt2.2 fun h => ⟨rfl, rfl⟩, kh (rD q) (.int .i64 q.x) (hlt2.2 fun h => qZ (by simpa using hqj h)) rfl ?_⟩
  dsimp only [jE,jm,jo,jc,jn,jU,kt,jK,ky,jF,je,j1,j0,j3,kC,jt,jr,jb,ja,jd,jA,jf,ku,j4,ji,jj,jk,jl,ju,j6,kg,jL,kq,rd,get,jy,jz,jh,jg,jB,jP,km,jx,jC,kL,jM,jN,jI,jw,bA,bO,bN,bE,kU,jR,kD,ko,qX,qH,j7,j9,jT,jS,Nat.reduceBEq,Nat.reduceAdd]
  refine ⟨fun hc => ?_, fun hc => ?_⟩
  ·-- a further one
   rw [j8] at hc
   simp only [Bool.and_eq_true, decide_eq_true_eq] at hc
   have hjl : j < l.length := by omega
   have hqV := hin q (List.mem_of_getElem? (hqj hjl))
   simp only [Vr] at hqV
   have hix2 : (0 : Int) <= j /\ (j : Int) < ((kJ l).length : Int) := by rw [j8]; omega
   have hrow2 : (kJ l)[(j : Int).toNat]? = some (rD q) := qZ (by simpa using hqj hjl)
   refine ⟨⟨rfl, rfl, hix2⟩, ⟨rfl, rfl⟩, kh (rD q) (.int .i64 q.x) hrow2 rfl ?_⟩
   dsimp only [jc,ja,jd,jA,jf,ku,ji,jj,jk,jl,ju,j6,jL,rd,get,jy,jz,jh,jg,jB,jP,km,jx,jC,kL,jI,jw,bA,bN,jT,jS,Nat.reduceBEq,Nat.reduceAdd]
   refine ⟨⟨rfl, rfl, hix2⟩, ⟨rfl, rfl⟩, kh (rD q) (.int .i64 q.w) hrow2 rfl ?_⟩
   dsimp only [jm,jo,jc,jF,je,j0,kC,jt,jr,jb,ja,jd,jA,jf,ji,jj,jk,jl,jJ,jL,rd,get,jy,jz,jh,jg,jB,jP,km,jx,kj,jH,jI,jQ,kd,ki,jw,bA,bN,kU,jR,ko,jT,jS,Nat.reduceBEq,Nat.reduceAdd]
   refine ⟨by simp only [j5]; omega, by simp only [j5]; omega, ?_⟩
   have hdj : l.drop j = q :: l.drop (j + 1) := by
    rw [List.drop_eq_getElem_cons hjl]
    congr 1
    have := hqj hjl
    rw [List.getElem?_eq_getElem hjl] at this
    exact Option.some.inj this
   refine kW (ih' ⟨(j + 1, max to (q.x + q.w)), ⟨by omega, hjl⟩, ?_, by dsimp only; omega, by dsimp only; omega⟩ (by dsimp only; omega)) ?_ ⟨rfl, rfl, rfl, rfl, rfl, rfl, rfl, rfl, rfl, rfl, trivial⟩ ?_ ?_
   ·rw [<- hjo, hdj, List.map_cons, ky6 (s := (r.x, to)) (t := KR q) (show (KR q).1 <= (r.x, to).2 from hc.2)]
    rfl
   ·exact ⟨rfl, rfl, by simp [get], rfl, trivial⟩
   ·have h10 : y < 10 := by omega
    simp [jx2, low, jD, zo, h10]
   ·rw [hSk] at hlow
    exact Zy (y6 hlow) (b := [.cells _]) rfl
  ·-- handed on
   rw [j8] at hc
   simp only [Bool.and_eq_false_iff, decide_eq_false_iff_not] at hc
   have hstop : vP (r.x, to) ((l.drop j).map KR) = (r.x, to) :: z7 ((l.drop j).map KR) := by
    refine kc6 fun t u htu => ?_
    by_cases hjl : j < l.length
    ·rw [List.drop_eq_getElem_cons hjl, List.map_cons] at htu
     have := hqj hjl
     rw [List.getElem?_eq_getElem hjl] at this
     rw [Option.some.inj this] at htu
     have h2 := (List.cons.inj htu).1
     rw [<- h2]
     have h1 : ¬ q.x <= to := by
      rcases hc with hc | hc
      ·omega
      ·exact hc
     simp only [KR]; omega
    ·rw [List.drop_eq_nil_of_le (by omega)] at htu; cases htu
   have hdi : l.drop i = r :: l.drop (i + 1) := by
    rw [List.drop_eq_getElem_cons hl]
    congr 1
    rw [List.getElem?_eq_getElem hl] at hr
    exact Option.some.inj hr
   have hdk : ((z7 (l.map KR)).map QN).drop k = QN (r.x, to) :: (z7 ((l.drop j).map KR)).map QN := by
    rw [hd, hdi, List.map_cons]
    show (vP (KR r) ((l.drop (i + 1)).map KR)).map QN = _
    rw [<- hjo, hstop, List.map_cons]
   have hkx : ((z7 (l.map KR)).map QN)[k]? = some (QN (r.x, to)) := by
    rw [<- List.head?_drop, hdk]; rfl
   have hk1 : ((z7 (l.map KR)).map QN).drop (k + 1) = (z7 ((l.drop j).map KR)).map QN := by
    rw [<- List.drop_drop, hdk]; rfl
   have hlow9 : vb 9 (.yld y :: QN (r.x, to)) = true := by simp [QN, vb, low, zo, hy]
   have hszk : (S k).length = 9 := by rw [hSk]; rfl
   rcases Nat.lt_or_ge k m with hkm | hkm
   ·have hszk1 : (S (k + 1)).length = 9 := by rw [<- kK]; exact (hS (k + 1) hkm).1
    have hp := (hgo k _ hkm hkx [154]).frame (by rw [hn0, hszk]) (by rw [hszk]; exact hlow) (by rw [hszk]; exact hlow9) (by rw [hszk, hszk1]) rfl [.cells [.int .i64 r.x, .int .i64 to]]
    rw [hSk] at hp
    refine kS _ _ hp ?_
    dsimp only [jE,jc,jG,jK,ky,jF,je,j0,kR,kC,jt,jr,jb,ja,jd,jA,jf,ji,jj,jk,jl,jL,rd,get,jy,jz,jh,jg,jB,jP,jx,jw,bA,bN,qX,qH,j7,j9,jT,jS,Nat.reduceBEq]
    refine ⟨nofun, fun _ => ?_⟩
    refine kW (ih ⟨(j, k + 1), hj2, hkm, hk1⟩ (by dsimp only; omega)) ⟨rfl, rfl, rfl, trivial⟩ (vV _ _) ?_ ?_ ?_
    ·dsimp only
     rw [(hS (k + 1) hkm).1]
     simp [jx2, low, zo, hy]
    ·dsimp only
     rw [(hS (k + 1) hkm).1]; exact (hS (k + 1) hkm).2.1
    ·dsimp only
     rw [(hS (k + 1) hkm).1]; rfl
   ·have hkm' : k = m := by omega
    subst hkm'
    have hp := (hst _ hkx [154]).frame (by rw [hn0, hszk]) (by rw [hszk]; exact hlow) (by rw [hszk]; exact hlow9) (by rw [hszk, <- kK]; exact hbs) rfl [.cells [.int .i64 r.x, .int .i64 to]]
    rw [hSk] at hp
    refine kS _ _ hp ?_
    dsimp only [jE,jc,jG,jK,ky,jF,je,j0,kR,kC,jt,jr,jb,ja,jd,jA,jf,ji,jj,jk,jl,jL,rd,get,jy,jz,jh,jg,jB,jP,jx,jw,bA,bN,qX,qH,j7,j9,jT,jS,Nat.reduceBEq]
    refine ⟨fun _ => ?_, nofun⟩
    have hlt' := (List.getElem?_eq_some_iff.1 hkx).1
    rw [QD, if_pos hlt']
    exact vV _ _
 ·-- all have come
  have hil : ¬ i < l.length := by rw [j8] at hge; simpa using hge
  rw [List.drop_eq_nil_of_le (by omega : l.length <= i)] at hd
  have : ((z7 (l.map KR)).map QN).length <= k := by
   have := congrArg List.length hd
   simp [z7] at this |-; omega
  rw [QD, if_neg (by omega), show m = k by omega, hSk]
  exact ⟨rfl, rfl, rfl, rfl, rfl, rfl, rfl, rfl, rfl, trivial⟩

def kq8 (a b : Rc) : Bool := decide (a.x = b.x) && decide (a.w = b.w) && decide (a.y + a.h = b.y)
theorem jZ3 {a b : Rc} (h : j5 .i64 (a.y + a.h)) : zA 130 [rD a, rD b] (.bool (kq8 a b)) := by
 refine ja8 (by rfl) ?_
 dsimp only [c_band_alike_1,Zq,rD,jm,jo,jc,jn,jG,jF,je,jt,jr,jb,ja,jd,jA,jf,ji,jj,jk,jl,ju,kg,jL,rd,get,jy,jz,jh,jg,jB,jP,km,jx,jC,kj,kL,jI,jD,jX,jw,env0,bA,bO,bN,bE,kU,jR,lend,ko,kw,kx,jZ,j7,kr,j9,jT,jS,o1,og,Nat.reduceBEq,Nat.reduceAdd]
 exact ⟨fun _ => h, rfl⟩
def jV5 : List Rc -> List Rc -> Bool
 | [], [] => true
 | a :: l, b :: r => kq8 a b && jV5 l r
 | _, _ => false
theorem kj9 : ∀ {a b : List Rc}, jV5 a b = true -> a.length = b.length
 | [], [], _ => rfl
 | a :: l, b :: r, h => by simp only [jV5, Bool.and_eq_true] at h; simp [kj9 h.2]
 | [], _ :: _, h => by simp [jV5] at h
 | _ :: _, [], h => by simp [jV5] at h
theorem jG2 {a b : List Rc} (ha : ∀ r ∈ a, j5 .i64 (r.y + r.h)) (hl : a.length <= 4611686018427387904) :
  zA 129 [.ls 4 (kJ a), .ls 4 (kJ b), .fn 130 []] (.bool (jV5 a b)) := by
 refine zi (by rfl) ?_
 dsimp only [c_slices_EqualFunc_api_Rect_api_Rect_api_Rect_api_Rect,qn,jE,jm,jo,jc,jn,jU,jG,jK,ky,jF,je,jO,jt,jr,jb,ja,jd,jA,jf,ji,jj,jk,jl,kz,jL,rd,get,jy,jz,jh,jg,jB,jP,jx,jI,jw,env0,bA,bN,kU,jR,lend,ko,kw,kx,jZ,j7,kr,j9,jT,jS,o1,o0,Nat.reduceBEq,Nat.reduceAdd]
 rw [j8, j8]
 refine ⟨fun h => ?_, fun h => ?_⟩
 ·have : jV5 a b = false := by
   rw [Bool.eq_false_iff]; intro h1
   have := kj9 h1
   simp at h; omega
  rw [this]
 have hlen : a.length = b.length := by simp at h; omega
 refine kE (α := {i : Nat // i <= a.length /\ jV5 a b = jV5 (a.drop i) (b.drop i)}) (fun i => ⟨[(1, [], .ls 4 (kJ b)), (2, [], .fn 130 []), (15, [], .ls 4 (kJ a)), (16, [], .int .i64 a.length), (17, [], .int .i64 i.1)], []⟩)
  (fun i => a.length - i.1) ?_ ⟨0, by simp⟩ rfl
 rintro ⟨i, hi, he⟩ I ih
 dsimp only [jE,jm,jo,jc,jn,jU,kt,jG,jK,ky,jF,je,j1,j3,kC,jt,jr,jb,ja,jd,jA,jf,ku,ji,jj,jk,jl,ju,j6,jL,rd,get,jy,jz,jh,jg,jB,jP,km,jx,jC,jI,jw,bA,bN,kU,jR,lend,ko,kw,kx,jZ,j7,kr,j9,jT,jS,Nat.reduceBEq]
 refine ⟨fun hlt => ?_, fun hge => ?_⟩
 ·have hl : i < a.length := by simpa using hlt
  obtain ⟨r, hr⟩ : ∃ r, a[i]? = some r := ⟨_, List.getElem?_eq_getElem hl⟩
  obtain ⟨q, hq⟩ : ∃ q, b[i]? = some q := ⟨_, List.getElem?_eq_getElem (by omega)⟩
  refine ⟨⟨rfl, by omega, by rw [j8]; omega⟩, kh (rD r) (rD r) (qZ (by simpa using hr)) rfl ?_⟩
  dsimp only [rD,jm,jo,jc,jn,jF,je,jt,jr,jb,ja,jd,jA,jf,ku,ji,jj,jk,jl,ju,jJ,j6,jL,rd,get,jy,jz,jh,jg,jB,jP,km,jx,jC,jH,kp,jI,jQ,jD,jX,kd,ki,jw,bA,bN,jT,jS,Nat.reduceBEq,Nat.reduceAdd]
  refine ⟨⟨rfl, by omega, by rw [j8]; omega⟩, kh (rD q) (rD q) (qZ (by simpa using hq)) rfl ?_⟩
  dsimp only [rD,jm,jo,jc,jn,jF,je,jt,jr,jb,ja,jd,jA,jf,jq,ji,jj,jk,jl,ju,jJ,jL,kq,rd,get,jy,jz,jh,jg,jB,jP,jx,jC,jM,jN,jH,kp,jI,jQ,jD,jX,kd,ki,jw,bA,bN,Je,Jd,jT,jS,Nat.reduceBEq,Nat.reduceAdd]
  refine jv (jZ3 (ha r (List.mem_of_getElem? hr))) ?_
  dsimp only [jE,jm,jo,jc,jn,jG,jK,ky,jF,je,jO,j0,kR,kC,jt,jr,jb,ja,jd,jA,jf,ji,jj,jk,jl,jL,rd,get,jy,jz,jh,jg,jB,jP,km,jx,jw,bA,bN,kU,jR,lend,ko,kw,kx,jZ,j7,kr,j9,jT,jS,Nat.reduceBEq]
  have hda : a.drop i = r :: a.drop (i + 1) := by
   rw [List.drop_eq_getElem_cons hl]; congr 1; rw [List.getElem?_eq_getElem hl] at hr; exact Option.some.inj hr
  have hdb : b.drop i = q :: b.drop (i + 1) := by
   rw [List.drop_eq_getElem_cons (by omega)]; congr 1; rw [List.getElem?_eq_getElem (by omega)] at hq; exact Option.some.inj hq
  rw [hda, hdb] at he
  simp only [jV5] at he
  refine ⟨fun h1 => ?_, fun h1 => ⟨by simp only [j5]; omega, ?_⟩⟩
  ·have h2 : kq8 r q = false := by simpa using h1
   rw [he, h2]; rfl
  ·have h2 : kq8 r q = true := by simpa using h1
   rw [h2, Bool.true_and] at he
   exact kW (ih ⟨i + 1, hl, he⟩ (by dsimp only; omega)) ⟨rfl, rfl, rfl, rfl, by simp [get], trivial⟩ trivial rfl rfl
 ·have hl : ¬ i < a.length := by simpa using hge
  rw [List.drop_eq_nil_of_le (by omega), List.drop_eq_nil_of_le (by omega)] at he
  rw [he]; rfl
theorem kt4 {a b : List Rc} (ha : ∀ r ∈ a, j5 .i64 (r.y + r.h)) (hl : a.length <= 4611686018427387904) : zA 68 [.ls 4 (kJ a), .ls 4 (kJ b)] (.bool (decide (0 < (a.length : Int)) && jV5 a b)) := by
 refine jn6 (by rfl) ?_
 dsimp only [c_band_alike,Yv,jm,jo,jc,jn,jF,je,jt,jr,jb,ja,jd,jA,jf,jq,ji,jj,jk,jl,kz,jL,kq,rd,get,jy,jz,jh,jg,jB,jP,jx,jI,jw,env0,bA,bO,bN,bE,kU,jR,ko,jT,jS,o1,og,Nat.reduceBEq,Nat.reduceAdd]
 refine jv (fun _ => jG2 ha hl) ?_
 dsimp only [jc,jG,jF,je,jt,jr,jb,ja,jd,jA,jf,ji,jj,jk,jl,kg,jL,rd,get,jy,jz,jh,jg,jB,jP,jx,jw,bA,bO,bN,bE,lend,kw,kx,jZ,j7,kr,j9,jT,jS,Nat.reduceBEq]
 rw [j8]
theorem KG : Tryz.prog.underlying 40 = some (.slice 45) := by kernel_rfl
theorem Y9 : zl Tryz.prog 45 = some 4 := by kernel_rfl
theorem kG0 {l : List D} : zA 69 [.ls 4 l] (.ls 4 l) := by
 refine xi (by rfl) ?_
 dsimp only [c_slices_Clip_api_Rect_api_Rect,zQ,jm,jo,jc,jn,jF,je,jt,jr,jb,ja,jd,jA,jf,j4,ji,jj,jk,jl,kz,jL,kq,rd,get,jy,jz,jh,jg,jB,jP,jx,jD,jX,jw,env0,bA,bN,kD,jT,jS,o1,Nat.reduceBEq,Nat.reduceAdd]
 refine kH _ (kQ6 KG Y9 rfl) ?_
 dsimp only [jc,jG,jF,je,jt,jr,jb,ja,jd,jA,jf,ji,jj,jk,jl,jL,rd,get,jy,jz,jh,jg,jB,jP,jx,jw,bA,bN,lend,kw,kx,jZ,j7,kr,j9,jT,jS,Nat.reduceBEq]
theorem kt6 {l : List D} (hl : l.length <= 4294967296) : zA 138 [.ls 4 l] (.ls 4 l) := by
 refine vW (by rfl) ?_
 dsimp only [c_slices_Clone_api_Rect_api_Rect,qx,jm,jo,jc,jn,jF,je,jt,jr,jb,ja,jd,jA,jf,yl,ji,jj,jk,jl,jL,kq,rd,get,jy,jz,jh,jg,jB,jP,jx,jD,jX,jw,env0,bA,bN,kD,jT,jS,o1,Nat.reduceBEq,Nat.reduceAdd]
 refine Jp _ (jI4 KG false) ?_
 rintro d bx' ⟨rfl, b, rfl, hb⟩
 dsimp only [jE,jm,jo,jc,jn,jG,jK,ky,jF,je,jO,jt,jr,jb,ja,jd,jA,jf,ji,jj,jk,jl,qg,jL,kq,rd,get,jy,jz,jh,jg,jB,jP,km,jx,jI,jQ,jD,jX,jw,bA,bN,lend,jV,ql,kw,kx,jZ,j7,kr,j9,zh,jT,jS,Nat.reduceBEq,Nat.reduceAdd]
 refine ⟨fun h => ?_, fun h => ?_⟩
 ·have : l = [] := hb (by simpa using h)
  subst this
  exact ⟨rfl, rfl⟩
 ·refine ⟨⟨rfl, rfl, rfl, rfl, ?_, ?_⟩, rfl, rfl⟩ <;> simp only [List.length_nil] <;> omega
/-! ### Rectangles that end are deleted -/
def qN (y : Int) (r : Rc) : Bool := decide (r.y + r.h <= y)
def jU6 (y : Int) : List Rc -> Int -> Int
 | [], _ => -1
 | r :: l, i => if qN y r then i else jU6 y l (i + 1)
theorem jG6 {l : List Rc} {ver : Nat} {y : Int} (hin : ∀ r ∈ l, Vr r) (hl : l.length <= 4611686018427387904) :
  vT 127 [.own 0 ver, .fn 65 [.box 1 0]] [.arr 45 4 ver (kJ l), .cells [.int .i64 y]] (.int .i64 (jU6 y l 0)) [.arr 45 4 ver (kJ l), .cells [.int .i64 y]] := by
 refine vw (by rfl) ?_
 dsimp only [c_slices_IndexFunc_api_Rect_api_Rect,zt,jm,jo,jc,jn,jU,jF,je,jt,jr,jb,ja,jd,jA,jf,ji,jj,jk,jl,kz,jL,rd,get,jy,jz,jh,jg,jB,jP,km,jx,jI,jD,jw,env0,bA,bN,jT,jS,o1,Nat.reduceBEq,Nat.reduceAdd]
 refine ⟨rfl, ?_⟩
 refine kE (α := {i : Nat // i <= l.length /\ jU6 y l 0 = jU6 y (l.drop i) i}) (fun i => ⟨[(0, [], .own 0 ver), (1, [], .fn 65 [.box 1 0]), (7, [], .int .i64 (kJ l).length), (8, [], .int .i64 i.1)], [.arr 45 4 ver (kJ l), .cells [.int .i64 y]]⟩)
  (fun i => l.length - i.1) ?_ ⟨0, by simp⟩ rfl
 rintro ⟨i, hi, he⟩ I ih
 dsimp only [jE,jm,jo,jc,jn,jU,kt,jG,jK,ky,jF,je,j1,j3,kC,jt,jr,jb,ja,jd,jA,jf,ku,ji,jj,jk,jl,ju,j6,jL,rd,get,jy,jz,jh,jg,jB,jP,km,jx,jC,jI,jw,bA,bN,kU,jR,ko,qX,qH,j7,kr,j9,jT,jS,Nat.reduceBEq]
 rw [j8]
 refine ⟨fun hlt => ?_, fun hge => ?_⟩
 ·have hl : i < l.length := by simpa using hlt
  obtain ⟨r, hr⟩ : ∃ r, l[i]? = some r := ⟨_, List.getElem?_eq_getElem hl⟩
  have hV := hin r (List.mem_of_getElem? hr)
  simp only [Vr] at hV
  refine ⟨⟨rfl, rfl, by omega, by omega⟩, ⟨rfl, rfl⟩, kh (rD r) (rD r) (qZ (by simpa using hr)) rfl ?_⟩
  dsimp only [rD,jc,ja,jd,jA,jq,ji,jj,jk,jl,jL,kq,rd,get,jy,jz,jh,jg,jB,jP,jx,jw,bA,bN,Je,Jd,jT,jS,Nat.reduceBEq]
  refine Vd [1] (Yj (r := r) (y := y) (by simp only [j5]; omega)) rfl rfl rfl ?_
  dsimp only [jE,jm,jo,jc,jn,jG,jK,ky,jF,je,jO,j0,kR,kC,jt,jr,jb,ja,jd,jA,jf,ji,jj,jk,jl,jL,rd,get,jy,jz,jh,jg,jB,jP,km,jx,jD,jw,bA,bN,kU,jR,ko,qX,qH,j7,kr,j9,kV,jT,jS,Nat.reduceBEq,Nat.reduceAdd]
  have hda : l.drop i = r :: l.drop (i + 1) := by
   rw [List.drop_eq_getElem_cons hl]; congr 1; rw [List.getElem?_eq_getElem hl] at hr; exact Option.some.inj hr
  rw [hda] at he
  simp only [jU6] at he
  refine ⟨fun h1 => ?_, fun h1 => ⟨by simp only [j5]; omega, ?_⟩⟩
  ·rw [show qN y r = true from h1] at he
   rw [he]
   exact Rt.cut (Nat.le_refl _) ⟨rfl, rfl, trivial⟩ rfl rfl
  ·rw [show qN y r = false from h1] at he
   exact kW (ih ⟨i + 1, hl, by simpa using he⟩ (by dsimp only; omega)) ⟨rfl, rfl, by rw [j8]; rfl, by simp [get], trivial⟩ ⟨rfl, rfl, trivial⟩ rfl rfl
 ·have hl : ¬ i < l.length := by simpa using hge
  rw [List.drop_eq_nil_of_le (by omega)] at he
  rw [he]
  exact Rt.cut (Nat.le_refl _) ⟨rfl, rfl, trivial⟩ rfl rfl

theorem kU8 : ve Tryz.prog 45 = some (some 4) := by kernel_rfl
theorem kN7 : xB Tryz.prog 45 = some [.int .i64 0, .int .i64 0, .int .i64 0, .int .i64 0] := by kernel_rfl
theorem jD1 {y : Int} : ∀ {l : List Rc} {i : Int}, (jU6 y l i = -1 /\ (∀ r ∈ l, qN y r = false)) \/ ∃ k : Nat, jU6 y l i = i + k /\ k < l.length /\ (∀ r ∈ l.take k, qN y r = false) /\ (∃ r, l[k]? = some r /\ qN y r = true)
 | [], i => .inl ⟨rfl, nofun⟩
 | r :: l, i => by
   simp only [jU6]
   cases h : qN y r with
   | true => exact .inr ⟨0, by simp, by simp, by simp, r, rfl, h⟩
   | false =>
     simp only [Bool.false_eq_true, if_false]
     rcases jD1 (y := y) (l := l) (i := i + 1) with ⟨h1, h2⟩ | ⟨k, h1, h2, h3, h4⟩
     ·exact .inl ⟨h1, fun q hq => by rcases List.mem_cons.1 hq with rfl | hq; exact h; exact h2 q hq⟩
     ·refine .inr ⟨k + 1, by rw [h1]; omega, by simpa using h2, fun q hq => ?_, by simpa using h4⟩
      rw [List.take_succ_cons] at hq
      rcases List.mem_cons.1 hq with rfl | hq
      ·exact h
      ·exact h3 q hq
def xA (y : Int) (l : List Rc) : List Rc := l.filter fun r => !qN y r
theorem ko5 {y : Int} {l : List Rc} (h : ∀ r ∈ l, qN y r = false) : xA y l = l := List.filter_eq_self.2 fun r hr => by rw [h r hr]; rfl
theorem kG8 (l : List Rc) (i : Nat) (r : Rc) : (kJ l).set i (rD r) = kJ (l.set i r) := by simp [kJ, List.map_set]
theorem Zh (l : List Rc) (i : Nat) : (kJ l).take i = kJ (l.take i) := by simp [kJ]
def kA6 (y : Int) (l : List Rc) (ver : Nat) : Nat := if l.any (qN y) then ver + 1 else ver
theorem jw8 {l : List Rc} {ver : Nat} {y : Int} (hin : ∀ r ∈ l, Vr r) (hl : l.length <= 4611686018427387904) :
  vT 64 [.own 0 ver, .fn 65 [.box 1 0]] [.arr 45 4 ver (kJ l), .cells [.int .i64 y]] (.own 0 (kA6 y l ver)) [.arr 45 4 (kA6 y l ver) (kJ (xA y l)), .cells [.int .i64 y]] := by
 refine vt (by rfl) ?_
 dsimp only [c_slices_DeleteFunc_api_Rect_api_Rect,zn,jm,jo,jc,jn,jF,je,jt,jr,jb,ja,jd,jA,jf,jq,ji,jj,jk,jl,jL,kq,rd,get,jy,jz,jh,jg,jB,jP,jx,jD,jX,jw,env0,bA,bN,jT,jS,o1,o0,Nat.reduceBEq,Nat.reduceAdd]
 refine Vd [0, 1] (jG6 (y := y) hin hl) rfl rfl rfl ?_
 dsimp only [jE,jm,jo,jc,jn,jU,jG,jK,ky,jF,je,jO,jt,jr,jb,ja,jd,jA,jf,ji,jj,jk,jl,jL,rd,get,jy,jz,jh,jg,jB,jP,km,jx,jD,jw,bA,bN,kU,jR,ko,qX,qH,j7,kr,j9,kV,jT,jS,Nat.reduceBEq,Nat.reduceAdd]
 rcases jD1 (y := y) (l := l) (i := 0) with ⟨h1, h2⟩ | ⟨k, h1, h2, h3, r0, h4, h5⟩
 ·have hany : l.any (qN y) = false := by rw [List.any_eq_false]; intro r hr; rw [h2 r hr]; simp
  rw [h1, ko5 h2, kA6, hany]
  refine ⟨fun _ => ?_, fun h => by simp at h⟩
  exact Rt.cut (Nat.le_refl _) ⟨rfl, rfl, trivial⟩ rfl rfl
 have hany : l.any (qN y) = true := List.any_eq_true.2 ⟨r0, List.mem_of_getElem? h4, h5⟩
 rw [h1, kA6, hany]
 simp only [Int.zero_add, if_true]
 refine ⟨fun h => by simp only [decide_eq_true_eq] at h; omega, fun _ => ⟨by simp only [j5]; omega, ?_⟩⟩
 refine kE (α := {p : (Nat × Nat) × List Rc // (p.1.1 < p.1.2 /\ p.1.2 <= l.length) /\ p.2.length = l.length /\ p.2.take p.1.1 = xA y (l.take p.1.2) /\ p.2.drop p.1.2 = l.drop p.1.2 /\ ∀ r ∈ p.2, Vr r})
  (fun p => ⟨[(0, [], .own 0 ver), (1, [], .fn 65 [.box 1 0]), (5, [], .int .i64 p.1.1.1), (6, [], .int .i64 p.1.1.2)], [.arr 45 4 ver (kJ p.1.2), .cells [.int .i64 y], .arr 45 4 0 []]⟩)
  (fun p => l.length - p.1.1.2) ?_ ⟨((k, k + 1), l), ⟨Nat.lt_succ_self k, h2⟩, rfl, ?_, rfl, hin⟩ (by simp)
 ·rintro ⟨⟨⟨i, j⟩, cur⟩, ⟨hij, hj⟩, hcl, htk, hdr, hcin⟩ I ih
  dsimp only at hij hj hcl htk hdr hcin |-
  dsimp only [jE,jm,jo,jc,jn,jU,kt,jK,ky,jF,je,j1,j3,kC,jt,jr,jb,ja,jd,jA,jf,ku,j4,ji,jj,jk,jl,ju,j6,kz,jL,kq,rd,get,jy,jz,jh,jg,jB,jP,km,jx,jC,jI,jw,bA,bN,kU,jR,kD,ko,qX,jT,jS,Nat.reduceBEq]
  rw [j8]
  refine ⟨rfl, fun hlt => ?_, fun hge => ?_⟩
  ·have hjl : j < cur.length := by simpa using hlt
   obtain ⟨r, hr⟩ : ∃ r, cur[j]? = some r := ⟨_, List.getElem?_eq_getElem hjl⟩
   have hrl : l[j]? = some r := by rw [<- List.head?_drop, <- hdr, List.head?_drop]; exact hr
   have hV := hcin r (List.mem_of_getElem? hr)
   have hV' := hV
   simp only [Vr] at hV'
   refine ⟨⟨rfl, rfl, by omega, by omega⟩, ⟨rfl, rfl⟩, kh (rD r) (rD r) (qZ (by simpa using hr)) rfl ?_⟩
   dsimp only [rD,jm,jo,jc,jn,jF,je,jt,jr,jb,ja,jd,jA,jf,jq,ji,jj,jk,jl,ju,jJ,jL,kq,rd,get,jy,jz,jh,jg,jB,jP,jx,jC,jM,jN,jH,kp,jI,jQ,jD,jX,kd,ki,jw,bA,bN,Je,Jd,jT,jS,Nat.reduceBEq,Nat.reduceAdd]
   refine Vd [1] (Yj (r := r) (y := y) (by simp only [j5]; omega)) rfl rfl rfl ?_
   dsimp only [jE,jm,jo,jc,jn,jK,ky,jF,je,j0,kC,jt,jr,jb,ja,jd,jA,jf,vB,ji,jj,jk,jl,ju,jJ,j6,jL,rd,get,jy,jz,jh,jg,jB,jP,km,jx,jC,jM,jN,jH,jI,jQ,jD,jw,bA,bN,kU,jR,closed,jV,ko,kV,jT,jS,Nat.reduceBEq,Nat.reduceAdd]
   rw [j8]
   have htj : l.take (j + 1) = l.take j ++ [r] := by
    rw [List.take_add_one, hrl]; rfl
   have hkj : xA y (l.take (j + 1)) = if qN y r then xA y (l.take j) else xA y (l.take j) ++ [r] := by
    rw [htj]; unfold xA; rw [List.filter_append]
    cases h : qN y r <;> simp [h]
   have hd1 : cur.drop (j + 1) = l.drop (j + 1) := by rw [<- List.drop_drop, hdr, List.drop_drop]
   refine ⟨fun hb => ?_, fun hb => ⟨by simp only [j5]; omega, ?_⟩⟩
   ·have hp : qN y r = false := by simpa [qN] using hb
    rw [hp] at hkj
    simp only [Bool.false_eq_true, if_false] at hkj
    obtain ⟨r1, hr1⟩ : ∃ r1, cur[i]? = some r1 := ⟨_, List.getElem?_eq_getElem (by omega)⟩
    refine ⟨⟨rfl, rfl, by omega, by omega⟩, ⟨rfl, rfl⟩, qR (hs := []) (rD r1) (rD r) (qZ (by simpa using hr1)) rfl ?_⟩
    dsimp only [jm,jo,jc,jF,je,j0,kC,jt,jr,jb,ja,jd,jA,jf,ji,jj,jk,jl,jL,rd,get,jy,jz,jh,jg,jB,jP,km,jx,jw,bA,bN,kU,jR,ko,jT,jS,Nat.reduceBEq]
    refine ⟨by simp only [j5]; omega, by simp only [j5]; omega, ?_⟩
    rw [show (i : Int).toNat = i from by simp, kG8]
    refine kW (ih ⟨((i + 1, j + 1), cur.set i r), ⟨by dsimp only; omega, by dsimp only; omega⟩, by simpa using hcl, ?_, ?_, fun q hq => ?_⟩ (by dsimp only; omega)) ⟨rfl, rfl, by simp [get], by simp [get], trivial⟩ ⟨rfl, rfl, rfl, trivial⟩ rfl rfl
    ·dsimp only
     rw [hkj, <- htk, List.take_add_one, List.getElem?_set_self (by omega), List.take_set_of_le (Nat.le_refl _)]; rfl
    ·dsimp only
     rw [List.drop_set_of_lt (by omega)]; exact hd1
    ·rcases List.mem_or_eq_of_mem_set hq with h | rfl
     ·exact hcin q h
     ·exact hV
   ·have hp : qN y r = true := by simpa [qN] using hb
    rw [hp] at hkj
    simp only [if_true] at hkj
    exact kW (ih ⟨((i, j + 1), cur), ⟨by dsimp only; omega, by dsimp only; omega⟩, hcl, by dsimp only; rw [hkj]; exact htk, hd1, hcin⟩ (by dsimp only; omega)) ⟨rfl, rfl, rfl, by simp [get], trivial⟩ ⟨rfl, rfl, rfl, trivial⟩ rfl rfl
  ·have hjl : j = l.length := by simp at hge; omega
   subst hjl
   refine kH _ (kh5 KG Y9 (ka := .i64) (a := (i : Int)) rfl (by omega) (by rw [j8]; omega)) ?_
   dsimp only [jc,ja,jd,jA,j4,ji,jj,jk,jl,jL,kq,rd,get,jy,jz,jh,jg,jB,jP,jx,jw,bA,bN,kD,jT,jS,Nat.reduceBEq]
   refine kS _ _ (kQ5 KG kU8 rfl kN7 rfl rfl (by omega) rfl (by rw [j8]; omega)) ?_
   dsimp only [jm,jo,jc,jn,jF,je,jt,jr,jb,ja,jd,jA,jf,j4,ji,jj,jk,jl,jL,kq,rd,get,jy,jz,jh,jg,jB,jP,jx,jQ,jw,bA,bN,kD,jT,jS,Nat.reduceBEq]
   refine kS _ _ (kv5 KG Y9 (kb := .i64) (b := (i : Int)) rfl (by omega) (by simp [j8]; omega)) ?_
   dsimp only [jc,jG,jF,je,jt,jr,jb,ja,jd,jA,jf,ji,jj,jk,jl,jL,rd,get,jy,jz,jh,jg,jB,jP,jx,jQ,jw,bA,bN,qX,qH,j7,kr,j9,jT,jS,Nat.reduceBEq]
   have e1 : ((kJ cur).take (i : Int).toNat ++ List.replicate ((kJ cur).length - (i : Int).toNat) (D.agg [.int .i64 0, .int .i64 0, .int .i64 0, .int .i64 0])).take (i : Int).toNat = kJ (xA y l) := by
    rw [show (i : Int).toNat = i from by simp, List.take_append_of_le_length (by simp [j8]; omega), List.take_take, Nat.min_self, Zh, htk]
    simp
   rw [e1]
   exact Rt.cut (Nat.le_refl _) ⟨rfl, rfl, trivial⟩ rfl rfl
 ·dsimp only
  rw [List.take_add_one, h4]
  unfold xA
  rw [List.filter_append, List.filter_eq_self.2 (fun r hr => by rw [h3 r hr]; rfl)]
  simp [h5]
end Go.AM
