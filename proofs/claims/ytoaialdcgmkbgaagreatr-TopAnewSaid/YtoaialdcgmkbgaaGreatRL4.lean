import Derived.Test.YtoaialdcgmkbgaaGreatRK7
import Derived.Test.YtoaialdcgmkbgaaGreatRQ3
import Derived.Test.YtoaialdcgmkbgaaGreatRZ6

set_option linter.all false
namespace Go.AM
open Go Go.Proofs
def JR (X : Nat -> Int) (l : List Nat) : Int := (l.map fun j => if j = 0 then 0 else X j).sum
theorem ks5 {X : Nat -> Int} {a b : List Nat} : JR X (a ++ b) = JR X a + JR X b := by simp [JR]
theorem jq8 {par : Nat -> Nat} {X : Nat -> Int} : ∀ {f k : Nat}, jj9 par X f k = JR X (Zt par f k)
 | 0, _ => rfl
 | f + 1, k => by
   simp only [jj9, Zt]
   by_cases h : k = 0
   ·simp [h, JR]
   ·simp only [h, if_false]
    rw [jq8 (f := f)]
    simp [JR, h]
theorem jz0 {X : Nat -> Int} {l : List Nat} {i : Nat} (h : i < l.length) : JR X (l.take (i + 1)) = JR X (l.take i) + if l[i] = 0 then 0 else X l[i] := by
 rw [List.take_succ_eq_append_getElem h, ks5]; simp [JR]
theorem jF2 {X : Nat -> Int} {B : Int} (hB : 0 <= B) (hX : ∀ k, 1 <= k -> -B <= X k /\ X k <= B) : ∀ {l : List Nat}, -(B * l.length) <= JR X l /\ JR X l <= B * l.length
 | [] => by simp [JR]
 | j :: l => by
   have h := jF2 hB hX (l := l)
   have e : JR X (j :: l) = (if j = 0 then 0 else X j) + JR X l := by simp [JR]
   have e2 : B * ((j :: l).length : Int) = B * l.length + B := by rw [List.length_cons, Int.natCast_add, Int.mul_add]; simp
   rw [e, e2]
   split
   ·omega
   ·have := hX j (by omega); omega
theorem jS3 {par : Nat -> Nat} (hp : PW par) : ∀ {f k j : Nat}, j ∈ Zt par f k -> j <= k
 | 0, _, _, h => by simp [Zt] at h
 | f + 1, k, j, h => by
   simp only [Zt, List.mem_cons] at h
   rcases h with rfl | h
   ·exact Nat.le_refl _
   ·split at h
    ·cases h
    ·exact Nat.le_trans (jS3 hp h) (hp.le k)
structure Ws where
 par : Nat -> Nat
 n : Nat
 B : Nat -> Bx
def Ws.tr (S : Ws) : TT := jk0 S.par S.n
noncomputable def Ws.kv (S : Ws) : KV := QQ (fun k => Jx (S.B k)) S.n
structure Ws.Ok (S : Ws) : Prop where
 pw : PW S.par
 few : S.n <= 40
 size : ∀ k, (1 <= (S.B k).w /\ (S.B k).w <= 16) /\ 1 <= (S.B k).h /\ (S.B k).h <= 16
 x : ∀ k, 1 <= k -> -200 <= (S.B k).x /\ (S.B k).x <= 200
 y : ∀ k, 1 <= k -> -200 <= (S.B k).y /\ (S.B k).y <= 200
 bdd : ∀ k, XT (S.B k).p /\ (reg (S.B k).p).length <= 4096
def Ws.ox (S : Ws) (k : Nat) : Int := kM2 S.par (fun j => (S.B j).x) k
def Ws.oy (S : Ws) (k : Nat) : Int := kM2 S.par (fun j => (S.B j).y) k
theorem Ws.Ok.tok {S : Ws} (h : S.Ok) : S.tr.Ok := ky1 (by have := h.few; omega)
theorem Ws.kv_nd {S : Ws} : zC S.kv := JK
theorem Ws.kv_lk {S : Ws} {k : Nat} (h : k <= S.n) : lk S.kv (kQ k) = some (Jx (S.B k)) := by unfold Ws.kv; rw [K5, if_pos h]
noncomputable def stOr (S : Ws) (l : List Nat) (i : Nat) : St := ⟨[(3, [], .box 0 0), (6, [], .box 2 0), (8, [], .box 3 0), (20, [], .ls 1 (iL (l.map kQ))), (21, [], .int .i64 l.length), (22, [], .int .i64 i)],
 [.cells [.mp (qI .u32 S.kv) (kZ S.kv)], .cells [.mp (qI .u32 (vI S.tr.kids)) (kZ (vI S.tr.kids)), .mp (qI .u32 (zH S.tr.up)) (kZ (zH S.tr.up))], .cells [.int .i64 0, .int .i64 0], .cells [.int .i64 (JR (fun j => (S.B j).x) (l.take i)), .int .i64 (JR (fun j => (S.B j).y) (l.take i))]]⟩
theorem jj5 {S : Ws} (hS : S.Ok) {k : Nat} (hk : k <= S.n) : zA 99 [.agg [qO .u32 S.kv], tD S.tr, .int .u32 (kQ k)] (.tup [.agg [.int .i64 (S.ox k), .int .i64 (S.oy k)], .bool true]) := by
 have hn := hS.few
 refine KJ (by rfl) ?_
 dsimp only [c_place_Place_Origin,yb,jm,jo,jc,jn,ja,jd,jA,jf,ji,jj,jk,jl,jL,rd,get,jy,jz,jh,jg,jB,jP,jx,kj,jD,jX,jw,env0,bA,bN,jT,jS,o1,o0,Nat.reduceBEq,Nat.reduceAdd]
 rw [show tD S.tr = .agg [qO .u32 (vI S.tr.kids), qO .u32 (zH S.tr.up)] from rfl]
 dsimp only [qO,jm,jo,jc,jn,jF,je,jt,jr,jb,ja,jd,jA,jf,jq,ji,jj,jk,jl,ju,jL,kq,rd,get,jy,jz,jh,jg,jB,jP,jx,jC,jM,jN,jI,jD,jX,jw,bA,bN,jT,jS,Nat.reduceBEq,Nat.reduceAdd]
 refine jv (x5 hS.tok (kQ k)) ?_
 rw [show jc8 S.tr (kQ k) = true by rw [Ws.tr, jl7]; simp [hk]]
 dsimp only [jE,jm,jo,jc,jn,jG,jK,ky,jF,je,jO,jt,jr,jb,ja,jd,jA,jf,jq,ji,jj,jk,jl,ju,jJ,jL,kq,rd,get,jy,jz,jh,jg,jB,jP,jx,jC,jM,jN,jH,kp,qB,kT,jI,jQ,jD,jX,kd,ki,jw,bA,bN,kA,lend,kw,kx,jZ,j7,kr,j9,zh,jT,jS,Nat.reduceBEq,Nat.reduceAdd]
 refine ⟨nofun, fun _ => ?_⟩
 obtain ⟨l, hl⟩ : ∃ l, Zt S.par (k + 1) k = l := ⟨_, rfl⟩
 have hpth := jT6 hS.pw (n := S.n) (f := k + 1) (k := k) (by omega) hk
 have hll := jB2 (par := S.par) (f := k + 1) (k := k)
 have hle : ∀ j ∈ l, j <= S.n := fun j hj => Nat.le_trans (jS3 hS.pw (hl ▸ hj)) hk
 have hx : S.ox k = JR (fun j => (S.B j).x) l := by rw [<- hl]; exact jq8
 have hy : S.oy k = JR (fun j => (S.B j).y) l := by rw [<- hl]; exact jq8
 rw [hl] at hpth hll
 refine jv (jF7 hS.tok (by rw [Ws.tr, jl7]; simp [hk]) hpth (by rw [List.length_map]; omega)) ?_
 dsimp only [jc,jU,jF,je,jt,jr,jb,ja,jd,jA,jf,ji,jj,jk,jl,kz,jL,rd,get,jy,jz,jh,jg,jB,jP,jx,jw,bA,bN,jT,jS,Nat.reduceBEq]
 rw [zO, List.length_map]
 refine kE (α := {i : Nat // i <= l.length}) (fun i => stOr S l i.1) (fun i => l.length - i.1) ?_ ⟨0, by simp⟩ rfl
 rintro ⟨i, hi⟩ I ih
 dsimp only [stOr,jE,jm,jo,jc,jn,jU,kt,jG,jK,ky,jF,je,j1,j3,kC,jt,jr,jb,ja,jd,jA,jf,ku,ji,jj,jk,jl,ju,jJ,j6,jL,rd,get,jy,jz,jh,jg,jB,jP,km,jx,jC,jM,jN,jH,kp,jI,jQ,kd,ki,jw,bA,bN,kU,jR,kA,lend,ko,kw,kx,jZ,j7,kr,j9,zh,jT,jS,Nat.reduceBEq,Nat.reduceAdd]
 refine ⟨fun hj => ?_, fun hj => ?_⟩
 ·have hj : i < l.length := by simp at hj; omega
  have hrow : (iL (l.map kQ))[((i : Nat) : Int).toNat]? = some (.int .u32 (kQ l[i])) := by
   rw [Int.toNat_natCast]
   have := js2 (l := l.map kQ) (i := i) (by rw [List.length_map]; exact hj)
   rw [this]; simp
  have hjn := hle _ (List.getElem_mem hj)
  refine ⟨⟨rfl, by omega, by rw [zO, List.length_map]; omega⟩, kh _ _ hrow rfl ?_⟩
  dsimp only [jm,jo,jc,jn,jF,je,jt,jr,jb,ja,jd,jA,jf,j4,ji,jj,jk,jl,ju,jL,kq,rd,get,jy,jz,jh,jg,jB,jP,jx,jC,kL,jI,jw,bA,bN,kD,jT,jS,Nat.reduceBEq,Nat.reduceAdd]
  refine kH _ (jI6 S.kv_nd (S.kv_lk hjn)) ?_
  dsimp only [Jx,jE,jm,jo,jc,jn,jG,jK,ky,jF,je,jO,j0,kR,kC,jt,jr,jb,ja,jd,jA,zb,qC,zm,zu,jf,ji,jj,jk,jl,ju,jJ,jL,kq,rd,get,jy,jz,jh,jg,jB,jP,km,jx,jC,kj,kL,jM,jN,jH,kp,qB,kT,jI,jQ,jD,jX,kd,ki,jw,bA,bO,bN,kU,jR,kA,lend,ko,kw,kx,jZ,j7,kr,j9,zh,jT,jS,Nat.reduceBEq,Nat.reduceAdd]
  refine ⟨nofun, fun _ => ?_⟩
  have bx := jF2 (X := fun j => (S.B j).x) (B := 200) (by omega) hS.x (l := l.take i)
  have by_ := jF2 (X := fun j => (S.B j).y) (B := 200) (by omega) hS.y (l := l.take i)
  have htl : (l.take i).length <= 41 := by rw [List.length_take]; omega
  have ex := jz0 (X := fun j => (S.B j).x) hj
  have ey := jz0 (X := fun j => (S.B j).y) hj
  by_cases h0 : l[i] = 0
  ·rw [h0, if_pos rfl, Int.add_zero] at ex ey
   refine ⟨fun h => absurd h (by rw [h0]; simp [kQ]), fun _ => ?_⟩
   rw [<- ex, <- ey]
   refine ⟨by simp only [j5]; omega, ?_⟩
   exact kW (ih ⟨i + 1, by omega⟩ (by dsimp only; omega)) ⟨rfl, rfl, rfl, rfl, rfl, rfl, trivial⟩ ⟨rfl, rfl, rfl, rfl, trivial⟩ rfl rfl
  ·rw [if_neg h0] at ex ey
   have h1 := hS.x _ (Nat.one_le_iff_ne_zero.2 h0)
   have h2 := hS.y _ (Nat.one_le_iff_ne_zero.2 h0)
   refine ⟨fun _ => ?_, fun h => absurd h (by simp [YH, h0])⟩
   refine ⟨by simp only [j5]; omega, by simp only [j5]; omega, ?_⟩
   rw [<- ex, <- ey]
   refine ⟨by simp only [j5]; omega, ?_⟩
   exact kW (ih ⟨i + 1, by omega⟩ (by dsimp only; omega)) ⟨rfl, rfl, rfl, rfl, rfl, rfl, trivial⟩ ⟨rfl, rfl, rfl, rfl, trivial⟩ rfl rfl
 ·have hj : i = l.length := by simp at hj; omega
  subst hj
  rw [List.take_length, <- hx, <- hy]

theorem jF8 {t : TT} (h : t.Ok) (id : Int) : zA 100 [tD t, .int .u32 id] (.ls 1 (iL (kP t id))) := by
 refine V2 (by rfl) ?_
 dsimp only [c_tree_Tree_Kids,J5,jm,jo,jc,jn,ja,jd,jA,ji,jj,jk,jl,jL,rd,get,jy,jz,jh,jg,jB,kj,jD,jX,env0,bA,bN,jT,jS,o1,Nat.reduceBEq,Nat.reduceAdd]
 rw [show tD t = .agg [qO .u32 (vI t.kids), qO .u32 (zH t.up)] from rfl]
 dsimp only [qO,jm,jo,jc,jn,jF,je,jt,jr,jb,ja,jd,jA,jf,j4,ji,jj,jk,jl,ju,jL,kq,rd,get,jy,jz,jh,jg,jB,jP,jx,jC,kL,jI,jD,jX,jw,bA,bN,kD,jT,jS,Nat.reduceBEq,Nat.reduceAdd]
 refine kH _ (kh7 h.kn id) ?_
 rw [show (lk t.kids id).getD [] = kP t id from rfl]
 dsimp only [jc,ja,jd,jA,jq,ji,jj,jk,jl,jL,kq,rd,get,jy,jz,jh,jg,jB,jP,jx,jw,bA,bN,jT,jS,Nat.reduceBEq]
 refine jv (Ql (by have := h.kl id; omega)) ?_
 dsimp only [jc,jG,jF,je,jt,jr,jb,ja,jd,jA,jf,ji,jj,jk,jl,jL,rd,get,jy,jz,jh,jg,jB,jP,jx,jw,bA,bN,lend,kw,kx,jZ,j7,kr,j9,jT,jS,Nat.reduceBEq]
theorem jQ1 {l : List D} : vT 101 [.ls 1 l] [] (.fn 157 [.box 0 0]) [.cells [.ls 1 l]] := by
 refine xj (by rfl) ?_
 dsimp only [c_slices_Backward_api_ID_api_ID,zR,jm,jo,jc,jn,jG,jF,je,jt,jr,jb,ja,jd,jA,jf,ji,jj,jk,jl,jL,kq,rd,get,jy,jz,jh,jg,jB,jP,jx,kj,jD,jX,jw,env0,bA,bN,qX,qH,j7,kr,j9,jT,jS,o1,Nat.reduceBEq,Nat.reduceAdd]
 exact Rt.id
def bkD (l : List Int) (r : Nat) : List D := [.int .i64 ((l.length : Int) - 1 - r), .int .u32 (l.getD (l.length - 1 - r) 0)]
def kU6 (l : List Int) : List (List D) := (List.range l.length).map (bkD l)
theorem Y5 (l : List Int) : (kU6 l).length = l.length := by simp [kU6]
theorem ke4 {l : List Int} {r : Nat} (h : r < l.length) : (kU6 l)[r]? = some (bkD l r) := by simp [kU6, h]
def BkK (l : List Int) (b : List Ent) : Prop := ∃ e0 e1 e2 e3 e4 e5 e6 e7 e8, b = [e0, e1, e2, e3, e4, e5, e6, e7, e8, .cells [.ls 1 (iL l)]]
theorem kJ4 {l : List Int} (hl : l.length < 1000000) : jX8 Tryz.prog zM 157 [.box 9 0] (kU6 l) (BkK l) := by
 refine Y6 mixed c_slices_Backward_api_ID_api_ID_1 zJ (fn := Tryz.f157) (by kernel_rfl) (by kernel_rfl) vJ (by kernel_rfl) (by rfl) (by kernel_rfl) fun y m S bs n F1 hn0 hm hy hS hbs hlb hgo hstp => ?_
 rw [Y5] at hm
 have hsh : ∀ k, k <= m -> ∃ e0 e1 e2 e3 e4 e5 e6 e7 e8 o, S k = [e0, e1, e2, e3, e4, e5, e6, e7, e8, .cells [.ls 1 (iL l)], .obj o] /\ n = 11 /\ k8 n (S k) = true := fun k hk => by
  obtain ⟨h1, h2, b0, o, h3, e0, e1, e2, e3, e4, e5, e6, e7, e8, h4⟩ := hS k hk
  refine ⟨e0, e1, e2, e3, e4, e5, e6, e7, e8, o, by rw [h3, h4]; rfl, ?_, h2⟩
  rw [<- h1, h3, h4]; rfl
 have hn8 : n = 11 := (hsh 0 (Nat.zero_le _)).choose_spec.choose_spec.choose_spec.choose_spec.choose_spec.choose_spec.choose_spec.choose_spec.choose_spec.choose_spec.2.1
 subst hn8
 obtain ⟨a0, a1, a2, a3, a4, a5, a6, a7, a8, ao, hS0, _, _⟩ := hsh 0 (Nat.zero_le _)
 rw [hS0]
 dsimp only [c_slices_Backward_api_ID_api_ID_1,zJ,jm,jo,jc,jn,jU,jF,je,jt,jr,jb,ja,jd,jA,jf,ji,jj,jk,jl,ju,kz,jL,rd,get,jy,jz,jh,jg,jB,jP,km,jx,jC,kL,jI,jw,env0,bA,bN,kU,jR,ko,jT,jS,o1,Nat.reduceBEq,Nat.reduceAdd]
 rw [zO, <- hS0]
 clear hS0 a0 a1 a2 a3 a4 a5 a6 a7 a8 ao
 refine ⟨by simp only [j5]; omega, ?_⟩
 refine kE (α := {r : Nat // r <= l.length /\ r <= m})
  (fun r => ⟨[(0, [], .yld y), (1, [], .box 9 0), (3, [], .int .i64 ((l.length : Int) - 1 - (r.1 : Int)))], S r.1⟩) (fun r => l.length - r.1) ?_ ⟨0, by simp⟩ (by simp)
 rintro ⟨r, hr, hk⟩ I ih
 dsimp only at hr hk |-
 obtain ⟨e0, e1, e2, e3, e4, e5, e6, e7, e8, o, hSk, _, hlow⟩ := hsh r hk
 rw [hSk]
 dsimp only [jE,jm,jo,jc,jn,jU,kt,jK,ky,jF,je,j1,j3,kC,jt,jr,jb,ja,jd,jA,jf,ku,ji,jj,jk,jl,ju,j6,jL,rd,get,jy,jz,jh,jg,jB,jP,km,jx,jC,kL,jI,jw,bA,bN,kU,jR,ko,qX,qH,j7,j9,jT,jS,Nat.reduceBEq]
 refine ⟨fun hlt => ?_, fun hge => ?_⟩
 ·have hil : r < l.length := by simp only [decide_eq_true_eq] at hlt; omega
  have hrow : (iL l)[((l.length : Int) - 1 - r).toNat]? = some (.int .u32 (l.getD (l.length - 1 - r) 0)) := by
   rw [show ((l.length : Int) - 1 - r).toNat = l.length - 1 - r by omega, js2 (by omega)]
   rw [List.getD_eq_getElem?_getD, List.getElem?_eq_getElem (by omega)]; rfl
  refine ⟨⟨rfl, by omega, by rw [zO]; omega⟩, kh _ _ hrow rfl ?_⟩
  dsimp only [jc,ja,jd,jA,j4,ji,jj,jk,jl,jL,kq,rd,get,jy,jz,jh,jg,jB,jP,jx,jw,bA,bN,kD,jT,jS,Nat.reduceBEq]
  rcases Nat.lt_or_ge r m with hkm | hkm
  ·have hp := hgo r _ hkm (ke4 hil) [3, 53]
   rw [bkD, hSk] at hp
   refine kS _ _ hp ?_
   dsimp only [jE,jm,jo,jc,jG,jK,ky,jF,je,jO,j0,kR,kC,jt,jr,jb,ja,jd,jA,jf,ji,jj,jk,jl,jL,rd,get,jy,jz,jh,jg,jB,jP,km,jx,jw,bA,bN,kU,jR,ko,qX,qH,j7,j9,jT,jS,Nat.reduceBEq]
   refine ⟨fun h => absurd h (by simp), fun _ => ⟨by simp only [j5]; omega, ?_⟩⟩
   rw [show (l.length : Int) - 1 - r - 1 = (l.length : Int) - 1 - ((r + 1 : Nat) : Int) by omega]
   refine kW (ih ⟨r + 1, hil, hkm⟩ (by dsimp only; omega)) ⟨rfl, rfl, rfl, trivial⟩ (ja0 _) ?_ ?_ ?_
   ·dsimp only
    rw [(hS (r + 1) hkm).1]
    simp [jx2, low, zo, hy]
   ·dsimp only
    rw [(hS (r + 1) hkm).1]; exact (hS (r + 1) hkm).2.1
   ·dsimp only
    rw [(hS (r + 1) hkm).1]; rfl
  ·have hkm' : r = m := by omega
   subst hkm'
   have hp := hstp _ (ke4 hil) [3, 53]
   rw [bkD, hSk] at hp
   refine kS _ _ hp ?_
   dsimp only [jE,jm,jo,jc,jG,jK,ky,jF,je,jO,j0,kR,kC,jt,jr,jb,ja,jd,jA,jf,ji,jj,jk,jl,jL,rd,get,jy,jz,jh,jg,jB,jP,km,jx,jw,bA,bN,kU,jR,ko,qX,qH,j7,j9,jT,jS,Nat.reduceBEq]
   refine ⟨fun _ => ?_, fun h => absurd h (by simp)⟩
   rw [QD, if_pos (by rw [Y5]; exact hil)]
   exact ja0 _
 ·have hil : ¬ r < l.length := by simp only [decide_eq_false_iff_not] at hge; omega
  rw [QD, if_neg (by rw [Y5]; omega), show m = r by omega, hSk]
  exact ja0 _

def yG (f : Rc -> Rc) (l : List Rc) (i : Nat) : List Rc := (l.take i).map f ++ l.drop i
theorem ko2 {f : Rc -> Rc} {l : List Rc} {i : Nat} {r : Rc} (h : l[i]? = some r) : (yG f l i)[i]? = some r := by
 obtain ⟨hk, h2⟩ := List.getElem?_eq_some_iff.1 h
 unfold yG
 rw [List.getElem?_append_right (by simp; omega), List.getElem?_drop]
 have : i + (i - (List.map f (List.take i l)).length) = i := by simp; omega
 rw [this]; exact h
theorem ko1 {f : Rc -> Rc} {l : List Rc} {i : Nat} {r : Rc} (h : l[i]? = some r) : (yG f l i).set i (f r) = yG f l (i + 1) := by
 obtain ⟨hk, h2⟩ := List.getElem?_eq_some_iff.1 h
 unfold yG
 rw [List.set_append_right _ _ (by simp; omega)]
 have e1 : i - (List.map f (List.take i l)).length = 0 := by simp; omega
 rw [e1, List.drop_eq_getElem_cons hk, h2, List.set_cons_zero, List.take_add_one, h, List.map_append]
 simp
theorem jc4 {f : Rc -> Rc} {l : List Rc} {i : Nat} : (yG f l i).length = l.length := by
 unfold yG
 simp only [List.length_append, List.length_map, List.length_take, List.length_drop]; omega
theorem kc1 {f : Rc -> Rc} {l : List Rc} : yG f l 0 = l := by simp [yG]
theorem ko3 {f : Rc -> Rc} {l : List Rc} : yG f l l.length = l.map f := by simp [yG]
def ki5 (a d : Int) : Int := max (a + d) (-1048576)
def kD9 (a n d : Int) : Int := min (a + d + n) 1048576 - max (a + d) (-1048576)
theorem jP2 {a n d : Int} (ha : -1048576 <= a /\ a <= 1048576) (hn : 0 <= n /\ n <= 2097152) (hd : -2097152 <= d /\ d <= 2097152) : zA 77 [.int .i64 a, .int .i64 n, .int .i64 d] (.tup [.int .i64 (ki5 a d), .int .i64 (kD9 a n d)]) := by
 refine ja3 (by rfl) ?_
 dsimp only [c_region_moved,Zk,jm,jo,jc,jn,jG,jF,je,jt,jr,jb,ja,jd,jA,jf,ji,jj,jk,jl,jL,rd,get,jy,jz,jh,jg,jB,jP,km,jx,jw,env0,bA,bN,kU,jR,kA,lend,ko,kw,kx,jZ,j7,kr,j9,zh,jT,jS,o1,Nat.reduceBEq,Nat.reduceAdd]
 exact ⟨by simp only [j5]; omega, by simp only [j5]; omega, by simp only [j5]; omega, by simp only [j5]; omega, rfl⟩
def kx9 (dx dy : Int) (r : Rc) : Rc := ⟨ki5 r.x dx, ki5 r.y dy, kD9 r.x r.w dx, kD9 r.y r.h dy⟩
def kI4 (dx : Int) (r : Rc) : Rc := ⟨ki5 r.x dx, r.y, kD9 r.x r.w dx, r.h⟩
def jT5 (dx dy : Int) (P : Int -> Int -> Prop) : Int -> Int -> Prop := fun x y => P (x - dx) (y - dy) /\ (-1048576 <= x /\ x < 1048576) /\ -1048576 <= y /\ y < 1048576
theorem Yh {P : Int -> Int -> Prop} (hP : XT P) {dx dy : Int} (hx : -2097152 <= dx /\ dx <= 2097152) (hy : -2097152 <= dy /\ dy <= 2097152) (hl : (reg P).length <= 1073741824) :
  zA 18 [.agg [.ls 4 (kJ (reg P))], .int .i64 dx, .int .i64 dy] (.agg [.ls 4 (kJ (reg (jT5 dx dy P)))]) := by
 have hv := yU hP
 have hres : reg (qL (zk ((reg P).map (kx9 dx dy)))) = reg (jT5 dx dy P) := KU fun x y => by
  unfold zk
  rw [jv0 (fun r hr hp => by
   obtain ⟨q, hq, rfl⟩ := List.mem_map.1 hr
   have := hv q hq
   unfold Vr kx9 ki5 kD9 at *
   unfold kD4 at hp
   dsimp only at hp |-
   omega)]
  unfold jT5
  rw [<- yV hP]
  unfold qL
  constructor
  ·rintro ⟨q, hq, hh⟩
   obtain ⟨r, hr, rfl⟩ := List.mem_map.1 hq
   have := hv r hr
   unfold Vr at this
   unfold Rc.has kx9 ki5 kD9 at hh
   dsimp only at hh
   exact ⟨⟨r, hr, by unfold Rc.has; omega⟩, by omega⟩
  ·rintro ⟨⟨r, hr, hh⟩, hb⟩
   refine ⟨_, List.mem_map.2 ⟨r, hr, rfl⟩, ?_⟩
   have := hv r hr
   unfold Vr at this
   unfold Rc.has at hh
   unfold Rc.has kx9 ki5 kD9
   dsimp only
   omega
 generalize reg (jT5 dx dy P) = rs at *
 generalize reg P = l at *
 refine ja5 (by rfl) ?_
 dsimp only [c_region_Shift,Zm,jE,jm,jo,jc,jn,jG,jK,ky,jF,je,jO,jt,jr,jb,ja,jd,jA,jf,jq,ji,jj,jk,jl,ju,jJ,kg,jL,kq,rd,get,jy,jz,jh,jg,jB,jP,jx,jC,kj,jM,jN,jH,kp,qB,kT,jI,jQ,jD,jX,kd,ki,jw,env0,bA,bO,bN,bE,kU,jR,kA,lend,ko,kw,kx,jZ,j7,kr,j9,zh,jT,jS,o1,o0,og,Nat.reduceBEq,Nat.reduceAdd]
 refine ⟨fun h => ?_, fun _ => ?_⟩
 ·simp only [Bool.or_eq_true, decide_eq_true_eq] at h; omega
 refine kY [] (jQ0 (l := kJ l) (by rw [j8]; omega)) rfl rfl ?_
 dsimp only [jm,jo,jc,jn,jU,jF,je,jt,jr,jb,ja,jd,jA,jf,ji,jj,jk,jl,kz,jL,rd,get,jy,jz,jh,jg,jB,jP,km,jx,jI,jD,jw,bA,bN,kV,qY,zp,kM,z6,kO,Je,Jd,jT,jS,Nat.reduceBEq,Nat.reduceAdd]
 rw [j8]
 refine ⟨rfl, ?_⟩
 refine kE (α := {i : Nat // i <= l.length})
  (fun i => ⟨[(1, [], .int .i64 dx), (2, [], .int .i64 dy), (6, [], .box 1 0), (7, [], .own 5 2), (27, [], .int .i64 l.length), (28, [], .int .i64 i.1)],
    [.cells [.ls 4 (kJ l)], .cells [.ls 4 []], .cells [.ls 4 (kJ l)], .arr 45 4 0 [], .arr 45 4 0 [], .arr 45 4 2 (kJ (yG (kx9 dx dy) l i.1))]⟩)
  (fun i => l.length - i.1) ?_ ⟨0, Nat.zero_le _⟩ (by simp [kc1])
 rintro ⟨i, hi⟩ I ih
 dsimp only at hi |-
 dsimp only [jE,jm,jo,jc,jn,jU,kt,jK,ky,jF,je,j1,j3,kC,jt,jr,jb,ja,jd,jA,jf,jq,ku,ji,jj,jk,jl,ju,j6,jL,kq,rd,get,jy,jz,jh,jg,jB,jP,km,jx,jC,jI,jw,bA,bN,kU,jR,ko,kw,jT,jS,Nat.reduceBEq,Nat.reduceAdd]
 refine ⟨fun hlt => ?_, fun hge => ?_⟩
 ·have hil : i < l.length := by simpa using hlt
  obtain ⟨r, hr⟩ : ∃ r, l[i]? = some r := ⟨_, List.getElem?_eq_getElem hil⟩
  have hV := hv r (List.mem_of_getElem? hr)
  unfold Vr at hV
  have hix : ∀ L : List Rc, L.length = l.length -> (0 : Int) <= i /\ (i : Int) < ((kJ L).length : Int) := fun L hL => by rw [j8, hL]; omega
  have hset : ∀ (L : List Rc) (q : Rc), ((kJ L).set ((i : Nat) : Int).toNat (rD q)) = kJ (L.set i q) := fun L q => by rw [jR9, Int.toNat_natCast]
  have hml : (yG (kx9 dx dy) l i).length = l.length := jc4
  have hrq : (kJ (yG (kx9 dx dy) l i))[((i : Nat) : Int).toNat]? = some (rD r) := qZ (by rw [Int.toNat_natCast]; exact ko2 hr)
  have hgs : ∀ (q : Rc), (kJ ((yG (kx9 dx dy) l i).set i q))[((i : Nat) : Int).toNat]? = some (rD q) := fun q => qZ (by
   rw [Int.toNat_natCast, List.getElem?_set_self (by rw [jc4]; exact hil)])
  refine ⟨⟨rfl, rfl, hix _ hml⟩, ⟨rfl, rfl⟩, kh (rD r) (.int .i64 r.x) hrq rfl ?_⟩
  dsimp only [jc,ja,jd,jA,jf,ku,ji,jj,jk,jl,ju,j6,jL,rd,get,jy,jz,jh,jg,jB,jP,km,jx,jC,jI,jw,bA,bN,jT,jS,Nat.reduceBEq,Nat.reduceAdd]
  refine ⟨⟨rfl, rfl, hix _ hml⟩, ⟨rfl, rfl⟩, kh (rD r) (.int .i64 r.w) hrq rfl ?_⟩
  dsimp only [jc,ja,jd,jA,jf,jq,ji,jj,jk,jl,jL,kq,rd,get,jy,jz,jh,jg,jB,jP,jx,jw,bA,bN,jT,jS,Nat.reduceBEq]
  refine jv (jP2 (by omega) (by omega) hx) ?_
  dsimp only [jc,ja,jd,jA,jf,vB,ji,jj,jk,jl,jJ,j6,jL,rd,get,jy,jz,jh,jg,jB,jP,km,jx,kj,kL,jH,jI,jQ,jw,bA,bN,closed,jT,jS,Nat.reduceBEq,Nat.reduceAdd]
  refine ⟨⟨rfl, rfl, hix _ hml⟩, ⟨rfl, rfl⟩, qR (hs := []) (rD r) (rD ⟨ki5 r.x dx, r.y, r.w, r.h⟩) hrq rfl ?_⟩
  dsimp only [jc,ja,jd,jA,jf,vB,ji,jj,jk,jl,jJ,j6,jL,rd,get,jy,jz,jh,jg,jB,jP,km,jx,kj,jH,jI,jQ,jw,bA,bN,closed,jT,jS,Nat.reduceBEq,Nat.reduceAdd]
  rw [hset]
  have hml2 : ∀ q, ((yG (kx9 dx dy) l i).set i q).length = l.length := fun q => by rw [List.length_set, jc4]
  refine ⟨⟨rfl, rfl, hix _ (hml2 _)⟩, ⟨rfl, rfl⟩, qR (hs := []) (rD ⟨ki5 r.x dx, r.y, r.w, r.h⟩) (rD (kI4 dx r)) (hgs _) rfl ?_⟩
  dsimp only [jm,jo,jc,jF,je,jt,jr,jb,ja,jd,jA,jf,ku,ji,jj,jk,jl,ju,j6,jL,rd,get,jy,jz,jh,jg,jB,jP,km,jx,jC,jI,jw,bA,bN,jT,jS,Nat.reduceBEq,Nat.reduceAdd]
  rw [hset, List.set_set]
  refine ⟨⟨rfl, rfl, hix _ (hml2 _)⟩, ⟨rfl, rfl⟩, kh (rD (kI4 dx r)) (.int .i64 r.y) (hgs _) rfl ?_⟩
  dsimp only [jc,ja,jd,jA,jf,ku,ji,jj,jk,jl,ju,j6,jL,rd,get,jy,jz,jh,jg,jB,jP,km,jx,jC,jI,jw,bA,bN,jT,jS,Nat.reduceBEq,Nat.reduceAdd]
  refine ⟨⟨rfl, rfl, hix _ (hml2 _)⟩, ⟨rfl, rfl⟩, kh (rD (kI4 dx r)) (.int .i64 r.h) (hgs _) rfl ?_⟩
  dsimp only [jc,ja,jd,jA,jf,jq,ji,jj,jk,jl,jL,kq,rd,get,jy,jz,jh,jg,jB,jP,jx,jw,bA,bN,jT,jS,Nat.reduceBEq]
  refine jv (jP2 (by omega) (by omega) hy) ?_
  dsimp only [jc,ja,jd,jA,jf,vB,ji,jj,jk,jl,jJ,j6,jL,rd,get,jy,jz,jh,jg,jB,jP,km,jx,kj,kL,jH,jI,jQ,jw,bA,bN,closed,jT,jS,Nat.reduceBEq,Nat.reduceAdd]
  refine ⟨⟨rfl, rfl, hix _ (hml2 _)⟩, ⟨rfl, rfl⟩, qR (hs := []) (rD (kI4 dx r)) (rD ⟨ki5 r.x dx, ki5 r.y dy, kD9 r.x r.w dx, r.h⟩) (hgs _) rfl ?_⟩
  dsimp only [jc,ja,jd,jA,jf,vB,ji,jj,jk,jl,jJ,j6,jL,rd,get,jy,jz,jh,jg,jB,jP,km,jx,kj,jH,jI,jQ,jw,bA,bN,closed,jT,jS,Nat.reduceBEq,Nat.reduceAdd]
  rw [hset, List.set_set]
  refine ⟨⟨rfl, rfl, hix _ (hml2 _)⟩, ⟨rfl, rfl⟩, qR (hs := []) (rD ⟨ki5 r.x dx, ki5 r.y dy, kD9 r.x r.w dx, r.h⟩) (rD (kx9 dx dy r)) (hgs _) rfl ?_⟩
  dsimp only [jm,jo,jc,jF,je,j0,kC,jt,jr,jb,ja,jd,jA,jf,ji,jj,jk,jl,jL,rd,get,jy,jz,jh,jg,jB,jP,km,jx,jw,bA,bN,kU,jR,ko,jT,jS,Nat.reduceBEq]
  rw [hset, List.set_set, ko1 hr]
  exact ⟨by simp only [j5]; omega, kW (ih ⟨i + 1, by omega⟩ (by dsimp only; omega)) ⟨rfl, rfl, rfl, rfl, rfl, by simp [get], trivial⟩ ⟨rfl, rfl, rfl, rfl, rfl, rfl, trivial⟩ rfl rfl⟩
 ·have hil : i = l.length := by simp at hge; omega
  subst hil
  rw [ko3]
  refine KD rfl ⟨rfl, trivial⟩ (Sp.lift (xG (fun r hr => ?_) (by rw [List.length_map]; exact hl)) rfl) ?_
  ·obtain ⟨q, hq, rfl⟩ := List.mem_map.1 hr
   have := hv q hq
   unfold Vr at this
   unfold kx9 ki5 kD9 Rc.In j5; dsimp only; omega
  dsimp only [jc,jG,jF,je,jt,jr,jb,ja,jd,jA,jf,ji,jj,jk,jl,jJ,jL,rd,get,jy,jz,jh,jg,jB,jP,jx,jC,jM,jN,jH,kp,jI,jQ,kd,ki,jw,bA,bN,kA,lend,kw,kx,jZ,j7,kr,j9,zh,jT,jS,Nat.reduceBEq,Nat.reduceAdd]
  rw [hres]

def Sq (P : PS) : Prop := ∃ a b : Int, (-90000 <= a /\ a <= 90000) /\ (-90000 <= b /\ b <= 90000) /\ ∀ x y, P x y -> (a <= x /\ x < a + 64) /\ b <= y /\ y < b + 64
theorem Sq.bdd {P : PS} (h : Sq P) : XT P := fun x y hp => by
 obtain ⟨a, b, h1, h2, h3⟩ := h
 have := h3 x y hp; omega
theorem Sq.len {P : PS} (h : Sq P) : (reg P).length <= 4096 := by
 have hb := h.bdd
 obtain ⟨a, b, h1, h2, h3⟩ := h
 have := kG7 (jl6 hb) h3
 have e1 : max (b + 64 - b) 0 = 64 := by omega
 have e2 : max (a + 64 - a) 0 = 64 := by omega
 rw [e1, e2] at this
 omega
theorem Sq.sub {P Q : PS} (h : Sq P) (hq : ∀ x y, Q x y -> P x y) : Sq Q := by
 obtain ⟨a, b, h1, h2, h3⟩ := h
 exact ⟨a, b, h1, h2, fun x y hp => h3 x y (hq x y hp)⟩
noncomputable def Ws.sc (S : Ws) : Sc := ⟨xz S.par S.n, fun k => (S.B k).on, fun k => jT5 (S.ox k) (S.oy k) (zN (S.B k))⟩
theorem Ws.Ok.orgB {S : Ws} (h : S.Ok) {k : Nat} (hk : k <= S.n) : (-8000 <= S.ox k /\ S.ox k <= 8000) /\ -8000 <= S.oy k /\ S.oy k <= 8000 := by
 have := h.few
 have h1 := kb6 h.pw (X := fun j => (S.B j).x) (B := 200) (by omega) h.x (f := k + 1) (k := k) (by omega)
 have h2 := kb6 h.pw (X := fun j => (S.B j).y) (B := 200) (by omega) h.y (f := k + 1) (k := k) (by omega)
 unfold Ws.ox Ws.oy kM2
 omega
theorem ZW {b : Bx} (hw : b.w <= 16) (hh : b.h <= 16) : Sq (zN b) := ⟨0, 0, by omega, by omega, fun x y hp => by have := KE hp; omega⟩
theorem kM5 {P : PS} {dx dy : Int} (hP : ∀ x y, P x y -> (0 <= x /\ x < 64) /\ 0 <= y /\ y < 64) (hx : -90000 <= dx /\ dx <= 90000) (hy : -90000 <= dy /\ dy <= 90000) : Sq (jT5 dx dy P) :=
 ⟨dx, dy, hx, hy, fun x y hp => by have := hP _ _ hp.1; omega⟩
theorem Ws.Ok.shSq {S : Ws} (h : S.Ok) {k : Nat} (hk : k <= S.n) : Sq (S.sc.sh k) := by
 have := h.orgB hk
 have hs := h.size k
 exact kM5 (fun x y hp => by have := KE hp; omega) (by omega) (by omega)
theorem ky3 {S : Sc} {pl l : PS} (hl : Sq l) {js : List Nat} : Sq (xe S pl js l) := hl.sub fun _ _ h => Kj h
theorem tV : Tryz.prog.underlying 96 = some (.map 53 190) := by kernel_rfl
noncomputable def kr0 (S : Ws) (e : Nat × PS) : D := .agg [.int .i64 (S.ox e.1), .int .i64 (S.oy e.1), .ls 4 (kJ (reg e.2))]
noncomputable def xC (S : Ws) (l : List (Nat × PS)) : KV := l.map fun e => (kQ e.1, kr0 S e)
theorem kf4 {S : Ws} {a b : List (Nat × PS)} : xC S (a ++ b) = xC S a ++ xC S b := by simp [xC]
theorem vv {S : Ws} : ∀ {l : List (Nat × PS)}, jV (kZ (xC S l)) = true
 | [] => rfl
 | e :: l => by
   have := vv (S := S) (l := l)
   simp only [xC, kZ, List.map_cons, jV, qw] at this |-
   exact ⟨by simp [kr0, closed, jV, bA], this⟩
theorem ZT : ∀ {a b : List D}, jV a = true -> jV b = true -> jV (a ++ b) = true
 | [], _, _, h => h
 | d :: a, b, h1, h2 => by
   simp only [jV, qw, List.cons_append] at h1 |-
   exact ⟨h1.1, ZT h1.2 h2⟩
theorem ki6 {a b : KV} : kZ (a ++ b) = kZ a ++ kZ b := by simp [kZ]
theorem kc5 {α : Type} {m : Int} : ∀ {l r : List (Int × α)}, lk (l ++ r) m = match lk l m with | some e => some e | none => lk r m
 | [], r => by simp [lk]
 | p :: l, r => by
   simp only [List.cons_append, lk]
   by_cases h : p.1 = m
   ·simp [h]
   ·simp only [h, if_false]; exact kc5
theorem ZA {S : Ws} {l : List (Nat × PS)} {i : Nat} (h : i ∉ l.map (·.1)) : lk (xC S l) (kQ i) = none := by
 rw [Jr]
 intro hm
 obtain ⟨p, hp, he⟩ := List.mem_map.1 hm
 obtain ⟨e, he2, rfl⟩ := List.mem_map.1 hp
 exact h (List.mem_map.2 ⟨e, he2, vE.1 he⟩)
theorem kT5 {S : Ws} {l : List (Nat × PS)} {e : Nat × PS} (hn : (l.map (·.1)).Nodup) (h : e ∈ l) : lk (xC S l) (kQ e.1) = some (kr0 S e) := by
 refine jc5 ?_ (List.mem_map.2 ⟨e, h, rfl⟩)
 unfold zC xC
 rw [List.map_map]
 have : ((fun p : Int × D => p.1) ∘ fun e : Nat × PS => (kQ e.1, kr0 S e)) = fun e => kQ e.1 := rfl
 rw [this]
 have h2 : (l.map fun e => kQ e.1) = (l.map (·.1)).map kQ := by rw [List.map_map]; rfl
 rw [h2]
 exact List.Pairwise.map _ (fun a b h e => h (vE.1 e)) hn
theorem kI3 {a b : KV} (ha : zC a) (hb : zC b) (h : ∀ p ∈ b, lk a p.1 = none) : zC (a ++ b) := by
 unfold zC at *
 rw [List.map_append, List.nodup_append]
 refine ⟨ha, hb, fun x hx y hy he => ?_⟩
 subst he
 obtain ⟨p, hp, rfl⟩ := List.mem_map.1 hy
 exact Jr.1 (h p hp) hx
theorem kr8 {S : Ws} {l : List (Nat × PS)} (hn : (l.map (·.1)).Nodup) : zC (xC S l) := by
 unfold zC xC
 rw [List.map_map]
 have h2 : (l.map ((fun p : Int × D => p.1) ∘ fun e => (kQ e.1, kr0 S e))) = (l.map (·.1)).map kQ := by rw [List.map_map]; rfl
 rw [h2]
 exact List.Pairwise.map _ (fun a b h e => h (vE.1 e)) hn
noncomputable def kJ9 (S : Ws) (kv : KV) : List Ent := [.cells [.mp (qI .u32 S.kv) (kZ S.kv)], .cells [.mp (qI .u32 (vI S.tr.kids)) (kZ (vI S.tr.kids)), .mp (qI .u32 (zH S.tr.up)) (kZ (zH S.tr.up))],
 .cells [.fn 98 [.box 0 0, .box 1 0, .box 2 0, .box 3 0]], .cells [.own 5 0, .ownm 4 0], .map (qI .u32 kv) (kZ kv), .arr 53 1 0 []]
theorem hdR {S : Ws} {kv : KV} (h : jV (kZ kv) = true) {n : Nat} : kM [0, 1, 2, 3, 4, 5] n (kJ9 S kv) = kJ9 S kv := by
 simp only [kJ9, kM, zp]
 rw [zD _ h]
 rfl
theorem kP6 {l : List Nat} {i : Nat} (h : i < l.length) : ∃ hj : i < l.reverse.length, l.reverse[i] = l[l.length - 1 - i] := ⟨by simpa using h, by rw [List.getElem_reverse]⟩
theorem kg7 {S : Ws} (hS : S.Ok) : ∀ (m k : Nat), S.n < m + k -> k <= S.n -> ∀ (pl left : PS) (kv0 : KV), Sq pl -> Sq left -> zC kv0 -> jV (kZ kv0) = true -> (∀ i ∈ yM S.sc m k, lk kv0 (kQ i) = none) ->
  vT 98 [.int .u32 (kQ k), .agg [.ls 4 (kJ (reg pl))], .agg [.ls 4 (kJ (reg left))], .box 0 0, .box 1 0, .box 2 0, .box 3 0] (kJ9 S kv0) (.tup []) (kJ9 S (kv0 ++ xC S (zx S.sc m k pl left)))
 | 0, k, h, hk, _, _, _, _, _, _, _, _ => by omega
 | m + 1, k, hm, hk, pl, left, kv0, hpl, hleft, hnd, hcl, hfr => by
   have hn := hS.few
   have hT : Tr S.sc S.n S.par := kL9 hS.pw
   refine jw1 (by rfl) ?_
   dsimp only [kJ9,c_view_Of_1,jg6,jm,jo,jc,jn,jF,je,jt,jr,jb,ja,jd,jA,jf,jq,ji,jj,jk,jl,ju,jL,kq,rd,get,jy,jz,jh,jg,jB,jP,jx,jC,kj,jM,jN,jI,jD,jX,jw,env0,bA,bN,jT,jS,o1,o0,og,Nat.reduceBEq,Nat.reduceAdd]
   refine jv (jj5 hS hk) ?_
   dsimp only [jm,jo,jc,jn,jF,je,jt,jr,jb,ja,jd,jA,jf,jq,ji,jj,jk,jl,ju,jJ,jL,kq,rd,get,jy,jz,jh,jg,jB,jP,jx,jC,kL,jM,jN,jH,kp,jI,jQ,jD,jX,kd,ki,jw,bA,bN,jT,jS,Nat.reduceBEq,Nat.reduceAdd]
   refine jv (jF8 hS.tok (kQ k)) ?_
   rw [show kP S.tr (kQ k) = (xz S.par S.n k).map kQ from Zv]
   dsimp only [jm,jo,jc,jn,jF,je,jt,jr,jb,ja,jd,jA,jf,jq,ji,jj,jk,jl,jL,kq,rd,get,jy,jz,jh,jg,jB,jP,jx,jw,bA,bN,jT,jS,Nat.reduceBEq]
   refine kY [] jQ1 rfl rfl ?_
   dsimp only [jU,jF,je,jt,jr,jb,rd,get,jy,jz,jh,jg,jD,jw,bA,bN,kV,qY,zp,kM,z6,kO,Je,Jd,jT,jS,Nat.reduceBEq,Nat.reduceAdd]
   obtain ⟨ks, hks⟩ : ∃ ks, xz S.par S.n k = ks := ⟨_, rfl⟩
   have hksl : ks.length <= S.n := by rw [<- hks]; exact jC6
   have hkm : ∀ j ∈ ks, S.par j = k /\ k < j /\ j <= S.n := fun j hj => hT.kid k j (by rw [<- hks] at hj; exact hj)
   rw [hks]
   refine Yp rfl rfl (kU6 (ks.map kQ)) (BkK (ks.map kQ)) (fun i => [.cells [.mp (qI .u32 S.kv) (kZ S.kv)], .cells [.mp (qI .u32 (vI S.tr.kids)) (kZ (vI S.tr.kids)), .mp (qI .u32 (zH S.tr.up)) (kZ (zH S.tr.up))],
    .cells [.fn 98 [.box 0 0, .box 1 0, .box 2 0, .box 3 0]], .cells [.own 5 0, .ownm 4 0], .map (qI .u32 (kv0 ++ xC S (Xs S.sc (zx S.sc m) pl (ks.reverse.take i) left))) (kZ (kv0 ++ xC S (Xs S.sc (zx S.sc m) pl (ks.reverse.take i) left))), .arr 53 1 0 [],
    .cells [.ls 4 (kJ (reg pl))], .cells [.ls 4 (kJ (reg (xe S.sc pl (ks.reverse.take i) left)))], .cells [.int .i64 (S.ox k), .int .i64 (S.oy k)], .cells [.ls 1 (iL (ks.map kQ))]]) (kU6 (ks.map kQ)).length ?_
   have hgk : ∀ (js : List Nat), (∀ a ∈ js, a ∈ ks) -> ∀ e ∈ Xs S.sc (zx S.sc m) pl js left, ∃ a ∈ js, e.1 ∈ yM S.sc m a := fun js _ e he => by
    obtain ⟨a, ha, p, q, h⟩ := Z8 he
    exact ⟨a, ha, Km h⟩
   have hsubk : ∀ a ∈ ks, ∀ b ∈ yM S.sc m a, b ∈ yM S.sc (m + 1) k := fun a ha b hb => by
    simp only [yM, List.mem_cons, List.mem_flatMap]
    exact .inr ⟨a, by rw [<- hks] at ha; exact ha, hb⟩
   have hksm : ∀ a ∈ ks, a ∈ S.sc.kids k := fun a ha => by rw [<- hks] at ha; exact ha
   have hnds : ks.reverse.Nodup := (List.reverse_perm _).nodup_iff.2 (by rw [<- hks]; exact YD)
   have hgnd : ∀ i, zC (kv0 ++ xC S (Xs S.sc (zx S.sc m) pl (ks.reverse.take i) left)) := fun i => by
    have hin : ∀ a ∈ ks.reverse.take i, a ∈ ks := fun a ha => by simpa using List.mem_of_mem_take ha
    refine kI3 hnd (kr8 (Jt hT (k := k) (fun a p q => jL0 hT m a p q) (hnds.sublist (List.take_sublist _ _)) fun a ha => hksm a (hin a ha))) fun p hp => ?_
    obtain ⟨e, he, rfl⟩ := List.mem_map.1 hp
    obtain ⟨a, ha, h⟩ := hgk _ hin e he
    exact hfr _ (hsubk a (hin a ha) _ h)
   have hclv : ∀ l, jV (kZ (kv0 ++ xC S l)) = true := fun l => by rw [ki6]; exact ZT hcl vv
   refine ⟨kJ4 (by rw [List.length_map]; omega), rfl, fun x hx => ?_, Nat.le_refl _, fun i _ => ⟨rfl, ?_, _, _, _, _, _, _, _, _, _, rfl⟩, ?_, fun i x o hi hx => ?_, fun h => absurd h (Nat.lt_irrefl _), fun _ => ?_⟩
   ·obtain ⟨r, _, rfl⟩ := List.mem_map.1 hx
    rfl
   ·simp [k8, low, vb, kX _ (hclv _), q9, jD]
   ·simp [Xs, xe, xC]
   ·rw [Y5, List.length_map] at hi
    have hx' : x = bkD (ks.map kQ) i := by
     have := ke4 (l := ks.map kQ) (r := i) (by rw [List.length_map]; exact hi)
     rw [this] at hx; exact (Option.some.inj hx).symm
    subst hx'
    obtain ⟨hir, hrev⟩ := kP6 hi
    obtain ⟨j, hj⟩ : ∃ j, ks[ks.length - 1 - i] = j := ⟨_, rfl⟩
    have hjm : j ∈ ks := by rw [<- hj]; exact List.getElem_mem _
    obtain ⟨hjp, hjk, hjn⟩ := hkm j hjm
    have hid : (ks.map kQ).getD ((ks.map kQ).length - 1 - i) 0 = kQ j := by
     rw [List.length_map, List.getD_eq_getElem?_getD, List.getElem?_map, List.getElem?_eq_getElem (by omega), hj]; rfl
    have htk : ks.reverse.take (i + 1) = ks.reverse.take i ++ [j] := by
     rw [List.take_succ_eq_append_getElem hir, hrev, hj]
    dsimp only [ko0,VT,bkD,jm,jo,jc,jn,jU,jF,jt,jr,jb,ja,jd,jA,jf,jq,ji,jj,jk,jl,ju,jL,kq,rd,get,jy,jz,jh,jg,jB,jP,jx,jC,jM,jN,jI,jQ,jD,jX,jw,bA,bN,jT,jS,Nat.reduceBEq,Nat.reduceAdd]
    rw [hid]
    refine ⟨rfl, fun o' => ?_⟩
    refine jv (yI S.kv_nd (S.kv_lk hjn)) ?_
    dsimp only [goK,vH,Jx,jE,jm,jo,jc,jn,kt,jK,ky,jF,je,j1,kC,jt,jr,jb,ja,jd,jA,zb,qC,zm,zu,jf,za,ji,jj,jk,jl,ju,jJ,kg,jL,kq,rd,get,jy,jz,jh,jg,jB,jP,jx,jC,kL,jM,jN,jH,kp,jI,jQ,jD,jX,kd,ki,jw,bA,bO,bN,bE,jT,jS,Nat.reduceBEq,Nat.reduceAdd]
    have e1 := js7 (S := S.sc) (H := zx S.sc m) (pl := pl) (j := j) (js := ks.reverse.take i) (l := left)
    have e2 := Xq (S := S.sc) (pl := pl) (j := j) (js := ks.reverse.take i) (l := left)
    rw [<- htk] at e1 e2
    have hlq := ky3 (S := S.sc) (pl := pl) hleft (js := ks.reverse.take i)
    obtain ⟨L, hL⟩ : ∃ L, xe S.sc pl (ks.reverse.take i) left = L := ⟨_, rfl⟩
    obtain ⟨G, hG⟩ : ∃ G, Xs S.sc (zx S.sc m) pl (ks.reverse.take i) left = G := ⟨_, rfl⟩
    rw [hL] at hlq e1 e2
    rw [hG] at e1
    rw [hG, hL]
    cases hon : (S.B j).on with
    | false =>
      have hon' : ¬ S.sc.on j = true := by show ¬ (S.B j).on = true; rw [hon]; simp
      rw [if_neg hon'] at e1 e2
      rw [List.append_nil] at e1
      rw [e1, e2]
      refine ⟨fun _ => ⟨rfl, rfl⟩, nofun⟩
    | true =>
      have hon' : S.sc.on j = true := hon
      rw [if_pos hon'] at e1 e2
      refine ⟨nofun, fun _ => ?_⟩
      have hsz := hS.size j
      have hbd := hS.bdd j
      have hok := hS.orgB hk
      have hoj := hS.orgB hjn
      have hox : S.ox k + (S.B j).x = S.ox j := by unfold Ws.ox; rw [jS7 hS.pw (k := j) (by omega), hjp]
      have hoy : S.oy k + (S.B j).y = S.oy j := by unfold Ws.oy; rw [jS7 hS.pw (k := j) (by omega), hjp]
      refine xS (JG S.kv_nd (S.kv_lk hjn) (by omega) (by omega) hbd.1 hbd.2) ?_
      dsimp only [KS,jc,ja,jd,jA,zb,qC,zm,zu,jf,za,ji,jj,jk,jl,ju,jL,kq,rd,get,jy,jz,jh,jg,jB,jP,km,jx,jC,kL,jI,jw,bA,bO,bN,kU,jR,ko,jT,jS,Nat.reduceBEq,Nat.reduceAdd]
      rw [hox, hoy]
      have hasq := ZW (b := S.B j) (by omega) (by omega)
      refine ⟨by simp only [j5]; omega, by simp only [j5]; omega, xS (Yh hasq.bdd (by omega) (by omega) (Nat.le_trans hasq.len (by omega))) ?_⟩
      dsimp only [jm,jo,jc,jn,jF,je,jt,jr,jb,ja,jd,jA,zb,zm,zu,jf,jq,ji,jj,jk,jl,ju,jJ,jL,kq,rd,get,jy,jz,jh,jg,jB,jP,jx,jC,jM,jN,jH,kp,jI,jQ,jD,jX,kd,ki,jw,bA,bO,bN,jT,jS,Nat.reduceBEq,Nat.reduceAdd]
      have hshq : Sq (jT5 (S.ox j) (S.oy j) (zN (S.B j))) := hS.shSq hjn
      refine jv (KQ hshq.bdd hpl.bdd (Nat.add_le_add hshq.len hpl.len)) ?_
      dsimp only [jm,jo,jc,jn,jF,je,jt,jr,jb,ja,jd,jA,jf,jq,ji,jj,jk,jl,ju,jJ,jL,kq,rd,get,jy,jz,jh,jg,jB,jP,jx,jC,kL,jM,jN,jH,kp,jI,jQ,kd,ki,jw,bA,bN,jT,jS,Nat.reduceBEq,Nat.reduceAdd]
      have hA : Sq (fun x y => jT5 (S.ox j) (S.oy j) (zN (S.B j)) x y /\ pl x y) := hshq.sub fun _ _ h => h.1
      refine jv (KQ hA.bdd hlq.bdd (Nat.add_le_add hA.len hlq.len)) ?_
      dsimp only [jc,ja,jd,jA,jq,ji,jj,jk,jl,jL,kq,rd,get,jy,jz,jh,jg,jB,jP,jx,jw,bA,bN,Je,Jd,jT,jS,Nat.reduceBEq]
      have hrec := kg7 hS m j (by omega) hjn (fun x y => jT5 (S.ox j) (S.oy j) (zN (S.B j)) x y /\ pl x y) (fun x y => (jT5 (S.ox j) (S.oy j) (zN (S.B j)) x y /\ pl x y) /\ L x y) (kv0 ++ xC S G) hA (hA.sub fun _ _ h => h.1) ?_ (hclv G) ?_
      ·refine kY [0, 1, 2, 3, 4, 5] hrec rfl ?_ ?_
       ·rw [hdR (hclv G)]
        rfl
       ·rw [hdR (by rw [ki6]; exact ZT (hclv G) vv)]
        dsimp only [kJ9,jm,jo,jc,jF,je,jt,jr,jb,ja,jd,jA,jf,jq,ji,jj,jk,jl,ju,jL,kq,rd,get,jy,jz,jh,jg,jB,jP,jx,jC,jM,jN,jI,jQ,jD,jw,bA,bN,kV,qY,kO,Je,Jd,jT,jS,Nat.reduceBEq,Nat.reduceAdd]
        refine jv (Za hlq.bdd hA.bdd (Nat.add_le_add hlq.len hA.len)) ?_
        dsimp only [goK,vH,jc,jF,kC,jt,jr,jb,ja,jd,jA,jf,ji,jj,jk,jl,jJ,jL,rd,get,jy,jz,jh,jg,jB,jP,jx,jH,kp,jI,jQ,jD,kd,ki,jw,bA,bN,jT,jS,Nat.reduceBEq,Nat.reduceAdd]
        rw [e1, e2, kf4, <- List.append_assoc]
        exact ⟨rfl, rfl⟩
      ·rw [<- hG]; exact hgnd i
      ·intro b hb
       rw [kc5, hfr b (hsubk j hjm b hb), <- hG]
       refine ZA fun hm' => ?_
       obtain ⟨e, he, rfl⟩ := List.mem_map.1 hm'
       have hin : ∀ a ∈ ks.reverse.take i, a ∈ ks := fun a ha => by simpa using List.mem_of_mem_take ha
       obtain ⟨a, ha, h⟩ := hgk _ hin e he
       obtain ⟨u, hu⟩ := Jf hT h
       obtain ⟨u', hu'⟩ := Jf hT hb
       have haj := jN1 hT (hksm a (hin a ha)) (hksm j hjm) hu hu'
       subst haj
       have hnn := hnds.sublist (List.take_sublist (i + 1) _)
       rw [htk, List.nodup_append] at hnn
       exact hnn.2.2 _ ha _ (by simp) rfl
   ·rw [Y5, List.length_map, show ks.reverse.take ks.length = ks.reverse by rw [<- List.length_reverse, List.take_length]]
    dsimp only [jm,jo,jc,je,kC,ja,jd,jA,jf,j4,ji,jj,jk,jl,ju,jL,kq,rd,get,jy,jz,jh,jg,jB,jP,jx,jC,kL,jM,jN,jH,kp,qB,kT,jI,kd,ki,jw,bA,bN,kD,jT,jS,Nat.reduceBEq,Nat.reduceAdd]
    have hnd2 := hgnd ks.length
    rw [show ks.reverse.take ks.length = ks.reverse by rw [<- List.length_reverse, List.take_length]] at hnd2
    obtain ⟨L, hL⟩ : ∃ L, xe S.sc pl ks.reverse left = L := ⟨_, rfl⟩
    obtain ⟨G, hG⟩ : ∃ G, Xs S.sc (zx S.sc m) pl ks.reverse left = G := ⟨_, rfl⟩
    have hend : zx S.sc (m + 1) k pl left = G ++ [(k, L)] := by
     rw [<- hG, <- hL, <- hks]; rfl
    have habs : lk (kv0 ++ xC S G) (kQ k) = none := by
     rw [kc5, hfr k (by simp [yM])]
     refine ZA fun hm' => ?_
     obtain ⟨e, he, hek⟩ := List.mem_map.1 hm'
     rw [<- hG] at he
     obtain ⟨a, ha, h⟩ := hgk _ (fun a ha => by simpa using ha) e he
     have h1 := jY7 hT h
     have h2 := (hkm a (by simpa using ha)).2.1
     omega
    rw [hG] at hnd2
    rw [hG, hL, hend]
    refine kS _ _ (vY tV tI (kv := kv0 ++ xC S G) rfl hnd2 (kQ k) (.agg [.int .i64 (S.ox k), .int .i64 (S.oy k), .ls 4 (kJ (reg L))])) ?_
    dsimp only [jF,jt,jr,jb,jQ,jw,qX,qH,j7,j9]
    rw [qA habs, show kv0 ++ xC S G ++ [(kQ k, D.agg [.int .i64 (S.ox k), .int .i64 (S.oy k), .ls 4 (kJ (reg L))])] = kv0 ++ xC S (G ++ [(k, L)]) by rw [kf4, List.append_assoc]; rfl]
    exact Rt.cut (Nat.le_refl _) ⟨rfl, rfl, rfl, rfl, rfl, rfl, trivial⟩ (by simp [k8, low, vb, kX _ (hclv _), q9]) rfl
end Go.AM
