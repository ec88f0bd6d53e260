import Derived.Test.YtoaialdcgmkbgaaGreatRN11

set_option linter.all false
set_option maxHeartbeats 4000000
set_option maxRecDepth 100000
namespace Go.AM
open Go Go.RowKit Go.Proofs
def kL4 (a : Ac) : Prop := (0 <= a.act /\ a.act <= 255) /\ (0 <= a.at' /\ a.at' <= 255) /\ (-128 <= a.x /\ a.x <= 127) /\ (-128 <= a.y /\ a.y <= 127) /\ (0 <= a.w /\ a.w <= 255) /\ (0 <= a.h /\ a.h <= 255) /\ a.r.In
theorem kA0 {P : Nat -> Prop} : ∀ n, ∃ J, J <= n /\ (∀ k, k < J -> P k) /\ (J < n -> ¬ P J)
 | 0 => ⟨0, Nat.le_refl _, fun _ h => absurd h (by omega), fun h => absurd h (by omega)⟩
 | n + 1 => by
   obtain ⟨J, h1, h2, h3⟩ := kA0 (P := P) n
   by_cases hJ : J < n
   ·exact ⟨J, by omega, h2, fun _ => h3 hJ⟩
   ·by_cases hp : P J
    ·refine ⟨J + 1, by omega, fun k hk => ?_, fun h => absurd h (by omega)⟩
     by_cases e : k = J
     ·rw [e]; exact hp
     ·exact h2 k (by omega)
    ·exact ⟨J, by omega, h2, fun _ => hp⟩
theorem jP4 {ws : List Wn} (hl : ¬ (1 <= ws.length /\ ws.length <= 7)) : zA 49 [.ls 9 (ws.map kD6)] (.tup [.agg [.mp [] [], .mp [] [], .mp [] [], .mp [] [], .ls 9 []], .bool false]) := by
 refine Q5 (by rfl) ?_
 dsimp only [c_law34_Make,KW,jm,jo,jc,jn,jF,je,jt,jr,jb,ja,jd,jA,jf,j4,ji,jj,jk,jl,jL,kq,rd,get,jy,jz,jh,jg,jB,jP,jx,jD,jX,jw,env0,bA,bN,kD,jT,jS,o1,o0,og,Nat.reduceBEq,Nat.reduceAdd]
 refine kS _ _ (kv7 (z := [.mp [] [], .mp [] [], .mp [] [], .mp [] [], .ls 9 []]) (a := 4) (sz := 9) 202 (by kernel_rfl) rfl) ?_
 dsimp only [jE,jm,jo,jc,jn,jU,jK,ky,jF,je,jt,jr,jb,ja,jd,jA,jf,ji,jj,jk,jl,ju,kz,kg,jL,rd,get,jy,jz,jh,jg,jB,jP,jx,jC,jI,jD,jX,jw,bA,bO,bN,bE,kU,jR,ko,jT,jS,Nat.reduceBEq,Nat.reduceAdd]
 rw [List.length_map]
 refine ⟨fun _ => ⟨rfl, rfl⟩, fun hc => ?_⟩
 simp only [Bool.or_eq_false_iff, decide_eq_false_iff_not] at hc
 omega
theorem kT0 {n k : Nat} {s : Sf} (hs : s.Ok) : MvOk [(kQ k, jG7 s)] n fun j => if j = k then s else ⟨0, 0, false⟩ := ⟨by simp [zC], fun j _ => by
 by_cases e : j = k
 ·right
  rw [if_pos e, e]
  simp [lk]
 ·left
  rw [if_neg e]
  refine ⟨?_, rfl⟩
  simp only [lk]
  rw [if_neg (fun he => e (vE.1 he).symm)], fun j => by
 by_cases e : j = k
 ·simp only [e, if_true]; exact hs
 ·simp only [e, if_false]; unfold Sf.Ok; simp⟩
structure AnX where
 i : Nat
 S : Ws
 C : Nat -> It
noncomputable def stAn (ws : List Wn) (acs : List Ac) (L : List D) (x : AnX) : St := ⟨[(0, [], .ls 9 (ws.map kD6)), (5, [], .box 0 0), (48, [], .ls 15 (acs.map kN5)), (49, [], .int .i64 acs.length), (50, [], .int .i64 x.i)],
 [.cells [.mp (qI .u32 (vI x.S.tr.kids)) (kZ (vI x.S.tr.kids)), .mp (qI .u32 (zH x.S.tr.up)) (kZ (zH x.S.tr.up)), .mp (qI .u32 x.S.kv) (kZ x.S.kv), .mp (qI .u32 (yH x.C x.S.n)) (kZ (yH x.C x.S.n)), .ls 9 L]]⟩
theorem kx8 {n : Nat} : MvOk [] n fun _ => ⟨0, 0, false⟩ := ⟨by simp [zC], fun _ _ => .inl ⟨rfl, rfl⟩, fun _ => by unfold Sf.Ok; simp⟩
theorem jZ5 {ws : List Wn} {acs : List Ac} (hw : ∀ a ∈ ws, JB a) (ha : ∀ a ∈ acs, kL4 a) : zA 6 [.ls 9 (ws.map kD6), .ls 15 (acs.map kN5)] (.bool true) := by
 refine ji4 (by rfl) ?_
 dsimp only [c_top_TopAnew,VI,jm,jo,jc,jn,jF,je,jt,jr,jb,ja,jd,jA,jf,jq,ji,jj,jk,jl,jL,kq,rd,get,jy,jz,jh,jg,jB,jP,jx,jw,env0,bA,bN,jT,jS,o1,o0,og,Nat.reduceBEq,Nat.reduceAdd]
 refine jv jw4 ?_
 dsimp only [jE,jm,jo,jc,jn,jG,jK,ky,jF,je,jO,jt,jr,jb,ja,jd,jA,jf,jq,ji,jj,jk,jl,jL,kq,rd,get,jy,jz,jh,jg,jB,jP,jx,jw,bA,bN,lend,kw,kx,jZ,j7,kr,j9,jT,jS,Nat.reduceBEq]
 refine ⟨nofun, fun _ => ?_⟩
 by_cases hl : 1 <= ws.length /\ ws.length <= 7
 ·obtain ⟨J, hJ, hs, hJs⟩ := kA0 (P := fun k => kD7 (qU ws k).l) ws.length
  have hmk := kg6 hw hJ hs hJs hl
  by_cases hJe : J = ws.length
  ·subst hJe
   rw [decide_eq_true rfl] at hmk
   obtain ⟨n, hn⟩ : ∃ n, ws.length = n + 1 := ⟨ws.length - 1, by omega⟩
   rw [hn] at hmk
   unfold kr1 at hmk
   have hT0 := TI.start hw hs hl.2
   rw [hn, Nat.add_sub_cancel] at hT0
   refine jv hmk ?_
   dsimp only [jE,jm,jo,jc,jn,jG,jK,ky,jF,je,jO,jt,jr,jb,ja,jd,jA,jf,jq,ji,jj,jk,jl,ju,jJ,kz,kg,jL,kq,rd,get,jy,jz,jh,jg,jB,jP,jx,jC,kL,jM,jN,jH,kp,jI,jQ,jD,jX,kd,ki,jw,bA,bO,bN,bE,kU,jR,lend,ko,kw,kx,jZ,j7,kr,j9,jT,jS,Nat.reduceBEq,Nat.reduceAdd]
   rw [List.length_map]
   refine ⟨fun _ => rfl, fun h8 => ?_⟩
   have h8 : acs.length <= 8 := by simp only [Bool.not_true, Bool.false_or, decide_eq_false_iff_not] at h8; omega
   have hch0 : ChOk (wS ws n) (wS ws n) (jE8 ws) := ⟨hT0.ok, hT0.ok, rfl, hT0.c, hT0.win⟩
   have hof := yN hT0.ok
   have hcg := JX hch0 (kx8 (n := (wS ws n).n))
   have hT1 := hT0.chg (S' := wS ws n) (sf := fun _ => ⟨0, 0, false⟩) hT0.ok rfl rfl hT0.g hT0.sh
   rw [show tD (wS ws n).tr = .agg [qO .u32 (vI (wS ws n).tr.kids), qO .u32 (zH (wS ws n).tr.up)] from rfl] at hof
   unfold qO Qj at hof hcg
   rw [show (wS ws n).n = n from rfl] at hcg
   refine jv hof ?_
   dsimp only [jm,jo,jc,jn,jF,je,jt,jr,jb,ja,jd,jA,jf,jq,ji,jj,jk,jl,ju,jJ,jL,kq,rd,get,jy,jz,jh,jg,jB,jP,jx,jC,jM,jN,jH,kp,jI,jQ,jD,jX,kd,ki,jw,bA,bN,jT,jS,Nat.reduceBEq,Nat.reduceAdd]
   refine jv hcg ?_
   dsimp only [jm,jo,jc,jn,jU,jF,je,jt,jr,jb,ja,jd,jA,jf,ji,jj,jk,jl,jJ,kz,jL,rd,get,jy,jz,jh,jg,jB,jP,jx,kL,jH,kp,jI,jQ,kd,ki,jw,bA,bN,jT,jS,Nat.reduceBEq,Nat.reduceAdd]
   rw [List.length_map]
   obtain ⟨L, hL⟩ : ∃ L, kD8 ws (n + 1) = L := ⟨_, rfl⟩
   have hLc : jV L = true := by rw [<- hL]; exact ka6 ws (n + 1)
   rw [hL]
   refine jC2 (α := {x : AnX // x.i <= acs.length /\ TI ws x.S x.C}) (fun x => stAn ws acs L x.1) (fun x => acs.length - x.1.i) ?_ ⟨⟨0, wS ws n, jy3 (wS ws n) (wS ws n) (jE8 ws) fun _ => ⟨0, 0, false⟩⟩, Nat.zero_le _, hT1⟩ ⟨rfl, rfl, rfl, rfl, rfl, trivial⟩ ?_ rfl ?_
   ·rintro ⟨⟨i, S, C⟩, hi, hT⟩ I ih
    dsimp only at hi hT
    dsimp only [stAn,jE,jm,jo,jc,jn,jU,kt,jG,jK,ky,jF,je,j1,j3,kC,jt,jr,jb,ja,jd,jA,jf,ku,ji,jj,jk,jl,ju,j6,jL,rd,get,jy,jz,jh,jg,jB,jP,km,jx,jC,jw,bA,bN,kU,jR,lend,ko,kw,kx,jZ,j7,kr,j9,jT,jS,Nat.reduceBEq]
    have hSn : S.n = n := by rw [hT.n, hn]; rfl
    refine ⟨fun hj => ?_, fun hj => rfl⟩
    have hj : i < acs.length := by simp only [decide_eq_true_eq] at hj; omega
    obtain ⟨a, hr⟩ : ∃ a, acs[i]? = some a := ⟨_, List.getElem?_eq_getElem hj⟩
    have hao := ha a (List.mem_of_getElem? hr)
    unfold kL4 at hao
    have hrow : (acs.map kN5)[((i : Nat) : Int).toNat]? = some (kN5 a) := by rw [Int.toNat_natCast, List.getElem?_map, hr]; rfl
    refine ⟨⟨rfl, by omega, by rw [List.length_map]; omega⟩, kh _ _ hrow rfl ?_⟩
    dsimp only [jm,jo,jc,jn,jF,je,jt,jr,jb,ja,jd,jA,jf,jq,ji,jj,jk,jl,ju,jJ,kz,jL,kq,rd,get,jy,jz,jh,jg,jB,jP,km,jx,jC,kL,jH,kp,jI,jQ,jD,jX,kd,ki,jw,bA,bN,kU,jR,ko,jj8,jb7,jT,jS,Nat.reduceBEq,Nat.reduceAdd]
    rw [List.length_map, hn]
    obtain ⟨k, hk⟩ : ∃ k : Nat, a.at' % ((n + 1 : Nat) : Int) = k := ⟨(a.at' % ((n + 1 : Nat) : Int)).toNat, by have := Int.emod_nonneg a.at' (show ((n + 1 : Nat) : Int) ≠ 0 by omega); omega⟩
    have hkn : k <= S.n := by have := Int.emod_lt_of_pos a.at' (show (0 : Int) < ((n + 1 : Nat) : Int) by omega); omega
    rw [hk]
    refine ⟨by simp only [j5]; omega, ⟨by omega, by omega⟩, ?_⟩
    refine jv (jZ2 (n := k) (by omega)) ?_
    dsimp only [jE,jm,jo,jc,jn,jG,jK,ky,jF,je,jO,kR,kC,jt,jr,jb,ja,jd,jA,jf,jq,ji,jj,jk,jl,ju,kg,jL,kq,rd,get,jy,jz,jh,jg,jB,jP,jx,jC,kL,jM,jN,jI,jw,bA,bO,bN,bE,kU,jR,lend,ko,kw,kx,jZ,j7,kr,j9,jT,jS,Nat.reduceBEq,Nat.reduceAdd]
    refine ⟨fun _ => rfl, fun hc => ?_⟩
    simp only [Bool.or_eq_false_iff, decide_eq_false_iff_not] at hc
    have hso : a.s.Ok := by unfold Sf.Ok; omega
    clear hc
    refine jv (yI S.kv_nd (S.kv_lk hkn)) ?_
    dsimp only [Jx,jE,jm,jo,jc,jn,jK,ky,jF,je,jt,jr,jb,ja,jd,jA,jf,jq,j4,ji,jj,jk,jl,ju,jJ,kg,jL,kq,rd,get,jy,jz,jh,jg,jB,jP,km,jx,jC,kL,jM,jN,jH,kp,jI,jQ,jD,jX,kd,ki,jw,bA,bO,bN,bE,kU,jR,kD,ko,jj8,jb7,jT,jS,Nat.reduceBEq,Nat.reduceAdd]
    refine ⟨by omega, ?_⟩
    have hfew := hT.ok.few
    refine ⟨fun _ => ?_, fun hnd => ?_⟩
    ·have hdr := jw3 hT.ok hT.c hT.win hkn (a := a) hao.2.2.2.2.2.2
     unfold qO at hdr
     refine jv hdr ?_
     dsimp only [jE,jm,jo,jc,jn,kt,jG,jK,ky,jF,je,j1,jO,j0,j3,kR,kC,jt,jr,jb,ja,jd,jA,jf,ji,jj,jk,jl,jJ,jL,rd,get,jy,jz,jh,jg,jB,jP,km,jx,kL,jH,kp,jI,jQ,kd,ki,jw,bA,bN,kU,jR,lend,ko,kw,kx,jZ,j7,kr,j9,jT,jS,Nat.reduceBEq,Nat.reduceAdd]
     refine ⟨nofun, fun _ => ?_⟩
     exact ⟨by simp only [j5]; omega, kW (ih ⟨⟨i + 1, S, _⟩, hj, hT.drawn k a⟩ (by dsimp only; omega)) ⟨rfl, rfl, rfl, rfl, by simp [get], trivial⟩ ⟨rfl, trivial⟩ rfl rfl⟩
    have hk1 : kQ k ≠ 1 := fun h => by simp [h] at hnd
    have hk0 : 1 <= k := by
     have : k ≠ 0 := fun h => hk1 (YH.2 h)
     omega
    clear hnd
    refine kS _ _ (Xh (ik := .u32)) ?_
    dsimp only [zf,jm,jo,jc,jn,jK,ky,jF,je,jt,jr,jb,ja,jd,jA,zb,qC,zm,zu,jf,jq,j4,ji,jj,jk,jl,ju,jJ,jL,kq,rd,get,jy,jz,jh,jg,jB,jP,km,jx,jC,kj,kL,jM,jN,jH,jI,jQ,jD,jX,kd,ki,jw,bA,bO,bN,kU,jR,kD,ko,jj8,jb7,jT,jS,Nat.reduceBEq,Nat.reduceAdd]
    have hbk := hT.ok.size k
    refine ⟨by simp only [j5]; omega, by simp only [j5]; omega, ⟨by omega, by omega⟩, fun h1 => ?_, fun h1 => ?_⟩
    ·obtain ⟨b, hb⟩ : ∃ b : Bx, (⟨a.x, a.y, (S.B k).w, (S.B k).h, a.on, (S.B k).g, (S.B k).b, (S.B k).s, (S.B k).p⟩ : Bx) = b := ⟨_, rfl⟩
     have hok' : (S.upd k b).Ok := kr9 hT.ok (by rw [<- hb]; dsimp only; omega) (by rw [<- hb]; dsimp only; omega) (by rw [<- hb]; dsimp only; omega) (by rw [<- hb])
     have hset := KP (kv := S.kv) S.kv_nd kc2 (XR fun k => Qi _) (id := kQ k) (Kl (by omega)) hk1 (KC (by omega)) (b := b)
      (by rw [<- hb]; unfold Xy; simp only [Bool.and_eq_true, decide_eq_true_eq]; omega) (by rw [<- hb]; unfold jg3; simp only [Bool.and_eq_true, decide_eq_true_eq]; omega) (by rw [<- hb]; exact hT.g k) (by rw [<- hb]; exact hT.sh k)
      (fun h => by rw [S.kv_lk hkn] at h; cases h) (by show (QQ _ _).length <= 64; rw [YB]; omega) (fun d hd => ⟨S.B k, by rw [S.kv_lk hkn] at hd; injection hd with hd; exact hd.symm⟩)
     rw [S.upd_kv hkn] at hset
     have hboth := jg1 (S' := S.upd k b) (C := C) (sf := (fun _ => ⟨0, 0, false⟩)) (mk := []) (L := L) ⟨hT.ok, hok', rfl, hT.c, hT.win⟩ rfl kx8 hLc
     have hTI : TI ws (S.upd k b) (jy3 S (S.upd k b) C (fun _ => ⟨0, 0, false⟩)) := hT.chg hok' rfl rfl (fun j => by
      show jl0 (if j = k then b else S.B j).g = false /\ jl0 (if j = k then b else S.B j).b = false
      by_cases e : j = k
      ·rw [if_pos e, <- hb]; exact hT.g k
      ·rw [if_neg e]; exact hT.g j) (fun j => by
      show (if j = k then b else S.B j).s = true \/ reg (if j = k then b else S.B j).p = []
      by_cases e : j = k
      ·rw [if_pos e, <- hb]; exact hT.sh k
      ·rw [if_neg e]; exact hT.sh j)
     unfold qO at hset hboth
     unfold mdD at hboth
     rw [show Jx b = _ from congrArg Jx hb.symm] at hset
     unfold Jx at hset
     dsimp only at hset
     refine jv hset ?_
     dsimp only [jE,jm,jo,jc,jn,jG,jK,ky,jF,je,jO,kR,kC,jt,jr,jb,ja,jd,jA,jf,jq,ji,jj,jk,jl,ju,jJ,jL,kq,rd,get,jy,jz,jh,jg,jB,jP,jx,jC,kL,jM,jN,jH,kp,jI,jQ,jD,jX,kd,ki,jw,bA,bN,kU,jR,lend,ko,kw,kx,jZ,j7,kr,j9,jT,jS,Nat.reduceBEq,Nat.reduceAdd]
     refine ⟨nofun, fun _ => ?_⟩
     refine KD rfl ⟨rfl, by rfl, trivial⟩ (Sp.lift hboth rfl) ?_
     dsimp only [jE,jm,jo,jc,jn,jG,jK,ky,jF,je,jO,j0,kR,kC,jt,jr,jb,ja,jd,jA,zb,qC,zm,zu,jf,ji,jj,jk,jl,ju,jJ,jL,rd,get,jy,jz,jh,jg,jB,jP,km,jx,jC,kL,jM,jN,jH,kp,jI,jQ,jD,jX,kd,ki,jw,bA,bO,bN,kU,jR,lend,ko,kw,kx,jZ,j7,kr,j9,jT,jS,Nat.reduceBEq,Nat.reduceAdd]
     refine ⟨nofun, fun _ => ?_⟩
     exact ⟨by simp only [j5]; omega, kW (ih ⟨⟨i + 1, S.upd k b, _⟩, hj, hTI⟩ (by dsimp only; omega)) ⟨rfl, rfl, rfl, rfl, by simp [get], trivial⟩ ⟨rfl, trivial⟩ rfl rfl⟩
    ·refine ⟨⟨by omega, by omega⟩, by simp only [j5]; omega, by simp only [j5]; omega, ⟨by omega, by omega⟩, by simp only [j5]; omega, by simp only [j5]; omega, ?_⟩
     refine kS _ _ (vY tSf tI (kv := []) rfl (by simp [zC]) (kQ k) (jG7 a.s)) ?_
     dsimp only [zf,put,jm,jo,jc,jn,jF,je,jt,jr,jb,ja,jd,jA,jf,jq,ji,jj,jk,jl,ju,jL,kq,rd,get,jy,jz,jh,jg,jB,jP,jx,jC,jM,jN,jI,jQ,jw,bA,bN,jT,jS,Nat.reduceBEq,Nat.reduceAdd]
     obtain ⟨b, hb⟩ : ∃ b : Bx, (⟨a.x, a.y, a.w % 16 + 1, a.h % 16 + 1, (S.B k).on, (S.B k).g, (S.B k).b, (S.B k).s, (S.B k).p⟩ : Bx) = b := ⟨_, rfl⟩
     have hok' : (S.upd k b).Ok := kr9 hT.ok (by rw [<- hb]; dsimp only; omega) (by rw [<- hb]; dsimp only; omega) (by rw [<- hb]; dsimp only; omega) (by rw [<- hb])
     have hset := KP (kv := S.kv) S.kv_nd kc2 (XR fun k => Qi _) (id := kQ k) (Kl (by omega)) hk1 (KC (by omega)) (b := b)
      (by rw [<- hb]; unfold Xy; simp only [Bool.and_eq_true, decide_eq_true_eq]; omega) (by rw [<- hb]; unfold jg3; simp only [Bool.and_eq_true, decide_eq_true_eq]; omega) (by rw [<- hb]; exact hT.g k) (by rw [<- hb]; exact hT.sh k)
      (fun h => by rw [S.kv_lk hkn] at h; cases h) (by show (QQ _ _).length <= 64; rw [YB]; omega) (fun d hd => ⟨S.B k, by rw [S.kv_lk hkn] at hd; injection hd with hd; exact hd.symm⟩)
     rw [S.upd_kv hkn] at hset
     have hboth := jg1 (S' := S.upd k b) (C := C) (sf := (fun j => if j = k then a.s else ⟨0, 0, false⟩)) (mk := [(kQ k, jG7 a.s)]) (L := L) ⟨hT.ok, hok', rfl, hT.c, hT.win⟩ rfl (kT0 hso) hLc
     have hTI : TI ws (S.upd k b) (jy3 S (S.upd k b) C (fun j => if j = k then a.s else ⟨0, 0, false⟩)) := hT.chg hok' rfl rfl (fun j => by
      show jl0 (if j = k then b else S.B j).g = false /\ jl0 (if j = k then b else S.B j).b = false
      by_cases e : j = k
      ·rw [if_pos e, <- hb]; exact hT.g k
      ·rw [if_neg e]; exact hT.g j) (fun j => by
      show (if j = k then b else S.B j).s = true \/ reg (if j = k then b else S.B j).p = []
      by_cases e : j = k
      ·rw [if_pos e, <- hb]; exact hT.sh k
      ·rw [if_neg e]; exact hT.sh j)
     unfold qO at hset hboth
     unfold mdD at hboth
     rw [show Jx b = _ from congrArg Jx hb.symm] at hset
     unfold Jx at hset
     dsimp only at hset
     refine jv hset ?_
     dsimp only [jE,jm,jo,jc,jn,jG,jK,ky,jF,je,jO,kR,kC,jt,jr,jb,ja,jd,jA,jf,jq,ji,jj,jk,jl,ju,jJ,jL,kq,rd,get,jy,jz,jh,jg,jB,jP,jx,jC,kL,jM,jN,jH,kp,jI,jQ,jD,jX,kd,ki,jw,bA,bN,kU,jR,lend,ko,kw,kx,jZ,j7,kr,j9,jT,jS,Nat.reduceBEq,Nat.reduceAdd]
     refine ⟨nofun, fun _ => ?_⟩
     refine KD rfl ⟨rfl, by rfl, trivial⟩ (Sp.lift hboth rfl) ?_
     dsimp only [jE,jm,jo,jc,jn,jG,jK,ky,jF,je,jO,j0,kR,kC,jt,jr,jb,ja,jd,jA,zb,qC,zm,zu,jf,ji,jj,jk,jl,ju,jJ,jL,rd,get,jy,jz,jh,jg,jB,jP,km,jx,jC,kL,jM,jN,jH,kp,jI,jQ,jD,jX,kd,ki,jw,bA,bO,bN,kU,jR,lend,ko,kw,kx,jZ,j7,kr,j9,jT,jS,Nat.reduceBEq,Nat.reduceAdd]
     refine ⟨nofun, fun _ => ?_⟩
     exact ⟨by simp only [j5]; omega, kW (ih ⟨⟨i + 1, S.upd k b, _⟩, hj, hTI⟩ (by dsimp only; omega)) ⟨rfl, rfl, rfl, rfl, by simp [get], trivial⟩ ⟨rfl, trivial⟩ rfl rfl⟩
   ·exact ⟨rfl, trivial⟩
   ·rfl
  ·rw [decide_eq_false hJe] at hmk
   cases J with
   | zero =>
     unfold kr1 at hmk
     refine jv hmk ?_
     dsimp only [jE,jm,jo,jc,jn,jG,jK,ky,jF,je,jO,jt,jr,jb,ja,jd,jA,jf,jq,ji,jj,jk,jl,ju,jJ,kz,kg,jL,kq,rd,get,jy,jz,jh,jg,jB,jP,jx,jC,kL,jM,jN,jH,kp,jI,jQ,jD,jX,kd,ki,jw,bA,bO,bN,bE,kU,jR,lend,ko,kw,kx,jZ,j7,kr,j9,jT,jS,Nat.reduceBEq,Nat.reduceAdd]
     exact ⟨fun _ => rfl, fun h => absurd h (by simp)⟩
   | succ j =>
     unfold kr1 at hmk
     refine jv hmk ?_
     dsimp only [jE,jm,jo,jc,jn,jG,jK,ky,jF,je,jO,jt,jr,jb,ja,jd,jA,jf,jq,ji,jj,jk,jl,ju,jJ,kz,kg,jL,kq,rd,get,jy,jz,jh,jg,jB,jP,jx,jC,kL,jM,jN,jH,kp,jI,jQ,jD,jX,kd,ki,jw,bA,bO,bN,bE,kU,jR,lend,ko,kw,kx,jZ,j7,kr,j9,jT,jS,Nat.reduceBEq,Nat.reduceAdd]
     exact ⟨fun _ => rfl, fun h => absurd h (by simp)⟩
 ·refine jv (jP4 hl) ?_
  dsimp only [jE,jm,jo,jc,jn,jG,jK,ky,jF,je,jO,jt,jr,jb,ja,jd,jA,jf,jq,ji,jj,jk,jl,ju,jJ,kz,kg,jL,kq,rd,get,jy,jz,jh,jg,jB,jP,jx,jC,kL,jM,jN,jH,kp,jI,jQ,jD,jX,kd,ki,jw,bA,bO,bN,bE,kU,jR,lend,ko,kw,kx,jZ,j7,kr,j9,jT,jS,Nat.reduceBEq,Nat.reduceAdd]
  exact ⟨fun _ => rfl, fun h => absurd h (by simp)⟩
end Go.AM
