import Derived.Test.YtoaialdcgmkbgaaGreatRN9

set_option linter.all false
set_option maxHeartbeats 1000000
namespace Go.AM
open Go Go.RowKit Go.Proofs
def kG4 (ws : List Wn) (k : Nat) : D := if k = 0 then .agg [.int .i64 (-1), .int .i64 0, .int .i64 0, .int .i64 (wW (qU ws 0)), .int .i64 (wH (qU ws 0)), .bool true, .bool false, .ls 4 [], .ls 1 (gl (wW (qU ws 0)) (wH (qU ws 0)) (Xr (qU ws 0).ink))] else
 .agg [.int .i64 (XW ws k), .int .i64 (qU ws k).x, .int .i64 (qU ws k).y, .int .i64 (wW (qU ws k)), .int .i64 (wH (qU ws k)), .bool (qU ws k).on, .bool (qU ws k).s, .ls 4 (kJ (wL (qU ws k))), .ls 1 (gl (wW (qU ws k)) (wH (qU ws k)) (Xr (qU ws k).ink))]
def kD8 (ws : List Wn) (n : Nat) : List D := (List.range n).map (kG4 ws)
theorem jH3 (ws : List Wn) (n : Nat) : (kD8 ws n).length = n := by simp [kD8]
theorem jp4 (ws : List Wn) (n : Nat) : kD8 ws (n + 1) = kD8 ws n ++ [kG4 ws n] := by simp [kD8, List.range_succ]
theorem ka6 (ws : List Wn) (n : Nat) : jV (kD8 ws n) = true := by
 rw [z8]
 intro d hd
 obtain ⟨k, _, rfl⟩ := List.mem_map.1 hd
 unfold kG4
 split <;> simp [closed, jV, bA]
noncomputable def kr1 (ws : List Wn) : Nat -> D -> List D
 | 0, d => [.mp [] [], .mp [] [], .mp [] [], .mp [] [], d]
 | j + 1, d => [.mp (qI .u32 (vI (wS ws j).tr.kids)) (kZ (vI (wS ws j).tr.kids)), .mp (qI .u32 (zH (wS ws j).tr.up)) (kZ (zH (wS ws j).tr.up)), .mp (qI .u32 (wS ws j).kv) (kZ (wS ws j).kv), .mp (qI .u32 (yH (jE8 ws) j)) (kZ (yH (jE8 ws) j)), d]
noncomputable def stMk (ws : List Wn) (i : Nat) : St := ⟨[(2, [], .box 0 0), (4, [], .box 2 0), (23, [], .ls 9 (ws.map kD6)), (24, [], .int .i64 ws.length), (25, [], .int .i64 i)],
 [.cells [.mp [] [], .mp [] [], .mp [] [], .mp [] [], .ls 9 []], .arr 202 9 i (kD8 ws i), .cells (kr1 ws i (.own 1 i))]⟩
theorem kg6 {ws : List Wn} (hw : ∀ a ∈ ws, JB a) {J : Nat} (hJ : J <= ws.length) (hs : ∀ k, k < J -> kD7 (qU ws k).l) (hJs : J < ws.length -> ¬ kD7 (qU ws J).l) (hl : 1 <= ws.length /\ ws.length <= 7) :
  zA 49 [.ls 9 (ws.map kD6)] (.tup [.agg (kr1 ws J (.ls 9 (kD8 ws J))), .bool (decide (J = ws.length))]) := by
 refine Q5 (by rfl) ?_
 dsimp only [c_law34_Make,KW,jm,jo,jc,jn,jF,je,jt,jr,jb,ja,jd,jA,jf,j4,ji,jj,jk,jl,jL,kq,rd,get,jy,jz,jh,jg,jB,jP,jx,jD,jX,jw,env0,bA,bN,kD,jT,jS,o1,o0,og,Nat.reduceBEq,Nat.reduceAdd]
 refine kS _ _ (kv7 (z := [.mp [] [], .mp [] [], .mp [] [], .mp [] [], .ls 9 []]) (a := 4) (sz := 9) 202 (by kernel_rfl) rfl) ?_
 dsimp only [jE,jm,jo,jc,jn,jU,jK,ky,jF,je,jt,jr,jb,ja,jd,jA,jf,ji,jj,jk,jl,ju,kz,kg,jL,rd,get,jy,jz,jh,jg,jB,jP,jx,jC,jI,jD,jX,jw,bA,bO,bN,bE,kU,jR,ko,jT,jS,Nat.reduceBEq,Nat.reduceAdd]
 rw [List.length_map]
 refine ⟨fun hc => ?_, fun _ => ?_⟩
 ·simp only [Bool.or_eq_true, decide_eq_true_eq] at hc; omega
 refine kE (α := {i : Nat // i <= J}) (fun i => stMk ws i.1) (fun i => J - i.1) ?_ ⟨0, Nat.zero_le _⟩ (by rfl)
 rintro ⟨i, hi⟩ I ih
 dsimp only [stMk,jE,jm,jo,jc,jn,jU,kt,jK,ky,jF,je,j1,j3,kC,jt,jr,jb,ja,jd,jA,jf,ku,ji,jj,jk,jl,ju,j6,jL,rd,get,jy,jz,jh,jg,jB,jP,km,jx,jC,jI,jw,bA,bN,kU,jR,ko,kw,jT,jS,Nat.reduceBEq]
 refine ⟨fun hj => ?_, fun hj => ?_⟩
 ·have hj : i < ws.length := by simp at hj; omega
  obtain ⟨a, hr⟩ : ∃ a, ws[i]? = some a := ⟨_, List.getElem?_eq_getElem hj⟩
  have hat := kE7 hr
  have hrow : (ws.map kD6)[((i : Nat) : Int).toNat]? = some (kD6 a) := by rw [Int.toNat_natCast, List.getElem?_map, hr]; rfl
  have hok := xT hw i
  rw [hat] at hok
  have h1 := jN6 hok
  have h2 := jN7 hok
  have hok2 := hok
  unfold JB at hok2
  refine ⟨⟨rfl, by omega, by rw [List.length_map]; omega⟩, kh _ _ hrow rfl ?_⟩
  dsimp only [jm,jo,jc,jn,jF,je,jt,jr,jb,ja,jd,jA,jf,jq,ji,jj,jk,jl,ju,jJ,jL,kq,rd,get,jy,jz,jh,jg,jB,jP,km,jx,jC,kL,jH,kp,jI,jQ,jD,jX,kd,ki,jw,bA,bN,kU,jR,ko,jj8,jb7,jT,jS,Nat.reduceBEq,Nat.reduceAdd]
  refine ⟨by omega, by simp only [j5]; omega, by simp only [j5]; omega, by omega, by simp only [j5]; omega, by simp only [j5]; omega, ?_⟩
  rw [<- h1.2, <- h2.2]
  by_cases hiJ : i < J
  ·have hsm := hs i hiJ
   rw [hat] at hsm
   have hbd := kr5 hsm
   refine jv (jP0 (b := true) hok2.2.2.2.2.2.2 (by simp [hsm])) ?_
   dsimp only [jE,jm,jo,jc,jn,jK,ky,jF,je,jt,jr,jb,ja,jd,jA,jf,jq,ji,jj,jk,jl,ju,jL,kq,rd,get,jy,jz,jh,jg,jB,jP,jx,jC,kL,jI,jw,bA,bN,jT,jS,Nat.reduceBEq,Nat.reduceAdd]
   refine ⟨nofun, fun _ => ?_⟩
   refine jv (kP0 (by omega) (by omega) (by omega)) ?_
   dsimp only [jm,jo,jc,jn,jF,je,jt,jr,jb,ja,jd,jA,jf,jq,ji,jj,jk,jl,ju,jJ,jL,kq,rd,get,jy,jz,jh,jg,jB,jP,jx,jC,kj,kL,jH,kp,qB,kT,jI,jQ,jD,jX,kd,ki,jw,bA,bN,jT,jS,Nat.reduceBEq,Nat.reduceAdd]
   refine jv (kt3 (by omega) (by omega)) ?_
   dsimp only [gD,jE,jm,jo,jc,jn,jK,ky,jF,je,jt,jr,jb,ja,jd,jA,zb,qC,zm,zu,jf,jq,ji,jj,jk,jl,ju,jJ,jL,kq,rd,get,jy,jz,jh,jg,jB,jP,km,jx,jC,kj,kL,jH,kp,jI,jQ,jD,jX,kd,ki,jw,bA,bO,bN,kU,jR,ko,jj8,jb7,jT,jS,Nat.reduceBEq,Nat.reduceAdd]
   cases i with
   | zero =>
     refine ⟨fun _ => ?_, fun h => absurd h (by simp)⟩
     dsimp only [kr1]
     refine jv jO8 ?_
     rw [show tD ⟨[], []⟩ = .agg [qO .u32 (vI (wS ws 0).tr.kids), qO .u32 (zH (wS ws 0).tr.up)] from rfl]
     dsimp only [qO,jm,jo,jc,jF,je,jt,jr,jb,ja,jd,jA,jf,jq,ji,jj,jk,jl,jJ,jL,kq,rd,get,jy,jz,jh,jg,jB,jP,jx,jH,kp,jI,jQ,kd,ki,jw,bA,bN,jT,jS,Nat.reduceBEq,Nat.reduceAdd]
     have hpn := jF9 (w := wW a) (h := wH a) (by omega) (by omega)
     rw [show QQ (fun _ => Jx (VG (wW a) (wH a))) 0 = (wS ws 0).kv by
      unfold Ws.kv
      refine kI9 fun k hk => ?_
      have : k = 0 := by omega
      subst this
      rw [<- hat]; rfl] at hpn
     refine jv hpn ?_
     dsimp only [qO,jm,jo,jc,jn,jF,je,jt,jr,jb,ja,jd,jA,jf,jq,ji,jj,jk,jl,ju,jJ,jL,kq,rd,get,jy,jz,jh,jg,jB,jP,jx,jC,kL,jM,jN,jH,kp,jI,jQ,kd,ki,jw,bA,bN,jT,jS,Nat.reduceBEq,Nat.reduceAdd]
     refine jv (qV (n := 0) (by omega)) ?_
     dsimp only [jc,ja,jd,jA,jf,jq,ji,jj,jk,jl,jL,kq,rd,get,jy,jz,jh,jg,jB,jP,jx,jw,bA,bN,kU,jR,ko,jT,jS,Nat.reduceBEq]
     have hopn := jP1 (ws := ws) hw (kv := []) (by simp [zC]) nofun (by simp) (i := 0) (by omega) rfl
     have hlay := kg3 (ws := ws) (kv := []) (by simp [zC]) nofun (by simp) (i := 0)
     rw [jA8 rfl, show put [] (kQ 0) (xy (jE8 ws 0)) = yH (jE8 ws) 0 from rfl] at hlay
     rw [hat] at hopn hlay
     unfold qO at hopn hlay
     refine jv hopn ?_
     dsimp only [jE,jm,jo,jc,jn,jG,jK,ky,jF,je,jO,j0,kR,kC,jt,jr,jb,ja,jd,jA,jf,jq,ji,jj,jk,jl,ju,jJ,qg,kg,jL,kq,rd,get,jy,jz,jh,jg,jB,jP,km,jx,jC,kj,kL,jM,jN,jH,kp,jI,jQ,jD,jX,kd,ki,jw,bA,bO,bN,bE,kU,jR,kA,lend,closed,jV,ql,ko,kw,kx,jZ,j7,kr,j9,zh,jN4,jT,jS,Nat.reduceBEq,Nat.reduceAdd]
     refine ⟨fun _ => ?_, fun h => absurd h (by simp)⟩
     refine jv (qV (n := 0) (by omega)) ?_
     dsimp only [jc,ja,jd,jA,jf,jq,ji,jj,jk,jl,ju,jL,kq,rd,get,jy,jz,jh,jg,jB,jP,jx,jC,jM,jN,jI,jw,bA,bN,jT,jS,Nat.reduceBEq]
     refine jv hlay ?_
     dsimp only [jE,jm,jo,jc,jn,jG,jK,ky,jF,je,jO,j0,kR,kC,jt,jr,jb,ja,jd,jA,jf,ji,jj,jk,jl,ju,jJ,qg,kg,jL,kq,rd,get,jy,jz,jh,jg,jB,jP,km,jx,jC,kj,kL,jM,jN,jH,kp,jI,jQ,jD,jX,kd,ki,jw,bA,bO,bN,bE,kU,jR,kA,lend,closed,jV,ql,ko,kw,kx,jZ,j7,kr,j9,zh,jN4,jT,jS,Nat.reduceBEq,Nat.reduceAdd]
     refine ⟨nofun, fun _ => ?_⟩
     have hrf : D.agg [.int .i64 (-1), .int .i64 0, .int .i64 0, .int .i64 (wW a), .int .i64 (wH a), .bool true, .bool false, .ls 4 [], .ls 1 (gl (wW a) (wH a) (Xr a.ink))] = kG4 ws 0 := by unfold kG4; rw [if_pos rfl, hat]
     rw [hrf, <- jp4, jH3]
     exact ⟨⟨rfl, rfl, rfl, rfl, by simp, by simp⟩, by simp only [j5]; omega, kW (ih ⟨1, by omega⟩ (by dsimp only; omega)) ⟨rfl, rfl, rfl, rfl, by simp [get], trivial⟩ ⟨rfl, rfl, rfl, trivial⟩ rfl rfl⟩
   | succ j =>
     refine ⟨fun h => absurd h (by simp; omega), fun _ => ?_⟩
     dsimp only [kr1,jc,ja,jd,jA,jf,jq,ji,jj,jk,jl,jL,kq,rd,get,jy,jz,jh,jg,jB,jP,jx,jM,jN,jw,bA,bN,jT,jS,Nat.reduceBEq]
     have hb : jf7 ws (j + 1) = ⟨a.x, a.y, wW a, wH a, a.on, 0, 0, a.s, qL (zk (wL a))⟩ := by unfold jf7; rw [if_neg (by omega), hat]
     have hset := kF4 hw (i := j) (by omega)
     have hadd := kF8 (ws := ws) (i := j) (by omega)
     have hof := xG hbd.1 (by omega)
     have hopn := jP1 (ws := ws) hw (kv := yH (jE8 ws) j) JK kk1 (by rw [jM8]; omega) (i := j + 1) (by omega) (by unfold yH; rw [K5, if_neg (by omega)])
     have hlay := kg3 (ws := ws) (kv := yH (jE8 ws) j) JK kk1 (by rw [jM8]; omega) (i := j + 1)
     rw [jA8 (by unfold yH; rw [K5, if_neg (by omega)]), show put (yH (jE8 ws) j) (kQ (j + 1)) (xy (jE8 ws (j + 1))) = yH (jE8 ws) (j + 1) from jU0 (f := fun k => xy (jE8 ws k))] at hlay
     rw [hat] at hopn hlay
     unfold qO at hopn hlay
     rw [hb] at hset
     unfold qO Jx at hset
     dsimp only at hset
     rw [show tD (wS ws j).tr = .agg [qO .u32 (vI (wS ws j).tr.kids), qO .u32 (zH (wS ws j).tr.up)] from rfl, show tD (wS ws (j + 1)).tr = .agg [qO .u32 (vI (wS ws (j + 1)).tr.kids), qO .u32 (zH (wS ws (j + 1)).tr.up)] from rfl] at hadd
     unfold qO at hadd
     have hd : decide (((j + 1 : Nat) : Int) = 0) = decide (j + 1 = 0) := by simp; omega
     have hpar : a.up % ((j + 1 : Nat) : Int) = ((XW ws (j + 1) : Nat) : Int) := by
      unfold XW
      rw [if_neg (by omega), hat]
      have := Int.emod_nonneg a.up (show ((j + 1 : Nat) : Int) ≠ 0 by omega)
      rw [Int.toNat_of_nonneg this]
     refine ⟨by simp only [j5]; omega, ⟨by omega, by omega⟩, by simp only [j5]; omega, by simp only [j5]; omega, fun has => ?_, fun has => ?_⟩
     ·have hwl : wL a = a.l := by unfold wL; rw [if_pos has]
      rw [hwl] at hof hset
      refine jv (qV (n := j + 1) (by omega)) ?_
      dsimp only [jc,ja,jd,jA,jf,jq,ji,jj,jk,jl,ju,jL,kq,rd,get,jy,jz,jh,jg,jB,jP,jx,jC,kL,jI,jw,bA,bN,jT,jS,Nat.reduceBEq,Nat.reduceAdd]
      rw [hpar]
      refine jv (qV (n := XW ws (j + 1)) (by have := (jl3 ws).le (j + 1); omega)) ?_
      dsimp only [jc,ja,jd,jA,jq,ji,jj,jk,jl,jL,kq,rd,get,jy,jz,jh,jg,jB,jP,jx,jw,bA,bN,jT,jS,Nat.reduceBEq]
      refine jv hadd ?_
      dsimp only [jE,jm,jo,jc,jn,jK,ky,jF,je,jt,jr,jb,ja,jd,jA,jf,jq,ji,jj,jk,jl,ju,jJ,jL,kq,rd,get,jy,jz,jh,jg,jB,jP,jx,jC,kL,jM,jN,jH,kp,jI,jQ,kd,ki,jw,bA,bN,kU,jR,ko,jT,jS,Nat.reduceBEq,Nat.reduceAdd]
      refine ⟨fun _ => ?_, fun h => absurd h (by simp)⟩
      refine jv (qV (n := j + 1) (by omega)) ?_
      dsimp only [jc,ja,jd,jA,jf,jq,ji,jj,jk,jl,ju,jL,kq,rd,get,jy,jz,jh,jg,jB,jP,jx,jC,kL,jI,jw,bA,bN,jT,jS,Nat.reduceBEq,Nat.reduceAdd]
      refine jv hof ?_
      dsimp only [jc,ja,jd,jA,jf,jq,ji,jj,jk,jl,jL,kq,rd,get,jy,jz,jh,jg,jB,jP,jx,kj,jH,kp,qB,kT,kd,ki,jw,bA,bN,jT,jS,Nat.reduceBEq,Nat.reduceAdd]
      refine jv hset ?_
      dsimp only [jm,jo,jc,jn,jF,je,jt,jr,jb,ja,jd,jA,jf,jq,ji,jj,jk,jl,ju,jJ,jL,kq,rd,get,jy,jz,jh,jg,jB,jP,jx,jC,kL,jM,jN,jH,kp,jI,jQ,kd,ki,jw,bA,bN,jT,jS,Nat.reduceBEq,Nat.reduceAdd]
      refine jv (qV (n := j + 1) (by omega)) ?_
      dsimp only [jc,ja,jd,jA,jf,jq,ji,jj,jk,jl,jL,kq,rd,get,jy,jz,jh,jg,jB,jP,jx,jw,bA,bN,kU,jR,ko,jT,jS,Nat.reduceBEq]
      rw [hd]
      refine jv hopn ?_
      dsimp only [jE,jm,jo,jc,jn,jG,jK,ky,jF,je,jO,j0,kR,kC,jt,jr,jb,ja,jd,jA,jf,jq,ji,jj,jk,jl,ju,jJ,qg,kg,jL,kq,rd,get,jy,jz,jh,jg,jB,jP,km,jx,jC,kj,kL,jM,jN,jH,kp,jI,jQ,jD,jX,kd,ki,jw,bA,bO,bN,bE,kU,jR,kA,lend,closed,jV,ql,ko,kw,kx,jZ,j7,kr,j9,zh,jN4,jT,jS,Nat.reduceBEq,Nat.reduceAdd]
      refine ⟨fun _ => ?_, fun h => absurd h (by simp)⟩
      refine jv (qV (n := j + 1) (by omega)) ?_
      dsimp only [jc,ja,jd,jA,jf,jq,ji,jj,jk,jl,ju,jL,kq,rd,get,jy,jz,jh,jg,jB,jP,jx,jC,jM,jN,jI,jw,bA,bN,jT,jS,Nat.reduceBEq]
      refine jv hlay ?_
      dsimp only [jE,jm,jo,jc,jn,jG,jK,ky,jF,je,jO,j0,kR,kC,jt,jr,jb,ja,jd,jA,jf,ji,jj,jk,jl,ju,jJ,qg,kg,jL,kq,rd,get,jy,jz,jh,jg,jB,jP,km,jx,jC,kj,kL,jM,jN,jH,kp,jI,jQ,jD,jX,kd,ki,jw,bA,bO,bN,bE,kU,jR,kA,lend,closed,jV,ql,ko,kw,kx,jZ,j7,kr,j9,zh,jN4,jT,jS,Nat.reduceBEq,Nat.reduceAdd]
      refine ⟨nofun, fun _ => ?_⟩
      have hrf : D.agg [.int .i64 (XW ws (j + 1)), .int .i64 a.x, .int .i64 a.y, .int .i64 (wW a), .int .i64 (wH a), .bool a.on, .bool a.s, .ls 4 (kJ (wL a)), .ls 1 (gl (wW a) (wH a) (Xr a.ink))] = kG4 ws (j + 1) := by unfold kG4; rw [if_neg (by omega), hat]
      rw [hwl] at hrf
      first | rw [hrf] | (rw [show kJ ([] : List Rc) = [] from rfl] at hrf; rw [hrf])
      rw [<- jp4, jH3]
      exact ⟨⟨rfl, rfl, rfl, rfl, by simp only [List.length_singleton]; omega, by simp only [List.length_singleton]; omega⟩, by simp only [j5]; omega, kW (ih ⟨j + 1 + 1, by omega⟩ (by dsimp only; omega)) ⟨rfl, rfl, rfl, rfl, by simp [get], trivial⟩ ⟨rfl, rfl, rfl, trivial⟩ rfl rfl⟩
     ·have hwl : wL a = [] := by unfold wL; rw [if_neg (by rw [has]; simp)]
      rw [hwl] at hof hset
      refine jv (qV (n := j + 1) (by omega)) ?_
      dsimp only [jc,ja,jd,jA,jf,jq,ji,jj,jk,jl,ju,jL,kq,rd,get,jy,jz,jh,jg,jB,jP,jx,jC,kL,jI,jw,bA,bN,jT,jS,Nat.reduceBEq,Nat.reduceAdd]
      rw [hpar]
      refine jv (qV (n := XW ws (j + 1)) (by have := (jl3 ws).le (j + 1); omega)) ?_
      dsimp only [jc,ja,jd,jA,jq,ji,jj,jk,jl,jL,kq,rd,get,jy,jz,jh,jg,jB,jP,jx,jw,bA,bN,jT,jS,Nat.reduceBEq]
      refine jv hadd ?_
      dsimp only [jE,jm,jo,jc,jn,jK,ky,jF,je,jt,jr,jb,ja,jd,jA,jf,jq,ji,jj,jk,jl,ju,jJ,jL,kq,rd,get,jy,jz,jh,jg,jB,jP,jx,jC,kL,jM,jN,jH,kp,jI,jQ,kd,ki,jw,bA,bN,kU,jR,ko,jT,jS,Nat.reduceBEq,Nat.reduceAdd]
      refine ⟨fun _ => ?_, fun h => absurd h (by simp)⟩
      refine jv (qV (n := j + 1) (by omega)) ?_
      dsimp only [jc,ja,jd,jA,jf,jq,ji,jj,jk,jl,ju,jL,kq,rd,get,jy,jz,jh,jg,jB,jP,jx,jC,kL,jI,jw,bA,bN,jT,jS,Nat.reduceBEq,Nat.reduceAdd]
      refine jv hof ?_
      dsimp only [jc,ja,jd,jA,jf,jq,ji,jj,jk,jl,jL,kq,rd,get,jy,jz,jh,jg,jB,jP,jx,kj,jH,kp,qB,kT,kd,ki,jw,bA,bN,jT,jS,Nat.reduceBEq,Nat.reduceAdd]
      refine jv hset ?_
      dsimp only [jm,jo,jc,jn,jF,je,jt,jr,jb,ja,jd,jA,jf,jq,ji,jj,jk,jl,ju,jJ,jL,kq,rd,get,jy,jz,jh,jg,jB,jP,jx,jC,kL,jM,jN,jH,kp,jI,jQ,kd,ki,jw,bA,bN,jT,jS,Nat.reduceBEq,Nat.reduceAdd]
      refine jv (qV (n := j + 1) (by omega)) ?_
      dsimp only [jc,ja,jd,jA,jf,jq,ji,jj,jk,jl,jL,kq,rd,get,jy,jz,jh,jg,jB,jP,jx,jw,bA,bN,kU,jR,ko,jT,jS,Nat.reduceBEq]
      rw [hd]
      refine jv hopn ?_
      dsimp only [jE,jm,jo,jc,jn,jG,jK,ky,jF,je,jO,j0,kR,kC,jt,jr,jb,ja,jd,jA,jf,jq,ji,jj,jk,jl,ju,jJ,qg,kg,jL,kq,rd,get,jy,jz,jh,jg,jB,jP,km,jx,jC,kj,kL,jM,jN,jH,kp,jI,jQ,jD,jX,kd,ki,jw,bA,bO,bN,bE,kU,jR,kA,lend,closed,jV,ql,ko,kw,kx,jZ,j7,kr,j9,zh,jN4,jT,jS,Nat.reduceBEq,Nat.reduceAdd]
      refine ⟨fun _ => ?_, fun h => absurd h (by simp)⟩
      refine jv (qV (n := j + 1) (by omega)) ?_
      dsimp only [jc,ja,jd,jA,jf,jq,ji,jj,jk,jl,ju,jL,kq,rd,get,jy,jz,jh,jg,jB,jP,jx,jC,jM,jN,jI,jw,bA,bN,jT,jS,Nat.reduceBEq]
      refine jv hlay ?_
      dsimp only [jE,jm,jo,jc,jn,jG,jK,ky,jF,je,jO,j0,kR,kC,jt,jr,jb,ja,jd,jA,jf,ji,jj,jk,jl,ju,jJ,qg,kg,jL,kq,rd,get,jy,jz,jh,jg,jB,jP,km,jx,jC,kj,kL,jM,jN,jH,kp,jI,jQ,jD,jX,kd,ki,jw,bA,bO,bN,bE,kU,jR,kA,lend,closed,jV,ql,ko,kw,kx,jZ,j7,kr,j9,zh,jN4,jT,jS,Nat.reduceBEq,Nat.reduceAdd]
      refine ⟨nofun, fun _ => ?_⟩
      have hrf : D.agg [.int .i64 (XW ws (j + 1)), .int .i64 a.x, .int .i64 a.y, .int .i64 (wW a), .int .i64 (wH a), .bool a.on, .bool a.s, .ls 4 (kJ (wL a)), .ls 1 (gl (wW a) (wH a) (Xr a.ink))] = kG4 ws (j + 1) := by unfold kG4; rw [if_neg (by omega), hat]
      rw [hwl] at hrf
      first | rw [hrf] | (rw [show kJ ([] : List Rc) = [] from rfl] at hrf; rw [hrf])
      rw [<- jp4, jH3]
      exact ⟨⟨rfl, rfl, rfl, rfl, by simp only [List.length_singleton]; omega, by simp only [List.length_singleton]; omega⟩, by simp only [j5]; omega, kW (ih ⟨j + 1 + 1, by omega⟩ (by dsimp only; omega)) ⟨rfl, rfl, rfl, rfl, by simp [get], trivial⟩ ⟨rfl, rfl, rfl, trivial⟩ rfl rfl⟩
  ·have hiJ : i = J := by omega
   subst hiJ
   have hns := hJs hj
   rw [hat] at hns
   refine jv (jP0 (b := false) hok2.2.2.2.2.2.2 (by simp [hns])) ?_
   dsimp only [jE,jm,jo,jc,jn,jK,ky,jF,je,jt,jr,jb,ja,jd,jA,jf,jq,ji,jj,jk,jl,ju,jL,kq,rd,get,jy,jz,jh,jg,jB,jP,jx,jC,kL,jI,jw,bA,bN,jT,jS,Nat.reduceBEq,Nat.reduceAdd]
   refine ⟨fun _ => ?_, nofun⟩
   cases i with
   | zero =>
     dsimp only [kr1,jc,jG,jF,je,jO,kR,kC,jt,jr,jb,ja,jd,jA,jf,ji,jj,jk,jl,jJ,jL,rd,get,jy,jz,jh,jg,jB,jP,jx,jC,jM,jN,jH,kp,jI,jQ,kd,ki,jw,bA,bN,kA,lend,kw,kx,jZ,j7,kr,j9,zh,jN4,jT,jS,Nat.reduceBEq,Nat.reduceAdd]
     refine ⟨rfl, ?_⟩
     rw [show decide (0 = ws.length) = false by simp; omega]
   | succ j =>
     dsimp only [kr1,jc,jG,jF,je,jO,kR,kC,jt,jr,jb,ja,jd,jA,jf,ji,jj,jk,jl,jJ,jL,rd,get,jy,jz,jh,jg,jB,jP,jx,jC,jM,jN,jH,kp,jI,jQ,kd,ki,jw,bA,bN,kA,lend,kw,kx,jZ,j7,kr,j9,zh,jN4,jT,jS,Nat.reduceBEq,Nat.reduceAdd]
     refine ⟨rfl, ?_⟩
     rw [show decide (j + 1 = ws.length) = false by simp; omega]
 ·have hiJ : i = J := by simp at hj; omega
  subst hiJ
  cases i with
  | zero => simp only [decide_eq_false_iff_not] at hj; omega
  | succ j =>
    dsimp only [kr1,jc,jG,jF,je,jt,jr,jb,ja,jd,jA,jf,ji,jj,jk,jl,jJ,jL,rd,get,jy,jz,jh,jg,jB,jP,jx,jC,jM,jN,jH,kp,jI,jQ,kd,ki,jw,bA,bN,kA,lend,kw,kx,jZ,j7,kr,j9,zh,jN4,jT,jS,Nat.reduceBEq,Nat.reduceAdd]
    refine ⟨rfl, ?_⟩
    rw [show decide (j + 1 = ws.length) = true by simp at hj |-; omega]

def jk2 : List Wn := [⟨0, 0, 0, 3, 1, false, false, [], 5⟩]
theorem jw4 : zA 48 [] (.bool true) := by
 have hok : ∀ a ∈ jk2, JB a := fun a ha => by
  simp only [jk2, List.mem_singleton] at ha
  rw [ha]; unfold JB; simp
 have hmk := kg6 (ws := jk2) hok (J := 1) (by simp [jk2]) (fun k hk => by
  have : k = 0 := by omega
  rw [this]; simp [jk2, qU, kD7]) (fun h => by simp [jk2] at h) (by simp [jk2])
 have hS : (wS jk2 0).Ok := kL8 hok (fun k hk => by
  have : k = 0 := by simp [jk2] at hk; omega
  rw [this]; simp [jk2, qU, kD7]) (by omega)
 have hC := kr6 (ws := jk2) (n := 0)
 have hof := yN hS
 have hsh := jo1 hS hC (w := 4) (h := 2) (by omega) (by omega)
 have hrt : (wS jk2 0).root 0 0 := by
  show zN (VG _ _) 0 0
  unfold zN VG
  simp [Rc.has, jk2, qU, wW, wH]
 have hpx : xH (wS jk2 0) (jE8 jk2) (wS jk2 0).ord 0 0 = 5 := by
  have h1 := (kG2 hS hC hrt).2
  have htop : (wS jk2 0).top 0 0 = 0 := by
   have := hS.suble (hS.key_sub (hS.cl_key (hS.cl_iff.2 ⟨hrt, rfl⟩)))
   have e : (wS jk2 0).n = 0 := rfl
   omega
  rw [h1, htop]
  have h2 : (wS jk2 0).ox 0 = 0 := rfl
  have h3 : (wS jk2 0).oy 0 = 0 := rfl
  rw [h2, h3]
  rfl
 have hmk : zA 49 [.ls 9 [kD6 ⟨0, 0, 0, 3, 1, false, false, [], 5⟩]] (.tup [.agg (kr1 jk2 1 (.ls 9 (kD8 jk2 1))), .bool true]) := hmk
 unfold kr1 at hmk
 rw [show tD (wS jk2 0).tr = .agg [qO .u32 (vI (wS jk2 0).tr.kids), qO .u32 (zH (wS jk2 0).tr.up)] from rfl] at hof
 unfold qO Qj at hof
 unfold Qj qO at hsh
 refine V4 (by rfl) ?_
 dsimp only [c_top_showsAwake,J7,jm,jo,jc,jn,jF,je,jt,jr,jb,ja,jd,jA,jf,jq,ji,jj,jk,jl,jL,kq,rd,get,jy,jz,jh,jg,jB,jP,jx,kj,jH,kp,qB,kT,jD,jX,kd,ki,jw,env0,bA,bN,closed,jV,ql,jT,jS,o1,o0,og,Nat.reduceBEq,Nat.reduceAdd]
 refine jv hmk ?_
 dsimp only [jE,jm,jo,jc,jn,jG,jK,ky,jF,je,jO,jt,jr,jb,ja,jd,jA,zb,qC,zm,zu,jf,za,ji,jj,jk,jl,ju,jJ,jL,kq,rd,get,jy,jz,jh,jg,jB,jP,jx,jC,kL,jM,jN,jH,kp,jI,jQ,jD,jX,kd,ki,jw,bA,bO,bN,lend,kw,kx,jZ,j7,kr,j9,jT,jS,Nat.reduceBEq,Nat.reduceAdd]
 refine ⟨nofun, fun _ => ?_⟩
 refine xS hof ?_
 dsimp only [jc,ja,jd,jA,zb,qC,zm,zu,jf,za,ji,jj,jk,jl,ju,jL,kq,rd,get,jy,jz,jh,jg,jB,jP,jx,jC,jM,jN,jI,jw,bA,bO,bN,jT,jS,Nat.reduceBEq,Nat.reduceAdd]
 refine xS hsh ?_
 dsimp only [jm,jo,jc,jn,jF,je,jt,jr,jb,ja,jd,jA,zb,zm,zu,jf,jq,ji,jj,jk,jl,ju,jJ,jL,kq,rd,get,jy,jz,jh,jg,jB,jP,jx,jC,kL,jM,jN,jH,kp,jI,jQ,jD,jX,kd,ki,jw,bA,bO,bN,bE,kU,jR,ko,jT,jS,Nat.reduceBEq,Nat.reduceAdd]
 refine jv (fun _ => jP5 (w := 4) (h := 2) (x := 0) (y := 0) (by omega) (by omega) (by unfold vL; omega)) ?_
 dsimp only [jc,jG,jF,je,jt,jr,jb,ja,jd,jA,jf,ji,jj,jk,jl,kg,jL,rd,get,jy,jz,jh,jg,jB,jP,jx,jw,bA,bO,bN,bE,kU,jR,lend,ko,kw,kx,jZ,j7,kr,j9,jT,jS,Nat.reduceBEq]
 rw [hpx]
 rfl
structure TI (ws : List Wn) (S : Ws) (C : Nat -> It) : Prop where
 ok : S.Ok
 par : S.par = XW ws
 n : S.n = ws.length - 1
 c : COk S C
 win : ∀ k, (C k).win = true
 g : ∀ k, jl0 (S.B k).g = false /\ jl0 (S.B k).b = false
 sh : ∀ k, (S.B k).s = true \/ reg (S.B k).p = []
theorem TI.tr {ws : List Wn} {S S' : Ws} {C C' : Nat -> It} (h : TI ws S C) (h' : TI ws S' C') : S'.tr = S.tr := by
 unfold Ws.tr
 rw [h.par, h'.par, h.n, h'.n]
theorem TI.drawn {ws : List Wn} {S : Ws} {C : Nat -> It} (h : TI ws S C) (k : Nat) (a : Ac) : TI ws S (jY2 C k (kN1 S C k a)) := by
 refine ⟨h.ok, h.par, h.n, ⟨fun j hj => ?_, fun j hj => ?_⟩, fun j => ?_, h.g, h.sh⟩
 ·unfold jY2
  by_cases e : j = k
  ·rw [if_pos e, e]; exact h.c.w k (e ▸ hj)
  ·rw [if_neg e]; exact h.c.w j hj
 ·unfold jY2
  by_cases e : j = k
  ·rw [if_pos e, e]; exact h.c.h k (e ▸ hj)
  ·rw [if_neg e]; exact h.c.h j hj
 ·unfold jY2
  by_cases e : j = k
  ·rw [if_pos e]; exact h.win k
  ·rw [if_neg e]; exact h.win j
theorem TI.chg {ws : List Wn} {S S' : Ws} {C : Nat -> It} {sf : Nat -> Sf} (h : TI ws S C) (ho : S'.Ok) (hp : S'.par = S.par) (hn : S'.n = S.n) (hg : ∀ k, jl0 (S'.B k).g = false /\ jl0 (S'.B k).b = false) (hs : ∀ k, (S'.B k).s = true \/ reg (S'.B k).p = []) : TI ws S' (jy3 S S' C sf) := by
 refine ⟨ho, hp.trans h.par, hn.trans h.n, ⟨fun j hj => ?_, fun j hj => ?_⟩, fun j => h.win j, hg, hs⟩
 ·have := ho.size j
  show (((S'.B j).w.toNat : Nat) : Int) = _
  omega
 ·have := ho.size j
  show (((S'.B j).h.toNat : Nat) : Int) = _
  omega
theorem kr9 {S : Ws} (h : S.Ok) {k : Nat} {b : Bx} (hs : (1 <= b.w /\ b.w <= 16) /\ 1 <= b.h /\ b.h <= 16) (hx : -200 <= b.x /\ b.x <= 200) (hy : -200 <= b.y /\ b.y <= 200) (hb : b.p = (S.B k).p) : (S.upd k b).Ok := by
 refine ⟨h.pw, h.few, fun j => ?_, fun j hj => ?_, fun j hj => ?_, fun j => ?_⟩
 all_goals
  rw [show (S.upd k b).B j = if j = k then b else S.B j from rfl]
  by_cases e : j = k
  ·rw [if_pos e]
   first | exact hs | exact hx | exact hy | (rw [hb]; exact h.bdd k)
  ·rw [if_neg e]
   first | exact h.size j | exact h.x j hj | exact h.y j hj | exact h.bdd j
theorem TI.start {ws : List Wn} (hw : ∀ a ∈ ws, JB a) (hs : ∀ k, k < ws.length -> kD7 (qU ws k).l) (hl : ws.length <= 7) : TI ws (wS ws (ws.length - 1)) (jE8 ws) := by
 refine ⟨kL8 hw hs (by omega), rfl, rfl, kr6, fun _ => rfl, fun k => ?_, fun k => ?_⟩
 ·rw [show (wS ws (ws.length - 1)).B k = jf7 ws k from rfl]
  unfold jf7
  split <;> exact ⟨rfl, rfl⟩
 ·rw [show (wS ws (ws.length - 1)).B k = jf7 ws k from rfl]
  unfold jf7
  split
  ·exact .inr xJ
  ·dsimp only
   unfold wL
   cases (qU ws k).s with
   | true => exact .inl rfl
   | false =>
     right
     simp only [Bool.false_eq_true, if_false, jJ0]
     exact xJ
end Go.AM
