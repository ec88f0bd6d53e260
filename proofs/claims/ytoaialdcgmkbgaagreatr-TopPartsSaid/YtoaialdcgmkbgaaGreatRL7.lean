import Derived.Test.YtoaialdcgmkbgaaGreatRL6

set_option linter.all false
namespace Go.AM
open Go Go.RowKit Go.Proofs
theorem pr_bltM {P : Program} {gt : Nat -> Option (List D)} {t : TypeId} {bx : List Ent} {j sz : Nat} (e : TypeId) (hb : ∀ b, P.built t [(1, .map b)] = some #[.slice none 0 0, .map b]) :
  PrM P gt (.blt t 1) [.ownm j 0] bx (.agg [.own (jZ bx) 0, .ownm j 0]) (addE bx (.arr e sz 0 [])) := by
 refine PrM.of ?_
 intro F K pl w o ρ xs hF hρ hI hq hr
 obtain ⟨x, rfl, hop⟩ := VI (f := fun x => .build t #[(1, x)]) (fun _ => rfl) rfl (fun _ _ _ => rfl) hq
 have h1 := ZJ hr
 simp only [Rep] at h1
 obtain ⟨h1, b, h2⟩ := h1
 rw [kH, qI]
 obtain ⟨q1, q2⟩ := hI.addNil e sz
 refine ⟨.agg #[.slice none 0 0, .map b], w, K, _, .inl ?_, KLe.refl _, q1, q2, ?_⟩
 ·have := run_build w t #[(1, .map b)] #[.slice none 0 0, .map b] (hb b)
  simp [execOp, hop, h2, this]
 ·simp only [Rep, RepL]
  refine ⟨[.slice none 0 0, .map b], rfl, ⟨_, _, rfl, ⟨kt _ _ _ _, none, 0, 0, rfl⟩, _, _, rfl, ⟨q1 _ _ _ (h2 ▸ h1), b, rfl⟩, rfl⟩, fun c hc => ?_⟩
  simp only [List.mem_cons, List.not_mem_nil, or_false] at hc
  rcases hc with h | h <;> (rw [h]; rfl)
theorem zSh : ZV Tryz.prog 190 (.agg #[.int .i64 0, .int .i64 0, .slice none 0 0]) := by unfold ZV; kernel_rfl
theorem jC7 (K : Kn) (pl : Pl) : Rep K pl (.agg [.int .i64 0, .int .i64 0, .ls 4 []]) (.agg #[.int .i64 0, .int .i64 0, .slice none 0 0]) := by
 simp only [Rep, RepL]
 refine ⟨_, rfl, ⟨_, _, rfl, rfl, _, _, rfl, rfl, _, _, rfl, ⟨none, 0, 0, rfl, rfl, Nat.le_refl _, fun _ => rfl, .inl trivial⟩, rfl⟩, fun c hc => ?_⟩
 simp only [List.mem_cons, List.not_mem_nil, or_false] at hc
 rcases hc with h | h | h <;> (rw [h]; rfl)
noncomputable def Ws.vs (S : Ws) : List (Nat × PS) := qR S.sc (S.n + 1) 0 (q9 (S.B 0)) (q9 (S.B 0))
noncomputable def Ws.keys (S : Ws) : List Nat := S.vs.map (·.1)
noncomputable def Ws.ordL (S : Ws) (l : List Nat) : List Nat := l.filter fun k => decide (k ∈ S.keys)
noncomputable def Ws.sub (S : Ws) : List Nat := subV S.sc (S.n + 1) 0
noncomputable def Ws.ord (S : Ws) : List Nat := S.ordL S.sub
noncomputable def vwD (S : Ws) : D := .agg [.ls 1 (iL (S.ord.map idn)), .mp (mpK .u32 (vKV S S.vs)) (mpV (vKV S S.vs))]
theorem Ws.Ok.T {S : Ws} (h : S.Ok) : Tr S.sc S.n S.par := tr_mk h.pw
theorem Ws.Ok.kn {S : Ws} (h : S.Ok) : S.keys.Nodup := jm8 h.T _ _ _ _
theorem Ws.Ok.vn {S : Ws} (h : S.Ok) : NdK (vKV S S.vs) := jM5 h.kn
theorem Ws.Ok.subn {S : Ws} (h : S.Ok) : S.sub.Nodup := jN0 h.T _ _
theorem Ws.Ok.suble {S : Ws} (h : S.Ok) {k : Nat} (hk : k ∈ S.sub) : k <= S.n := jD2 h.T (Nat.zero_le _) hk
theorem Ws.Ok.subLen {S : Ws} (h : S.Ok) : S.sub.length <= 41 := by
 have := YG h.subn (N := S.n) fun i hi => h.suble hi
 have := h.few; omega
theorem Ws.below {S : Ws} : qA (kJ S.tr) (S.n + 1) 1 = S.sub.map idn := by
 have := jh8 (par := S.par) (N := S.n) (on := S.sc.on) (sh := S.sc.sh) (m := S.n + 1) (k := 0)
 exact this
theorem Ws.Ok.hg {S : Ws} (h : S.Ok) : Hg (kJ S.tr) (S.n + 1) 1 := by
 rcases hg_mk h.pw (N := S.n) (m := S.n + 1) (k := 0) (by omega) with h | h
 ·exact h
 ·omega
theorem Ws.lkv {S : Ws} {k : Nat} : (k ∈ S.keys -> ∃ c, lk (vKV S S.vs) (idn k) = some (shD S (k, c))) /\ (k ∉ S.keys -> lk (vKV S S.vs) (idn k) = none) := by
 refine ⟨fun h => ?_, fun h => Kr h⟩
 cases hl : lk (vKV S S.vs) (idn k) with
 | none =>
   exfalso
   rw [Jd] at hl
   obtain ⟨e, he, rfl⟩ := List.mem_map.1 h
   exact hl (List.mem_map.2 ⟨_, List.mem_map.2 ⟨e, he, rfl⟩, rfl⟩)
 | some d =>
   obtain ⟨e, he, hd⟩ := List.mem_map.1 (VK hl)
   simp only [Prod.mk.injEq] at hd
   have := xG.1 hd.1
   subst this
   exact ⟨e.2, by rw [<- hd.2]⟩
theorem jJ9 {S : Ws} {l : List Nat} {k : Nat} : S.ordL (l ++ [k]) = S.ordL l ++ if k ∈ S.keys then [k] else [] := by
 unfold Ws.ordL
 rw [List.filter_append]
 congr 1
 by_cases h : k ∈ S.keys <;> simp [h]
noncomputable def stVo (S : Ws) (i : Nat) : St := ⟨[(4, [], .box 2 0), (5, [], .box 5 0), (30, [], .ls 1 (iL (S.sub.map idn))), (31, [], .int .i64 S.sub.length), (32, [], .int .i64 i)],
 [.cells [.mp (mpK .u32 (kKV S.tr.kids)) (mpV (kKV S.tr.kids)), .mp (mpK .u32 (uKV S.tr.up)) (mpV (uKV S.tr.up))], .cells [.mp (mpK .u32 S.kv) (mpV S.kv)], .cells [.ls 1 [], .mp [] []], .map (mpK .u32 (vKV S S.vs)) (mpV (vKV S S.vs)),
  .arr 53 1 (S.ordL (S.sub.take i)).length (iL ((S.ordL (S.sub.take i)).map idn)), .cells [.own 4 (S.ordL (S.sub.take i)).length, .ownm 3 0]]⟩
theorem jy0 {S : Ws} (hS : S.Ok) : TSp 33 [tD S.tr, .agg [mpD .u32 S.kv]] (vwD S) := by
 have hn := hS.few
 have hsz := hS.size 0
 have hbd := hS.bdd 0
 have hsl := hS.subLen
 refine jp4 (by rfl) ?_
 dsimp only [c_view_Of, xH, jn,jH,jO,jq,jF,jJ,jo,jG,jI,iteR,regK,jh,jc,jk,jj,jb,ji,blkK,kp,kd,jd,ja,jx,fpOk,foot,km,allN,memN,jK,jl,jr,jv,jt,ju,jf,jg,je,newN,jw,jN,jP,jY,jQ,jM,jS,jz,jA,jC,jD,jE,jm,jB,evX,evL,evB,rd,get,subG,memG,jT,jV,hyps,gob,impP,allP,j1,jX,j3,kj,nth,j8,kh,jU,lenB,kg,jR,entN,setE,jZ,addE,setL,setN,putE,env0,eqCs,j6,eqC,bA,bO,bN,bE,negB,kEq,ke,j5,lend,frz,frzL,zRow,j9,j7,closed,jy,jW,binI,remP,remI,retK,retG,ko,retD,ki,resL,resD,oneD,renD,renL,renE,j0,rho,jL,j4,zla,zlb,zlc,zld,zca,zcb,o1,o0,og,Nat.reduceBEq,Nat.reduceAdd,Nat.beq]
 rw [show tD S.tr = .agg [mpD .u32 (kKV S.tr.kids), mpD .u32 (uKV S.tr.up)] from rfl]
 dsimp only [mpD, jn,jH,jO,jq,jF,jJ,jo,jG,jI,iteR,regK,jh,jc,jk,jj,jb,ji,blkK,kp,kd,jd,ja,jx,fpOk,foot,km,allN,memN,jK,jl,jr,jv,jt,ju,jf,jg,je,newN,jw,jN,jP,jY,jQ,jM,jS,jz,jA,jC,jD,jE,jm,jB,evX,evL,evB,rd,get,subG,memG,jT,jV,hyps,gob,impP,allP,j1,jX,j3,kj,nth,j8,kh,jU,lenB,kg,jR,entN,setE,jZ,addE,setL,setN,putE,env0,eqCs,j6,eqC,bA,bO,bN,bE,negB,kEq,ke,j5,lend,frz,frzL,zRow,j9,j7,closed,jy,jW,binI,remP,remI,retK,retG,ko,retD,ki,resL,resD,oneD,renD,renL,renE,j0,rho,jL,j4,zla,zlb,zlc,zld,zca,zcb,o1,o0,og,Nat.reduceBEq,Nat.reduceAdd,Nat.beq]
 refine qh _ _ (jk8 (ik := .u32)) ?_
 dsimp only [mapE, jn,jH,jO,jq,jF,jJ,jo,jG,jI,iteR,regK,jh,jc,jk,jj,jb,ji,blkK,kp,kd,jd,ja,jx,fpOk,foot,km,allN,memN,jK,jl,jr,jv,jt,ju,jf,jg,je,newN,jw,jN,jP,jY,jQ,jM,jS,jz,jA,jC,jD,jE,jm,jB,evX,evL,evB,rd,get,subG,memG,jT,jV,hyps,gob,impP,allP,j1,jX,j3,kj,nth,j8,kh,jU,lenB,kg,jR,entN,setE,jZ,addE,setL,setN,putE,env0,eqCs,j6,eqC,bA,bO,bN,bE,negB,kEq,ke,j5,lend,frz,frzL,zRow,j9,j7,closed,jy,jW,binI,remP,remI,retK,retG,ko,retD,ki,resL,resD,oneD,renD,renL,renE,j0,rho,jL,j4,zla,zlb,zlc,zld,zca,zcb,o1,o0,og,Nat.reduceBEq,Nat.reduceAdd,Nat.beq]
 refine qh _ _ (pr_bltM (sz := 1) 53 (fun b => by kernel_rfl)) ?_
 dsimp only [mapE, jn,jH,jO,jq,jF,jJ,jo,jG,jI,iteR,regK,jh,jc,jk,jj,jb,ji,blkK,kp,kd,jd,ja,jx,fpOk,foot,km,allN,memN,jK,jl,jr,jv,jt,ju,jf,jg,je,newN,jw,jN,jP,jY,jQ,jM,jS,jz,jA,jC,jD,jE,jm,jB,evX,evL,evB,rd,get,subG,memG,jT,jV,hyps,gob,impP,allP,j1,jX,j3,kj,nth,j8,kh,jU,lenB,kg,jR,entN,setE,jZ,addE,setL,setN,putE,env0,eqCs,j6,eqC,bA,bO,bN,bE,negB,kEq,ke,j5,lend,frz,frzL,zRow,j9,j7,closed,jy,jW,binI,remP,remI,retK,retG,ko,retD,ki,resL,resD,oneD,renD,renL,renE,j0,rho,jL,j4,zla,zlb,zlc,zld,zca,zcb,o1,o0,og,Nat.reduceBEq,Nat.reduceAdd,Nat.beq]
 refine kq (vC S.kv_nd (S.kv_lk (k := 0) (Nat.zero_le _))) ?_
 dsimp only [c_view_Of, xH, mapE, bxD, jn,jH,jO,jq,jF,jJ,jo,jG,jI,iteR,regK,jh,jc,jk,jj,jb,ji,blkK,kp,kd,jd,ja,jx,fpOk,foot,km,allN,memN,jK,jl,jr,jv,jt,ju,jf,jg,je,newN,jw,jN,jP,jY,jQ,jM,jS,jz,jA,jC,jD,jE,jm,jB,evX,evL,evB,rd,get,subG,memG,jT,jV,hyps,gob,impP,allP,j1,jX,j3,kj,nth,j8,kh,jU,lenB,kg,jR,entN,setE,jZ,addE,setL,setN,putE,env0,eqCs,j6,eqC,bA,bO,bN,bE,negB,kEq,ke,j5,lend,frz,frzL,zRow,j9,j7,closed,jy,jW,binI,remP,remI,retK,retG,ko,retD,ki,resL,resD,oneD,renD,renL,renE,j0,rho,jL,j4,zla,zlb,zlc,zld,zca,zcb,o1,o0,og,Nat.reduceBEq,Nat.reduceAdd,Nat.beq]
 refine ⟨fun _ => ?_, nofun⟩
 refine kq (z1 S.kv_nd (S.kv_lk (k := 0) (Nat.zero_le _)) (by omega) (by omega) hbd.1 hbd.2) ?_
 dsimp only [c_view_Of, xH, mapE, rgD, jn,jH,jO,jq,jF,jJ,jo,jG,jI,iteR,regK,jh,jc,jk,jj,jb,ji,blkK,kp,kd,jd,ja,jx,fpOk,foot,km,allN,memN,jK,jl,jr,jv,jt,ju,jf,jg,je,newN,jw,jN,jP,jY,jQ,jM,jS,jz,jA,jC,jD,jE,jm,jB,evX,evL,evB,rd,get,subG,memG,jT,jV,hyps,gob,impP,allP,j1,jX,j3,kj,nth,j8,kh,jU,lenB,kg,jR,entN,setE,jZ,addE,setL,setN,putE,env0,eqCs,j6,eqC,bA,bO,bN,bE,negB,kEq,ke,j5,lend,frz,frzL,zRow,j9,j7,closed,jy,jW,binI,remP,remI,retK,retG,ko,retD,ki,resL,resD,oneD,renD,renL,renE,j0,rho,jL,j4,zla,zlb,zlc,zld,zca,zcb,o1,o0,og,Nat.reduceBEq,Nat.reduceAdd,Nat.beq]
 have hasq := xT (b := S.B 0) (by omega) (by omega)
 have hh := jE0 hS (S.n + 1) 0 (by omega) (Nat.zero_le _) (q9 (S.B 0)) (q9 (S.B 0)) [] hasq hasq (by simp [NdK]) rfl (fun _ _ => rfl)
 rw [List.nil_append] at hh
 refine kX [1, 0, 6, 5, 3, 4] hh rfl ?_ ?_
 ·rfl
 rw [show qR S.sc (S.n + 1) 0 (q9 (S.B 0)) (q9 (S.B 0)) = S.vs from rfl]
 have hren : ∀ n, j0 [1, 0, 6, 5, 3, 4] n (hdE S (vKV S S.vs)) = [.cells [.mp (mpK .u32 S.kv) (mpV S.kv)], .cells [.mp (mpK .u32 (kKV S.tr.kids)) (mpV (kKV S.tr.kids)), .mp (mpK .u32 (uKV S.tr.up)) (mpV (uKV S.tr.up))],
   .cells [.fn 98 [.box 1 0, .box 0 0, .box 6 0, .box 5 0]], .cells [.own 4 0, .ownm 3 0], .map (mpK .u32 (vKV S S.vs)) (mpV (vKV S S.vs)), .arr 53 1 0 []] := fun n => by
  simp only [hdE, j0, renE]
  rw [qU _ zG]
  rfl
 rw [hren]
 dsimp only [c_view_Of, xH, mapE, rgD, jn,jH,jO,jq,jF,jJ,jo,jG,jI,iteR,regK,jh,jc,jk,jj,jb,ji,blkK,kp,kd,jd,ja,jx,fpOk,foot,km,allN,memN,jK,jl,jr,jv,jt,ju,jf,jg,je,newN,jw,jN,jP,jY,jQ,jM,jS,jz,jA,jC,jD,jE,jm,jB,evX,evL,evB,rd,get,subG,memG,jT,jV,hyps,gob,impP,allP,j1,jX,j3,kj,nth,j8,kh,jU,lenB,kg,jR,entN,setE,jZ,addE,setL,setN,putE,env0,eqCs,j6,eqC,bA,bO,bN,bE,negB,kEq,ke,j5,lend,frz,frzL,zRow,j9,j7,closed,jy,jW,binI,remP,remI,retK,retG,ko,retD,ki,resL,resD,oneD,renD,renL,renE,j0,rho,jL,j4,zla,zlb,zlc,zld,zca,zcb,o1,o0,og,Nat.reduceBEq,Nat.reduceAdd,Nat.beq]
 refine kq (jc2 hS.tok (by simp [hasT]) hS.hg (by rw [Ws.below, List.length_map]; omega)) ?_
 rw [Ws.below]
 dsimp only [c_view_Of, xH, mapE, rgD, jn,jH,jO,jq,jF,jJ,jo,jG,jI,iteR,regK,jh,jc,jk,jj,jb,ji,blkK,kp,kd,jd,ja,jx,fpOk,foot,km,allN,memN,jK,jl,jr,jv,jt,ju,jf,jg,je,newN,jw,jN,jP,jY,jQ,jM,jS,jz,jA,jC,jD,jE,jm,jB,evX,evL,evB,rd,get,subG,memG,jT,jV,hyps,gob,impP,allP,j1,jX,j3,kj,nth,j8,kh,jU,lenB,kg,jR,entN,setE,jZ,addE,setL,setN,putE,env0,eqCs,j6,eqC,bA,bO,bN,bE,negB,kEq,ke,j5,lend,frz,frzL,zRow,j9,j7,closed,jy,jW,binI,remP,remI,retK,retG,ko,retD,ki,resL,resD,oneD,renD,renL,renE,j0,rho,jL,j4,zla,zlb,zlc,zld,zca,zcb,o1,o0,og,Nat.reduceBEq,Nat.reduceAdd,Nat.beq]
 rw [qT, List.length_map]
 refine VM (α := {i : Nat // i <= S.sub.length}) (fun i => stVo S i.1) (fun i => S.sub.length - i.1) ?_ ⟨0, by simp⟩ ⟨rfl, rfl, rfl, rfl, rfl, trivial⟩ ?_ rfl ?_
 ·rintro ⟨i, hi⟩ I ih
  dsimp only [stVo, jn,jH,jO,jq,jF,jJ,jo,jG,jI,iteR,regK,jh,jc,jk,jj,jb,ji,blkK,kp,kd,jd,ja,jx,fpOk,foot,km,allN,memN,jK,jl,jr,jv,jt,ju,jf,jg,je,newN,jw,jN,jP,jY,jQ,jM,jS,jz,jA,jC,jD,jE,jm,jB,evX,evL,evB,rd,get,subG,memG,jT,jV,hyps,gob,impP,allP,j1,jX,j3,kj,nth,j8,kh,jU,lenB,kg,jR,entN,setE,jZ,addE,setL,setN,putE,env0,eqCs,j6,eqC,bA,bO,bN,bE,negB,kEq,ke,j5,lend,frz,frzL,zRow,j9,j7,closed,jy,jW,binI,remP,remI,retK,retG,ko,retD,ki,resL,resD,oneD,renD,renL,renE,j0,rho,jL,j4,zla,zlb,zlc,zld,zca,zcb,o1,o0,og,Nat.reduceBEq,Nat.reduceAdd,Nat.beq]
  refine ⟨fun hj => ?_, fun hj => ?_⟩
  ·have hj : i < S.sub.length := by simp at hj; omega
   obtain ⟨k, hk⟩ : ∃ k, S.sub[i] = k := ⟨_, rfl⟩
   have hrow : (iL (S.sub.map idn))[((i : Nat) : Int).toNat]? = some (.int .u32 (idn k)) := by
    rw [Int.toNat_natCast]
    have := Xu (l := S.sub.map idn) (i := i) (by rw [List.length_map]; exact hj)
    rw [this]; simp [hk]
   have htk : S.sub.take (i + 1) = S.sub.take i ++ [k] := by rw [List.take_succ_eq_append_getElem hj, hk]
   have hol : (S.ordL (S.sub.take i)).length <= 41 := Nat.le_trans (List.length_filter_le _ _) (by rw [List.length_take]; omega)
   have hos := jJ9 (S := S) (l := S.sub.take i) (k := k)
   rw [<- htk] at hos
   refine ⟨⟨rfl, by omega, by rw [qT, List.length_map]; omega⟩, ky _ _ hrow rfl ?_⟩
   dsimp only [jn,jH,jO,jq,jF,jJ,jo,jG,jI,iteR,regK,jh,jc,jk,jj,jb,ji,blkK,kp,kd,jd,ja,jx,fpOk,foot,km,allN,memN,jK,jl,jr,jv,jt,ju,jf,jg,je,newN,jw,jN,jP,jY,jQ,jM,jS,jz,jA,jC,jD,jE,jm,jB,evX,evL,evB,rd,get,subG,memG,jT,jV,hyps,gob,impP,allP,j1,jX,j3,kj,nth,j8,kh,jU,lenB,kg,jR,entN,setE,jZ,addE,setL,setN,putE,env0,eqCs,j6,eqC,bA,bO,bN,bE,negB,kEq,ke,j5,lend,frz,frzL,zRow,j9,j7,closed,jy,jW,binI,remP,remI,retK,retG,ko,retD,ki,resL,resD,oneD,renD,renL,renE,j0,rho,jL,j4,zla,zlb,zlc,zld,zca,zcb,o1,o0,og,Nat.reduceBEq,Nat.reduceAdd,Nat.beq]
   by_cases hkk : k ∈ S.keys
   ·obtain ⟨c, hc⟩ := S.lkv.1 hkk
    rw [if_pos hkk] at hos
    have hp := jk9 (P := Tryz.prog) (gt := gtab) (ik := .u32) (bx := (stVo S i).bx) (j := 3) tV tI zSh (kv := vKV S S.vs) rfl hS.vn (idn k) true (zd := .nil) (fun h => by rw [hc] at h; cases h)
    rw [hc] at hp
    refine kO _ hp ?_
    dsimp only [shD, stVo, jn,jH,jO,jq,jF,jJ,jo,jG,jI,iteR,regK,jh,jc,jk,jj,jb,ji,blkK,kp,kd,jd,ja,jx,fpOk,foot,km,allN,memN,jK,jl,jr,jv,jt,ju,jf,jg,je,newN,jw,jN,jP,jY,jQ,jM,jS,jz,jA,jC,jD,jE,jm,jB,evX,evL,evB,rd,get,subG,memG,jT,jV,hyps,gob,impP,allP,j1,jX,j3,kj,nth,j8,kh,jU,lenB,kg,jR,entN,setE,jZ,addE,setL,setN,putE,env0,eqCs,j6,eqC,bA,bO,bN,bE,negB,kEq,ke,j5,lend,frz,frzL,zRow,j9,j7,closed,jy,jW,binI,remP,remI,retK,retG,ko,retD,ki,resL,resD,oneD,renD,renL,renE,j0,rho,jL,j4,zla,zlb,zlc,zld,zca,zcb,o1,o0,og,Nat.reduceBEq,Nat.reduceAdd,Nat.beq]
    refine ⟨fun _ => ?_, nofun⟩
    dsimp only [shD, stVo, jn,jH,jO,jq,jF,jJ,jo,jG,jI,iteR,regK,jh,jc,jk,jj,jb,ji,blkK,kp,kd,jd,ja,jx,fpOk,foot,km,allN,memN,jK,jl,jr,jv,jt,ju,jf,jg,je,newN,jw,jN,jP,jY,jQ,jM,jS,jz,jA,jC,jD,jE,jm,jB,evX,evL,evB,rd,get,subG,memG,jT,jV,hyps,gob,impP,allP,j1,jX,j3,kj,nth,j8,kh,jU,lenB,kg,jR,entN,setE,jZ,addE,setL,setN,putE,env0,eqCs,j6,eqC,bA,bO,bN,bE,negB,kEq,ke,j5,lend,frz,frzL,zRow,j9,j7,closed,jy,jW,binI,remP,remI,retK,retG,ko,retD,ki,resL,resD,oneD,renD,renL,renE,j0,rho,jL,j4,zla,zlb,zlc,zld,zca,zcb,o1,o0,og,Nat.reduceBEq,Nat.reduceAdd,Nat.beq]
    refine ⟨⟨rfl, rfl, rfl, rfl, by rw [qT, List.length_map]; simp only [List.length_cons, List.length_nil]; omega, by rw [qT, List.length_map]; simp only [List.length_cons, List.length_nil]; omega⟩, by simp only [fits]; omega, ?_⟩
    rw [show iL ((S.ordL (S.sub.take i)).map idn) ++ [D.int .u32 (idn k)] = iL ((S.ordL (S.sub.take (i + 1))).map idn) by rw [hos]; simp [iL],
     show (S.ordL (S.sub.take i)).length + 1 = (S.ordL (S.sub.take (i + 1))).length by rw [hos]; simp]
    exact qa (ih ⟨i + 1, by omega⟩ (by dsimp only; omega)) ⟨rfl, rfl, rfl, rfl, rfl, trivial⟩ ⟨rfl, rfl, rfl, rfl, rfl, rfl, trivial⟩ rfl (by simp [stVo, lowB, low, lowL, qK _ zG, zn, jZ])
   ·rw [if_neg hkk, List.append_nil] at hos
    have hp := jk9 (P := Tryz.prog) (gt := gtab) (ik := .u32) (bx := (stVo S i).bx) (j := 3) tV tI zSh (kv := vKV S S.vs) rfl hS.vn (idn k) true (zd := .agg [.int .i64 0, .int .i64 0, .ls 4 []]) (fun _ => jC7)
    rw [S.lkv.2 hkk] at hp
    refine kO _ hp ?_
    dsimp only [shD, stVo, jn,jH,jO,jq,jF,jJ,jo,jG,jI,iteR,regK,jh,jc,jk,jj,jb,ji,blkK,kp,kd,jd,ja,jx,fpOk,foot,km,allN,memN,jK,jl,jr,jv,jt,ju,jf,jg,je,newN,jw,jN,jP,jY,jQ,jM,jS,jz,jA,jC,jD,jE,jm,jB,evX,evL,evB,rd,get,subG,memG,jT,jV,hyps,gob,impP,allP,j1,jX,j3,kj,nth,j8,kh,jU,lenB,kg,jR,entN,setE,jZ,addE,setL,setN,putE,env0,eqCs,j6,eqC,bA,bO,bN,bE,negB,kEq,ke,j5,lend,frz,frzL,zRow,j9,j7,closed,jy,jW,binI,remP,remI,retK,retG,ko,retD,ki,resL,resD,oneD,renD,renL,renE,j0,rho,jL,j4,zla,zlb,zlc,zld,zca,zcb,o1,o0,og,Nat.reduceBEq,Nat.reduceAdd,Nat.beq]
    refine ⟨nofun, fun _ => ?_⟩
    dsimp only [shD, stVo, jn,jH,jO,jq,jF,jJ,jo,jG,jI,iteR,regK,jh,jc,jk,jj,jb,ji,blkK,kp,kd,jd,ja,jx,fpOk,foot,km,allN,memN,jK,jl,jr,jv,jt,ju,jf,jg,je,newN,jw,jN,jP,jY,jQ,jM,jS,jz,jA,jC,jD,jE,jm,jB,evX,evL,evB,rd,get,subG,memG,jT,jV,hyps,gob,impP,allP,j1,jX,j3,kj,nth,j8,kh,jU,lenB,kg,jR,entN,setE,jZ,addE,setL,setN,putE,env0,eqCs,j6,eqC,bA,bO,bN,bE,negB,kEq,ke,j5,lend,frz,frzL,zRow,j9,j7,closed,jy,jW,binI,remP,remI,retK,retG,ko,retD,ki,resL,resD,oneD,renD,renL,renE,j0,rho,jL,j4,zla,zlb,zlc,zld,zca,zcb,o1,o0,og,Nat.reduceBEq,Nat.reduceAdd,Nat.beq]
    refine ⟨by simp only [fits]; omega, ?_⟩
    rw [<- hos]
    exact qa (ih ⟨i + 1, by omega⟩ (by dsimp only; omega)) ⟨rfl, rfl, rfl, rfl, rfl, trivial⟩ ⟨rfl, rfl, rfl, rfl, rfl, rfl, trivial⟩ rfl (by simp [stVo, lowB, low, lowL, qK _ zG, zn, jZ])
  ·have hj : i = S.sub.length := by simp at hj; omega
   subst hj
   rw [List.take_length]
   dsimp only [vwD, jn,jH,jO,jq,jF,jJ,jo,jG,jI,iteR,regK,jh,jc,jk,jj,jb,ji,blkK,kp,kd,jd,ja,jx,fpOk,foot,km,allN,memN,jK,jl,jr,jv,jt,ju,jf,jg,je,newN,jw,jN,jP,jY,jQ,jM,jS,jz,jA,jC,jD,jE,jm,jB,evX,evL,evB,rd,get,subG,memG,jT,jV,hyps,gob,impP,allP,j1,jX,j3,kj,nth,j8,kh,jU,lenB,kg,jR,entN,setE,jZ,addE,setL,setN,putE,env0,eqCs,j6,eqC,bA,bO,bN,bE,negB,kEq,ke,j5,lend,frz,frzL,zRow,j9,j7,closed,jy,jW,binI,remP,remI,retK,retG,ko,retD,ki,resL,resD,oneD,renD,renL,renE,j0,rho,jL,j4,zla,zlb,zlc,zld,zca,zcb,o1,o0,og,Nat.reduceBEq,Nat.reduceAdd,Nat.beq]
   exact ⟨rfl, rfl, zG, rfl⟩
 ·exact ⟨rfl, rfl, rfl, rfl, rfl, rfl, trivial⟩
 ·simp [stVo, lowB, low, lowL, qK _ zG, zn, jZ]

def Ws.cl (S : Ws) (k : Nat) : PS := fun x y => ∃ c, (k, c) ∈ S.vs /\ c x y
noncomputable def Ws.top (S : Ws) (x y : Int) : Nat := topV S.sc (S.n + 1) 0 x y
def Ws.root (S : Ws) : PS := q9 (S.B 0)
theorem Ws.Ok.cl_iff {S : Ws} (h : S.Ok) {k : Nat} {x y : Int} : S.cl k x y ↔ S.root x y /\ S.top x y = k := by
 constructor
 ·rintro ⟨c, hc, hx⟩
  exact YW (S.n + 1) 0 _ _ (fun _ _ h => h) _ hc hx
 ·rintro ⟨hr, rfl⟩
  obtain ⟨c, h1, h2⟩ := jg9 h.T (S.n + 1) 0 (q9 (S.B 0)) (q9 (S.B 0)) (by omega) (Nat.zero_le _) (fun _ _ h => h) hr
  exact ⟨c, h1, h2⟩
theorem Ws.Ok.cl_sh {S : Ws} (h : S.Ok) {k : Nat} {x y : Int} (hc : S.cl k x y) : S.sc.sh k x y := by
 obtain ⟨c, hc, hx⟩ := hc
 refine jG6 (S := S.sc) (S.n + 1) 0 (q9 (S.B 0)) (q9 (S.B 0)) (fun x y hr => ?_) _ hc hx
 have hs := h.size 0
 have := yR hr
 show mvP (S.ox 0) (S.oy 0) (q9 (S.B 0)) x y
 unfold Ws.ox Ws.oy
 rw [ZO, ZO]
 unfold mvP
 rw [Int.sub_zero, Int.sub_zero]
 exact ⟨hr, by omega⟩
theorem Ws.Ok.cl_key {S : Ws} (h : S.Ok) {k : Nat} {x y : Int} (hc : S.cl k x y) : k ∈ S.keys := by
 obtain ⟨c, hc, hx⟩ := hc
 exact List.mem_map.2 ⟨_, hc, rfl⟩
theorem Ws.Ok.key_sub {S : Ws} (h : S.Ok) {k : Nat} (hk : k ∈ S.keys) : k ∈ S.sub := by
 obtain ⟨e, he, rfl⟩ := List.mem_map.1 hk
 exact yH he
theorem Ws.Ok.mem_ord {S : Ws} (h : S.Ok) {k : Nat} : k ∈ S.ord ↔ k ∈ S.keys := by
 unfold Ws.ord Ws.ordL
 rw [List.mem_filter]
 constructor
 ·rintro ⟨_, h2⟩; simpa using h2
 ·intro h2; exact ⟨h.key_sub h2, by simpa using h2⟩
theorem Ws.Ok.ordn {S : Ws} (h : S.Ok) : S.ord.Nodup := h.subn.sublist (List.filter_sublist ..)
theorem Ws.Ok.ordLen {S : Ws} (h : S.Ok) : S.ord.length <= 41 := Nat.le_trans (List.length_filter_le _ _) h.subLen
theorem Ws.Ok.ordle {S : Ws} (h : S.Ok) {k : Nat} (hk : k ∈ S.ord) : k <= S.n := h.suble (h.key_sub (h.mem_ord.1 hk))
theorem Ws.Ok.clSq {S : Ws} (h : S.Ok) {k : Nat} : Sq (S.cl k) := by
 have hs := h.size 0
 exact (xT (b := S.B 0) (by omega) (by omega)).sub fun x y hc => (h.cl_iff.1 hc).1
theorem key_cl {S : Ws} (h : S.Ok) {k : Nat} {c : PS} (hc : (k, c) ∈ S.vs) : S.cl k = c := vD fun x y => by
 constructor
 ·rintro ⟨c', hc', hx⟩
  have : c' = c := by
   have hn : (S.vs.map (·.1)).Nodup := h.kn
   have key : ∀ {l : List (Nat × PS)}, (l.map (·.1)).Nodup -> (k, c) ∈ l -> (k, c') ∈ l -> c' = c := fun {l} => by
    induction l with
    | nil => intro _ h; cases h
    | cons e l ih =>
      intro hn h1 h2
      rw [List.map_cons, List.nodup_cons] at hn
      rcases List.mem_cons.1 h1 with h1 | h1 <;> rcases List.mem_cons.1 h2 with h2 | h2
      ·rw [<- h1] at h2; exact (Prod.mk.inj h2).2
      ·exact absurd (List.mem_map.2 ⟨_, h2, by rw [<- h1]⟩) hn.1
      ·exact absurd (List.mem_map.2 ⟨_, h1, by rw [<- h2]⟩) hn.1
      ·exact ih hn.2 h1 h2
   exact key hn hc hc'
  rw [<- this]; exact hx
 ·intro hx; exact ⟨c, hc, hx⟩
theorem Ws.Ok.lkc {S : Ws} (h : S.Ok) {k : Nat} : (k ∈ S.keys -> lk (vKV S S.vs) (idn k) = some (shD S (k, S.cl k))) /\ (k ∉ S.keys -> lk (vKV S S.vs) (idn k) = none /\ reg (S.cl k) = []) := by
 refine ⟨fun hk => ?_, fun hk => ⟨S.lkv.2 hk, ?_⟩⟩
 ·obtain ⟨e, he, rfl⟩ := List.mem_map.1 hk
  rw [lk_vKV h.kn he, key_cl h (k := e.1) (c := e.2) he]
 ·refine (KL h.clSq.bdd).2 fun x y hc => hk (h.cl_key hc)
theorem jk7 {S : Ws} (h : S.Ok) {k : Nat} (hk : k ∈ S.keys) (c : Bool) {bx : List Ent} : PrM Tryz.prog gtab (.lkp 96 c) [.mp (mpK .u32 (vKV S S.vs)) (mpV (vKV S S.vs)), .int .u32 (idn k)] bx (lkD c (some (shD S (k, S.cl k))) .nil) bx := by
 have := Ja (gt := gtab) (bx := bx) tV tI zSh h.vn (idn k) c (zd := .nil) (fun h' => by rw [h.lkc.1 hk] at h'; cases h')
 rw [h.lkc.1 hk] at this; exact this
theorem jQ0 {S : Ws} (h : S.Ok) {k : Nat} (hk : k ∉ S.keys) (c : Bool) {bx : List Ent} : PrM Tryz.prog gtab (.lkp 96 c) [.mp (mpK .u32 (vKV S S.vs)) (mpV (vKV S S.vs)), .int .u32 (idn k)] bx (lkD c none (.agg [.int .i64 0, .int .i64 0, .ls 4 []])) bx := by
 have := Ja (gt := gtab) (bx := bx) tV tI zSh h.vn (idn k) c (zd := .agg [.int .i64 0, .int .i64 0, .ls 4 []]) (fun _ => jC7)
 rw [(h.lkc.2 hk).1] at this; exact this
theorem Jp {S : Ws} (h : S.Ok) : TSp 34 [vwD S] (.ls 1 (iL (S.ord.map idn))) := by
 refine JG (by rfl) ?_
 dsimp only [c_view_View_Windows, zX, vwD, jn,jH,jO,jq,jF,jJ,jo,jG,jI,iteR,regK,jh,jc,jk,jj,jb,ji,blkK,kp,kd,jd,ja,jx,fpOk,foot,km,allN,memN,jK,jl,jr,jv,jt,ju,jf,jg,je,newN,jw,jN,jP,jY,jQ,jM,jS,jz,jA,jC,jD,jE,jm,jB,evX,evL,evB,rd,get,subG,memG,jT,jV,hyps,gob,impP,allP,j1,jX,j3,kj,nth,j8,kh,jU,lenB,kg,jR,entN,setE,jZ,addE,setL,setN,putE,env0,eqCs,j6,eqC,bA,bO,bN,bE,negB,kEq,ke,j5,lend,frz,frzL,zRow,j9,j7,closed,jy,jW,binI,remP,remI,retK,retG,ko,retD,ki,resL,resD,oneD,renD,renL,renE,j0,rho,jL,j4,zla,zlb,zlc,zld,zca,zcb,o1,o0,og,Nat.reduceBEq,Nat.reduceAdd,Nat.beq]
 refine kq (Jq (by rw [List.length_map]; have := h.ordLen; omega)) ?_
 dsimp only [c_view_View_Windows, zX, vwD, jn,jH,jO,jq,jF,jJ,jo,jG,jI,iteR,regK,jh,jc,jk,jj,jb,ji,blkK,kp,kd,jd,ja,jx,fpOk,foot,km,allN,memN,jK,jl,jr,jv,jt,ju,jf,jg,je,newN,jw,jN,jP,jY,jQ,jM,jS,jz,jA,jC,jD,jE,jm,jB,evX,evL,evB,rd,get,subG,memG,jT,jV,hyps,gob,impP,allP,j1,jX,j3,kj,nth,j8,kh,jU,lenB,kg,jR,entN,setE,jZ,addE,setL,setN,putE,env0,eqCs,j6,eqC,bA,bO,bN,bE,negB,kEq,ke,j5,lend,frz,frzL,zRow,j9,j7,closed,jy,jW,binI,remP,remI,retK,retG,ko,retD,ki,resL,resD,oneD,renD,renL,renE,j0,rho,jL,j4,zla,zlb,zlc,zld,zca,zcb,o1,o0,og,Nat.reduceBEq,Nat.reduceAdd,Nat.beq]
theorem y5 {S : Ws} (h : S.Ok) {k : Nat} : TSp 35 [vwD S, .int .u32 (idn k)] (rgD (S.cl k)) := by
 refine Qz (by rfl) ?_
 dsimp only [c_view_View_Clip, zS, vwD, rgD, jn,jH,jO,jq,jF,jJ,jo,jG,jI,iteR,regK,jh,jc,jk,jj,jb,ji,blkK,kp,kd,jd,ja,jx,fpOk,foot,km,allN,memN,jK,jl,jr,jv,jt,ju,jf,jg,je,newN,jw,jN,jP,jY,jQ,jM,jS,jz,jA,jC,jD,jE,jm,jB,evX,evL,evB,rd,get,subG,memG,jT,jV,hyps,gob,impP,allP,j1,jX,j3,kj,nth,j8,kh,jU,lenB,kg,jR,entN,setE,jZ,addE,setL,setN,putE,env0,eqCs,j6,eqC,bA,bO,bN,bE,negB,kEq,ke,j5,lend,frz,frzL,zRow,j9,j7,closed,jy,jW,binI,remP,remI,retK,retG,ko,retD,ki,resL,resD,oneD,renD,renL,renE,j0,rho,jL,j4,zla,zlb,zlc,zld,zca,zcb,o1,o0,og,Nat.reduceBEq,Nat.reduceAdd,Nat.beq]
 by_cases hk : k ∈ S.keys
 ·refine kO _ (jk7 h hk false) ?_
  dsimp only [c_view_View_Clip, zS, lkD, shD, rgD, jn,jH,jO,jq,jF,jJ,jo,jG,jI,iteR,regK,jh,jc,jk,jj,jb,ji,blkK,kp,kd,jd,ja,jx,fpOk,foot,km,allN,memN,jK,jl,jr,jv,jt,ju,jf,jg,je,newN,jw,jN,jP,jY,jQ,jM,jS,jz,jA,jC,jD,jE,jm,jB,evX,evL,evB,rd,get,subG,memG,jT,jV,hyps,gob,impP,allP,j1,jX,j3,kj,nth,j8,kh,jU,lenB,kg,jR,entN,setE,jZ,addE,setL,setN,putE,env0,eqCs,j6,eqC,bA,bO,bN,bE,negB,kEq,ke,j5,lend,frz,frzL,zRow,j9,j7,closed,jy,jW,binI,remP,remI,retK,retG,ko,retD,ki,resL,resD,oneD,renD,renL,renE,j0,rho,jL,j4,zla,zlb,zlc,zld,zca,zcb,o1,o0,og,Nat.reduceBEq,Nat.reduceAdd,Nat.beq]
 ·refine kO _ (jQ0 h hk false) ?_
  dsimp only [c_view_View_Clip, zS, lkD, shD, rgD, jn,jH,jO,jq,jF,jJ,jo,jG,jI,iteR,regK,jh,jc,jk,jj,jb,ji,blkK,kp,kd,jd,ja,jx,fpOk,foot,km,allN,memN,jK,jl,jr,jv,jt,ju,jf,jg,je,newN,jw,jN,jP,jY,jQ,jM,jS,jz,jA,jC,jD,jE,jm,jB,evX,evL,evB,rd,get,subG,memG,jT,jV,hyps,gob,impP,allP,j1,jX,j3,kj,nth,j8,kh,jU,lenB,kg,jR,entN,setE,jZ,addE,setL,setN,putE,env0,eqCs,j6,eqC,bA,bO,bN,bE,negB,kEq,ke,j5,lend,frz,frzL,zRow,j9,j7,closed,jy,jW,binI,remP,remI,retK,retG,ko,retD,ki,resL,resD,oneD,renD,renL,renE,j0,rho,jL,j4,zla,zlb,zlc,zld,zca,zcb,o1,o0,og,Nat.reduceBEq,Nat.reduceAdd,Nat.beq]
  rw [(h.lkc.2 hk).2]; rfl
theorem J1 {S : Ws} (h : S.Ok) {k : Nat} (hk : k ∈ S.keys) : TSp 36 [vwD S, .int .u32 (idn k)] (.tup [.agg [.int .i64 (S.ox k), .int .i64 (S.oy k)], .bool true]) := by
 refine JX (by rfl) ?_
 dsimp only [c_view_View_Origin, vk, vwD, rgD, jn,jH,jO,jq,jF,jJ,jo,jG,jI,iteR,regK,jh,jc,jk,jj,jb,ji,blkK,kp,kd,jd,ja,jx,fpOk,foot,km,allN,memN,jK,jl,jr,jv,jt,ju,jf,jg,je,newN,jw,jN,jP,jY,jQ,jM,jS,jz,jA,jC,jD,jE,jm,jB,evX,evL,evB,rd,get,subG,memG,jT,jV,hyps,gob,impP,allP,j1,jX,j3,kj,nth,j8,kh,jU,lenB,kg,jR,entN,setE,jZ,addE,setL,setN,putE,env0,eqCs,j6,eqC,bA,bO,bN,bE,negB,kEq,ke,j5,lend,frz,frzL,zRow,j9,j7,closed,jy,jW,binI,remP,remI,retK,retG,ko,retD,ki,resL,resD,oneD,renD,renL,renE,j0,rho,jL,j4,zla,zlb,zlc,zld,zca,zcb,o1,o0,og,Nat.reduceBEq,Nat.reduceAdd,Nat.beq]
 refine kO _ (jk7 h hk true) ?_
 dsimp only [c_view_View_Origin, vk, lkD, shD, rgD, jn,jH,jO,jq,jF,jJ,jo,jG,jI,iteR,regK,jh,jc,jk,jj,jb,ji,blkK,kp,kd,jd,ja,jx,fpOk,foot,km,allN,memN,jK,jl,jr,jv,jt,ju,jf,jg,je,newN,jw,jN,jP,jY,jQ,jM,jS,jz,jA,jC,jD,jE,jm,jB,evX,evL,evB,rd,get,subG,memG,jT,jV,hyps,gob,impP,allP,j1,jX,j3,kj,nth,j8,kh,jU,lenB,kg,jR,entN,setE,jZ,addE,setL,setN,putE,env0,eqCs,j6,eqC,bA,bO,bN,bE,negB,kEq,ke,j5,lend,frz,frzL,zRow,j9,j7,closed,jy,jW,binI,remP,remI,retK,retG,ko,retD,ki,resL,resD,oneD,renD,renL,renE,j0,rho,jL,j4,zla,zlb,zlc,zld,zca,zcb,o1,o0,og,Nat.reduceBEq,Nat.reduceAdd,Nat.beq]
def Ws.vis (S : Ws) (k : Nat) : PS := mvP (-(S.ox k)) (-(S.oy k)) (S.cl k)
theorem XK {S : Ws} (h : S.Ok) {k : Nat} (hk : k <= S.n) : TSp 37 [vwD S, .int .u32 (idn k)] (rgD (S.vis k)) := by
 have hb := h.orgB hk
 have hq := h.clSq (k := k)
 refine JH (by rfl) ?_
 dsimp only [c_view_View_Visible, qB, vwD, rgD, jn,jH,jO,jq,jF,jJ,jo,jG,jI,iteR,regK,jh,jc,jk,jj,jb,ji,blkK,kp,kd,jd,ja,jx,fpOk,foot,km,allN,memN,jK,jl,jr,jv,jt,ju,jf,jg,je,newN,jw,jN,jP,jY,jQ,jM,jS,jz,jA,jC,jD,jE,jm,jB,evX,evL,evB,rd,get,subG,memG,jT,jV,hyps,gob,impP,allP,j1,jX,j3,kj,nth,j8,kh,jU,lenB,kg,jR,entN,setE,jZ,addE,setL,setN,putE,env0,eqCs,j6,eqC,bA,bO,bN,bE,negB,kEq,ke,j5,lend,frz,frzL,zRow,j9,j7,closed,jy,jW,binI,remP,remI,retK,retG,ko,retD,ki,resL,resD,oneD,renD,renL,renE,j0,rho,jL,j4,zla,zlb,zlc,zld,zca,zcb,o1,o0,og,Nat.reduceBEq,Nat.reduceAdd,Nat.beq]
 by_cases hkk : k ∈ S.keys
 ·refine kO _ (jk7 h hkk false) ?_
  dsimp only [c_view_View_Visible, qB, lkD, shD, rgD, jn,jH,jO,jq,jF,jJ,jo,jG,jI,iteR,regK,jh,jc,jk,jj,jb,ji,blkK,kp,kd,jd,ja,jx,fpOk,foot,km,allN,memN,jK,jl,jr,jv,jt,ju,jf,jg,je,newN,jw,jN,jP,jY,jQ,jM,jS,jz,jA,jC,jD,jE,jm,jB,evX,evL,evB,rd,get,subG,memG,jT,jV,hyps,gob,impP,allP,j1,jX,j3,kj,nth,j8,kh,jU,lenB,kg,jR,entN,setE,jZ,addE,setL,setN,putE,env0,eqCs,j6,eqC,bA,bO,bN,bE,negB,kEq,ke,j5,lend,frz,frzL,zRow,j9,j7,closed,jy,jW,binI,remP,remI,retK,retG,ko,retD,ki,resL,resD,oneD,renD,renL,renE,j0,rho,jL,j4,zla,zlb,zlc,zld,zca,zcb,o1,o0,og,Nat.reduceBEq,Nat.reduceAdd,Nat.beq]
  refine ⟨by simp only [fits]; omega, by simp only [fits]; omega, kq (ZD hq.bdd (by omega) (by omega) (Nat.le_trans hq.len (by omega))) ?_⟩
  dsimp only [c_view_View_Visible, qB, lkD, shD, rgD, jn,jH,jO,jq,jF,jJ,jo,jG,jI,iteR,regK,jh,jc,jk,jj,jb,ji,blkK,kp,kd,jd,ja,jx,fpOk,foot,km,allN,memN,jK,jl,jr,jv,jt,ju,jf,jg,je,newN,jw,jN,jP,jY,jQ,jM,jS,jz,jA,jC,jD,jE,jm,jB,evX,evL,evB,rd,get,subG,memG,jT,jV,hyps,gob,impP,allP,j1,jX,j3,kj,nth,j8,kh,jU,lenB,kg,jR,entN,setE,jZ,addE,setL,setN,putE,env0,eqCs,j6,eqC,bA,bO,bN,bE,negB,kEq,ke,j5,lend,frz,frzL,zRow,j9,j7,closed,jy,jW,binI,remP,remI,retK,retG,ko,retD,ki,resL,resD,oneD,renD,renL,renE,j0,rho,jL,j4,zla,zlb,zlc,zld,zca,zcb,o1,o0,og,Nat.reduceBEq,Nat.reduceAdd,Nat.beq]
  rfl
 ·refine kO _ (jQ0 h hkk false) ?_
  dsimp only [c_view_View_Visible, qB, lkD, shD, rgD, jn,jH,jO,jq,jF,jJ,jo,jG,jI,iteR,regK,jh,jc,jk,jj,jb,ji,blkK,kp,kd,jd,ja,jx,fpOk,foot,km,allN,memN,jK,jl,jr,jv,jt,ju,jf,jg,je,newN,jw,jN,jP,jY,jQ,jM,jS,jz,jA,jC,jD,jE,jm,jB,evX,evL,evB,rd,get,subG,memG,jT,jV,hyps,gob,impP,allP,j1,jX,j3,kj,nth,j8,kh,jU,lenB,kg,jR,entN,setE,jZ,addE,setL,setN,putE,env0,eqCs,j6,eqC,bA,bO,bN,bE,negB,kEq,ke,j5,lend,frz,frzL,zRow,j9,j7,closed,jy,jW,binI,remP,remI,retK,retG,ko,retD,ki,resL,resD,oneD,renD,renL,renE,j0,rho,jL,j4,zla,zlb,zlc,zld,zca,zcb,o1,o0,og,Nat.reduceBEq,Nat.reduceAdd,Nat.beq]
  have hsh := ZD (P := noP) X1 (dx := -0) (dy := -0) (by omega) (by omega) (by rw [Kb]; simp)
  rw [Kb] at hsh
  refine ⟨by simp only [fits]; omega, by simp only [fits]; omega, kq hsh ?_⟩
  dsimp only [c_view_View_Visible, qB, lkD, shD, rgD, jn,jH,jO,jq,jF,jJ,jo,jG,jI,iteR,regK,jh,jc,jk,jj,jb,ji,blkK,kp,kd,jd,ja,jx,fpOk,foot,km,allN,memN,jK,jl,jr,jv,jt,ju,jf,jg,je,newN,jw,jN,jP,jY,jQ,jM,jS,jz,jA,jC,jD,jE,jm,jB,evX,evL,evB,rd,get,subG,memG,jT,jV,hyps,gob,impP,allP,j1,jX,j3,kj,nth,j8,kh,jU,lenB,kg,jR,entN,setE,jZ,addE,setL,setN,putE,env0,eqCs,j6,eqC,bA,bO,bN,bE,negB,kEq,ke,j5,lend,frz,frzL,zRow,j9,j7,closed,jy,jW,binI,remP,remI,retK,retG,ko,retD,ki,resL,resD,oneD,renD,renL,renE,j0,rho,jL,j4,zla,zlb,zlc,zld,zca,zcb,o1,o0,og,Nat.reduceBEq,Nat.reduceAdd,Nat.beq]
  rw [show reg (mvP (-0) (-0) noP) = reg (S.vis k) from xW fun x y => ⟨fun h => h.1.elim, fun hv => absurd (h.cl_key hv.1) hkk⟩]
noncomputable def stAt (S : Ws) (x y : Int) (i : Nat) : St := ⟨[(1, [], .int .i64 x), (2, [], .int .i64 y), (3, [], .box 0 0), (11, [], .ls 1 (iL (S.ord.map idn))), (12, [], .int .i64 S.ord.length), (13, [], .int .i64 i)],
 [.cells [.ls 1 (iL (S.ord.map idn)), .mp (mpK .u32 (vKV S S.vs)) (mpV (vKV S S.vs))]]⟩
theorem VB {S : Ws} (h : S.Ok) {k : Nat} {x y : Int} {b : Bool} (hb : b = true ↔ S.cl k x y) : TSp 45 [rgD (S.cl k), .int .i64 x, .int .i64 y] (.bool b) :=
 jN9 (jk4 h.clSq.bdd) (x9 h.clSq.bdd) (Nat.le_trans h.clSq.len (by omega)) (by rw [hb, y7 h.clSq.bdd])
theorem jy1 {S : Ws} (h : S.Ok) {x y : Int} (hr : S.root x y) : TSp 43 [vwD S, .int .i64 x, .int .i64 y] (.tup [.int .u32 (idn (S.top x y)), .bool true]) := by
 have hol := h.ordLen
 have htop : S.cl (S.top x y) x y := h.cl_iff.2 ⟨hr, rfl⟩
 have htm : S.top x y ∈ S.ord := h.mem_ord.2 (h.cl_key htop)
 refine Vp (by rfl) ?_
 dsimp only [c_view_View_At, Kd, vwD, rgD, jn,jH,jO,jq,jF,jJ,jo,jG,jI,iteR,regK,jh,jc,jk,jj,jb,ji,blkK,kp,kd,jd,ja,jx,fpOk,foot,km,allN,memN,jK,jl,jr,jv,jt,ju,jf,jg,je,newN,jw,jN,jP,jY,jQ,jM,jS,jz,jA,jC,jD,jE,jm,jB,evX,evL,evB,rd,get,subG,memG,jT,jV,hyps,gob,impP,allP,j1,jX,j3,kj,nth,j8,kh,jU,lenB,kg,jR,entN,setE,jZ,addE,setL,setN,putE,env0,eqCs,j6,eqC,bA,bO,bN,bE,negB,kEq,ke,j5,lend,frz,frzL,zRow,j9,j7,closed,jy,jW,binI,remP,remI,retK,retG,ko,retD,ki,resL,resD,oneD,renD,renL,renE,j0,rho,jL,j4,zla,zlb,zlc,zld,zca,zcb,o1,o0,og,Nat.reduceBEq,Nat.reduceAdd,Nat.beq]
 rw [qT, List.length_map]
 refine kG (α := {i : Nat // i <= S.ord.length /\ S.top x y ∉ S.ord.take i}) (fun i => stAt S x y i.1) (fun i => S.ord.length - i.1) ?_ ⟨0, by simp⟩ rfl
 rintro ⟨i, hi, hno⟩ I ih
 dsimp only [stAt, jn,jH,jO,jq,jF,jJ,jo,jG,jI,iteR,regK,jh,jc,jk,jj,jb,ji,blkK,kp,kd,jd,ja,jx,fpOk,foot,km,allN,memN,jK,jl,jr,jv,jt,ju,jf,jg,je,newN,jw,jN,jP,jY,jQ,jM,jS,jz,jA,jC,jD,jE,jm,jB,evX,evL,evB,rd,get,subG,memG,jT,jV,hyps,gob,impP,allP,j1,jX,j3,kj,nth,j8,kh,jU,lenB,kg,jR,entN,setE,jZ,addE,setL,setN,putE,env0,eqCs,j6,eqC,bA,bO,bN,bE,negB,kEq,ke,j5,lend,frz,frzL,zRow,j9,j7,closed,jy,jW,binI,remP,remI,retK,retG,ko,retD,ki,resL,resD,oneD,renD,renL,renE,j0,rho,jL,j4,zla,zlb,zlc,zld,zca,zcb,o1,o0,og,Nat.reduceBEq,Nat.reduceAdd,Nat.beq]
 refine ⟨fun hj => ?_, fun hj => ?_⟩
 ·have hj : i < S.ord.length := by simp at hj; omega
  obtain ⟨k, hk⟩ : ∃ k, S.ord[i] = k := ⟨_, rfl⟩
  have hkm : k ∈ S.ord := by rw [<- hk]; exact List.getElem_mem _
  have hrow : (iL (S.ord.map idn))[((i : Nat) : Int).toNat]? = some (.int .u32 (idn k)) := by
   rw [Int.toNat_natCast]
   have := Xu (l := S.ord.map idn) (i := i) (by rw [List.length_map]; exact hj)
   rw [this]; simp [hk]
  refine ⟨⟨rfl, by omega, by rw [qT, List.length_map]; omega⟩, ky _ _ hrow rfl ?_⟩
  dsimp only [jn,jH,jO,jq,jF,jJ,jo,jG,jI,iteR,regK,jh,jc,jk,jj,jb,ji,blkK,kp,kd,jd,ja,jx,fpOk,foot,km,allN,memN,jK,jl,jr,jv,jt,ju,jf,jg,je,newN,jw,jN,jP,jY,jQ,jM,jS,jz,jA,jC,jD,jE,jm,jB,evX,evL,evB,rd,get,subG,memG,jT,jV,hyps,gob,impP,allP,j1,jX,j3,kj,nth,j8,kh,jU,lenB,kg,jR,entN,setE,jZ,addE,setL,setN,putE,env0,eqCs,j6,eqC,bA,bO,bN,bE,negB,kEq,ke,j5,lend,frz,frzL,zRow,j9,j7,closed,jy,jW,binI,remP,remI,retK,retG,ko,retD,ki,resL,resD,oneD,renD,renL,renE,j0,rho,jL,j4,zla,zlb,zlc,zld,zca,zcb,o1,o0,og,Nat.reduceBEq,Nat.reduceAdd,Nat.beq]
  refine kO _ (jk7 h (h.mem_ord.1 hkm) false) ?_
  dsimp only [lkD, shD, jn,jH,jO,jq,jF,jJ,jo,jG,jI,iteR,regK,jh,jc,jk,jj,jb,ji,blkK,kp,kd,jd,ja,jx,fpOk,foot,km,allN,memN,jK,jl,jr,jv,jt,ju,jf,jg,je,newN,jw,jN,jP,jY,jQ,jM,jS,jz,jA,jC,jD,jE,jm,jB,evX,evL,evB,rd,get,subG,memG,jT,jV,hyps,gob,impP,allP,j1,jX,j3,kj,nth,j8,kh,jU,lenB,kg,jR,entN,setE,jZ,addE,setL,setN,putE,env0,eqCs,j6,eqC,bA,bO,bN,bE,negB,kEq,ke,j5,lend,frz,frzL,zRow,j9,j7,closed,jy,jW,binI,remP,remI,retK,retG,ko,retD,ki,resL,resD,oneD,renD,renL,renE,j0,rho,jL,j4,zla,zlb,zlc,zld,zca,zcb,o1,o0,og,Nat.reduceBEq,Nat.reduceAdd,Nat.beq]
  by_cases hc : S.cl k x y
  ·refine kq (VB h (b := true) (by simp [hc])) ?_
   dsimp only [jn,jH,jO,jq,jF,jJ,jo,jG,jI,iteR,regK,jh,jc,jk,jj,jb,ji,blkK,kp,kd,jd,ja,jx,fpOk,foot,km,allN,memN,jK,jl,jr,jv,jt,ju,jf,jg,je,newN,jw,jN,jP,jY,jQ,jM,jS,jz,jA,jC,jD,jE,jm,jB,evX,evL,evB,rd,get,subG,memG,jT,jV,hyps,gob,impP,allP,j1,jX,j3,kj,nth,j8,kh,jU,lenB,kg,jR,entN,setE,jZ,addE,setL,setN,putE,env0,eqCs,j6,eqC,bA,bO,bN,bE,negB,kEq,ke,j5,lend,frz,frzL,zRow,j9,j7,closed,jy,jW,binI,remP,remI,retK,retG,ko,retD,ki,resL,resD,oneD,renD,renL,renE,j0,rho,jL,j4,zla,zlb,zlc,zld,zca,zcb,o1,o0,og,Nat.reduceBEq,Nat.reduceAdd,Nat.beq]
   refine ⟨fun _ => ?_, nofun⟩
   rw [(h.cl_iff.1 hc).2]
  ·refine kq (VB h (b := false) (by simp [hc])) ?_
   dsimp only [jn,jH,jO,jq,jF,jJ,jo,jG,jI,iteR,regK,jh,jc,jk,jj,jb,ji,blkK,kp,kd,jd,ja,jx,fpOk,foot,km,allN,memN,jK,jl,jr,jv,jt,ju,jf,jg,je,newN,jw,jN,jP,jY,jQ,jM,jS,jz,jA,jC,jD,jE,jm,jB,evX,evL,evB,rd,get,subG,memG,jT,jV,hyps,gob,impP,allP,j1,jX,j3,kj,nth,j8,kh,jU,lenB,kg,jR,entN,setE,jZ,addE,setL,setN,putE,env0,eqCs,j6,eqC,bA,bO,bN,bE,negB,kEq,ke,j5,lend,frz,frzL,zRow,j9,j7,closed,jy,jW,binI,remP,remI,retK,retG,ko,retD,ki,resL,resD,oneD,renD,renL,renE,j0,rho,jL,j4,zla,zlb,zlc,zld,zca,zcb,o1,o0,og,Nat.reduceBEq,Nat.reduceAdd,Nat.beq]
   refine ⟨nofun, fun _ => ?_⟩
   refine ⟨by simp only [fits]; omega, ?_⟩
   refine qa (ih ⟨i + 1, by omega, ?_⟩ (by dsimp only; omega)) ⟨rfl, rfl, rfl, rfl, rfl, rfl, trivial⟩ ⟨rfl, trivial⟩ rfl rfl
   rw [List.take_succ_eq_append_getElem hj, hk, List.mem_append, List.mem_singleton]
   rintro (h1 | h1)
   ·exact hno h1
   ·rw [h1] at htop; exact hc htop
 ·have hj : i = S.ord.length := by simp at hj; omega
  subst hj
  rw [List.take_length] at hno
  exact absurd htm hno
end Go.AM
