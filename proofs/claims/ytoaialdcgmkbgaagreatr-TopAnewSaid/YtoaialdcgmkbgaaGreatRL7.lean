import Derived.Test.YtoaialdcgmkbgaaGreatRL4

set_option linter.all false
namespace Go.AM
open Go Go.RowKit Go.Proofs
theorem kH4 {P : Program} {gt : Nat -> Option (List D)} {t : TypeId} {bx : List Ent} {j sz : Nat} (e : TypeId) (hb : ∀ b, P.built t [(1, .map b)] = some #[.slice none 0 0, .map b]) :
  PrM P gt (.blt t 1) [.ownm j 0] bx (.agg [.own (jD bx) 0, .ownm j 0]) (jX bx (.arr e sz 0 [])) := by
 refine PrM.of ?_
 intro F K pl w o ρ xs hF hρ hI hq hr
 obtain ⟨x, rfl, hop⟩ := jc0 (f := fun x => .build t #[(1, x)]) (fun _ => rfl) rfl (fun _ _ _ => rfl) hq
 have h1 := Yo hr
 simp only [Rep] at h1
 obtain ⟨h1, b, h2⟩ := h1
 rw [kK, qT]
 obtain ⟨q1, q2⟩ := hI.addNil e sz
 refine ⟨.agg #[.slice none 0 0, .map b], w, K, _, .inl ?_, KLe.refl _, q1, q2, ?_⟩
 ·have := run_build w t #[(1, .map b)] #[.slice none 0 0, .map b] (hb b)
  simp [execOp, hop, h2, this]
 ·simp only [Rep, RepL]
  refine ⟨[.slice none 0 0, .map b], rfl, ⟨_, _, rfl, ⟨jY _ _ _ _, none, 0, 0, rfl⟩, _, _, rfl, ⟨q1 _ _ _ (h2 ▸ h1), b, rfl⟩, rfl⟩, fun c hc => ?_⟩
  simp only [List.mem_cons, List.not_mem_nil, or_false] at hc
  rcases hc with h | h <;> (rw [h]; rfl)
theorem zSh : ZV Tryz.prog 190 (.agg #[.int .i64 0, .int .i64 0, .slice none 0 0]) := by unfold ZV; kernel_rfl
theorem kf3 (K : Kn) (pl : Pl) : Rep K pl (.agg [.int .i64 0, .int .i64 0, .ls 4 []]) (.agg #[.int .i64 0, .int .i64 0, .slice none 0 0]) := by
 simp only [Rep, RepL]
 refine ⟨_, rfl, ⟨_, _, rfl, rfl, _, _, rfl, rfl, _, _, rfl, ⟨none, 0, 0, rfl, rfl, Nat.le_refl _, fun _ => rfl, .inl trivial⟩, rfl⟩, fun c hc => ?_⟩
 simp only [List.mem_cons, List.not_mem_nil, or_false] at hc
 rcases hc with h | h | h <;> (rw [h]; rfl)
noncomputable def Ws.vs (S : Ws) : List (Nat × PS) := zx S.sc (S.n + 1) 0 (zN (S.B 0)) (zN (S.B 0))
noncomputable def Ws.keys (S : Ws) : List Nat := S.vs.map (·.1)
noncomputable def Ws.ordL (S : Ws) (l : List Nat) : List Nat := l.filter fun k => decide (k ∈ S.keys)
noncomputable def Ws.sub (S : Ws) : List Nat := yM S.sc (S.n + 1) 0
noncomputable def Ws.ord (S : Ws) : List Nat := S.ordL S.sub
noncomputable def Qj (S : Ws) : D := .agg [.ls 1 (iL (S.ord.map kQ)), .mp (qI .u32 (xC S S.vs)) (kZ (xC S S.vs))]
theorem Ws.Ok.T {S : Ws} (h : S.Ok) : Tr S.sc S.n S.par := kL9 h.pw
theorem Ws.Ok.kn {S : Ws} (h : S.Ok) : S.keys.Nodup := jL0 h.T _ _ _ _
theorem Ws.Ok.vn {S : Ws} (h : S.Ok) : zC (xC S S.vs) := kr8 h.kn
theorem Ws.Ok.subn {S : Ws} (h : S.Ok) : S.sub.Nodup := ks7 h.T _ _
theorem Ws.Ok.suble {S : Ws} (h : S.Ok) {k : Nat} (hk : k ∈ S.sub) : k <= S.n := kf9 h.T (Nat.zero_le _) hk
theorem Ws.Ok.subLen {S : Ws} (h : S.Ok) : S.sub.length <= 41 := by
 have := jr0 h.subn (N := S.n) fun i hi => h.suble hi
 have := h.few; omega
theorem Ws.below {S : Ws} : qS (kP S.tr) (S.n + 1) 1 = S.sub.map kQ := by
 have := jE2 (par := S.par) (N := S.n) (on := S.sc.on) (sh := S.sc.sh) (m := S.n + 1) (k := 0)
 exact this
theorem Ws.Ok.hg {S : Ws} (h : S.Ok) : Hg (kP S.tr) (S.n + 1) 1 := by
 rcases kM8 h.pw (N := S.n) (m := S.n + 1) (k := 0) (by omega) with h | h
 ·exact h
 ·omega
theorem Ws.lkv {S : Ws} {k : Nat} : (k ∈ S.keys -> ∃ c, lk (xC S S.vs) (kQ k) = some (kr0 S (k, c))) /\ (k ∉ S.keys -> lk (xC S S.vs) (kQ k) = none) := by
 refine ⟨fun h => ?_, fun h => ZA h⟩
 cases hl : lk (xC S S.vs) (kQ k) with
 | none =>
   exfalso
   rw [Jr] at hl
   obtain ⟨e, he, rfl⟩ := List.mem_map.1 h
   exact hl (List.mem_map.2 ⟨_, List.mem_map.2 ⟨e, he, rfl⟩, rfl⟩)
 | some d =>
   obtain ⟨e, he, hd⟩ := List.mem_map.1 (jc3 hl)
   simp only [Prod.mk.injEq] at hd
   have := vE.1 hd.1
   subst this
   exact ⟨e.2, by rw [<- hd.2]⟩
theorem kn8 {S : Ws} {l : List Nat} {k : Nat} : S.ordL (l ++ [k]) = S.ordL l ++ if k ∈ S.keys then [k] else [] := by
 unfold Ws.ordL
 rw [List.filter_append]
 congr 1
 by_cases h : k ∈ S.keys <;> simp [h]
noncomputable def jZ1 (S : Ws) (i : Nat) : St := ⟨[(4, [], .box 2 0), (5, [], .box 5 0), (30, [], .ls 1 (iL (S.sub.map kQ))), (31, [], .int .i64 S.sub.length), (32, [], .int .i64 i)],
 [.cells [.mp (qI .u32 (vI S.tr.kids)) (kZ (vI S.tr.kids)), .mp (qI .u32 (zH S.tr.up)) (kZ (zH S.tr.up))], .cells [.mp (qI .u32 S.kv) (kZ S.kv)], .cells [.ls 1 [], .mp [] []], .map (qI .u32 (xC S S.vs)) (kZ (xC S S.vs)),
  .arr 53 1 (S.ordL (S.sub.take i)).length (iL ((S.ordL (S.sub.take i)).map kQ)), .cells [.own 4 (S.ordL (S.sub.take i)).length, .ownm 3 0]]⟩
theorem yN {S : Ws} (hS : S.Ok) : zA 33 [tD S.tr, .agg [qO .u32 S.kv]] (Qj S) := by
 have hn := hS.few
 have hsz := hS.size 0
 have hbd := hS.bdd 0
 have hsl := hS.subLen
 refine jO5 (by rfl) ?_
 dsimp only [c_view_Of,jA6,jm,jo,jc,jn,ja,jd,jA,ji,jj,jk,jl,jL,rd,get,jy,jz,jh,jg,jB,kj,jD,jX,env0,bA,bN,jT,jS,o1,o0,Nat.reduceBEq,Nat.reduceAdd]
 rw [show tD S.tr = .agg [qO .u32 (vI S.tr.kids), qO .u32 (zH S.tr.up)] from rfl]
 dsimp only [qO,jm,jo,jc,jn,jF,je,jt,jr,jb,ja,jd,jA,jf,j4,ji,jj,jk,jl,jL,kq,rd,get,jy,jz,jh,jg,jB,jP,jx,kj,jD,jX,jw,bA,bN,kD,jT,jS,Nat.reduceBEq,Nat.reduceAdd]
 refine kS _ _ (Xh (ik := .u32)) ?_
 dsimp only [zf,jc,ja,jd,jA,j4,ji,jj,jk,jl,jL,kq,rd,get,jy,jz,jh,jg,jB,jP,jx,jD,jX,jw,bA,bN,kD,jT,jS,Nat.reduceBEq,Nat.reduceAdd]
 refine kS _ _ (kH4 (sz := 1) 53 (fun b => by kernel_rfl)) ?_
 dsimp only [jm,jo,jc,jn,jF,je,jt,jr,jb,ja,jd,jA,jf,jq,ji,jj,jk,jl,ju,jJ,jL,kq,rd,get,jy,jz,jh,jg,jB,jP,jx,jC,kj,jM,jN,jH,kp,jI,jQ,jD,jX,kd,ki,jw,bA,bN,jT,jS,Nat.reduceBEq,Nat.reduceAdd]
 refine jv (yI S.kv_nd (S.kv_lk (k := 0) (Nat.zero_le _))) ?_
 dsimp only [Jx,jE,jm,jo,jc,jn,jK,ky,jF,je,jt,jr,jb,ja,jd,jA,jf,jq,ji,jj,jk,jl,ju,jJ,jL,kq,rd,get,jy,jz,jh,jg,jB,jP,jx,jC,kL,jM,jN,jH,kp,jI,jQ,jD,jX,kd,ki,jw,bA,bN,jT,jS,Nat.reduceBEq,Nat.reduceAdd]
 refine ⟨fun _ => ?_, nofun⟩
 refine jv (JG S.kv_nd (S.kv_lk (k := 0) (Nat.zero_le _)) (by omega) (by omega) hbd.1 hbd.2) ?_
 dsimp only [KS,jm,jo,jc,jF,je,jt,jr,jb,ja,jd,jA,jf,jq,ji,jj,jk,jl,ju,jJ,jL,kq,rd,get,jy,jz,jh,jg,jB,jP,jx,jC,kL,jM,jN,jH,kp,jI,jQ,jD,jX,kd,ki,jw,bA,bN,Je,Jd,jT,jS,Nat.reduceBEq,Nat.reduceAdd]
 have hasq := ZW (b := S.B 0) (by omega) (by omega)
 have hh := kg7 hS (S.n + 1) 0 (by omega) (Nat.zero_le _) (zN (S.B 0)) (zN (S.B 0)) [] hasq hasq (by simp [zC]) rfl (fun _ _ => rfl)
 rw [List.nil_append] at hh
 refine kY [1, 0, 6, 5, 3, 4] hh rfl ?_ ?_
 ·rfl
 rw [show zx S.sc (S.n + 1) 0 (zN (S.B 0)) (zN (S.B 0)) = S.vs from rfl]
 have hren : ∀ n, kM [1, 0, 6, 5, 3, 4] n (kJ9 S (xC S S.vs)) = [.cells [.mp (qI .u32 S.kv) (kZ S.kv)], .cells [.mp (qI .u32 (vI S.tr.kids)) (kZ (vI S.tr.kids)), .mp (qI .u32 (zH S.tr.up)) (kZ (zH S.tr.up))],
   .cells [.fn 98 [.box 1 0, .box 0 0, .box 6 0, .box 5 0]], .cells [.own 4 0, .ownm 3 0], .map (qI .u32 (xC S S.vs)) (kZ (xC S S.vs)), .arr 53 1 0 []] := fun n => by
  simp only [kJ9, kM, zp]
  rw [zD _ vv]
  rfl
 rw [hren]
 dsimp only [jm,jo,jc,jn,jF,je,jt,jr,jb,ja,jd,jA,jf,jq,ji,jj,jk,jl,ju,jL,kq,rd,get,jy,jz,jh,jg,jB,jP,jx,jC,jM,jN,jI,jQ,jD,jw,bA,bN,kV,qY,kO,Je,Jd,jT,jS,Nat.reduceBEq,Nat.reduceAdd]
 refine jv (VC hS.tok (by simp [jc8]) hS.hg (by rw [Ws.below, List.length_map]; omega)) ?_
 rw [Ws.below]
 dsimp only [jc,jU,jF,je,jt,jr,jb,ja,jd,jA,jf,ji,jj,jk,jl,kz,jL,rd,get,jy,jz,jh,jg,jB,jP,jx,jw,bA,bN,jT,jS,Nat.reduceBEq]
 rw [zO, List.length_map]
 refine jC2 (α := {i : Nat // i <= S.sub.length}) (fun i => jZ1 S i.1) (fun i => S.sub.length - i.1) ?_ ⟨0, by simp⟩ ⟨rfl, rfl, rfl, rfl, rfl, trivial⟩ ?_ rfl ?_
 ·rintro ⟨i, hi⟩ I ih
  dsimp only [jZ1,jE,jm,jo,jc,jn,jU,kt,jG,jK,ky,jF,je,j1,j3,kC,jt,jr,jb,ja,jd,jA,jf,ku,ji,jj,jk,jl,ju,jJ,j6,jL,rd,get,jy,jz,jh,jg,jB,jP,km,jx,jC,jM,jN,jH,kp,jI,jQ,kd,ki,jw,bA,bN,kU,jR,kA,lend,ko,kw,kx,jZ,j7,kr,j9,zh,jN4,jT,jS,Nat.reduceBEq,Nat.reduceAdd]
  refine ⟨fun hj => ?_, fun hj => ?_⟩
  ·have hj : i < S.sub.length := by simp at hj; omega
   obtain ⟨k, hk⟩ : ∃ k, S.sub[i] = k := ⟨_, rfl⟩
   have hrow : (iL (S.sub.map kQ))[((i : Nat) : Int).toNat]? = some (.int .u32 (kQ k)) := by
    rw [Int.toNat_natCast]
    have := js2 (l := S.sub.map kQ) (i := i) (by rw [List.length_map]; exact hj)
    rw [this]; simp [hk]
   have htk : S.sub.take (i + 1) = S.sub.take i ++ [k] := by rw [List.take_succ_eq_append_getElem hj, hk]
   have hol : (S.ordL (S.sub.take i)).length <= 41 := Nat.le_trans (List.length_filter_le _ _) (by rw [List.length_take]; omega)
   have hos := kn8 (S := S) (l := S.sub.take i) (k := k)
   rw [<- htk] at hos
   refine ⟨⟨rfl, by omega, by rw [zO, List.length_map]; omega⟩, kh _ _ hrow rfl ?_⟩
   dsimp only [jm,jo,jc,jn,jF,je,jt,jr,jb,ja,jd,jA,jf,j4,ji,jj,jk,jl,ju,jL,kq,rd,get,jy,jz,jh,jg,jB,jP,jx,jC,kL,jI,jw,bA,bN,kD,jT,jS,Nat.reduceBEq,Nat.reduceAdd]
   by_cases hkk : k ∈ S.keys
   ·obtain ⟨c, hc⟩ := S.lkv.1 hkk
    rw [if_pos hkk] at hos
    have hp := Z2 (P := Tryz.prog) (gt := zM) (ik := .u32) (bx := (jZ1 S i).bx) (j := 3) tV tI zSh (kv := xC S S.vs) rfl hS.vn (kQ k) true (zd := .nil) (fun h => by rw [hc] at h; cases h)
    rw [hc] at hp
    refine kH _ hp ?_
    dsimp only [kr0,jc,ja,jd,jA,jf,ji,jj,jk,jl,jL,rd,get,jy,jz,jh,jg,jB,jP,jx,jw,bA,bN,jT,jS,Nat.reduceBEq]
    refine ⟨fun _ => ?_, nofun⟩
    dsimp only [jm,jo,jc,jF,je,j0,kC,jt,jr,jb,ja,jd,jA,jf,ji,jj,jk,jl,ju,jJ,qg,jL,kq,rd,get,jy,jz,jh,jg,jB,jP,km,jx,jC,kj,kL,jH,jI,jQ,jD,jX,kd,ki,jw,bA,bN,kU,jR,closed,jV,ql,ko,jT,jS,Nat.reduceBEq,Nat.reduceAdd]
    refine ⟨⟨rfl, rfl, rfl, rfl, by rw [zO, List.length_map]; simp only [List.length_cons, List.length_nil]; omega, by rw [zO, List.length_map]; simp only [List.length_cons, List.length_nil]; omega⟩, by simp only [j5]; omega, ?_⟩
    rw [show iL ((S.ordL (S.sub.take i)).map kQ) ++ [D.int .u32 (kQ k)] = iL ((S.ordL (S.sub.take (i + 1))).map kQ) by rw [hos]; simp [iL],
     show (S.ordL (S.sub.take i)).length + 1 = (S.ordL (S.sub.take (i + 1))).length by rw [hos]; simp]
    exact kW (ih ⟨i + 1, by omega⟩ (by dsimp only; omega)) ⟨rfl, rfl, rfl, rfl, rfl, trivial⟩ ⟨rfl, rfl, rfl, rfl, rfl, rfl, trivial⟩ rfl (by simp [jZ1, k8, low, vb, kX _ vv, q9, jD])
   ·rw [if_neg hkk, List.append_nil] at hos
    have hp := Z2 (P := Tryz.prog) (gt := zM) (ik := .u32) (bx := (jZ1 S i).bx) (j := 3) tV tI zSh (kv := xC S S.vs) rfl hS.vn (kQ k) true (zd := .agg [.int .i64 0, .int .i64 0, .ls 4 []]) (fun _ => kf3)
    rw [S.lkv.2 hkk] at hp
    refine kH _ hp ?_
    dsimp only [jc,ja,jd,jA,jf,ji,jj,jk,jl,jL,rd,get,jy,jz,jh,jg,jB,jP,jx,jw,bA,bN,jT,jS,Nat.reduceBEq]
    refine ⟨nofun, fun _ => ?_⟩
    dsimp only [jE,jm,jo,jc,jF,je,j0,kC,jt,jr,jb,ja,jd,jA,jf,ji,jj,jk,jl,jL,rd,get,jy,jz,jh,jg,jB,jP,km,jx,jQ,jD,jX,jw,bA,bN,kU,jR,ko,jT,jS,Nat.reduceBEq,Nat.reduceAdd]
    refine ⟨by simp only [j5]; omega, ?_⟩
    rw [<- hos]
    exact kW (ih ⟨i + 1, by omega⟩ (by dsimp only; omega)) ⟨rfl, rfl, rfl, rfl, rfl, trivial⟩ ⟨rfl, rfl, rfl, rfl, rfl, rfl, trivial⟩ rfl (by simp [jZ1, k8, low, vb, kX _ vv, q9, jD])
  ·have hj : i = S.sub.length := by simp at hj; omega
   subst hj
   rw [List.take_length]
   dsimp only [Qj]
   exact ⟨rfl, rfl, vv, rfl⟩
 ·exact ⟨rfl, rfl, rfl, rfl, rfl, rfl, trivial⟩
 ·simp [jZ1, k8, low, vb, kX _ vv, q9, jD]

def Ws.cl (S : Ws) (k : Nat) : PS := fun x y => ∃ c, (k, c) ∈ S.vs /\ c x y
noncomputable def Ws.top (S : Ws) (x y : Int) : Nat := jF1 S.sc (S.n + 1) 0 x y
def Ws.root (S : Ws) : PS := zN (S.B 0)
theorem Ws.Ok.cl_iff {S : Ws} (h : S.Ok) {k : Nat} {x y : Int} : S.cl k x y ↔ S.root x y /\ S.top x y = k := by
 constructor
 ·rintro ⟨c, hc, hx⟩
  exact js4 (S.n + 1) 0 _ _ (fun _ _ h => h) _ hc hx
 ·rintro ⟨hr, rfl⟩
  obtain ⟨c, h1, h2⟩ := jD2 h.T (S.n + 1) 0 (zN (S.B 0)) (zN (S.B 0)) (by omega) (Nat.zero_le _) (fun _ _ h => h) hr
  exact ⟨c, h1, h2⟩
theorem Ws.Ok.cl_sh {S : Ws} (h : S.Ok) {k : Nat} {x y : Int} (hc : S.cl k x y) : S.sc.sh k x y := by
 obtain ⟨c, hc, hx⟩ := hc
 refine kj4 (S := S.sc) (S.n + 1) 0 (zN (S.B 0)) (zN (S.B 0)) (fun x y hr => ?_) _ hc hx
 have hs := h.size 0
 have := KE hr
 show jT5 (S.ox 0) (S.oy 0) (zN (S.B 0)) x y
 unfold Ws.ox Ws.oy
 rw [jS6, jS6]
 unfold jT5
 rw [Int.sub_zero, Int.sub_zero]
 exact ⟨hr, by omega⟩
theorem Ws.Ok.cl_key {S : Ws} (h : S.Ok) {k : Nat} {x y : Int} (hc : S.cl k x y) : k ∈ S.keys := by
 obtain ⟨c, hc, hx⟩ := hc
 exact List.mem_map.2 ⟨_, hc, rfl⟩
theorem Ws.Ok.key_sub {S : Ws} (h : S.Ok) {k : Nat} (hk : k ∈ S.keys) : k ∈ S.sub := by
 obtain ⟨e, he, rfl⟩ := List.mem_map.1 hk
 exact Km he
theorem Ws.Ok.mem_ord {S : Ws} (h : S.Ok) {k : Nat} : k ∈ S.ord ↔ k ∈ S.keys := by
 unfold Ws.ord Ws.ordL
 rw [List.mem_filter]
 constructor
 ·rintro ⟨_, h2⟩; simpa using h2
 ·intro h2; exact ⟨h.key_sub h2, by simpa using h2⟩
theorem Ws.Ok.ordn {S : Ws} (h : S.Ok) : S.ord.Nodup := h.subn.sublist (List.filter_sublist ..)
theorem Ws.Ok.ordLen {S : Ws} (h : S.Ok) : S.ord.length <= 41 := Nat.le_trans (List.length_filter_le _ _) h.subLen
theorem Ws.Ok.ordle {S : Ws} (h : S.Ok) {k : Nat} (hk : k ∈ S.ord) : k <= S.n := h.suble (h.key_sub (h.mem_ord.1 hk))
theorem Ws.Ok.clSq {S : Ws} (h : S.Ok) {k : Nat} : Sq (S.cl k) := by
 have hs := h.size 0
 exact (ZW (b := S.B 0) (by omega) (by omega)).sub fun x y hc => (h.cl_iff.1 hc).1
theorem kT6 {S : Ws} (h : S.Ok) {k : Nat} {c : PS} (hc : (k, c) ∈ S.vs) : S.cl k = c := zz fun x y => by
 constructor
 ·rintro ⟨c', hc', hx⟩
  have : c' = c := by
   have hn : (S.vs.map (·.1)).Nodup := h.kn
   have key : ∀ {l : List (Nat × PS)}, (l.map (·.1)).Nodup -> (k, c) ∈ l -> (k, c') ∈ l -> c' = c := fun {l} => by
    induction l with
    | nil => intro _ h; cases h
    | cons e l ih =>
      intro hn h1 h2
      rw [List.map_cons, List.nodup_cons] at hn
      rcases List.mem_cons.1 h1 with h1 | h1 <;> rcases List.mem_cons.1 h2 with h2 | h2
      ·rw [<- h1] at h2; exact (Prod.mk.inj h2).2
      ·exact absurd (List.mem_map.2 ⟨_, h2, by rw [<- h1]⟩) hn.1
      ·exact absurd (List.mem_map.2 ⟨_, h1, by rw [<- h2]⟩) hn.1
      ·exact ih hn.2 h1 h2
   exact key hn hc hc'
  rw [<- this]; exact hx
 ·intro hx; exact ⟨c, hc, hx⟩
theorem Ws.Ok.lkc {S : Ws} (h : S.Ok) {k : Nat} : (k ∈ S.keys -> lk (xC S S.vs) (kQ k) = some (kr0 S (k, S.cl k))) /\ (k ∉ S.keys -> lk (xC S S.vs) (kQ k) = none /\ reg (S.cl k) = []) := by
 refine ⟨fun hk => ?_, fun hk => ⟨S.lkv.2 hk, ?_⟩⟩
 ·obtain ⟨e, he, rfl⟩ := List.mem_map.1 hk
  rw [kT5 h.kn he, kT6 h (k := e.1) (c := e.2) he]
 ·refine (KT h.clSq.bdd).2 fun x y hc => hk (h.cl_key hc)
theorem kb1 {S : Ws} (h : S.Ok) {k : Nat} (hk : k ∈ S.keys) (c : Bool) {bx : List Ent} : PrM Tryz.prog zM (.lkp 96 c) [.mp (qI .u32 (xC S S.vs)) (kZ (xC S S.vs)), .int .u32 (kQ k)] bx (jU3 c (some (kr0 S (k, S.cl k))) .nil) bx := by
 have := JJ (gt := zM) (bx := bx) tV tI zSh h.vn (kQ k) c (zd := .nil) (fun h' => by rw [h.lkc.1 hk] at h'; cases h')
 rw [h.lkc.1 hk] at this; exact this
theorem kv6 {S : Ws} (h : S.Ok) {k : Nat} (hk : k ∉ S.keys) (c : Bool) {bx : List Ent} : PrM Tryz.prog zM (.lkp 96 c) [.mp (qI .u32 (xC S S.vs)) (kZ (xC S S.vs)), .int .u32 (kQ k)] bx (jU3 c none (.agg [.int .i64 0, .int .i64 0, .ls 4 []])) bx := by
 have := JJ (gt := zM) (bx := bx) tV tI zSh h.vn (kQ k) c (zd := .agg [.int .i64 0, .int .i64 0, .ls 4 []]) (fun _ => kf3)
 rw [(h.lkc.2 hk).1] at this; exact this
theorem Qk {S : Ws} (h : S.Ok) : zA 34 [Qj S] (.ls 1 (iL (S.ord.map kQ))) := by
 refine QH (by rfl) ?_
 dsimp only [c_view_View_Windows,yz,Qj,jm,jo,jc,jn,jF,je,jt,jr,jb,ja,jd,jA,jf,jq,ji,jj,jk,jl,ju,jL,kq,rd,get,jy,jz,jh,jg,jB,jP,jx,jC,kj,kL,jI,jD,jX,jw,env0,bA,bN,jT,jS,o1,Nat.reduceBEq,Nat.reduceAdd]
 refine jv (Ql (by rw [List.length_map]; have := h.ordLen; omega)) ?_
 dsimp only [jc,jG,jF,je,jt,jr,jb,ja,jd,jA,jf,ji,jj,jk,jl,jL,rd,get,jy,jz,jh,jg,jB,jP,jx,jw,bA,bN,lend,kw,kx,jZ,j7,kr,j9,jT,jS,Nat.reduceBEq]
theorem jF6 {S : Ws} (h : S.Ok) {k : Nat} : zA 35 [Qj S, .int .u32 (kQ k)] (KS (S.cl k)) := by
 refine V0 (by rfl) ?_
 dsimp only [c_view_View_Clip,J2,Qj,KS,jm,jo,jc,jn,jF,je,jt,jr,jb,ja,jd,jA,jf,j4,ji,jj,jk,jl,ju,jL,kq,rd,get,jy,jz,jh,jg,jB,jP,jx,jC,kj,kL,jI,jD,jX,jw,env0,bA,bN,kD,jT,jS,o1,o0,Nat.reduceBEq,Nat.reduceAdd]
 by_cases hk : k ∈ S.keys
 ·refine kH _ (kb1 h hk false) ?_
  dsimp only [jU3,kr0,jc,jG,jF,je,jt,jr,jb,ja,jd,jA,jf,ji,jj,jk,jl,jJ,jL,rd,get,jy,jz,jh,jg,jB,jP,jx,jC,jM,jN,jH,kp,jI,jQ,kd,ki,jw,bA,bN,kA,lend,kw,kx,jZ,j7,kr,j9,zh,jT,jS,Nat.reduceBEq,Nat.reduceAdd]
 ·refine kH _ (kv6 h hk false) ?_
  dsimp only [jU3,jc,jG,jF,je,jt,jr,jb,ja,jd,jA,jf,ji,jj,jk,jl,jJ,jL,rd,get,jy,jz,jh,jg,jB,jP,jx,jC,jM,jN,jH,kp,jI,jQ,kd,ki,jw,bA,bN,kA,lend,kw,kx,jZ,j7,kr,j9,zh,jT,jS,Nat.reduceBEq,Nat.reduceAdd]
  rw [(h.lkc.2 hk).2]; rfl
theorem jo0 {S : Ws} (h : S.Ok) {k : Nat} (hk : k ∈ S.keys) : zA 36 [Qj S, .int .u32 (kQ k)] (.tup [.agg [.int .i64 (S.ox k), .int .i64 (S.oy k)], .bool true]) := by
 refine Q2 (by rfl) ?_
 dsimp only [c_view_View_Origin,yW,Qj,jm,jo,jc,jn,jF,je,jt,jr,jb,ja,jd,jA,jf,j4,ji,jj,jk,jl,ju,jL,kq,rd,get,jy,jz,jh,jg,jB,jP,jx,jC,kj,kL,jI,jD,jX,jw,env0,bA,bN,kD,jT,jS,o1,o0,Nat.reduceBEq,Nat.reduceAdd]
 refine kH _ (kb1 h hk true) ?_
 dsimp only [jU3,kr0,jm,jo,jc,jn,jG,jF,je,jt,jr,jb,ja,jd,jA,jf,ji,jj,jk,jl,ju,jJ,jL,rd,get,jy,jz,jh,jg,jB,jP,jx,jC,kL,jM,jN,jH,kp,jI,jQ,jD,jX,kd,ki,jw,bA,bN,kA,lend,kw,kx,jZ,j7,kr,j9,zh,jT,jS,Nat.reduceBEq,Nat.reduceAdd]
def Ws.vis (S : Ws) (k : Nat) : PS := jT5 (-(S.ox k)) (-(S.oy k)) (S.cl k)
theorem vf {S : Ws} (h : S.Ok) {k : Nat} (hk : k <= S.n) : zA 37 [Qj S, .int .u32 (kQ k)] (KS (S.vis k)) := by
 have hb := h.orgB hk
 have hq := h.clSq (k := k)
 refine QI (by rfl) ?_
 dsimp only [c_view_View_Visible,yA,Qj,KS,jm,jo,jc,jn,jF,je,jt,jr,jb,ja,jd,jA,jf,j4,ji,jj,jk,jl,ju,jL,kq,rd,get,jy,jz,jh,jg,jB,jP,jx,jC,kj,kL,jI,jD,jX,jw,env0,bA,bN,kD,jT,jS,o1,o0,Nat.reduceBEq,Nat.reduceAdd]
 by_cases hkk : k ∈ S.keys
 ·refine kH _ (kb1 h hkk false) ?_
  dsimp only [jU3,kr0,jm,jo,jc,jn,jF,je,jt,jr,jb,ja,jd,jA,jf,jq,ji,jj,jk,jl,ju,jJ,jL,kq,rd,get,jy,jz,jh,jg,jB,jP,km,jx,jC,kL,jM,jN,jH,kp,jI,jQ,jD,jX,kd,ki,jw,bA,bN,kU,jT,jS,Nat.reduceBEq,Nat.reduceAdd]
  refine ⟨by simp only [j5]; omega, by simp only [j5]; omega, jv (Yh hq.bdd (by omega) (by omega) (Nat.le_trans hq.len (by omega))) ?_⟩
  dsimp only [jc,jG,jF,je,jt,jr,jb,ja,jd,jA,jf,ji,jj,jk,jl,jJ,jL,rd,get,jy,jz,jh,jg,jB,jP,jx,jC,jM,jN,jH,kp,jI,jQ,kd,ki,jw,bA,bN,kA,lend,kw,kx,jZ,j7,kr,j9,zh,jT,jS,Nat.reduceBEq,Nat.reduceAdd]
  rfl
 ·refine kH _ (kv6 h hkk false) ?_
  dsimp only [jU3,jm,jo,jc,jn,jF,je,jt,jr,jb,ja,jd,jA,jf,jq,ji,jj,jk,jl,ju,jJ,jL,kq,rd,get,jy,jz,jh,jg,jB,jP,km,jx,jC,kL,jM,jN,jH,kp,jI,jQ,jD,jX,kd,ki,jw,bA,bN,kU,jT,jS,Nat.reduceBEq,Nat.reduceAdd]
  have hsh := Yh (P := jB9) YA (dx := -0) (dy := -0) (by omega) (by omega) (by rw [xJ]; simp)
  rw [xJ] at hsh
  refine ⟨by simp only [j5]; omega, by simp only [j5]; omega, jv hsh ?_⟩
  dsimp only [jc,jG,jF,je,jt,jr,jb,ja,jd,jA,jf,ji,jj,jk,jl,jJ,jL,rd,get,jy,jz,jh,jg,jB,jP,jx,jC,jM,jN,jH,kp,jI,jQ,kd,ki,jw,bA,bN,kA,lend,kw,kx,jZ,j7,kr,j9,zh,jT,jS,Nat.reduceBEq,Nat.reduceAdd]
  rw [show reg (jT5 (-0) (-0) jB9) = reg (S.vis k) from KU fun x y => ⟨fun h => h.1.elim, fun hv => absurd (h.cl_key hv.1) hkk⟩]

structure It where
 w : Nat
 h : Nat
 f : Px
 g : Int
 win : Bool
 back : Bool
def xy (i : It) : D := .agg [.int .i64 i.w, .int .i64 i.h, .ls 1 (gl i.w i.h i.f), .int .u8 i.g, .bool i.win, .bool i.back]
theorem y7 (i : It) : closed (xy i) = true := by simp [xy, closed, jV, bA]
theorem kl4 : Tryz.prog.underlying 90 = some (.map 53 207) := by kernel_rfl
theorem zIt : ZV Tryz.prog 207 (.agg #[.int .i64 0, .int .i64 0, .slice none 0 0, .int .u8 0, .bool false, .bool false]) := by unfold ZV; kernel_rfl
def kr4 : D := .agg [.int .i64 0, .int .i64 0, .ls 1 [], .int .u8 0, .bool false, .bool false]
theorem kE6 (K : Kn) (pl : Pl) : Rep K pl kr4 (.agg #[.int .i64 0, .int .i64 0, .slice none 0 0, .int .u8 0, .bool false, .bool false]) := by
 simp only [kr4, Rep, RepL]
 refine ⟨_, rfl, ⟨_, _, rfl, rfl, _, _, rfl, rfl, _, _, rfl, ⟨none, 0, 0, rfl, rfl, Nat.le_refl _, fun _ => rfl, .inl trivial⟩, _, _, rfl, rfl, _, _, rfl, rfl, _, _, rfl, rfl, rfl⟩, fun c hc => ?_⟩
 simp only [List.mem_cons, List.not_mem_nil, or_false] at hc
 rcases hc with h | h | h | h | h | h <;> (rw [h]; rfl)
theorem kh8 {bx : List Ent} {kv : KV} (hn : zC kv) {id : Int} {d : D} (h : lk kv id = some d) : PrM Tryz.prog zM (.lkp 90 true) [.mp (qI .u32 kv) (kZ kv), .int .u32 id] bx (.tup [d, .bool true]) bx := by
 have := JJ (gt := zM) (bx := bx) kl4 tI zIt hn id true (zd := .nil) (fun h' => by rw [h] at h'; cases h')
 rw [h] at this; exact this
theorem kQ3 {bx : List Ent} {kv : KV} (hn : zC kv) {id : Int} (h : lk kv id = none) : PrM Tryz.prog zM (.lkp 90 true) [.mp (qI .u32 kv) (kZ kv), .int .u32 id] bx (.tup [kr4, .bool false]) bx := by
 have := JJ (gt := zM) (bx := bx) kl4 tI zIt hn id true (zd := kr4) (fun _ => kE6)
 rw [h] at this; exact this
theorem z8 : ∀ {l : List D}, jV l = true ↔ ∀ d ∈ l, closed d = true
 | [] => by simp [jV]
 | d :: l => by simp only [jV, qw, List.mem_cons, forall_eq_or_imp, z8 (l := l)]
theorem XP {a b : KV} (h : jV (kZ b) = true) (hs : ∀ p ∈ a, p ∈ b) : jV (kZ a) = true := by
 rw [z8] at h |-
 intro d hd
 obtain ⟨p, hp, rfl⟩ := List.mem_map.1 hd
 exact h _ (List.mem_map.2 ⟨p, hs p hp, rfl⟩)
structure CpY where
 done : KV
 left : KV
 cur : Option (D × D)
def kO4 (x : CpY) : St := ⟨[(0, [], .ownm 0 0), (7, [], .box 1 0)], [.map (qI .u32 x.done) (kZ x.done), .iter x.cur (qI .u32 x.left) (kZ x.left)]⟩
def ItV (kv : KV) : Prop := ∀ p ∈ kv, ∃ i, p.2 = xy i
theorem ItV.closed {kv : KV} (h : ItV kv) : jV (kZ kv) = true := by
 rw [z8]
 intro d hd
 obtain ⟨p, hp, rfl⟩ := List.mem_map.1 hd
 obtain ⟨i, hi⟩ := h p hp
 rw [hi]; exact y7 i
theorem ItV.put {kv : KV} (h : ItV kv) {n : Int} {i : It} : ItV (put kv n (xy i)) := by
 intro p hp
 have key : ∀ {l : KV}, (∀ p ∈ l, ∃ i, p.2 = xy i) -> p ∈ Go.AM.put l n (xy i) -> ∃ i, p.2 = xy i := fun {l} => by
  induction l with
  | nil => intro _ h; simp [Go.AM.put] at h; exact ⟨i, by rw [h]⟩
  | cons q l ih =>
    intro h1 h2
    simp only [Go.AM.put] at h2
    split at h2
    ·rcases List.mem_cons.1 h2 with h2 | h2
     ·exact ⟨i, by rw [h2]⟩
     ·exact h1 p (by simp [h2])
    ·rcases List.mem_cons.1 h2 with h2 | h2
     ·exact h1 p (by simp [h2])
     ·exact ih (fun p hp => h1 p (by simp [hp])) h2
 exact key h hp
theorem jw9 {kv : KV} (hn : zC kv) (hv : ItV kv) : vT 190 [.ownm 0 0, .mp (qI .u32 kv) (kZ kv)] [.map (qI .u32 []) (kZ [])] (.tup []) [.map (qI .u32 kv) (kZ kv)] := by
 refine qv (by rfl) ?_
 dsimp only [c_maps_Copy_map_api_ID_canvas_item_map_api_ID_canvas_item_api_ID_canvas_item,kN,jm,jo,jc,jn,ja,jd,jA,jf,j4,ji,jj,jk,jl,jL,kq,rd,get,jy,jz,jh,jg,jB,jP,jx,jD,jw,env0,bA,bN,kD,jT,jS,o1,o0,Nat.reduceBEq,Nat.reduceAdd]
 refine kS _ _ (jI2 kl4) ?_
 dsimp only [jU,jF,je,jt,jr,jb,rd,get,jy,jz,jh,jg,jD,jX,jw,bA,bN,jT,jS,Nat.reduceBEq,Nat.reduceAdd]
 refine kE (α := {x : CpY // Part kv x.done x.left}) (fun x => kO4 x.1) (fun x => x.1.left.length) ?_ ⟨⟨[], kv, none⟩, Part.start kv⟩ rfl
 rintro ⟨⟨done, left, cur⟩, hp⟩ I ih
 dsimp only at hp
 dsimp only [kO4,jm,jo,jc,jn,ja,jd,jA,yl,ji,jj,jk,jl,jL,kq,rd,get,jy,jz,jh,jg,jB,jP,jx,bA,bN,kD,jT,jS,Nat.reduceBEq]
 have hc := hv.closed
 have hcd : jV (kZ done) = true := XP hc fun p hp' => hp.perm.mem_iff.1 (List.mem_append_left _ hp')
 refine Jp _ (jI3 rfl) ?_
 rintro d bx' (⟨hks, rfl, rfl⟩ | ⟨i, dk, dv, h1, h2, rfl, rfl⟩)
 ·dsimp only [jE,jm,jo,jc,jn,jU,kt,jK,ky,jF,je,j1,j3,kC,jt,jr,jb,ja,jd,jA,jf,j4,ji,jj,jk,jl,jL,kq,rd,get,jy,jz,jh,jg,jB,jP,jx,kL,jw,bA,bN,kD,qX,qH,j7,j9,jT,jS,Nat.reduceBEq]
  refine ⟨nofun, fun _ => ?_⟩
  have hl : left = [] := by simpa [qI] using hks
  subst hl
  refine Rt.trans (Rt.cut (bx' := [.map (qI .u32 done) (kZ done)]) (Nat.le_refl _) ⟨rfl, trivial⟩ (by simp [k8, q9, kX _ hcd]) rfl) (Rt.perm (k := 0) (ik := .u32) (kv := done) rfl hp.fin)
 ·obtain ⟨p, hpp, rfl⟩ := jJ4 h1
  rw [jJ3 hpp] at h2
  cases h2
  obtain ⟨it, hit⟩ := hv p (hp.perm.mem_iff.1 (List.mem_append_right _ (List.mem_of_getElem? hpp)))
  obtain ⟨pk, pv⟩ := p
  dsimp only at hit
  subst hit
  dsimp only [jE,jm,jo,jc,jn,jU,kt,jK,ky,jF,je,j1,j3,kC,jt,jr,jb,ja,jd,jA,jf,j4,ji,jj,jk,jl,jL,kq,rd,get,jy,jz,jh,jg,jB,jP,jx,kL,jQ,jw,bA,bN,kD,qX,qH,j7,j9,jT,jS,Nat.reduceBEq]
  refine ⟨fun _ => ?_, nofun⟩
  refine kH _ (jI5 rfl) ?_
  dsimp only [xy,jm,jo,jc,jF,je,jt,jr,jb,ja,jd,jA,jf,j4,ji,jj,jk,jl,ju,jJ,jL,kq,rd,get,jy,jz,jh,jg,jB,jP,jx,jC,kL,jM,jN,jH,kp,jI,jQ,jD,jX,kd,ki,jw,bA,bN,kD,jT,jS,Nat.reduceBEq,Nat.reduceAdd]
  refine kS _ _ (vY kl4 tI (kv := done) rfl (hp.ndD hn) pk _) ?_
  dsimp only [jF,j0,kC,jt,jr,jb,rd,get,jy,jz,jh,jg,jQ,jw,bA,bN,jT,jS,Nat.reduceBEq]
  rw [qA (hp.fresh hn hpp), Kh, Kg]
  rw [show D.agg [.int .i64 it.w, .int .i64 it.h, .ls 1 (gl it.w it.h it.f), .int .u8 it.g, .bool it.win, .bool it.back] = xy it from rfl]
  have hstep := hp.step hpp
  have hcd2 : jV (kZ (done ++ [(pk, xy it)])) = true := XP hc fun q hq => hstep.perm.mem_iff.1 (List.mem_append_left _ hq)
  exact kW (ih ⟨⟨done ++ [(pk, xy it)], left.eraseIdx i, _⟩, hstep⟩ (by have := Vb hpp; dsimp only; omega)) ⟨rfl, rfl, trivial⟩ ⟨rfl, rfl, trivial⟩ rfl (by simp [kO4, k8, q9, kX _ hcd2])
theorem Q9 {kv : KV} (hn : zC kv) (hv : ItV kv) (hl : kv.length < 1000000) {id : Int} {i : It} : zA 159 [.agg [qO .u32 kv], .int .u32 id, xy i] (.agg [qO .u32 (put kv id (xy i))]) := by
 have hc := hv.closed
 refine KL (by rfl) ?_
 dsimp only [c_canvas_Canvas_with,yd,qO,xy,jm,jo,jc,jn,jF,je,jt,jr,jb,ja,jd,jA,jf,j4,ji,jj,jk,jl,ju,jL,kq,rd,get,jy,jz,jh,jg,jB,jP,jx,jC,kj,kL,jI,jD,jX,jw,env0,bA,bN,kD,jT,jS,o1,o0,Nat.reduceBEq,Nat.reduceAdd]
 refine kH _ (jb8 kl4) ?_
 dsimp only [jc,ja,jd,jA,jf,j4,ji,jj,jk,jl,jL,kq,rd,get,jy,jz,jh,jg,jB,jP,km,jx,jw,bA,bN,kU,jR,kD,ko,jT,jS,Nat.reduceBEq]
 refine ⟨by simp only [j5]; omega, ?_⟩
 refine kS _ _ (kh6 (ik := .u32) kl4) ?_
 dsimp only [zf,jm,jo,jc,jn,jF,je,jt,jr,jb,ja,jd,jA,jf,jq,ji,jj,jk,jl,ju,jL,kq,rd,get,jy,jz,jh,jg,jB,jP,jx,jC,kL,jI,jD,jX,jw,bA,bN,jT,jS,Nat.reduceBEq,Nat.reduceAdd]
 refine kY [3] (jw9 hn hv) rfl rfl ?_
 dsimp only [jm,jo,jc,jn,jF,je,jt,jr,jb,ja,jd,jA,jf,j4,ji,jj,jk,jl,ju,jL,kq,rd,get,jy,jz,jh,jg,jB,jP,jx,jC,jM,jN,jI,jQ,jD,jw,bA,bN,kD,kV,qY,zp,kM,kO,Je,Jd,jT,jS,Nat.reduceBEq,Nat.reduceAdd]
 rw [zD _ hc]
 refine kS _ _ (vY kl4 tI (kv := kv) rfl hn id _) ?_
 dsimp only [zf,jm,jo,jc,jn,jG,jF,je,jt,jr,jb,ja,jd,jA,jf,ji,jj,jk,jl,jJ,jL,kq,rd,get,jy,jz,jh,jg,jB,jP,jx,jC,kj,jM,jN,jH,kp,qB,kT,jI,jQ,kd,ki,jw,bA,bN,kA,lend,kw,kx,jZ,j7,kr,j9,zh,jN4,jT,jS,Nat.reduceBEq,Nat.reduceAdd]
 exact ⟨rfl, XQ (y7 i) hc, rfl⟩
theorem jo3 {kv : KV} (hn : zC kv) (hv : ItV kv) (hl : kv.length <= 1000) {id : Int} (hid : j5 .u32 id) (hck : JN id = 0) (hno : lk kv id = none) {w h : Nat} (hw : 1 <= w /\ w <= 128) (hh : 1 <= h /\ h <= 128) {p : Int} {b : Bool} :
  zA 95 [.agg [qO .u32 kv], .int .u32 id, .int .i64 w, .int .i64 h, .int .u8 p, .bool b] (.tup [.agg [qO .u32 (put kv id (xy ⟨w, h, fun _ _ => p, p, true, b⟩))], .int .i64 0]) := by
 have hadd : zA 152 [.agg [qO .u32 kv], .int .u32 id, .int .i64 w, .int .i64 h, .agg [.int .i64 0, .int .i64 0, .ls 1 [], .int .u8 p, .bool true, .bool b]] (.tup [.agg [qO .u32 (put kv id (xy ⟨w, h, fun _ _ => p, p, true, b⟩))], .int .i64 0]) := by
  refine QJ (by rfl) ?_
  dsimp only [c_canvas_Canvas_add,yC,qO,xy,jm,jo,jc,jn,jF,je,jt,jr,jb,ja,jd,jA,jf,jq,ji,jj,jk,jl,jL,kq,rd,get,jy,jz,jh,jg,jB,jP,jx,kj,jD,jX,jw,env0,bA,bN,jT,jS,o1,o0,Nat.reduceBEq,Nat.reduceAdd]
  refine jv (yO hid) ?_
  dsimp only [jE,jm,jo,jc,jn,jG,jK,ky,jF,je,jO,jt,jr,jb,ja,jd,jA,jf,jq,ji,jj,jk,jl,ju,jJ,jL,kq,rd,get,jy,jz,jh,jg,jB,jP,jx,jC,kL,jM,jN,jH,kp,jI,jQ,kd,ki,jw,bA,bN,kU,jR,kA,lend,ko,kw,kx,jZ,j7,kr,j9,zh,jT,jS,Nat.reduceBEq,Nat.reduceAdd]
  rw [hck]
  refine ⟨fun h => absurd h (by simp), fun _ => ?_⟩
  refine jv (jo6 hw hh) ?_
  dsimp only [gD,jE,jm,jo,jc,jn,jG,jK,ky,jF,je,jO,jt,jr,jb,ja,jd,jA,jf,j4,ji,jj,jk,jl,ju,jJ,jL,kq,rd,get,jy,jz,jh,jg,jB,jP,jx,jC,kL,jM,jN,jH,kp,jI,jQ,jD,jX,kd,ki,jw,bA,bN,kU,jR,kA,lend,kD,ko,kw,kx,jZ,j7,kr,j9,zh,jT,jS,Nat.reduceBEq,Nat.reduceAdd]
  refine ⟨fun h => absurd h (by simp), fun _ => ?_⟩
  refine kH _ (kQ3 hn hno) ?_
  dsimp only [kr4,jE,jm,jo,jc,jn,jG,jK,ky,jF,je,jO,jt,jr,jb,ja,jd,jA,jf,j4,ji,jj,jk,jl,ju,jJ,jL,kq,rd,get,jy,jz,jh,jg,jB,jP,jx,jC,kL,jM,jN,jH,kp,jI,jQ,jD,jX,kd,ki,jw,bA,bN,kA,lend,kD,kw,kx,jZ,j7,kr,j9,zh,jT,jS,Nat.reduceBEq,Nat.reduceAdd]
  refine ⟨nofun, fun _ => ?_⟩
  refine kH _ (jb8 kl4) ?_
  dsimp only [jE,jm,jo,jc,jn,jG,jK,ky,jF,je,jO,jt,jr,jb,ja,jd,jA,jf,jq,ji,jj,jk,jl,ju,jJ,jL,kq,rd,get,jy,jz,jh,jg,jB,jP,jx,jC,jM,jN,jH,kp,jI,jQ,kd,ki,jw,bA,bN,kU,jR,kA,lend,ko,kw,kx,jZ,j7,kr,j9,zh,jT,jS,Nat.reduceBEq,Nat.reduceAdd]
  refine ⟨fun h => ?_, fun _ => ?_⟩
  ·simp at h; omega
  refine jv (Q9 hn hv (by omega) (i := ⟨w, h, fun _ _ => p, p, true, b⟩)) ?_
  dsimp only [qO,xy,jc,jG,jF,je,jt,jr,jb,ja,jd,jA,jf,ji,jj,jk,jl,jJ,jL,rd,get,jy,jz,jh,jg,jB,jP,jx,jC,jM,jN,jH,kp,jI,jQ,kd,ki,jw,bA,bN,kA,lend,kw,kx,jZ,j7,kr,j9,zh,jT,jS,Nat.reduceBEq,Nat.reduceAdd]
 refine KM (by rfl) ?_
 dsimp only [c_canvas_Canvas_Open,ye,qO,xy,jm,jo,jc,jn,jF,je,jt,jr,jb,ja,jd,jA,jf,jq,ji,jj,jk,jl,ju,jL,kq,rd,get,jy,jz,jh,jg,jB,jP,jx,jC,kj,jM,jN,jH,qB,kT,jI,jD,jX,kd,ki,jw,env0,bA,bN,jT,jS,o1,o0,Nat.reduceBEq,Nat.reduceAdd]
 refine jv hadd ?_
 dsimp only [qO,xy,jc,jG,jF,je,jt,jr,jb,ja,jd,jA,jf,ji,jj,jk,jl,jJ,jL,rd,get,jy,jz,jh,jg,jB,jP,jx,jC,kL,jM,jN,jH,kp,jI,jQ,kd,ki,jw,bA,bN,kA,lend,kw,kx,jZ,j7,kr,j9,zh,jT,jS,Nat.reduceBEq,Nat.reduceAdd]
theorem xl {kv : KV} (hn : zC kv) {id : Int} {i : It} (h : lk kv id = some (xy i)) : zA 104 [.agg [qO .u32 kv], .int .u32 id] (.tup [gD i.w i.h i.f, .bool true]) := by
 refine KN (by rfl) ?_
 dsimp only [c_canvas_Canvas_Grid,yf,qO,jm,jo,jc,jn,jF,je,jt,jr,jb,ja,jd,jA,jf,j4,ji,jj,jk,jl,ju,jL,kq,rd,get,jy,jz,jh,jg,jB,jP,jx,jC,kj,kL,jI,jD,jX,jw,env0,bA,bN,kD,jT,jS,o1,o0,Nat.reduceBEq,Nat.reduceAdd]
 refine kH _ (kh8 hn h) ?_
 dsimp only [xy,gD,jm,jo,jc,jn,jG,jF,je,jt,jr,jb,ja,jd,jA,jf,ji,jj,jk,jl,ju,jJ,jL,rd,get,jy,jz,jh,jg,jB,jP,jx,jC,kL,jM,jN,jH,kp,jI,jQ,jD,jX,kd,ki,jw,bA,bN,kA,lend,kw,kx,jZ,j7,kr,j9,zh,jT,jS,Nat.reduceBEq,Nat.reduceAdd]

def yH (C : Nat -> It) (n : Nat) : KV := QQ (fun k => xy (C k)) n
theorem kk1 {C : Nat -> It} {n : Nat} : ItV (yH C n) := fun p hp => by
 obtain ⟨k, _, rfl⟩ := List.mem_map.1 hp
 exact ⟨_, rfl⟩
theorem jf2 {C : Nat -> It} {n k : Nat} (h : k <= n) : lk (yH C n) (kQ k) = some (xy (C k)) := by unfold yH; rw [K5, if_pos h]
structure COk (S : Ws) (C : Nat -> It) : Prop where
 w : ∀ k, k <= S.n -> ((C k).w : Int) = (S.B k).w
 h : ∀ k, k <= S.n -> ((C k).h : Int) = (S.B k).h
theorem COk.size {S : Ws} {C : Nat -> It} (hS : S.Ok) (h : COk S C) {k : Nat} (hk : k <= S.n) : (1 <= (C k).w /\ (C k).w <= 16) /\ 1 <= (C k).h /\ (C k).h <= 16 := by
 have h1 := h.w k hk
 have h2 := h.h k hk
 have h3 := hS.size k
 omega
noncomputable def jx4 (S : Ws) (C : Nat -> It) (g : Px) (k : Nat) : Px := yj (C k).w (C k).h (C k).f (S.ox k) (S.oy k) (S.cl k) g
noncomputable def xH (S : Ws) (C : Nat -> It) (l : List Nat) : Px := l.foldl (jx4 S C) fun _ _ => 0
theorem jQ3 {S : Ws} {C : Nat -> It} {l : List Nat} {k : Nat} : xH S C (l ++ [k]) = jx4 S C (xH S C l) k := by simp [xH]
theorem ko4 {w h : Nat} {f : Px} {x0 y0 : Int} {Q : PS} {g : Px} (hq : ∀ x y, ¬ Q x y) : yj w h f x0 y0 Q g = g := by
 funext x y
 unfold yj
 rw [Yz fun hc => hq _ _ hc.1]
noncomputable def kt1 (S : Ws) (C : Nat -> It) (w h : Nat) (i : Nat) : St := ⟨[(4, [], .box 0 0), (5, [], .box 1 0), (8, [], .box 2 0), (10, [], .box 3 0), (30, [], .ls 1 (iL (S.ord.map kQ))), (31, [], .int .i64 S.ord.length), (32, [], .int .i64 i)],
 [.cells [.ls 1 (iL (S.ord.map kQ)), .mp (qI .u32 (xC S S.vs)) (kZ (xC S S.vs))], .cells [.mp (qI .u32 (yH C S.n)) (kZ (yH C S.n))], .cells [.int .i64 0, .int .i64 0, .ls 1 []], .cells [.int .i64 w, .int .i64 h, .ls 1 (gl w h (xH S C (S.ord.take i)))]]⟩
theorem jo1 {S : Ws} (hS : S.Ok) {C : Nat -> It} (hC : COk S C) {w h : Nat} (hw : 1 <= w /\ w <= 128) (hh : 1 <= h /\ h <= 128) :
  zA 41 [Qj S, .agg [qO .u32 (yH C S.n)], .int .i64 w, .int .i64 h] (.tup [gD w h (xH S C S.ord), .int .i64 0]) := by
 have hol := hS.ordLen
 refine ji5 (by rfl) ?_
 dsimp only [c_screen_Show,VJ,Qj,qO,jm,jo,jc,jn,jF,je,jt,jr,jb,ja,jd,jA,jf,jq,ji,jj,jk,jl,jL,kq,rd,get,jy,jz,jh,jg,jB,jP,jx,kj,jD,jX,jw,env0,bA,bN,jT,jS,o1,o0,og,Nat.reduceBEq,Nat.reduceAdd]
 refine jv (jo6 hw hh) ?_
 dsimp only [gD,jE,jm,jo,jc,jn,jG,jK,ky,jF,je,jO,jt,jr,jb,ja,jd,jA,jf,jq,ji,jj,jk,jl,ju,jJ,jL,kq,rd,get,jy,jz,jh,jg,jB,jP,jx,jC,kL,jM,jN,jH,kp,qB,kT,jI,jQ,jD,jX,kd,ki,jw,bA,bN,kU,jR,kA,lend,ko,kw,kx,jZ,j7,kr,j9,zh,jT,jS,Nat.reduceBEq,Nat.reduceAdd]
 refine ⟨fun h => absurd h (by simp), fun _ => ?_⟩
 have hwin := Qk hS
 unfold Qj at hwin
 refine jv hwin ?_
 dsimp only [jc,jU,jF,je,jt,jr,jb,ja,jd,jA,jf,ji,jj,jk,jl,kz,jL,rd,get,jy,jz,jh,jg,jB,jP,jx,jw,bA,bN,jT,jS,Nat.reduceBEq]
 rw [zO, List.length_map]
 refine kE (α := {i : Nat // i <= S.ord.length}) (fun i => kt1 S C w h i.1) (fun i => S.ord.length - i.1) ?_ ⟨0, by simp⟩ rfl
 rintro ⟨i, hi⟩ I ih
 dsimp only [kt1,jE,jm,jo,jc,jn,jU,kt,jG,jK,ky,jF,je,j1,j3,kC,jt,jr,jb,ja,jd,jA,jf,ku,ji,jj,jk,jl,ju,jJ,j6,jL,rd,get,jy,jz,jh,jg,jB,jP,km,jx,jC,jM,jN,jH,kp,jI,jQ,kd,ki,jw,bA,bN,kU,jR,kA,lend,ko,kw,kx,jZ,j7,kr,j9,zh,jT,jS,Nat.reduceBEq,Nat.reduceAdd]
 refine ⟨fun hj => ?_, fun hj => ?_⟩
 ·have hj : i < S.ord.length := by simp at hj; omega
  obtain ⟨k, hk⟩ : ∃ k, S.ord[i] = k := ⟨_, rfl⟩
  have hkm : k ∈ S.ord := by rw [<- hk]; exact List.getElem_mem _
  have hkn := hS.ordle hkm
  have hrow : (iL (S.ord.map kQ))[((i : Nat) : Int).toNat]? = some (.int .u32 (kQ k)) := by
   rw [Int.toNat_natCast]
   have := js2 (l := S.ord.map kQ) (i := i) (by rw [List.length_map]; exact hj)
   rw [this]; simp [hk]
  have hsn : xH S C (S.ord.take (i + 1)) = jx4 S C (xH S C (S.ord.take i)) k := by rw [List.take_succ_eq_append_getElem hj, hk, jQ3]
  refine ⟨⟨rfl, by omega, by rw [zO, List.length_map]; omega⟩, kh _ _ hrow rfl ?_⟩
  dsimp only [jm,jo,jc,jn,jF,je,jt,jr,jb,ja,jd,jA,jf,jq,ji,jj,jk,jl,ju,jL,kq,rd,get,jy,jz,jh,jg,jB,jP,jx,jC,jM,jN,jI,jw,bA,bN,jT,jS,Nat.reduceBEq]
  have hcl := jF6 hS (k := k)
  have hor := jo0 hS (hS.mem_ord.1 hkm)
  unfold Qj KS at hcl
  unfold Qj at hor
  refine jv hcl ?_
  dsimp only [jm,jo,jc,jn,jF,je,jt,jr,jb,ja,jd,jA,jf,jq,ji,jj,jk,jl,ju,jJ,jL,kq,rd,get,jy,jz,jh,jg,jB,jP,jx,jC,jM,jN,jH,kp,jI,jQ,jD,jX,kd,ki,jw,bA,bN,jT,jS,Nat.reduceBEq,Nat.reduceAdd]
  refine jv (xl JK (jf2 hkn)) ?_
  dsimp only [gD,jm,jo,jc,jn,jF,je,jt,jr,jb,ja,jd,jA,jf,jq,ji,jj,jk,jl,ju,jJ,jL,kq,rd,get,jy,jz,jh,jg,jB,jP,jx,jC,kL,jM,jN,jH,kp,jI,jQ,jD,jX,kd,ki,jw,bA,bN,jT,jS,Nat.reduceBEq,Nat.reduceAdd]
  refine jv hor ?_
  dsimp only [jm,jo,jc,jn,jF,je,jt,jr,jb,ja,jd,jA,jf,jq,ji,jj,jk,jl,ju,jJ,jL,kq,rd,get,jy,jz,jh,jg,jB,jP,jx,jC,kL,jM,jN,jH,kp,jI,jQ,jD,jX,kd,ki,jw,bA,bN,jT,jS,Nat.reduceBEq,Nat.reduceAdd]
  refine jv Zb ?_
  dsimp only [jE,jm,jo,jc,jn,kt,jG,jK,ky,jF,je,j1,j0,j3,kC,jt,jr,jb,ja,jd,jA,jf,jq,ji,jj,jk,jl,ju,jJ,kg,jL,kq,rd,get,jy,jz,jh,jg,jB,jP,km,jx,jC,kL,jM,jN,jH,kp,jI,jQ,kd,ki,jw,bA,bO,bN,bE,kU,jR,kA,lend,ko,kw,kx,jZ,j7,kr,j9,zh,jT,jS,Nat.reduceBEq,Nat.reduceAdd]
  rw [j8]
  have hq := hS.clSq (k := k)
  have hsz := hC.size hS hkn
  have hob := hS.orgB hkn
  refine ⟨fun he => ?_, fun he => ?_⟩
  ·have he' : reg (S.cl k) = [] := by
    simp at he
    exact he
   have hno := (KT hq.bdd).1 he'
   have hsm : xH S C (S.ord.take (i + 1)) = xH S C (S.ord.take i) := by rw [hsn]; unfold jx4; exact ko4 hno
   rw [<- hsm]
   refine ⟨by simp only [j5]; omega, ?_⟩
   exact kW (ih ⟨i + 1, by omega⟩ (by dsimp only; omega)) ⟨rfl, rfl, rfl, rfl, rfl, rfl, rfl, trivial⟩ ⟨rfl, rfl, rfl, rfl, trivial⟩ rfl rfl
  ·refine jv (jZ7 (by omega) (by omega) (by omega) (by omega) (by omega) (by omega) hq.bdd (Nat.le_trans hq.len (by omega))) ?_
   dsimp only [gD,jm,jo,jc,jF,je,j0,kC,jt,jr,jb,ja,jd,jA,jf,ji,jj,jk,jl,jJ,jL,rd,get,jy,jz,jh,jg,jB,jP,km,jx,jH,kp,jI,jQ,kd,ki,jw,bA,bN,kU,jR,ko,jT,jS,Nat.reduceBEq,Nat.reduceAdd]
   rw [show yj (C k).w (C k).h (C k).f (S.ox k) (S.oy k) (S.cl k) (xH S C (S.ord.take i)) = xH S C (S.ord.take (i + 1)) from hsn.symm]
   refine ⟨by simp only [j5]; omega, ?_⟩
   exact kW (ih ⟨i + 1, by omega⟩ (by dsimp only; omega)) ⟨rfl, rfl, rfl, rfl, rfl, rfl, rfl, trivial⟩ ⟨rfl, rfl, rfl, rfl, trivial⟩ rfl rfl
 ·have hj : i = S.ord.length := by simp at hj; omega
  subst hj
  rw [List.take_length]
theorem kG2 {S : Ws} (hS : S.Ok) {C : Nat -> It} (hC : COk S C) {x y : Int} (hr : S.root x y) : vL (C (S.top x y)).w (C (S.top x y)).h (x - S.ox (S.top x y)) (y - S.oy (S.top x y)) /\ xH S C S.ord x y = (C (S.top x y)).f (x - S.ox (S.top x y)) (y - S.oy (S.top x y)) := by
 obtain ⟨t, ht⟩ : ∃ t, S.top x y = t := ⟨_, rfl⟩
 have hcl : S.cl t x y := hS.cl_iff.2 ⟨hr, ht⟩
 have hm : t ∈ S.ord := hS.mem_ord.2 (hS.cl_key hcl)
 have hin : vL (C t).w (C t).h (x - S.ox t) (y - S.oy t) := by
  have h1 := KE (show zN (S.B t) (x - S.ox t) (y - S.oy t) from (hS.cl_sh hcl).1)
  have h2 := hC.w t (hS.ordle hm)
  have h3 := hC.h t (hS.ordle hm)
  unfold vL; omega
 rw [ht]
 refine ⟨hin, ?_⟩
 have key : ∀ (l : List Nat) (g : Px), l.Nodup -> (t ∈ l -> l.foldl (jx4 S C) g x y = (C t).f (x - S.ox t) (y - S.oy t)) /\ (t ∉ l -> l.foldl (jx4 S C) g x y = g x y) := fun l => by
  induction l with
  | nil => intro g _; exact ⟨nofun, fun _ => rfl⟩
  | cons k l ih =>
    intro g hn
    rw [List.nodup_cons] at hn
    rw [List.foldl_cons]
    obtain ⟨h1, h2⟩ := ih (jx4 S C g k) hn.2
    by_cases hk : k = t
    ·subst hk
     refine ⟨fun _ => ?_, fun h => absurd (by simp) h⟩
     rw [h2 hn.1]
     unfold jx4 yj
     rw [Yy ⟨hcl, hin⟩]
    ·have hno : jx4 S C g k x y = g x y := by
      unfold jx4 yj
      rw [Yz fun hc => hk (by rw [<- ht]; exact ((hS.cl_iff.1 hc.1).2).symm)]
     refine ⟨fun hm' => h1 (by
      rcases List.mem_cons.1 hm' with h | h
      ·exact absurd h.symm hk
      ·exact h), fun hm' => ?_⟩
     rw [h2 fun h => hm' (by simp [h]), hno]
 exact (key S.ord _ hS.ordn).1 hm

structure LkX where
 m : Nat
 k : Nat

structure Pn where
 a : Int
 b : Int
 c : Int
 d : Int
 e : Int
 f : Int

theorem jU0 {f : Nat -> D} {n : Nat} : put (QQ f n) (kQ (n + 1)) (f (n + 1)) = QQ f (n + 1) := by rw [qA (by rw [K5, if_neg (by omega)]), jT9]
theorem Kl {k : Nat} (h : k <= 1000) : j5 .u32 (kQ k) := by
 unfold kQ j5
 by_cases h0 : k = 0
 ·simp [h0]
 ·simp only [h0, if_false]; omega

theorem kt5 {P Q : PS} (hP : XT P) (hQ : XT Q) (lP : (reg P).length <= 4096) (lQ : (reg Q).length <= 4096) : zA 40 [KS P, KS Q] (KS fun x y => P x y \/ Q x y) := by
 have hres : reg (qL (zk (reg P ++ reg Q))) = reg fun x y => P x y \/ Q x y := KU fun x y => by
  unfold zk
  rw [jv0 (fun r hr _ => by
   rcases List.mem_append.1 hr with h | h
   ·exact yU hP r h
   ·exact yU hQ r h), kP9, yV hP, yV hQ]
 refine ja4 (by rfl) ?_
 dsimp only [c_region_Union,Zl,KS,jm,jo,jc,jn,jF,je,jt,jr,jb,ja,jd,jA,zb,zm,zu,jf,kc9,KY,ji,jj,jk,jl,ju,jL,kq,rd,get,jy,jz,jh,jg,jB,jP,jx,jC,kj,jM,jN,jI,jD,jX,jw,env0,bA,bO,bN,jT,jS,o1,o0,Nat.reduceBEq,Nat.reduceAdd]
 refine kq5 (jQ0 (by rw [j8]; omega)) rfl (fun _ _ => rfl) (fun _ _ => rfl) (fun _ _ => rfl) ?_
 dsimp only [jc,ja,jd,jA,zb,qC,zm,zu,jf,za,ji,jj,jk,jl,ju,jL,kq,rd,get,jy,jz,jh,jg,jB,jP,jx,jC,jM,jN,jI,jD,jw,bA,bO,bN,kV,qY,zp,kM,z6,Je,Jd,jT,jS,Nat.reduceBEq,Nat.reduceAdd]
 refine xS (JY (by rw [j8]; omega)) ?_
 dsimp only [jc,ja,jd,jA,jf,jq,ji,jj,jk,jl,qg,jL,kq,rd,get,jy,jz,jh,jg,jB,jP,km,jx,jI,jQ,jw,bA,bN,jT,jS,Nat.reduceBEq,Nat.reduceAdd]
 refine ⟨⟨rfl, rfl, rfl, rfl, by rw [j8, j8]; omega, by rw [j8, j8]; omega⟩, ?_⟩
 rw [show kJ (reg P) ++ kJ (reg Q) = kJ (reg P ++ reg Q) by simp [kJ]]
 refine KD rfl ⟨rfl, trivial⟩ (Sp.lift (xG (fun r hr => ?_) (by rw [List.length_append]; omega)) rfl) ?_
 ·rcases List.mem_append.1 hr with h | h
  ·exact (yU hP r h).in
  ·exact (yU hQ r h).in
 dsimp only [jc,jG,jF,je,jt,jr,jb,ja,jd,jA,jf,ji,jj,jk,jl,jJ,jL,rd,get,jy,jz,jh,jg,jB,jP,jx,jC,jM,jN,jH,kp,jI,jQ,kd,ki,jw,bA,bN,kA,lend,kw,kx,jZ,j7,kr,j9,zh,jT,jS,Nat.reduceBEq,Nat.reduceAdd]
 rw [hres]
end Go.AM
