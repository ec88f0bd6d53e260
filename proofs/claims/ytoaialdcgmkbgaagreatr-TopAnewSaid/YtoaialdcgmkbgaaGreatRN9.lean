import Derived.Test.YtoaialdcgmkbgaaGreatRN6

set_option linter.all false
namespace Go.AM
open Go Go.RowKit Go.Proofs
theorem tTo : Tryz.prog.underlying 218 = some (.map 53 42) := by kernel_rfl
theorem zTo : ZV Tryz.prog 42 (.agg #[.slice none 0 0]) := by unfold ZV; kernel_rfl
def kl0 : D := .agg [.ls 4 []]
theorem kf2 (K : Kn) (pl : Pl) : Rep K pl kl0 (.agg #[.slice none 0 0]) := by
 simp only [kl0, Rep, RepL]
 refine ⟨_, rfl, ⟨_, _, rfl, ⟨none, 0, 0, rfl, rfl, Nat.le_refl _, fun _ => rfl, .inl trivial⟩, rfl⟩, fun c hc => ?_⟩
 simp only [List.mem_cons, List.not_mem_nil, or_false] at hc
 rw [hc]; rfl
noncomputable def YM (S S' : Ws) (C : Nat -> It) (sf : Nat -> Sf) : List Nat := S'.ord.filter fun k => !decide (reg (jM7 S S' C sf k) = [])
noncomputable def kf8 (S S' : Ws) (C : Nat -> It) (sf : Nat -> Sf) (l : List Nat) : KV := l.map fun k => (kQ k, KS (jM7 S S' C sf k))
theorem ks4 {S S' : Ws} {C : Nat -> It} {sf : Nat -> Sf} {l : List Nat} {k : Nat} : kf8 S S' C sf (l ++ [k]) = kf8 S S' C sf l ++ [(kQ k, KS (jM7 S S' C sf k))] := by simp [kf8]
theorem jY6 {S S' : Ws} {C : Nat -> It} {sf : Nat -> Sf} {l : List Nat} (h : l.Nodup) : zC (kf8 S S' C sf l) := by
 unfold zC kf8
 rw [List.map_map]
 exact List.pairwise_map.2 (List.Pairwise.imp (fun hne he => hne (vE.1 he)) h)
theorem jY5 {S S' : Ws} {C : Nat -> It} {sf : Nat -> Sf} {l : List Nat} {k : Nat} (h : k ∉ l) : lk (kf8 S S' C sf l) (kQ k) = none := by
 rw [Jr]
 unfold kf8
 rw [List.map_map]
 intro hm
 obtain ⟨j, hj, he⟩ := List.mem_map.1 hm
 exact h (vE.1 he ▸ hj)
theorem kO3 {S S' : Ws} {C : Nat -> It} {sf : Nat -> Sf} {l : List Nat} {k : Nat} (hn : l.Nodup) (h : k ∈ l) : lk (kf8 S S' C sf l) (kQ k) = some (KS (jM7 S S' C sf k)) :=
 jc5 (jY6 hn) (List.mem_map.2 ⟨k, h, rfl⟩)
theorem ke0 {S S' : Ws} {C : Nat -> It} {sf : Nat -> Sf} {k : Nat} (h : S'.Ok) : Sq (jM7 S S' C sf k) := (h.visSq (k := k)).sub fun _ _ hx => hx.1
theorem kU2 {S S' : Ws} {C : Nat -> It} {sf : Nat -> Sf} {k : Nat} (h : S'.Ok) (hk : k ∉ YM S S' C sf) : reg (jM7 S S' C sf k) = [] := by
 by_cases he : reg (jM7 S S' C sf k) = []
 ·exact he
 ·refine (KT (ke0 h).bdd).2 fun x y hx => hk ?_
  have hv : S'.vis k x y := hx.1
  exact List.mem_filter.2 ⟨h.mem_ord.2 (h.cl_key hv.1), by simp [he]⟩
theorem kd9 {S S' : Ws} {C : Nat -> It} {sf : Nat -> Sf} (h : ChOk S S' C) {k : Nat} (hk : k <= S.n) {x y : Int} (hv : S'.vis k x y) :
  (jM7 S S' C sf k x y -> (jy3 S S' C sf k).f x y = (jy3 S S' C sf k).g) /\ (¬ jM7 S S' C sf k x y -> (jy3 S S' C sf k).f x y = atV (C k).w (C k).h (C k).f (x - (sf k).dx) (y - (sf k).dy)) := by
 unfold jy3 jW6 jW7 yj
 dsimp only
 constructor
 ·rintro ⟨_, hn⟩
  exact Yz fun hq => hn hq.1
 ·intro hn
  have hf : y8 (C k) (S.vis k) (S'.vis k) (sf k) x y := by
   by_cases hf : y8 (C k) (S.vis k) (S'.vis k) (sf k) x y
   ·exact hf
   ·exact absurd ⟨hv, hf⟩ hn
  have hin : vL (C k).w (C k).h (x - (sf k).dx) (y - (sf k).dy) := by
   unfold y8 at hf
   split at hf
   ·unfold VZ at hf
    split at hf
    ·exact absurd hf (by simp [jB9])
    ·unfold Rc.has at hf
     dsimp only at hf
     unfold vL
     omega
   ·unfold Js at hf
    split at hf
    ·exact absurd hf (by simp [jB9])
    ·have h1 := KE (h.ok.vis_in hf.2.1)
     have h2 := h.c.w k hk
     have h3 := h.c.h k hk
     unfold vL
     omega
  rw [Yy ⟨hf, hin⟩]
  unfold atV
  rw [if_pos hin]
noncomputable def mdD (S : Ws) (C : Nat -> It) (L : List D) : D := .agg [.mp (qI .u32 (vI S.tr.kids)) (kZ (vI S.tr.kids)), .mp (qI .u32 (zH S.tr.up)) (kZ (zH S.tr.up)), .mp (qI .u32 S.kv) (kZ S.kv), .mp (qI .u32 (yH C S.n)) (kZ (yH C S.n)), .ls 9 L]
noncomputable def kE3 (S S' : Ws) (C : Nat -> It) (sf : Nat -> Sf) (L : List D) (l : List Nat) : List Ent :=
 [.cells [.mp (qI .u32 (vI S.tr.kids)) (kZ (vI S.tr.kids)), .mp (qI .u32 (zH S.tr.up)) (kZ (zH S.tr.up)), .mp (qI .u32 S.kv) (kZ S.kv), .mp (qI .u32 (yH C S.n)) (kZ (yH C S.n)), .ls 9 L],
  .cells [.mp (qI .u32 S'.kv) (kZ S'.kv)], .cells [.mp [] []], .cells [.ls 1 (iL (S.ord.map kQ)), .mp (qI .u32 (xC S S.vs)) (kZ (xC S S.vs))], .cells [.ls 1 (iL (S'.ord.map kQ)), .mp (qI .u32 (xC S' S'.vs)) (kZ (xC S' S'.vs))],
  .cells [.mp (qI .u32 (yH (jy3 S S' C sf) S.n)) (kZ (yH (jy3 S S' C sf) S.n))], zf .u32 (kf8 S S' C sf l)]
noncomputable def kO9 (S S' : Ws) (C : Nat -> It) (sf : Nat -> Sf) (mk : KV) (L : List D) (i : Nat) : St := ⟨[(2, [], .mp (qI .u32 mk) (kZ mk)), (3, [], .box 0 0), (6, [], .box 2 0), (9, [], .box 4 0), (10, [], .box 5 0), (12, [], .ownm 6 0), (43, [], .ls 3 (y9 S S' C sf S'.ord)), (44, [], .int .i64 (YM S S' C sf).length), (45, [], .int .i64 i)],
 kE3 S S' C sf L ((YM S S' C sf).take i)⟩
noncomputable def kO8 (S S' : Ws) (C : Nat -> It) (sf : Nat -> Sf) (mk : KV) (L : List D) (i : Nat) : St := ⟨[(2, [], .mp (qI .u32 mk) (kZ mk)), (3, [], .box 0 0), (6, [], .box 2 0), (9, [], .box 4 0), (10, [], .box 5 0), (12, [], .ownm 6 0), (73, [], .ls 1 (iL (S.sub.map kQ))), (74, [], .int .i64 S.sub.length), (75, [], .int .i64 i)],
 kE3 S S' C sf L (YM S S' C sf)⟩
theorem jg1 {S S' : Ws} {C : Nat -> It} {sf : Nat -> Sf} {mk : KV} (h : ChOk S S' C) (htr : S'.tr = S.tr) (hm : MvOk mk S.n sf) {L : List D} (hL : jV L = true) :
  zA 55 [mdD S C L, .agg [qO .u32 S'.kv], .mp (qI .u32 mk) (kZ mk)] (.tup [.agg [qO .u32 (yH (jy3 S S' C sf) S.n)], .bool true]) := by
 have hfew := h.ok.few
 have hnd : zC (yH C S.n) := JK
 have hnd2 : zC (yH (jy3 S S' C sf) S.n) := JK
 have hofl := h.ok'.ordLen
 have hfn : (YM S S' C sf).Nodup := h.ok'.ordn.sublist List.filter_sublist
 have hfl : (YM S S' C sf).length <= 41 := Nat.le_trans (List.length_filter_le _ _) hofl
 have hfk : ∀ k ∈ YM S S' C sf, k <= S.n := fun k hk => h.n ▸ h.ok'.ordle (List.mem_filter.1 hk).1
 have hT : ∀ l, jV (kZ (kf8 S S' C sf l)) = true := fun l => by
  rw [z8]
  intro d hd
  obtain ⟨p, hp, rfl⟩ := List.mem_map.1 hd
  obtain ⟨q, hq, rfl⟩ := List.mem_map.1 hp
  rfl
 have hof := yN h.ok
 have hof2 := yN h.ok'
 have hch := JX h hm
 have hbl := VC h.ok.tok (id := 1) (by simp [jc8]) h.ok.hg (by rw [Ws.below, List.length_map]; have := h.ok.subLen; omega)
 rw [Ws.below] at hbl
 rw [htr] at hof2
 rw [show tD S.tr = .agg [qO .u32 (vI S.tr.kids), qO .u32 (zH S.tr.up)] from rfl] at hof hof2 hbl
 unfold qO Qj at hof hof2 hch
 unfold qO at hbl
 unfold mdD qO
 refine ja2 (by rfl) ?_
 dsimp only [c_top_anewBoth,Zj,jm,jo,jc,jn,jF,je,jt,jr,jb,ja,jd,jA,zb,qC,zm,zu,jf,za,ji,jj,jk,jl,ju,jL,kq,rd,get,jy,jz,jh,jg,jB,jP,jx,jC,kj,jM,jN,jI,jD,jX,jw,env0,bA,bO,bN,jT,jS,o1,o0,og,Nat.reduceBEq,Nat.reduceAdd]
 refine xS hof ?_
 dsimp only [jc,ja,jd,jA,zb,qC,zm,zu,jf,za,ji,jj,jk,jl,ju,jL,kq,rd,get,jy,jz,jh,jg,jB,jP,jx,jC,jM,jN,jI,jw,bA,bO,bN,jT,jS,Nat.reduceBEq,Nat.reduceAdd]
 refine xS hof2 ?_
 dsimp only [jm,jo,jc,jn,jF,je,jt,jr,jb,ja,jd,jA,zb,qC,zm,zu,jf,jq,ji,jj,jk,jl,ju,jJ,jL,kq,rd,get,jy,jz,jh,jg,jB,jP,jx,jC,jM,jN,jH,kp,jI,jQ,jD,jX,kd,ki,jw,bA,bO,bN,jT,jS,Nat.reduceBEq,Nat.reduceAdd]
 refine jv hch ?_
 dsimp only [jm,jo,jc,jn,jF,je,jt,jr,jb,ja,jd,jA,jf,j4,ji,jj,jk,jl,jJ,jL,kq,rd,get,jy,jz,jh,jg,jB,jP,jx,kL,jH,kp,jI,jQ,jD,jX,kd,ki,jw,bA,bN,kD,jT,jS,Nat.reduceBEq,Nat.reduceAdd]
 refine kS _ _ (Xh (ik := .u32)) ?_
 dsimp only [zf,jm,jo,jc,jn,jU,jF,je,jt,jr,jb,ja,jd,jA,jf,ji,jj,jk,jl,kz,jL,rd,get,jy,jz,jh,jg,jB,jP,jx,jD,jX,jw,bA,bN,jT,jS,Nat.reduceBEq,Nat.reduceAdd]
 rw [show (y9 S S' C sf S'.ord).length = (YM S S' C sf).length by simp [y9, YM]]
 refine kE (α := {i : Nat // i <= (YM S S' C sf).length}) (fun i => kO9 S S' C sf mk L i.1) (fun i => (YM S S' C sf).length - i.1) ?_ ⟨0, Nat.zero_le _⟩ (by rfl)
 rintro ⟨i, hi⟩ I ih
 dsimp only [kO9,kE3,zf,jE,jm,jo,jc,jn,jU,kt,jK,ky,jF,je,j1,j3,kC,jt,jr,jb,ja,jd,jA,jf,jq,ku,ji,jj,jk,jl,ju,j6,jL,kq,rd,get,jy,jz,jh,jg,jB,jP,km,jx,jC,jM,jN,jI,jw,bA,bN,kU,jR,ko,kw,jT,jS,Nat.reduceBEq,Nat.reduceAdd]
 refine ⟨fun hj => ?_, fun hj => ?_⟩
 ·have hj : i < (YM S S' C sf).length := by simp at hj; omega
  obtain ⟨k, hk⟩ : ∃ k, (YM S S' C sf)[i] = k := ⟨_, rfl⟩
  have hkm : k ∈ YM S S' C sf := by rw [<- hk]; exact List.getElem_mem _
  have hkn := hfk k hkm
  have hrow : (y9 S S' C sf S'.ord)[((i : Nat) : Int).toNat]? = some (kE2 S S' C sf k) := by
   rw [Int.toNat_natCast]
   show ((YM S S' C sf).map (kE2 S S' C sf))[i]? = _
   rw [List.getElem?_map, List.getElem?_eq_getElem hj, hk]; rfl
  have htk : (YM S S' C sf).take (i + 1) = (YM S S' C sf).take i ++ [k] := by rw [List.take_succ_eq_append_getElem hj, hk]
  have hno : k ∉ (YM S S' C sf).take i := fun hm => by
   have hnn := hfn.sublist (List.take_sublist (i + 1) _)
   rw [htk, List.nodup_append] at hnn
   exact hnn.2.2 _ hm _ (by simp) rfl
  have hN0 : zC (kf8 S S' C sf ((YM S S' C sf).take i)) := jY6 (hfn.sublist (List.take_sublist _ _))
  refine ⟨⟨rfl, by omega, by simp [y9, YM] at hj |-; omega⟩, kh _ _ hrow rfl ?_⟩
  dsimp only [jm,jo,jc,jn,jF,je,jt,jr,jb,ja,jd,jA,jf,j4,ji,jj,jk,jl,ju,jJ,jL,kq,rd,get,jy,jz,jh,jg,jB,jP,jx,jC,kL,jH,kp,jI,jQ,jD,jX,kd,ki,jw,bA,bN,kD,jT,jS,Nat.reduceBEq,Nat.reduceAdd]
  have hlp := Z2 (P := Tryz.prog) (gt := zM) (ik := .u32) (bx := List.append (kE3 S S' C sf L ((YM S S' C sf).take i)) [.cells [.int .u32 (kQ k), .ls 4 (kJ (reg (YF (C k) (S.vis k) (S'.vis k) (sf k)))), .ls 4 (kJ (reg (jM7 S S' C sf k)))]]) (j := 6) tTo tI zTo (kv := kf8 S S' C sf ((YM S S' C sf).take i)) rfl hN0 (kQ k) true (zd := kl0) (fun _ => kf2)
  rw [jY5 hno] at hlp
  change PrM _ _ _ _ _ (.tup [kl0, .bool false]) _ at hlp
  refine kH _ hlp ?_
  dsimp only [kl0,jE,jm,jo,jc,jn,jG,jK,ky,jF,je,jO,kR,kC,jt,jr,jb,ja,jd,jA,jf,jq,ji,jj,jk,jl,ju,jJ,jL,kq,rd,get,jy,jz,jh,jg,jB,jP,jx,jC,kL,jM,jN,jH,kp,jI,jQ,jD,jX,kd,ki,jw,bA,bN,kA,lend,kw,kx,jZ,j7,kr,j9,zh,jT,jS,Nat.reduceBEq,Nat.reduceAdd]
  refine ⟨nofun, fun _ => ?_⟩
  have htold := jP3 (K := YF (C k) (S.vis k) (S'.vis k) (sf k)) (Kl (show k <= 1000 by omega)) (ke0 (S := S) (C := C) (sf := sf) (k := k) h.ok')
  unfold kq0 KS at htold
  refine jv htold ?_
  dsimp only [jE,jm,jo,jc,jn,jG,jK,ky,jF,je,jO,kR,kC,jt,jr,jb,ja,jd,jA,jf,j4,ji,jj,jk,jl,ju,jJ,jL,kq,rd,get,jy,jz,jh,jg,jB,jP,jx,jC,kL,jM,jN,jH,kp,jI,jQ,jD,jX,kd,ki,jw,bA,bN,kA,lend,kD,kw,kx,jZ,j7,kr,j9,zh,jT,jS,Nat.reduceBEq,Nat.reduceAdd]
  refine ⟨nofun, fun _ => ?_⟩
  refine kS _ _ (vY tTo tI (kv := kf8 S S' C sf ((YM S S' C sf).take i)) rfl hN0 (kQ k) (KS (jM7 S S' C sf k))) ?_
  rw [qA (jY5 hno), <- ks4, <- htk]
  dsimp only [zf,jm,jo,jc,jF,je,j0,kC,jt,jr,jb,ja,jd,jA,jf,ji,jj,jk,jl,jL,rd,get,jy,jz,jh,jg,jB,jP,km,jx,jQ,jw,bA,bN,kU,jR,ko,jT,jS,Nat.reduceBEq]
  exact ⟨by simp only [j5]; omega, kW (ih ⟨i + 1, hj⟩ (by dsimp only; omega)) ⟨rfl, rfl, rfl, rfl, rfl, rfl, rfl, rfl, by simp [get], trivial⟩ ⟨rfl, rfl, rfl, rfl, rfl, rfl, rfl, trivial⟩ rfl (by simp [kO9, kE3, zf, k8, low, vb, q9, kX _ (hT _), jD])⟩
 ·have hj : i = (YM S S' C sf).length := by simp at hj; omega
  subst hj
  rw [List.take_length]
  refine jv hbl ?_
  dsimp only [jc,jU,jF,je,jt,jr,jb,ja,jd,jA,jf,ji,jj,jk,jl,kz,jL,rd,get,jy,jz,jh,jg,jB,jP,jx,jw,bA,bN,jT,jS,Nat.reduceBEq]
  rw [zO, List.length_map]
  refine kE (α := {i : Nat // i <= S.sub.length}) (fun i => kO8 S S' C sf mk L i.1) (fun i => S.sub.length - i.1) ?_ ⟨0, Nat.zero_le _⟩ (by rfl)
  rintro ⟨i, hi2⟩ I2 ih2
  dsimp only [kO8,kE3,zf,jE,jm,jo,jc,jn,jU,kt,jG,jK,ky,jF,je,j1,j3,kC,jt,jr,jb,ja,jd,jA,jf,ku,ji,jj,jk,jl,ju,jJ,j6,jL,rd,get,jy,jz,jh,jg,jB,jP,km,jx,jC,jM,jN,jH,kp,jI,jQ,kd,ki,jw,bA,bN,kU,jR,kA,lend,ko,kw,kx,jZ,j7,kr,j9,zh,jT,jS,Nat.reduceBEq,Nat.reduceAdd]
  refine ⟨fun hj => ?_, fun hj => ?_⟩
  ·have hj : i < S.sub.length := by simp at hj; omega
   obtain ⟨k, hk⟩ : ∃ k, S.sub[i] = k := ⟨_, rfl⟩
   have hkm : k ∈ S.sub := by rw [<- hk]; exact List.getElem_mem _
   have hkn : k <= S.n := h.ok.suble hkm
   have hrow : (iL (S.sub.map kQ))[((i : Nat) : Int).toNat]? = some (.int .u32 (kQ k)) := by
    rw [Int.toNat_natCast]
    have := js2 (l := S.sub.map kQ) (i := i) (by rw [List.length_map]; exact hj)
    rw [this]; simp [hk]
   refine ⟨⟨rfl, by omega, by rw [zO, List.length_map]; omega⟩, kh _ _ hrow rfl ?_⟩
   dsimp only [jm,jo,jc,jn,jF,je,jt,jr,jb,ja,jd,jA,jf,jq,ji,jj,jk,jl,ju,jL,kq,rd,get,jy,jz,jh,jg,jB,jP,jx,jC,jM,jN,jI,jw,bA,bN,jT,jS,Nat.reduceBEq,Nat.reduceAdd]
   have hgr := xl hnd (jf2 (C := C) hkn)
   have hvi := vf h.ok' (h.n ▸ hkn : k <= S'.n)
   have hcs := h.c.size h.ok hkn
   have hsz := h.ok'.size k
   have hcw : (jy3 S S' C sf k).w = (S'.B k).w.toNat := rfl
   have hch2 : (jy3 S S' C sf k).h = (S'.B k).h.toNat := rfl
   have hwh := jG1 hnd2 (jf2 (C := jy3 S S' C sf) hkn) (h.win k) (by omega) (by omega) (w0 := (C k).w) (h0 := (C k).h) (f0 := (C k).f) (by omega) (by omega) (h.ok'.visSq (k := k)) (ke0 (S := S) (C := C) (sf := sf) (k := k) h.ok') (fun _ _ hx => hx.1) (hm.ok k)
    (fun x y _ hv => kd9 h hkn hv)
   unfold qO gD at hgr
   unfold Qj KS at hvi
   unfold qO gD KS at hwh
   refine jv hgr ?_
   dsimp only [jm,jo,jc,jn,jF,je,jt,jr,jb,ja,jd,jA,jf,jq,ji,jj,jk,jl,ju,jJ,jL,kq,rd,get,jy,jz,jh,jg,jB,jP,jx,jC,kL,jM,jN,jH,kp,jI,jQ,jD,jX,kd,ki,jw,bA,bO,bN,bE,jT,jS,Nat.reduceBEq,Nat.reduceAdd]
   have hlp2 : ∀ r, PrM Tryz.prog zM (.lkp 218 false) [.ownm 6 0, .int .u32 (kQ k)] (List.append (kE3 S S' C sf L (YM S S' C sf)) r) (.agg [.ls 4 (kJ (reg (jM7 S S' C sf k)))]) (List.append (kE3 S S' C sf L (YM S S' C sf)) r) := fun r => by
    have hlp := Z2 (P := Tryz.prog) (gt := zM) (ik := .u32) (bx := List.append (kE3 S S' C sf L (YM S S' C sf)) r) (j := 6) tTo tI zTo (kv := kf8 S S' C sf (YM S S' C sf)) rfl (jY6 hfn) (kQ k) false (zd := kl0) (fun _ => kf2)
    by_cases hkf : k ∈ YM S S' C sf
    ·rw [kO3 hfn hkf] at hlp
     exact hlp
    ·rw [jY5 hkf] at hlp
     rw [kU2 h.ok' hkf]
     exact hlp
   refine jv (fun _ => hvi) ?_
   dsimp only [jc,ja,jd,jA,jf,j4,ji,jj,jk,jl,jL,kq,rd,get,jy,jz,jh,jg,jB,jP,jx,jw,bA,bO,bN,bE,kD,jT,jS,Nat.reduceBEq]
   refine kH _ (fun _ => hlp2 [_]) ?_
   dsimp only [jc,ja,jd,jA,jf,j4,ji,jj,jk,jl,jL,kq,rd,get,jy,jz,jh,jg,jB,jP,jx,jw,bA,bO,bN,bE,kD,jT,jS,Nat.reduceBEq]
   refine kH _ (fun _ => kM1 hm hkn) ?_
   dsimp only [jc,ja,jd,jA,jq,ji,jj,jk,jl,jL,kq,rd,get,jy,jz,jh,jg,jB,jP,jx,jw,bA,bO,bN,bE,jT,jS,Nat.reduceBEq]
   refine jv (fun _ => hwh) ?_
   dsimp only [jE,jm,jo,jc,jn,jG,jK,ky,jF,je,jO,j0,kR,kC,jt,jr,jb,ja,jd,jA,jf,ji,jj,jk,jl,ju,jJ,kg,jL,rd,get,jy,jz,jh,jg,jB,jP,km,jx,jC,jM,jN,jH,kp,jI,jQ,kd,ki,jw,bA,bO,bN,bE,kU,jR,kA,lend,ko,kw,kx,jZ,j7,kr,j9,zh,jT,jS,Nat.reduceBEq,Nat.reduceAdd]
   refine ⟨nofun, fun _ => ?_⟩
   exact ⟨by simp only [j5]; have := h.ok.subLen; omega, kW (ih2 ⟨i + 1, hj⟩ (by dsimp only; omega)) ⟨rfl, rfl, rfl, rfl, rfl, rfl, rfl, rfl, by simp [get], trivial⟩ ⟨rfl, rfl, rfl, rfl, rfl, rfl, rfl, trivial⟩ rfl (by simp [kO8, kE3, zf, k8, low, vb, q9, kX _ (hT _), jD])⟩
  ·dsimp only []

structure Wn where
 up : Int
 x : Int
 y : Int
 w : Int
 h : Int
 on : Bool
 s : Bool
 l : List Rc
 ink : Int
def kD6 (a : Wn) : D := .agg [.int .u8 a.up, .int .i8 a.x, .int .i8 a.y, .int .u8 a.w, .int .u8 a.h, .bool a.on, .bool a.s, .ls 4 (kJ a.l), .int .u8 a.ink]
def JB (a : Wn) : Prop := (0 <= a.up /\ a.up <= 255) /\ (-128 <= a.x /\ a.x <= 127) /\ (-128 <= a.y /\ a.y <= 127) /\ (0 <= a.w /\ a.w <= 255) /\ (0 <= a.h /\ a.h <= 255) /\ (0 <= a.ink /\ a.ink <= 255) /\ a.l.length <= 9223372036854775807
def qU (ws : List Wn) (k : Nat) : Wn := ws.getD k ⟨0, 0, 0, 0, 0, false, false, [], 0⟩
theorem kE7 {ws : List Wn} {k : Nat} {a : Wn} (h : ws[k]? = some a) : qU ws k = a := by
 unfold qU
 rw [List.getD_eq_getElem?_getD, h]; rfl
theorem xT {ws : List Wn} (h : ∀ a ∈ ws, JB a) (k : Nat) : JB (qU ws k) := by
 unfold qU
 rw [List.getD_eq_getElem?_getD]
 cases hk : ws[k]? with
 | none => simp [JB]
 | some p => exact h p (List.mem_of_getElem? hk)
def wW (a : Wn) : Nat := (a.w % 16 + 1).toNat
def wH (a : Wn) : Nat := (a.h % 16 + 1).toNat
theorem jN6 {a : Wn} (h : JB a) : (1 <= wW a /\ wW a <= 16) /\ (wW a : Int) = a.w % 16 + 1 := by unfold JB at h; unfold wW; omega
theorem jN7 {a : Wn} (h : JB a) : (1 <= wH a /\ wH a <= 16) /\ (wH a : Int) = a.h % 16 + 1 := by unfold JB at h; unfold wH; omega
def XW (ws : List Wn) (k : Nat) : Nat := if k = 0 then 0 else ((qU ws k).up % (k : Int)).toNat
theorem jl3 (ws : List Wn) : PW (XW ws) := ⟨fun k h => by
 unfold XW
 rw [if_neg (by omega)]
 have h1 := Int.emod_lt_of_pos (qU ws k).up (show (0 : Int) < k by omega)
 have h2 := Int.emod_nonneg (qU ws k).up (show (k : Int) ≠ 0 by omega)
 omega, rfl⟩
def wL (a : Wn) : List Rc := if a.s = true then a.l else []
def jf7 (ws : List Wn) (k : Nat) : Bx := if k = 0 then VG (wW (qU ws 0)) (wH (qU ws 0)) else
 ⟨(qU ws k).x, (qU ws k).y, wW (qU ws k), wH (qU ws k), (qU ws k).on, 0, 0, (qU ws k).s, qL (zk (wL (qU ws k)))⟩
def jE8 (ws : List Wn) (k : Nat) : It := ⟨wW (qU ws k), wH (qU ws k), Xr (qU ws k).ink, 0, true, decide (k = 0)⟩
def wS (ws : List Wn) (n : Nat) : Ws := ⟨XW ws, n, jf7 ws⟩
theorem jJ0 : qL (zk []) = jB9 := zz fun x y => by simp [qL, zk, jB9]
theorem kr5 {a : Wn} (ha : kD7 a.l) : (∀ r ∈ wL a, r.In) /\ (wL a).length <= 6 /\ XT (qL (zk (wL a))) /\ (reg (qL (zk (wL a)))).length <= 4096 := by
 have hV : ∀ r ∈ zk (wL a), Vr r := fun r hr => ZS.1 (List.mem_filter.1 hr).2
 have hl : (wL a).length <= 6 := by
  unfold wL
  split
  ·exact ha.2
  ·simp
 have hlen : (zk (wL a)).length <= 6 := Nat.le_trans (List.length_filter_le _ _) hl
 refine ⟨fun r hr => ?_, hl, kr7 hV, Nat.le_trans (ka9 hV).2 ?_⟩
 ·unfold wL at hr
  split at hr
  ·have := ha.1 r hr
   unfold kP3 at this
   unfold Rc.In j5
   omega
  ·cases hr
 ·have := Nat.mul_le_mul (Nat.mul_le_mul_left 2 hlen) hlen
  omega
theorem kL8 {ws : List Wn} (hw : ∀ a ∈ ws, JB a) (hs : ∀ k, k < ws.length -> kD7 (qU ws k).l) {n : Nat} (hn : n <= 8) : (wS ws n).Ok := by
 refine ⟨jl3 ws, by show n <= 40; omega, fun k => ?_, fun k hk => ?_, fun k hk => ?_, fun k => ?_⟩
 ·rw [show (wS ws n).B k = jf7 ws k from rfl]
  have h1 := jN6 (xT hw k)
  have h2 := jN7 (xT hw k)
  have h3 := jN6 (xT hw 0)
  have h4 := jN7 (xT hw 0)
  unfold jf7
  by_cases h0 : k = 0
  ·simp only [h0, if_true, VG]
   omega
  ·simp only [h0, if_false]
   omega
 ·rw [show (wS ws n).B k = jf7 ws k from rfl]
  have := xT hw k
  unfold JB at this
  unfold jf7
  rw [if_neg (by omega)]
  dsimp only; omega
 ·rw [show (wS ws n).B k = jf7 ws k from rfl]
  have := xT hw k
  unfold JB at this
  unfold jf7
  rw [if_neg (by omega)]
  dsimp only; omega
 ·rw [show (wS ws n).B k = jf7 ws k from rfl]
  unfold jf7
  by_cases h0 : k = 0
  ·simp only [h0, if_true, VG]
   exact ⟨YA, by rw [xJ]; simp⟩
  ·simp only [h0, if_false]
   by_cases hk : k < ws.length
   ·exact (kr5 (hs k hk)).2.2
   ·have : qU ws k = ⟨0, 0, 0, 0, 0, false, false, [], 0⟩ := by
     unfold qU
     rw [List.getD_eq_getElem?_getD, List.getElem?_eq_none (by omega)]; rfl
    rw [this]
    unfold wL
    simp only [Bool.false_eq_true, if_false, jJ0]
    exact ⟨YA, by rw [xJ]; simp⟩
theorem kr6 {ws : List Wn} {n : Nat} : COk (wS ws n) (jE8 ws) := by
 refine ⟨fun k _ => ?_, fun k _ => ?_⟩
 ·rw [show (wS ws n).B k = jf7 ws k from rfl]
  unfold jE8 jf7
  by_cases h0 : k = 0
  ·simp only [h0, if_true, VG]
  ·simp only [h0, if_false]
 ·rw [show (wS ws n).B k = jf7 ws k from rfl]
  unfold jE8 jf7
  by_cases h0 : k = 0
  ·simp only [h0, if_true, VG]
  ·simp only [h0, if_false]
theorem kF4 {ws : List Wn} (hw : ∀ a ∈ ws, JB a) {i : Nat} (hi : i <= 7) :
  zA 54 [.agg [qO .u32 (wS ws i).kv], .int .u32 (kQ (i + 1)), Jx (jf7 ws (i + 1))] (.tup [.agg [qO .u32 (wS ws (i + 1)).kv], .int .i64 0]) := by
 have ho := xT hw (i + 1)
 have h1 := jN6 ho
 have h2 := jN7 ho
 unfold JB at ho
 have hb : jf7 ws (i + 1) = ⟨(qU ws (i + 1)).x, (qU ws (i + 1)).y, wW (qU ws (i + 1)), wH (qU ws (i + 1)), (qU ws (i + 1)).on, 0, 0, (qU ws (i + 1)).s, qL (zk (wL (qU ws (i + 1))))⟩ := by unfold jf7; rw [if_neg (by omega)]
 have hs := KP (kv := (wS ws i).kv) JK kc2 (XR fun k => Qi _) (id := kQ (i + 1)) (Kl (by omega)) (fun h => by have := YH.1 h; omega) (KC (by omega)) (b := jf7 ws (i + 1))
  (by rw [hb]; unfold Xy; simp only [Bool.and_eq_true, decide_eq_true_eq]; omega) (by rw [hb]; unfold jg3; simp only [Bool.and_eq_true, decide_eq_true_eq]; omega) (by rw [hb]; exact ⟨rfl, rfl⟩)
  (by
    rw [hb]
    dsimp only
    unfold wL
    cases (qU ws (i + 1)).s with
    | true => exact .inl rfl
    | false =>
      right
      simp only [Bool.false_eq_true, if_false, jJ0]
      exact xJ)
  (fun _ => by show (QQ _ _).length < 64; rw [YB]; show i + 1 < 64; omega) (by show (QQ _ _).length <= 64; rw [YB]; show i + 1 <= 64; omega) (fun d hd => by
    have : lk (QQ (fun k => Jx (jf7 ws k)) i) (kQ (i + 1)) = some d := hd
    rw [K5, if_neg (by omega)] at this; cases this)
 have e : put (wS ws i).kv (kQ (i + 1)) (Jx (jf7 ws (i + 1))) = (wS ws (i + 1)).kv := jU0 (f := fun k => Jx (jf7 ws k))
 rw [e] at hs
 exact hs
theorem kF8 {ws : List Wn} {i : Nat} (hi : i <= 7) : zA 97 [tD (wS ws i).tr, .int .u32 (kQ (i + 1)), .int .u32 (kQ (XW ws (i + 1)))] (.tup [tD (wS ws (i + 1)).tr, .int .i64 0]) := by
 have h := jO9 (t := jk0 (XW ws) i) (ky1 (by omega)) (id := kQ (i + 1)) (p := kQ (XW ws (i + 1))) (Kl (by omega))
 obtain ⟨h1, h2⟩ := kI6 (jl3 ws) (n := i) (by omega)
 rw [h1, h2] at h
 exact h
def wI0 (ws : List Wn) (k : Nat) : It := { jE8 ws k with f := fun _ _ => 0 }
theorem jP1 {ws : List Wn} (hw : ∀ a ∈ ws, JB a) {kv : KV} (hn : zC kv) (hv : ItV kv) (hl : kv.length <= 1000) {i : Nat} (hi : i <= 8) (hno : lk kv (kQ i) = none) :
  zA 95 [.agg [qO .u32 kv], .int .u32 (kQ i), .int .i64 (wW (qU ws i)), .int .i64 (wH (qU ws i)), .int .u8 0, .bool (decide (i = 0))] (.tup [.agg [qO .u32 (put kv (kQ i) (xy (wI0 ws i)))], .int .i64 0]) := by
 have h1 := jN6 (xT hw i)
 have h2 := jN7 (xT hw i)
 exact jo3 hn hv hl (Kl (by omega)) (by
  by_cases h0 : i = 0
  ·rw [h0]; rfl
  ·exact KC (by omega)) hno (by omega) (by omega)
theorem kg3 {ws : List Wn} {kv : KV} (hn : zC kv) (hv : ItV kv) (hl : kv.length <= 900) {i : Nat} :
  zA 110 [.agg [qO .u32 (put kv (kQ i) (xy (wI0 ws i)))], .int .u32 (kQ i), gD (wW (qU ws i)) (wH (qU ws i)) (Xr (qU ws i).ink)] (.tup [.agg [qO .u32 (put (put kv (kQ i) (xy (wI0 ws i))) (kQ i) (xy (jE8 ws i)))], .int .i64 0]) := by
 have hlen : (put kv (kQ i) (xy (wI0 ws i))).length <= kv.length + 1 := by
  have := congrArg List.length (jq2 (kv := kv) (n := kQ i) (d := xy (wI0 ws i)))
  rw [List.length_map] at this
  split at this <;> simp at this <;> omega
 exact VD (i := wI0 ws i) (jH8 hn) hv.put (by omega) (by rw [jr5, if_pos rfl])
theorem jA8 {kv : KV} {n : Int} {d d' : D} (h : lk kv n = none) : put (put kv n d) n d' = put kv n d' := by
 rw [qA h, qA h, jS1 h]
end Go.AM
