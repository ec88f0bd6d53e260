import Derived.Test.YtoaialdcgmkbgaaGreatRQ3

set_option linter.all false
namespace Go.AM
open Go Go.Proofs
theorem jJ4 {ik : IntKind} {kv : KV} {i : Nat} {d : D} (h : (qI ik kv)[i]? = some d) : ∃ p, kv[i]? = some p /\ d = .int ik p.1 := by
 simp only [qI, List.getElem?_map, Option.map_eq_some_iff] at h
 obtain ⟨p, h1, h2⟩ := h
 exact ⟨p, h1, h2.symm⟩
theorem jJ3 {kv : KV} {i : Nat} {p : Int × D} (h : kv[i]? = some p) : (kZ kv)[i]? = some p.2 := by simp [kZ, h]
theorem Kh {ik : IntKind} {kv : KV} {i : Nat} : (qI ik kv).eraseIdx i = qI ik (kv.eraseIdx i) := by
 unfold qI
 induction kv generalizing i with
 | nil => simp
 | cons p r ih => cases i <;> simp [ih]
theorem Kg {kv : KV} {i : Nat} : (kZ kv).eraseIdx i = kZ (kv.eraseIdx i) := by
 unfold kZ
 induction kv generalizing i with
 | nil => simp
 | cons p r ih => cases i <;> simp [ih]
theorem jr3 {α β : Type} {f : α -> β} {l : List (Int × α)} {i : Nat} : (l.map fun p => (p.1, f p.2)).eraseIdx i = (l.eraseIdx i).map fun p => (p.1, f p.2) := by
 induction l generalizing i with
 | nil => simp
 | cons p r ih => cases i <;> simp [ih]
structure Part {α : Type} (all done left : List (Int × α)) : Prop where
 perm : (done ++ left).Perm all
theorem Part.start {α : Type} (l : List (Int × α)) : Part l [] l := ⟨by simp⟩
theorem Part.step {α : Type} {all done left : List (Int × α)} (h : Part all done left) {i : Nat} {p : Int × α} (hi : left[i]? = some p) : Part all (done ++ [p]) (left.eraseIdx i) :=
 ⟨by
   refine List.Perm.trans ?_ h.perm
   rw [List.append_assoc]
   exact List.Perm.append_left done (Xk hi).symm⟩
theorem Part.nd {α : Type} {all done left : List (Int × α)} (h : Part all done left) (hn : zC all) : zC (done ++ left) := (h.perm.map (·.1)).nodup_iff.2 hn
theorem Part.ndD {α : Type} {all done left : List (Int × α)} (h : Part all done left) (hn : zC all) : zC done := by
 have := h.nd hn
 simp only [zC, List.map_append] at this
 exact (List.nodup_append.1 this).1
theorem Part.fresh {α : Type} {all done left : List (Int × α)} (h : Part all done left) (hn : zC all) {i : Nat} {p : Int × α} (hi : left[i]? = some p) : lk done p.1 = none := by
 have := h.nd hn
 simp only [zC, List.map_append] at this
 rw [Jr]
 intro hm
 exact (List.nodup_append.1 this).2.2 _ hm _ (List.mem_map_of_mem (List.mem_of_getElem? hi)) rfl
theorem Part.fin {α : Type} {all done : List (Int × α)} (h : Part all done []) : done.Perm all := by simpa using h.perm
theorem kO1 {u : ZX} {i : Nat} {q : Int × D} (h : (zH u)[i]? = some q) : ∃ p, u[i]? = some p /\ q = (p.1, .int .u32 p.2) := by
 simp only [zH, List.getElem?_map, Option.map_eq_some_iff] at h
 obtain ⟨p, h1, h2⟩ := h
 exact ⟨p, h1, h2.symm⟩
theorem kl2 {u : ZX} {i : Nat} : (zH u).eraseIdx i = zH (u.eraseIdx i) := jr3 (f := fun n : Int => D.int .u32 n)
theorem kf7 {u : ZX} {n m : Int} : put (zH u) n (.int .u32 m) = zH (put u n m) := jS0 (f := fun n : Int => D.int .u32 n)
theorem kT8 {u : yo} {i : Nat} {q : Int × D} (h : (vI u)[i]? = some q) : ∃ p, u[i]? = some p /\ q = (p.1, .ls 1 (iL p.2)) := by
 simp only [vI, List.getElem?_map, Option.map_eq_some_iff] at h
 obtain ⟨p, h1, h2⟩ := h
 exact ⟨p, h1, h2.symm⟩
theorem jC8 {u : yo} {i : Nat} : (vI u).eraseIdx i = vI (u.eraseIdx i) := jr3 (f := fun l : List Int => D.ls 1 (iL l))
theorem Vb {α : Type} {l : List α} {i : Nat} {x : α} (h : l[i]? = some x) : (l.eraseIdx i).length + 1 = l.length := by
 have := (List.getElem?_eq_some_iff.1 h).1
 rw [List.length_eraseIdx_of_lt this]; omega
theorem q9 {n : Nat} {ik : IntKind} : ∀ {kv : KV}, vb n (qI ik kv) = true
 | [] => rfl
 | p :: r => by simp only [qI, List.map_cons, vb, low, Bool.true_and]; exact q9 (kv := r)
theorem Ki {n : Nat} : ∀ {u : ZX}, vb n (kZ (zH u)) = true
 | [] => rfl
 | p :: r => by simp only [zH, kZ, List.map_cons, vb, low, Bool.true_and]; exact Ki (u := r)
theorem YC {n : Nat} : ∀ {u : yo}, vb n (kZ (vI u)) = true
 | [] => rfl
 | p :: r => by simp only [vI, kZ, List.map_cons, vb, low, Bool.true_and]; exact YC (u := r)
theorem jh8 : ∀ {u : ZX}, jV (kZ (zH u)) = true
 | [] => rfl
 | p :: r => by simp only [zH, kZ, List.map_cons, jV, closed, bA]; exact jh8 (u := r)
theorem jh9 : ∀ {u : yo}, jV (kZ (vI u)) = true
 | [] => rfl
 | p :: r => by simp only [vI, kZ, List.map_cons, jV, closed, bA]; exact jh9 (u := r)
theorem Zf {ks : List Nat} {n : Nat} : ∀ {u : ZX}, qY ks n (kZ (zH u)) = kZ (zH u)
 | [] => rfl
 | p :: r => by simp only [zH, kZ, List.map_cons, qY, kV]; exact congrArg _ (Zf (u := r))
theorem jR4 {ks : List Nat} {n : Nat} : ∀ {u : yo}, qY ks n (kZ (vI u)) = kZ (vI u)
 | [] => rfl
 | p :: r => by simp only [vI, kZ, List.map_cons, qY, kV]; exact congrArg _ (jR4 (u := r))
structure CpX where
 done : ZX
 left : ZX
 cur : Option (D × D)
def kO5 (x : CpX) : St := ⟨[(0, [], .ownm 0 0), (7, [], .box 1 0)], [.map (qI .u32 (zH x.done)) (kZ (zH x.done)), .iter x.cur (qI .u32 (zH x.left)) (kZ (zH x.left))]⟩
theorem jG5 {u : ZX} (hn : zC u) : vT 189 [.ownm 0 0, .mp (qI .u32 (zH u)) (kZ (zH u))] [.map (qI .u32 []) (kZ [])] (.tup []) [.map (qI .u32 (zH u)) (kZ (zH u))] := by
 refine qP (by rfl) ?_
 dsimp only [c_maps_Copy_map_api_ID_api_ID_map_api_ID_api_ID_api_ID_api_ID,qe,jm,jo,jc,jn,ja,jd,jA,jf,j4,ji,jj,jk,jl,jL,kq,rd,get,jy,jz,jh,jg,jB,jP,jx,jD,jw,env0,bA,bN,kD,jT,jS,o1,o0,Nat.reduceBEq,Nat.reduceAdd]
 refine kS _ _ (jI2 tU) ?_
 dsimp only [jU,jF,je,jt,jr,jb,rd,get,jy,jz,jh,jg,jD,jX,jw,bA,bN,jT,jS,Nat.reduceBEq,Nat.reduceAdd]
 refine kE (α := {x : CpX // Part u x.done x.left}) (fun x => kO5 x.1) (fun x => x.1.left.length) ?_ ⟨⟨[], u, none⟩, Part.start u⟩ rfl
 rintro ⟨⟨done, left, cur⟩, hp⟩ I ih
 dsimp only at hp
 dsimp only [kO5,jm,jo,jc,jn,ja,jd,jA,yl,ji,jj,jk,jl,jL,kq,rd,get,jy,jz,jh,jg,jB,jP,jx,bA,bN,kD,jT,jS,Nat.reduceBEq]
 refine Jp _ (jI3 rfl) ?_
 rintro d bx' (⟨hks, rfl, rfl⟩ | ⟨i, dk, dv, h1, h2, rfl, rfl⟩)
 ·dsimp only [jE,jm,jo,jc,jn,jU,kt,jK,ky,jF,je,j1,j3,kC,jt,jr,jb,ja,jd,jA,jf,j4,ji,jj,jk,jl,jL,kq,rd,get,jy,jz,jh,jg,jB,jP,jx,kL,jw,bA,bN,kD,qX,qH,j7,j9,jT,jS,Nat.reduceBEq]
  refine ⟨nofun, fun _ => ?_⟩
  have hl : left = [] := by simpa [qI, zH] using hks
  subst hl
  refine Rt.trans (Rt.cut (bx' := [.map (qI .u32 (zH done)) (kZ (zH done))]) (Nat.le_refl _) ⟨rfl, trivial⟩ (by simp [k8, q9, Ki]) rfl) (Rt.perm (k := 0) (ik := .u32) (kv := zH done) rfl (hp.fin.map _))
 ·obtain ⟨q, hq, rfl⟩ := jJ4 h1
  obtain ⟨p, hpp, rfl⟩ := kO1 hq
  rw [jJ3 hq] at h2
  cases h2
  dsimp only [jE,jm,jo,jc,jn,jU,kt,jK,ky,jF,je,j1,j3,kC,jt,jr,jb,ja,jd,jA,jf,j4,ji,jj,jk,jl,jL,kq,rd,get,jy,jz,jh,jg,jB,jP,jx,kL,jQ,jw,bA,bN,kD,qX,qH,j7,j9,jT,jS,Nat.reduceBEq]
  refine ⟨fun _ => ?_, nofun⟩
  refine kH _ (jI5 rfl) ?_
  dsimp only [jm,jo,jc,jF,je,jt,jr,jb,ja,jd,jA,jf,j4,ji,jj,jk,jl,jL,kq,rd,get,jy,jz,jh,jg,jB,jP,jx,kL,jw,bA,bN,kD,jT,jS,Nat.reduceBEq]
  refine kS _ _ (vY tU tI (kv := zH done) rfl (jm8 (hp.ndD hn)) p.1 (.int .u32 p.2)) ?_
  dsimp only [jF,j0,kC,jt,jr,jb,rd,get,jy,jz,jh,jg,jQ,jw,bA,bN,jT,jS,Nat.reduceBEq]
  rw [kf7, qA (hp.fresh hn hpp), Kh, Kg, kl2]
  exact kW (ih ⟨⟨done ++ [p], left.eraseIdx i, _⟩, hp.step hpp⟩ (by have := Vb hpp; dsimp only; omega)) ⟨rfl, rfl, trivial⟩ ⟨rfl, rfl, trivial⟩ rfl (by simp [kO5, k8, q9, Ki])

def yK (p : Int) (d : D) (k : yo) : KV := k.map fun q => (q.1, if q.1 = p then d else .ls 1 (iL q.2))
def vq (p : Int) (k : yo) : Ent := match lk k p with
 | some l => .arr 53 1 1 (iL l)
 | none => .arr 53 1 0 []
theorem kA3 {p : Int} {d : D} {k : yo} (h : zC k) : zC (yK p d k) := by
 unfold zC yK at *
 rw [List.map_map]; exact h
theorem kj8 {p : Int} {d : D} {k m : yo} : yK p d (k ++ m) = yK p d k ++ yK p d m := by simp [yK]
theorem jc6 {p : Int} {d : D} : ∀ {k : yo} {n : Int}, lk (yK p d k) n = (lk k n).map fun l => if n = p then d else .ls 1 (iL l)
 | [], n => rfl
 | q :: r, n => by
   simp only [yK, List.map_cons, lk]
   by_cases h : q.1 = n
   ·subst h; simp
   ·simp only [if_neg h]; exact jc6 (k := r)
theorem kA2 {p n : Int} {d : D} {k : yo} {l : List Int} (h : lk k n = none) (hn : n ≠ p) : put (yK p d k) n (.ls 1 (iL l)) = yK p d (k ++ [(n, l)]) := by
 rw [qA (by rw [jc6, h]; rfl), kj8]
 simp [yK, hn]
theorem kA1 {p : Int} {d : D} {k : yo} {l : List Int} (h : lk k p = none) : put (yK p d k) p d = yK p d (k ++ [(p, l)]) := by
 rw [qA (by rw [jc6, h]; rfl), kj8]
 simp [yK]
theorem kI5 {p : Int} {d d' : D} : ∀ {k : yo}, qI .u32 (yK p d k) = qI .u32 (yK p d' k) := fun {k} => by simp [qI, yK]
theorem jp6 {ks : List Nat} {n : Nat} {p : Int} {d : D} : ∀ {k : yo}, qY ks n (kZ (yK p d k)) = kZ (yK p (kV ks n d) k)
 | [] => rfl
 | q :: r => by
   simp only [yK, kZ, List.map_cons, qY]
   congr 1
   ·by_cases h : q.1 = p <;> simp [h, kV]
   ·exact jp6 (k := r)
theorem jr4 {n : Nat} {p : Int} {d : D} (h : low n d = true) : ∀ {k : yo}, vb n (kZ (yK p d k)) = true
 | [] => rfl
 | q :: r => by
   have ih := jr4 (n := n) (p := p) h (k := r)
   simp only [yK, kZ] at ih
   simp only [yK, kZ, List.map_cons, vb, Bool.and_eq_true]
   refine ⟨?_, ih⟩
   by_cases h2 : q.1 = p
   ·simp [h2, h]
   ·simp [h2, low]
theorem jR5 {ks : List Nat} {n : Nat} {p : Int} {k : yo} : zp ks n (vq p k) = vq p k := by
 unfold vq; split <;> rfl
theorem jU2 {n : Nat} {p : Int} {k : yo} {r : List Ent} : k8 n (vq p k :: r) = k8 n r := by
 unfold vq; split <;> rfl
theorem Kept.snoc {bx : List Ent} {e : Ent} : Kept [bx.length] bx (bx ++ [e]) := fun k hk => by
 rw [kG, kG]
 simp at hk
 by_cases h : k < bx.length
 ·rw [List.getElem?_append_left h]
 ·rw [List.getElem?_eq_none (by simp; omega), List.getElem?_eq_none (by omega)]
theorem Kept.call {bx : List Ent} {e : Ent} {n m : Nat} (h : jD bx = n) : Kept [n] bx (kO bx [] (kM [] m [e])) := by
 subst h
 rw [kK]
 exact Kept.snoc
structure TwX where
 done : yo
 left : yo
 cur : Option (D × D)
def kF2 (t : TT) (p : Int) (x : TwX) : St := ⟨[(2, [], .box 1 0), (3, [], .box 5 0), (16, [], .box 6 0)],
 [.cells [.mp (qI .u32 (vI t.kids)) (kZ (vI t.kids)), .mp (qI .u32 (zH t.up)) (kZ (zH t.up))], .cells [.mp [] [], .mp [] []], .map (qI .u32 (yK p (.own 3 1) x.done)) (kZ (yK p (.own 3 1) x.done)), vq p x.done, .map (qI .u32 (zH t.up)) (kZ (zH t.up)),
  .cells [.ownm 2 0, .ownm 4 0], .iter x.cur (qI .u32 (vI x.left)) (kZ (vI x.left))]⟩
theorem jG4 {t : TT} (h : t.Ok) (p : Int) : vT 154 [tD t] [] (.agg [.ownm 0 0, .ownm 2 0]) [.map (qI .u32 (yK p (.own 1 1) t.kids)) (kZ (yK p (.own 1 1) t.kids)), vq p t.kids, .map (qI .u32 (zH t.up)) (kZ (zH t.up))] := by
 refine V9 (by rfl) ?_
 dsimp only [c_tree_Tree_twin,J3,tD,jm,jo,jc,jn,jF,je,jt,jr,jb,ja,jd,jA,jf,j4,ji,jj,jk,jl,jL,kq,rd,get,jy,jz,jh,jg,jB,jP,jx,kj,jD,jX,jw,env0,bA,bN,kD,jT,jS,o1,o0,Nat.reduceBEq,Nat.reduceAdd]
 refine kS _ _ (kH1 (ik := .u32) 53 1) ?_
 dsimp only [jc,ja,jd,jA,j4,ji,jj,jk,jl,kq,jg,jB,jP,jx,jD,jX,jw,kD,Nat.reduceAdd]
 refine kS _ _ (Xh (ik := .u32)) ?_
 dsimp only [jm,jo,jc,jn,jF,je,jt,jr,jb,ja,jd,jA,jf,jq,ji,jj,jk,jl,ju,jJ,jL,kq,rd,get,jy,jz,jh,jg,jB,jP,jx,jC,kj,kL,jH,kp,qB,kT,jI,jQ,jD,jX,kd,ki,jw,bA,bN,jT,jS,Nat.reduceBEq,Nat.reduceAdd]
 refine kY [4] (jG5 h.un) rfl rfl ?_
 dsimp only [jm,jo,jc,jn,jF,je,jt,jr,jb,ja,jd,jA,jf,j4,ji,jj,jk,jl,ju,jL,kq,rd,get,jy,jz,jh,jg,jB,jP,jx,jC,kL,jI,jQ,jD,jw,bA,bN,kD,kV,qY,zp,kM,kO,Je,Jd,jT,jS,Nat.reduceBEq,Nat.reduceAdd]
 rw [Zf]
 refine kS _ _ (jI2 tK) ?_
 dsimp only [jU,jF,je,jt,jr,jb,rd,get,jy,jz,jh,jg,jD,jX,jw,bA,bN,jT,jS,Nat.reduceBEq,Nat.reduceAdd]
 refine kE (α := {x : TwX // Part t.kids x.done x.left}) (fun x => kF2 t p x.1) (fun x => x.1.left.length) ?_ ⟨⟨[], t.kids, none⟩, Part.start _⟩ rfl
 rintro ⟨⟨done, left, cur⟩, hp⟩ I ih
 dsimp only at hp
 dsimp only [kF2,jm,jo,jc,jn,ja,jd,jA,yl,ji,jj,jk,jl,jL,kq,rd,get,jy,jz,jh,jg,jB,jP,jx,bA,bN,kD,jT,jS,Nat.reduceBEq]
 refine Jp _ (jI3 rfl) ?_
 rintro d bx' (⟨hks, rfl, rfl⟩ | ⟨i, dk, dv, h1, h2, rfl, rfl⟩)
 ·dsimp only [jE,jm,jo,jc,jn,jU,kt,jG,jK,ky,jF,je,j1,j3,kC,jt,jr,jb,ja,jd,jA,jf,j4,ji,jj,jk,jl,ju,jJ,jL,kq,rd,get,jy,jz,jh,jg,jB,jP,jx,jC,kL,jM,jN,jH,kp,jI,jQ,kd,ki,jw,bA,bN,kD,qX,qH,j7,kr,j9,jT,jS,Nat.reduceBEq,Nat.reduceAdd]
  refine ⟨nofun, fun _ => ?_⟩
  have hl : left = [] := by simpa [qI, vI] using hks
  subst hl
  have hpm := hp.fin
  refine Rt.trans (Rt.perm (k := 2) (ik := .u32) (kv := yK p (.own 3 1) done) (kv' := yK p (.own 3 1) t.kids) rfl (hpm.map _)) ?_
  refine Rt.pick [2, 3, 4] rfl ?_ rfl
  have hrow : vq p done = vq p t.kids := by unfold vq; rw [kj1 hpm (hp.ndD h.kn)]
  rw [hrow]
  simp only [Ko, jI, jQ, kM]
  rw [jR5]
  simp only [zp, jp6, Zf]
  rw [kI5 (d := .own 1 1) (d' := .own 3 1)]
  rfl
 ·obtain ⟨q, hq, rfl⟩ := jJ4 h1
  obtain ⟨⟨n, l⟩, hpp, rfl⟩ := kT8 hq
  rw [jJ3 hq] at h2
  cases h2
  dsimp only [jE,jm,jo,jc,jn,jU,kt,jG,jK,ky,jF,je,j1,j3,kC,jt,jr,jb,ja,jd,jA,jf,j4,ji,jj,jk,jl,ju,jJ,jL,kq,rd,get,jy,jz,jh,jg,jB,jP,jx,jC,kL,jM,jN,jH,kp,jI,jQ,kd,ki,jw,bA,bN,kD,qX,qH,j7,kr,j9,jT,jS,Nat.reduceBEq,Nat.reduceAdd]
  refine ⟨fun _ => ?_, nofun⟩
  refine kH _ (jI5 rfl) ?_
  dsimp only [jm,jo,jc,jF,je,jt,jr,jb,ja,jd,jA,zb,qC,zm,zu,jf,Xt,ji,jj,jk,jl,ju,jL,kq,rd,get,jy,jz,jh,jg,jB,jP,jx,jC,kL,jI,jw,bA,bO,bN,jT,jS,Nat.reduceBEq,Nat.reduceAdd]
  have hll : l.length < 1000000 := by
   have := h.kl n
   have e : lk t.kids n = some l := jc5 h.kn (hp.perm.mem_iff.1 (List.mem_append_right _ (List.mem_of_getElem? hpp)))
   unfold kP at this
   rw [e] at this
   simp at this; omega
  have hfr := hp.fresh h.kn hpp
  have hnd := kA3 (p := p) (d := .own 3 1) (hp.ndD h.kn)
  have hlen := Vb hpp
  refine jf1 [] (jj7 hll) rfl rfl (fun k hk => Kept.call (n := 7) rfl k (fun h => hk (by rw [List.mem_singleton] at h; rw [h]; decide))) ?_
  dsimp only [jc,ja,jd,jA,j4,ji,jj,jk,jl,jL,kq,rd,get,jy,jz,jh,jg,jB,jP,jx,jD,jw,bA,bN,kD,kV,zp,kM,z6,kO,Je,Jd,jT,jS,Nat.reduceBEq,Nat.reduceAdd]
  by_cases hn : n = p
  ·subst hn
   have hrow : vq n done = .arr 53 1 0 [] := by unfold vq; rw [hfr]
   have hrow2 : vq n (done ++ [(n, l)]) = .arr 53 1 1 (iL l) := by
    unfold vq
    have : lk (done ++ [(n, l)]) n = some l := by rw [<- qA hfr, jr5]; simp
    rw [this]
   rw [hrow]
   refine kS _ _ (kH0 (j := 2) (i := 7) (s := 3) tK tI (kv := yK n (.own 3 1) done) rfl rfl rfl (by decide) hnd n) ?_
   dsimp only [jF,j0,kC,jt,jr,jb,rd,get,jy,jz,jh,jg,jQ,jw,bA,bN,jT,jS,Nat.reduceBEq]
   rw [kA1 (l := l) hfr, Kh, Kg, jC8]
   exact kW (ih ⟨⟨done ++ [(n, l)], left.eraseIdx i, _⟩, hp.step hpp⟩ (by dsimp only; omega)) ⟨rfl, rfl, rfl, trivial⟩ ⟨rfl, rfl, rfl, hrow2.symm, rfl, rfl, rfl, trivial⟩ rfl (by simp [kF2, k8, q9, Ki, YC, jU2, low, vb, jD]; exact jr4 rfl)
  ·have hrow2 : vq p (done ++ [(n, l)]) = vq p done := by
    unfold vq
    have : lk (done ++ [(n, l)]) p = lk done p := by rw [<- qA hfr, jr5, if_neg hn]
    rw [this]
   refine kS _ _ (jI1 (j := 2) (i := 7) tK tI (kv := yK p (.own 3 1) done) rfl rfl hnd n) ?_
   dsimp only [jF,j0,kC,jt,jr,jb,rd,get,jy,jz,jh,jg,jQ,jw,bA,bN,jT,jS,Nat.reduceBEq]
   rw [kA2 (l := l) hfr hn, Kh, Kg, jC8]
   exact kW (ih ⟨⟨done ++ [(n, l)], left.eraseIdx i, _⟩, hp.step hpp⟩ (by dsimp only; omega)) ⟨rfl, rfl, rfl, trivial⟩ ⟨rfl, rfl, rfl, hrow2.symm, rfl, rfl, rfl, trivial⟩ rfl (by simp [kF2, k8, q9, Ki, YC, jU2, low, vb, jD]; exact jr4 rfl)

theorem kj7 {p : Int} {d : D} : ∀ {k : yo} {l : List Int}, zC k -> put (yK p d k) p (.ls 1 (iL l)) = vI (put k p l)
 | [], l, _ => rfl
 | q :: r, l, h => by
   simp only [zC, List.map_cons, List.nodup_cons] at h
   simp only [yK, List.map_cons, put]
   by_cases e : q.1 = p
   ·simp only [e, if_true, vI, List.map_cons]
    congr 1
    refine List.map_congr_left fun x hx => ?_
    have : x.1 ≠ p := fun e' => h.1 (by rw [e, <- e']; exact List.mem_map_of_mem (f := (·.1)) hx)
    simp [this]
   ·have ih := kj7 (p := p) (d := d) (k := r) (l := l) h.2
    simp only [yK, vI] at ih
    simp only [e, if_false, vI, List.map_cons]
    rw [ih]
def Xe (t : TT) (id p : Int) : TT := ⟨put t.kids p (kP t p ++ [id]), put t.up id p⟩
theorem jP7 {t : TT} (h : t.Ok) (id p : Int) : vT 155 [.agg [.ownm 0 0, .ownm 2 0], .int .u32 id, .int .u32 p] [.map (qI .u32 (yK p (.own 1 1) t.kids)) (kZ (yK p (.own 1 1) t.kids)), vq p t.kids, .map (qI .u32 (zH t.up)) (kZ (zH t.up))] (.tup [])
  [.map (qI .u32 (vI (Xe t id p).kids)) (kZ (vI (Xe t id p).kids)), .gone, .map (qI .u32 (zH (Xe t id p).up)) (kZ (zH (Xe t id p).up))] := by
 refine Yc (by rfl) ?_
 dsimp only [c_tree_Tree_put,Qn,jm,jo,jc,jn,jF,je,jt,jr,jb,ja,jd,jA,zb,qC,zm,zu,jf,j4,ji,jj,jk,jl,ju,jL,kq,rd,get,jy,jz,jh,jg,jB,jP,jx,jC,kj,kL,jI,jD,jX,jw,env0,bA,bO,bN,kD,jT,jS,o1,o0,Nat.reduceBEq,Nat.reduceAdd]
 have hnd := kA3 (p := p) (d := .own 1 1) h.kn
 have hkl := h.kl p
 have fin : ∀ (env : x4) (row : List Int) (ver : Nat), row = kP t p -> Rt 3 [.map (qI .u32 (put (yK p (.own 1 1) t.kids) p (.ls 1 (iL (row ++ [id]))))) (kZ (put (yK p (.own 1 1) t.kids) p (.ls 1 (iL (row ++ [id]))))), .gone, .map (qI .u32 (put (zH t.up) id (.int .u32 p))) (kZ (put (zH t.up) id (.int .u32 p))), .cells [.ownm 0 0, .ownm 2 0]] (.tup []) (.tup [])
  [.map (qI .u32 (vI (Xe t id p).kids)) (kZ (vI (Xe t id p).kids)), .gone, .map (qI .u32 (zH (Xe t id p).up)) (kZ (zH (Xe t id p).up))] := by
  intro env row ver hrow
  rw [hrow, kj7 h.kn, kf7]
  exact Rt.cut (Nat.le_refl _) ⟨rfl, rfl, rfl, trivial⟩ (by simp [k8, q9, Ki, YC]) rfl
 cases hp : lk t.kids p with
 | some l =>
   have hrow : vq p t.kids = .arr 53 1 1 (iL l) := by unfold vq; rw [hp]
   have hkl' : l = kP t p := by unfold kP; rw [hp]; rfl
   rw [hrow]
   have hlk := Z2 (gt := zM) (bx := [.map (qI .u32 (yK p (.own 1 1) t.kids)) (kZ (yK p (.own 1 1) t.kids)), .arr 53 1 1 (iL l), .map (qI .u32 (zH t.up)) (kZ (zH t.up)), .cells [.ownm 0 0, .ownm 2 0]]) (j := 0) tK tI zK (kv := yK p (.own 1 1) t.kids) rfl hnd p false (zd := .ls 1 []) (fun hn => by rw [jc6, hp] at hn; cases hn)
   rw [jc6, hp] at hlk
   simp only [Option.map_some, if_true, jU3] at hlk
   refine kH _ hlk ?_
   dsimp only [jc,ja,jd,jA,zb,qC,zm,zu,jf,j4,ji,jj,jk,jl,qg,jL,kq,rd,get,jy,jz,jh,jg,jB,jP,km,jx,kj,jH,jI,jQ,jD,jX,jw,bA,bO,bN,kD,closed,jV,ql,jT,jS,Nat.reduceBEq,Nat.reduceAdd]
   refine ⟨⟨rfl, rfl, rfl, rfl, by rw [zO]; rw [<- hkl'] at hkl; simp; omega⟩, ?_⟩
   rw [show iL l ++ [D.int .u32 id] = iL (l ++ [id]) from kc8 l [id]]
   refine kS _ _ (jI1 (j := 0) (i := 1) tK tI (kv := yK p (.own 1 1) t.kids) rfl rfl hnd p) ?_
   dsimp only [jm,jo,jc,jF,je,jt,jr,jb,ja,jd,jA,jf,j4,ji,jj,jk,jl,ju,jL,kq,rd,get,jy,jz,jh,jg,jB,jP,jx,jC,kL,jI,jQ,jw,bA,bN,kD,jT,jS,Nat.reduceBEq,Nat.reduceAdd]
   refine kS _ _ (vY (j := 2) tU tI (kv := zH t.up) rfl (jm8 h.un) id (.int .u32 p)) ?_
   dsimp only [jF,jt,jr,jb,jQ,jw,qX,qH,j7,j9]
   exact fin [] l 2 hkl'
 | none =>
   have hrow : vq p t.kids = .arr 53 1 0 [] := by unfold vq; rw [hp]
   have hkl' : [] = kP t p := by unfold kP; rw [hp]; rfl
   rw [hrow]
   refine kH _ (kH2 (j := 0) (j2 := 1) (et := 53) (sz := 1) tK tI zK (kv := yK p (.own 1 1) t.kids) rfl rfl hnd p (by rw [jc6, hp]; rfl)) ?_
   dsimp only [jc,ja,jd,jA,zb,qC,zm,zu,jf,j4,ji,jj,jk,jl,qg,jL,kq,rd,get,jy,jz,jh,jg,jB,jP,km,jx,kj,jH,jI,jQ,jD,jX,jw,bA,bO,bN,kD,closed,jV,ql,zh,jT,jS,Nat.reduceBEq,Nat.reduceAdd]
   refine ⟨⟨rfl, rfl, rfl, rfl, by simp⟩, ?_⟩
   refine kS _ _ (jI1 (j := 0) (i := 1) tK tI (kv := yK p (.own 1 1) t.kids) rfl rfl hnd p) ?_
   dsimp only [jm,jo,jc,jF,je,jt,jr,jb,ja,jd,jA,jf,j4,ji,jj,jk,jl,ju,jL,kq,rd,get,jy,jz,jh,jg,jB,jP,jx,jC,kL,jI,jQ,jw,bA,bN,kD,jT,jS,Nat.reduceBEq,Nat.reduceAdd]
   refine kS _ _ (vY (j := 2) tU tI (kv := zH t.up) rfl (jm8 h.un) id (.int .u32 p)) ?_
   dsimp only [jF,jt,jr,jb,jQ,jw,qX,qH,j7,j9]
   exact fin [] [] 1 hkl'

theorem twR {ks : List Nat} {n : Nat} {p : Int} {k : yo} {u : ZX} : kM ks n [.map (qI .u32 (yK p (.own 1 1) k)) (kZ (yK p (.own 1 1) k)), vq p k, .map (qI .u32 (zH u)) (kZ (zH u))] = [.map (qI .u32 (yK p (.own 1 1) k)) (kZ (yK p (kV ks n (.own 1 1)) k)), vq p k, .map (qI .u32 (zH u)) (kZ (zH u))] := by
 simp only [kM]
 rw [jR5]
 simp only [zp, jp6, Zf]
def kz0 (n : Int) : Bool := decide (1 <= n) && decide (n <= 8)
theorem Yf (n : Int) : zA 191 [.int .i64 n] (.bool (kz0 n)) := by
 refine V6 (by rfl) ?_
 dsimp only [c_ident_isClient,J9,jm,jo,jc,jn,jG,jF,je,jt,jr,jb,ja,jd,jA,jf,ji,jj,jk,jl,kg,jL,rd,get,jy,jz,jh,jg,jB,jP,jx,jw,env0,bA,bO,bN,bE,kU,jR,lend,ko,kw,kx,jZ,j7,kr,j9,jT,jS,o1,og,Nat.reduceBEq,Nat.reduceAdd]
 unfold kz0
 by_cases h1 : 1 <= n <;> by_cases h2 : n <= 8 <;> simp [h1, h2]
def clP (id : Int) : Int × Bool := if id = 1 then (0, true) else if decide (id % 1048576 = 0) || !kz0 (id / 1048576) then (0, false) else (id / 1048576, true)
theorem jj6 {id : Int} (h : j5 .u32 id) : zA 164 [.int .u32 id] (.tup [.int .i64 (clP id).1, .bool (clP id).2]) := by
 refine ja7 (by rfl) ?_
 dsimp only [c_ident_Client,Zo,jE,jm,jo,jc,jn,jG,jK,ky,jF,je,jO,jt,jr,jb,ja,jd,jA,jf,jq,ji,jj,jk,jl,jL,kq,rd,get,jy,jz,jh,jg,jB,jP,km,jx,jw,env0,bA,bO,bN,bE,kU,jR,kA,lend,ko,jj8,jb7,kw,kx,jZ,j7,kr,j9,zh,jT,jS,o1,og,Nat.reduceBEq,Nat.reduceAdd]
 simp only [j5] at h
 unfold clP
 by_cases h1 : id = 1
 ·subst h1
  refine ⟨fun _ => by rfl, fun h => by simp at h⟩
 ·simp only [h1, decide_false, if_false]
  refine ⟨nofun, fun _ => ?_⟩
  have hq0 : 0 <= id / 1048576 := Int.ediv_nonneg h.1 (by omega)
  refine ⟨⟨by omega, by omega, by simp only [j5]; omega⟩, by simp only [j5]; omega, ⟨by omega, by omega⟩, ?_⟩
  refine jv (fun _ => Yf _) ?_
  dsimp only [jE,jm,jo,jc,jn,jG,jK,ky,jF,je,jO,jt,jr,jb,ja,jd,jA,jf,ji,jj,jk,jl,kg,jL,rd,get,jy,jz,jh,jg,jB,jP,jx,jw,bA,bO,bN,bE,kA,lend,kw,kx,jZ,j7,kr,j9,zh,jT,jS,Nat.reduceBEq]
  by_cases h2 : id % 1048576 = 0
  ·simp only [h2, decide_true, Bool.true_or, if_true]
   refine ⟨fun _ => by first | rfl | trivial, nofun⟩
  ·simp only [h2, decide_false, Bool.false_or]
   cases h3 : kz0 (id / 1048576)
   ·refine ⟨fun _ => by first | rfl | trivial, nofun⟩
   ·refine ⟨nofun, fun _ => by first | rfl | trivial⟩
def JN (id : Int) : Int := if id = 0 then 6 else if (clP id).2 then 0 else 1
theorem yO {id : Int} (h : j5 .u32 id) : zA 114 [.int .u32 id] (.int .i64 (JN id)) := by
 refine jj1 (by rfl) ?_
 dsimp only [c_ident_Check,VP,jE,jm,jo,jc,jn,jG,jK,ky,jF,je,jO,jt,jr,jb,ja,jd,jA,jf,jq,ji,jj,jk,jl,jL,kq,rd,get,jy,jz,jh,jg,jB,jP,jx,jw,env0,bA,bN,kU,jR,lend,ko,kw,kx,jZ,j7,kr,j9,jT,jS,o1,Nat.reduceBEq,Nat.reduceAdd]
 unfold JN
 by_cases h1 : id = 0
 ·subst h1
  exact ⟨fun _ => by rfl, fun h => by simp at h⟩
 ·simp only [h1, decide_false, if_false]
  refine ⟨nofun, fun _ => ?_⟩
  refine jv (jj6 h) ?_
  dsimp only [jE,jm,jo,jc,jn,jG,jK,ky,jF,je,jO,jt,jr,jb,ja,jd,jA,jf,ji,jj,jk,jl,jL,rd,get,jy,jz,jh,jg,jB,jP,jx,kL,jw,bA,bN,lend,kw,kx,jZ,j7,kr,j9,jT,jS,Nat.reduceBEq]
  cases (clP id).2
  ·exact ⟨fun _ => by first | rfl | trivial, nofun⟩
  ·exact ⟨nofun, fun _ => by first | rfl | trivial⟩
def VA (t : TT) (id p : Int) : Int := if JN id ≠ 0 then JN id else if jc8 t id then 7 else if !jc8 t p then 6 else if 64 <= t.up.length + 1 then 5 else 0
def ke8 (t : TT) (id p : Int) : TT := if VA t id p = 0 then Xe t id p else t
theorem kF1 (u : ZX) : (zH u).length = u.length := by simp [zH]
theorem jO9 {t : TT} (h : t.Ok) {id p : Int} (hid : j5 .u32 id) : zA 97 [tD t, .int .u32 id, .int .u32 p] (.tup [tD (ke8 t id p), .int .i64 (VA t id p)]) := by
 refine X2 (by rfl) ?_
 dsimp only [c_tree_Tree_Add,Qp,jm,jo,jc,jn,ja,jd,jA,ji,jj,jk,jl,jL,rd,get,jy,jz,jh,jg,jB,kj,jD,jX,env0,bA,bN,jT,jS,o1,o0,Nat.reduceBEq,Nat.reduceAdd]
 rw [show tD t = .agg [qO .u32 (vI t.kids), qO .u32 (zH t.up)] from rfl]
 dsimp only [jm,jo,jc,jn,jF,je,jt,jr,jb,ja,jd,jA,jf,jq,ji,jj,jk,jl,jL,kq,rd,get,jy,jz,jh,jg,jB,jP,jx,jD,jX,jw,bA,bN,jT,jS,Nat.reduceBEq,Nat.reduceAdd]
 refine jv (yO hid) ?_
 dsimp only [jE,jm,jo,jc,jn,jU,jG,jK,ky,jF,je,jO,jt,jr,jb,ja,jd,jA,jf,jq,ji,jj,jk,jl,ju,jJ,jL,kq,rd,get,jy,jz,jh,jg,jB,jP,jx,jC,jM,jN,jH,kp,jI,jQ,kd,ki,jw,bA,bN,kU,jR,kA,lend,ko,kw,kx,jZ,j7,kr,j9,zh,jT,jS,Nat.reduceBEq,Nat.reduceAdd]
 have key : ∀ e, VA t id p = e -> e ≠ 0 -> ke8 t id p = t := fun e h1 h2 => by unfold ke8; rw [if_neg (by rw [h1]; exact h2)]
 by_cases h1 : JN id = 0
 case neg =>
  have he : VA t id p = JN id := by unfold VA; rw [if_pos h1]
  rw [key _ he h1, he]
  simp only [h1, decide_false, Bool.not_false]
  exact ⟨fun _ => by first | rfl | trivial, nofun⟩
 simp only [h1, decide_true, Bool.not_true]
 refine ⟨nofun, fun _ => ?_⟩
 refine jv (x5 h id) ?_
 dsimp only [jm,jo,jc,jn,jG,jK,ky,jF,je,jO,kC,jt,jr,jb,ja,jd,jA,jf,jq,ji,jj,jk,jl,ju,jJ,jL,kq,rd,get,jy,jz,jh,jg,jB,jP,jx,jC,jM,jN,jH,kp,jI,jQ,kd,ki,jw,bA,bN,kA,lend,kw,kx,jZ,j7,kr,j9,zh,jT,jS,Nat.reduceBEq,Nat.reduceAdd]
 cases h2 : jc8 t id
 case true =>
  have he : VA t id p = 7 := by unfold VA; rw [if_neg (by simp [h1]), if_pos h2]
  rw [key _ he (by omega), he]
  exact ⟨fun _ => by first | rfl | trivial, nofun⟩
 refine ⟨nofun, fun _ => ?_⟩
 refine jv (x5 h p) ?_
 dsimp only [jm,jo,jc,jn,jG,jK,ky,jF,je,jO,kC,jt,jr,jb,ja,jd,jA,jf,j4,ji,jj,jk,jl,ju,jJ,jL,kq,rd,get,jy,jz,jh,jg,jB,jP,jx,jC,kL,jM,jN,jH,kp,jI,jQ,kd,ki,jw,bA,bN,kA,lend,kD,kw,kx,jZ,j7,kr,j9,zh,jT,jS,Nat.reduceBEq,Nat.reduceAdd]
 cases h3 : jc8 t p
 case false =>
  have he : VA t id p = 6 := by unfold VA; rw [if_neg (by simp [h1]), if_neg (by simp [h2]), if_pos (by simp [h3])]
  rw [key _ he (by omega), he]
  exact ⟨fun _ => by first | rfl | trivial, nofun⟩
 refine ⟨nofun, fun _ => ?_⟩
 refine kH _ (jb8 tU) ?_
 rw [kF1]
 dsimp only [jE,jm,jo,jc,jn,jG,jK,ky,jF,je,jO,kC,jt,jr,jb,ja,jd,jA,jf,jq,ji,jj,jk,jl,ju,jJ,jL,kq,rd,get,jy,jz,jh,jg,jB,jP,km,jx,jC,jM,jN,jH,kp,jI,jQ,kd,ki,jw,bA,bN,kU,jR,kA,lend,ko,kw,kx,jZ,j7,kr,j9,zh,jT,jS,Nat.reduceBEq,Nat.reduceAdd]
 have hul := h.ul
 refine ⟨by simp only [j5]; omega, ?_⟩
 by_cases h4 : 64 <= t.up.length + 1
 case pos =>
  have he : VA t id p = 5 := by unfold VA; rw [if_neg (by simp [h1]), if_neg (by simp [h2]), if_neg (by simp [h3]), if_pos h4]
  rw [key _ he (by omega), he]
  rw [show decide ((64 : Int) <= (t.up.length : Int) + 1) = true from decide_eq_true (by omega)]
  exact ⟨fun _ => by first | rfl | trivial, nofun⟩
 rw [show decide ((64 : Int) <= (t.up.length : Int) + 1) = false from decide_eq_false (by omega)]
 refine ⟨nofun, fun _ => ?_⟩
 have he : VA t id p = 0 := by unfold VA; rw [if_neg (by simp [h1]), if_neg (by simp [h2]), if_neg (by simp [h3]), if_neg h4]
 have ha : ke8 t id p = Xe t id p := by unfold ke8; rw [if_pos he]
 rw [he, ha]
 refine kY [] (jG4 h p) rfl rfl ?_
 rw [twR]
 dsimp only [jm,jo,jc,jn,jF,je,jt,jr,jb,ja,jd,jA,jf,jq,ji,jj,jk,jl,ju,jJ,jL,kq,rd,get,jy,jz,jh,jg,jB,jP,jx,jC,jM,jN,jH,kp,jI,jQ,jD,jX,kd,ki,jw,bA,bN,kV,qY,z6,kO,Je,Jd,jT,jS,Nat.reduceBEq,Nat.reduceAdd]
 refine kY [2, 3, 4] (jP7 h id p) rfl ?_ ?_
 ·rw [twR]
  rfl
 dsimp only [jm,jo,jc,jn,jG,jF,je,jt,jr,jb,ja,jd,jA,jf,ji,jj,jk,jl,ju,jJ,jL,rd,get,jy,jz,jh,jg,jB,jP,jx,jC,jM,jN,jH,kp,jI,jQ,jD,kd,ki,jw,bA,bN,kA,lend,kw,kx,jZ,j7,kr,j9,kV,qY,zp,kM,kO,Je,Jd,zh,jN4,jT,jS,Nat.reduceBEq,Nat.reduceAdd]
 rw [jR4, Zf]
 exact ⟨rfl, jh9, rfl, jh8, rfl⟩

def jX7 (t : TT) : Int -> List Int -> Prop
 | _, [] => False
 | id, x :: r => x = id /\ if id = 1 then r = [] else ∃ u, lk t.up id = some u /\ jX7 t u r
structure PaX where
 done : List Int
 id : Int
 rest : List Int
 v : Nat
def stPa (t : TT) (x : PaX) : St := ⟨[(1, [], .int .u32 x.id), (2, [], .box 0 0), (5, [], .own 2 x.v)], [.cells [.mp (qI .u32 (vI t.kids)) (kZ (vI t.kids)), .mp (qI .u32 (zH t.up)) (kZ (zH t.up))], .arr 53 1 0 [], .arr 53 1 x.v (iL (x.done ++ [x.id]))]⟩
theorem jF7 {t : TT} (h : t.Ok) {id : Int} {l : List Int} (hh : jc8 t id = true) (hp : jX7 t id l) (hl : l.length < 1000000) : zA 156 [tD t, .int .u32 id] (.ls 1 (iL l)) := by
 refine V1 (by rfl) ?_
 dsimp only [c_tree_Tree_Path,J4,jm,jo,jc,jn,ja,jd,jA,ji,jj,jk,jl,jL,rd,get,jy,jz,jh,jg,jB,kj,jD,jX,env0,bA,bN,jT,jS,o1,Nat.reduceBEq,Nat.reduceAdd]
 rw [show tD t = .agg [qO .u32 (vI t.kids), qO .u32 (zH t.up)] from rfl]
 dsimp only [jm,jo,jc,jn,jF,je,jt,jr,jb,ja,jd,jA,jf,jq,ji,jj,jk,jl,ju,jL,kq,rd,get,jy,jz,jh,jg,jB,jP,jx,jC,jM,jN,jI,jD,jX,jw,bA,bN,jT,jS,Nat.reduceBEq,Nat.reduceAdd]
 refine jv (x5 h id) ?_
 rw [hh]
 dsimp only [jE,jm,jo,jc,jn,jU,jG,jK,ky,jF,je,jO,jt,jr,jb,ja,jd,jA,jf,ji,jj,jk,jl,jL,kq,rd,get,jy,jz,jh,jg,jB,jP,jx,kj,jH,jI,jD,jX,jw,bA,bN,lend,closed,jV,ql,kw,kx,jZ,j7,kr,j9,jT,jS,Nat.reduceBEq,Nat.reduceAdd]
 refine ⟨nofun, fun _ => ?_⟩
 obtain ⟨r, rfl⟩ : ∃ r, l = id :: r := by
  cases l with
  | nil => exact hp.elim
  | cons x r => exact ⟨r, by rw [hp.1]⟩
 refine kE (α := {x : PaX // jX7 t x.id (x.id :: x.rest) /\ x.done ++ x.id :: x.rest = id :: r}) (fun x => stPa t x.1) (fun x => x.1.rest.length) ?_ ⟨⟨[], id, r, 1⟩, hp, rfl⟩ rfl
 rintro ⟨⟨done, i, rest, v⟩, hp, hd⟩ I ih
 dsimp only at hp hd
 dsimp only [stPa,jE,jm,jo,jc,jn,jU,kt,jG,jK,ky,jF,je,j1,j3,kC,jt,jr,jb,ja,jd,jA,jf,j4,ji,jj,jk,jl,ju,jL,kq,rd,get,jy,jz,jh,jg,jB,jP,jx,jC,kL,jI,jw,bA,bN,kU,jR,lend,kD,ko,kw,kx,jZ,j7,kr,j9,jT,jS,Nat.reduceBEq,Nat.reduceAdd]
 have hlen : done.length + (rest.length + 1) = (id :: r).length := by rw [<- hd]; simp
 by_cases he : i = 1
 ·subst he
  refine ⟨fun h => by simp at h, fun _ => ?_⟩
  obtain ⟨_, hr⟩ := hp
  rw [if_pos rfl] at hr
  subst hr
  rw [hd]
  exact ⟨rfl, rfl⟩
 ·refine ⟨fun _ => ?_, fun h => by simp [he] at h⟩
  obtain ⟨_, hr⟩ := hp
  rw [if_neg he] at hr
  obtain ⟨u, hu, hp⟩ := hr
  refine kH _ (kQ1 h.un i) ?_
  rw [hu]
  dsimp only [Option.getD,jm,jo,jc,jF,je,j0,kC,jt,jr,jb,ja,jd,jA,jf,ji,jj,jk,jl,qg,jL,kq,rd,get,jy,jz,jh,jg,jB,jP,km,jx,kj,jH,jI,jQ,jD,jX,jw,bA,bN,closed,jV,ql,jT,jS,Nat.reduceBEq,Nat.reduceAdd]
  cases rest with
  | nil => exact hp.elim
  | cons y rest =>
    have hy : y = u := hp.1
    subst hy
    simp only [List.length_cons] at hlen hl
    refine ⟨⟨rfl, rfl, rfl, rfl, by rw [zO]; simp; omega⟩, ?_⟩
    rw [show iL (done ++ [i]) ++ [D.int .u32 y] = iL ((done ++ [i]) ++ [y]) from kc8 (done ++ [i]) [y]]
    exact kW (ih ⟨⟨done ++ [i], y, rest, v + 1⟩, hp, by simpa using hd⟩ (by dsimp only; simp)) ⟨rfl, rfl, rfl, trivial⟩ ⟨rfl, rfl, rfl, trivial⟩ rfl rfl

def qS (K : Int -> List Int) : Nat -> Int -> List Int
 | 0, _ => []
 | n + 1, id => id :: (K id).flatMap (qS K n)
def Hg (K : Int -> List Int) : Nat -> Int -> Prop
 | 0, _ => False
 | n + 1, id => ∀ k ∈ K id, Hg K n k
theorem jL6 {f : Int -> List Int} {l : List Int} {i : Nat} (h : i < l.length) : (l.take (i + 1)).flatMap f = (l.take i).flatMap f ++ f l[i] := by
 rw [List.take_succ_eq_append_getElem h, List.flatMap_append]; simp
theorem jk1 {f : Int -> List Int} {l : List Int} {i : Nat} : ((l.take i).flatMap f).length <= (l.flatMap f).length := by
 have : (l.take i ++ l.drop i).flatMap f = l.flatMap f := by rw [List.take_append_drop]
 rw [<- this, List.flatMap_append, List.length_append]; omega
def kO7 (t : TT) (id : Int) (out : List Int) (v n i : Nat) : St :=
 ⟨[(3, [], .box 3 0), (14, [], .ls 1 (iL (kP t id))), (15, [], .int .i64 (kP t id).length), (16, [], .int .i64 i)],
  [.cells [.own 1 (v + 1 + (((kP t id).take i).flatMap (qS (kP t) n)).length)], .arr 53 1 (v + 1 + (((kP t id).take i).flatMap (qS (kP t) n)).length) (iL (out ++ [id] ++ ((kP t id).take i).flatMap (qS (kP t) n))),
   .cells [qO .u32 (vI t.kids), qO .u32 (zH t.up)], .cells [.fn 158 [.box 0 0, .box 2 0, .box 3 0]]]⟩
theorem Qm {t : TT} (h : t.Ok) : ∀ (n : Nat) (id : Int), Hg (kP t) n id -> ∀ (out : List Int) (v : Nat), out.length + (qS (kP t) n id).length < 1000000 ->
  vT 158 [.int .u32 id, .box 0 0, .box 2 0, .box 3 0] [.cells [.own 1 v], .arr 53 1 v (iL out), .cells [qO .u32 (vI t.kids), qO .u32 (zH t.up)], .cells [.fn 158 [.box 0 0, .box 2 0, .box 3 0]]] (.tup [])
   [.cells [.own 1 (v + (qS (kP t) n id).length)], .arr 53 1 (v + (qS (kP t) n id).length) (iL (out ++ qS (kP t) n id)), .cells [qO .u32 (vI t.kids), qO .u32 (zH t.up)], .cells [.fn 158 [.box 0 0, .box 2 0, .box 3 0]]]
 | 0, _, hg, _, _, _ => hg.elim
 | n + 1, id, hg, out, v, hb => by
   have hkl := h.kl id
   simp only [qS, List.length_cons] at hb |-
   refine QO (by rfl) ?_
   dsimp only [c_tree_Tree_Below_1,yB,jm,jo,jc,jn,jF,je,jt,jr,jb,ja,jd,jA,jf,j4,ji,jj,jk,jl,ju,jJ,qg,jL,kq,rd,get,jy,jz,jh,jg,jB,jP,km,jx,jC,kj,kL,jH,jI,jQ,jD,jX,kd,ki,jw,env0,bA,bN,kD,closed,jV,ql,jT,jS,o1,o0,Nat.reduceBEq,Nat.reduceAdd]
   refine ⟨⟨rfl, rfl, rfl, rfl, by rw [zO]; simp; omega⟩, ?_⟩
   rw [show iL out ++ [D.int .u32 id] = iL (out ++ [id]) from kc8 out [id]]
   have hk := kh7 (bx := [.cells [.own 1 (v + 1)], .arr 53 1 (v + 1) (iL (out ++ [id])), .cells [qO .u32 (vI t.kids), qO .u32 (zH t.up)], .cells [.fn 158 [.box 0 0, .box 2 0, .box 3 0]]]) h.kn id
   refine kH _ hk ?_
   rw [show (lk t.kids id).getD [] = kP t id from rfl]
   dsimp only [jc,jU,jF,je,jt,jr,jb,ja,jd,jA,jf,ji,jj,jk,jl,kz,jL,rd,get,jy,jz,jh,jg,jB,jP,jx,jw,bA,bN,jT,jS,Nat.reduceBEq]
   rw [zO]
   refine kE (α := {i : Nat // i <= (kP t id).length}) (fun i => kO7 t id out v n i.1) (fun i => (kP t id).length - i.1) ?_ ⟨0, by simp⟩ (by simp [kO7])
   rintro ⟨i, hi⟩ I ih
   dsimp only [kO7,jE,jm,jo,jc,jn,jU,kt,jK,ky,jF,je,j1,j3,kC,jt,jr,jb,ja,jd,jA,jf,ku,ji,jj,jk,jl,ju,j6,jL,rd,get,jy,jz,jh,jg,jB,jP,km,jx,jC,jw,bA,bN,kU,jR,ko,qX,qH,j7,j9,jT,jS,Nat.reduceBEq]
   refine ⟨fun hj => ?_, fun hj => ?_⟩
   ·have hj : i < (kP t id).length := by simp at hj; omega
    refine ⟨⟨rfl, by omega, by rw [zO]; omega⟩, kh _ _ (js2 hj) rfl ?_⟩
    dsimp only [jm,jo,jc,jF,je,jt,jr,jb,ja,jd,jA,jf,jq,ji,jj,jk,jl,ju,jL,kq,rd,get,jy,jz,jh,jg,jB,jP,jx,jC,kL,jI,jw,bA,bN,Je,Jd,jT,jS,Nat.reduceBEq]
    have hft := jL6 (f := qS (kP t) n) hj
    have hle := jk1 (f := qS (kP t) n) (l := kP t id) (i := i + 1)
    rw [hft, List.length_append] at hle
    have hrec := Qm h n _ (hg _ (List.getElem_mem hj)) (out ++ [id] ++ ((kP t id).take i).flatMap (qS (kP t) n)) (v + 1 + (((kP t id).take i).flatMap (qS (kP t) n)).length) (by simp only [List.length_append, List.length_cons, List.length_nil]; omega)
    refine kY [0, 1, 2, 3] hrec rfl rfl ?_
    dsimp only [jm,jo,jc,jF,je,j0,kC,jt,jr,jb,ja,jd,jA,jf,ji,jj,jk,jl,jL,rd,get,jy,jz,jh,jg,jB,jP,km,jx,jQ,jD,jw,bA,bN,kU,jR,ko,kV,qY,zp,kM,z6,kO,Je,Jd,jT,jS,Nat.reduceBEq,Nat.reduceAdd]
    refine ⟨by simp only [j5]; omega, ?_⟩
    have e1 : out ++ [id] ++ ((kP t id).take i).flatMap (qS (kP t) n) ++ qS (kP t) n (kP t id)[i] = out ++ [id] ++ ((kP t id).take (i + 1)).flatMap (qS (kP t) n) := by rw [hft]; simp
    have e2 : v + 1 + (((kP t id).take i).flatMap (qS (kP t) n)).length + (qS (kP t) n (kP t id)[i]).length = v + 1 + (((kP t id).take (i + 1)).flatMap (qS (kP t) n)).length := by rw [hft, List.length_append]; omega
    rw [e1, e2]
    exact kW (ih ⟨i + 1, by omega⟩ (by dsimp only; omega)) ⟨rfl, rfl, rfl, rfl, trivial⟩ ⟨rfl, rfl, rfl, rfl, trivial⟩ rfl rfl
   ·have hj : i = (kP t id).length := by simp at hj; omega
    subst hj
    rw [List.take_length]
    rw [show v + 1 + ((kP t id).flatMap (qS (kP t) n)).length = v + (((kP t id).flatMap (qS (kP t) n)).length + 1) by omega, show out ++ [id] ++ (kP t id).flatMap (qS (kP t) n) = out ++ id :: (kP t id).flatMap (qS (kP t) n) by simp]
    exact Rt.cut (Nat.le_refl _) ⟨rfl, rfl, rfl, rfl, trivial⟩ rfl rfl
theorem VC {t : TT} (h : t.Ok) {id : Int} (hh : jc8 t id = true) {n : Nat} (hg : Hg (kP t) n id) (hb : (qS (kP t) n id).length < 1000000) : zA 102 [tD t, .int .u32 id] (.ls 1 (iL (qS (kP t) n id))) := by
 refine Vg (by rfl) ?_
 dsimp only [c_tree_Tree_Below,Ji,jm,jo,jc,jn,ja,jd,jA,ji,jj,jk,jl,jL,rd,get,jy,jz,jh,jg,jB,kj,jD,jX,env0,bA,bN,jT,jS,o1,o0,Nat.reduceBEq,Nat.reduceAdd]
 rw [show tD t = .agg [qO .u32 (vI t.kids), qO .u32 (zH t.up)] from rfl]
 dsimp only [jm,jo,jc,jn,jF,je,jt,jr,jb,ja,jd,jA,jf,jq,ji,jj,jk,jl,ju,jL,kq,rd,get,jy,jz,jh,jg,jB,jP,jx,jC,jM,jN,jI,jD,jX,jw,bA,bN,jT,jS,Nat.reduceBEq,Nat.reduceAdd]
 refine jv (x5 h id) ?_
 rw [hh]
 dsimp only [jE,jm,jo,jc,jn,jG,jK,ky,jF,je,jO,jt,jr,jb,ja,jd,jA,jf,jq,ji,jj,jk,jl,ju,jJ,jL,kq,rd,get,jy,jz,jh,jg,jB,jP,jx,jC,kj,kL,jH,jI,jQ,jD,jX,kd,ki,jw,bA,bN,lend,kw,kx,jZ,j7,kr,j9,Je,Jd,jT,jS,Nat.reduceBEq,Nat.reduceAdd]
 refine ⟨nofun, fun _ => ?_⟩
 refine kY [2, 3, 0, 4] (Qm h n id hg [] 0 (by simpa using hb)) rfl rfl ?_
 dsimp only [jm,jo,jc,jn,jG,jF,je,jt,jr,jb,ja,jd,jA,jf,ji,jj,jk,jl,ju,jL,rd,get,jy,jz,jh,jg,jB,jP,jx,jC,kL,jI,jQ,jD,jw,bA,bN,lend,kw,kx,jZ,j7,kr,j9,kV,qY,zp,kM,z6,kO,Je,Jd,zh,jT,jS,Nat.reduceBEq,Nat.reduceAdd]
 exact ⟨rfl, by simp⟩
end Go.AM
