import Derived.Test.YtoaialdcgmkbgaaGreatRQ4

set_option linter.all false
namespace Go.AM
open Go Go.Proofs
theorem jA4 {ik : IntKind} {kv : KV} {i : Nat} {d : D} (h : (mpK ik kv)[i]? = some d) : ∃ p, kv[i]? = some p /\ d = .int ik p.1 := by
 simp only [mpK, List.getElem?_map, Option.map_eq_some_iff] at h
 obtain ⟨p, h1, h2⟩ := h
 exact ⟨p, h1, h2.symm⟩
theorem jA3 {kv : KV} {i : Nat} {p : Int × D} (h : kv[i]? = some p) : (mpV kv)[i]? = some p.2 := by simp [mpV, h]
theorem KO {ik : IntKind} {kv : KV} {i : Nat} : (mpK ik kv).eraseIdx i = mpK ik (kv.eraseIdx i) := by
 unfold mpK
 induction kv generalizing i with
 | nil => simp
 | cons p r ih => cases i <;> simp [ih]
theorem KN {kv : KV} {i : Nat} : (mpV kv).eraseIdx i = mpV (kv.eraseIdx i) := by
 unfold mpV
 induction kv generalizing i with
 | nil => simp
 | cons p r ih => cases i <;> simp [ih]
theorem YI {α β : Type} {f : α -> β} {l : List (Int × α)} {i : Nat} : (l.map fun p => (p.1, f p.2)).eraseIdx i = (l.eraseIdx i).map fun p => (p.1, f p.2) := by
 induction l generalizing i with
 | nil => simp
 | cons p r ih => cases i <;> simp [ih]
structure Part {α : Type} (all done left : List (Int × α)) : Prop where
 perm : (done ++ left).Perm all
theorem Part.start {α : Type} (l : List (Int × α)) : Part l [] l := ⟨by simp⟩
theorem Part.step {α : Type} {all done left : List (Int × α)} (h : Part all done left) {i : Nat} {p : Int × α} (hi : left[i]? = some p) : Part all (done ++ [p]) (left.eraseIdx i) :=
 ⟨by
   refine List.Perm.trans ?_ h.perm
   rw [List.append_assoc]
   exact List.Perm.append_left done (QP hi).symm⟩
theorem Part.nd {α : Type} {all done left : List (Int × α)} (h : Part all done left) (hn : NdK all) : NdK (done ++ left) := (h.perm.map (·.1)).nodup_iff.2 hn
theorem Part.ndD {α : Type} {all done left : List (Int × α)} (h : Part all done left) (hn : NdK all) : NdK done := by
 have := h.nd hn
 simp only [NdK, List.map_append] at this
 exact (List.nodup_append.1 this).1
theorem Part.fresh {α : Type} {all done left : List (Int × α)} (h : Part all done left) (hn : NdK all) {i : Nat} {p : Int × α} (hi : left[i]? = some p) : lk done p.1 = none := by
 have := h.nd hn
 simp only [NdK, List.map_append] at this
 rw [Jd]
 intro hm
 exact (List.nodup_append.1 this).2.2 _ hm _ (List.mem_map_of_mem (List.mem_of_getElem? hi)) rfl
theorem Part.fin {α : Type} {all done : List (Int × α)} (h : Part all done []) : done.Perm all := by simpa using h.perm
theorem uKV_at {u : UpsT} {i : Nat} {q : Int × D} (h : (uKV u)[i]? = some q) : ∃ p, u[i]? = some p /\ q = (p.1, .int .u32 p.2) := by
 simp only [uKV, List.getElem?_map, Option.map_eq_some_iff] at h
 obtain ⟨p, h1, h2⟩ := h
 exact ⟨p, h1, h2.symm⟩
theorem jI0 {u : UpsT} {i : Nat} : (uKV u).eraseIdx i = uKV (u.eraseIdx i) := YI (f := fun n : Int => D.int .u32 n)
theorem jD1 {u : UpsT} {n m : Int} : put (uKV u) n (.int .u32 m) = uKV (put u n m) := js7 (f := fun n : Int => D.int .u32 n)
theorem kKV_at {u : Kids} {i : Nat} {q : Int × D} (h : (kKV u)[i]? = some q) : ∃ p, u[i]? = some p /\ q = (p.1, .ls 1 (iL p.2)) := by
 simp only [kKV, List.getElem?_map, Option.map_eq_some_iff] at h
 obtain ⟨p, h1, h2⟩ := h
 exact ⟨p, h1, h2.symm⟩
theorem jg6 {u : Kids} {i : Nat} : (kKV u).eraseIdx i = kKV (u.eraseIdx i) := YI (f := fun l : List Int => D.ls 1 (iL l))
theorem VS {α : Type} {l : List α} {i : Nat} {x : α} (h : l[i]? = some x) : (l.eraseIdx i).length + 1 = l.length := by
 have := (List.getElem?_eq_some_iff.1 h).1
 rw [List.length_eraseIdx_of_lt this]; omega
theorem zn {n : Nat} {ik : IntKind} : ∀ {kv : KV}, lowL n (mpK ik kv) = true
 | [] => rfl
 | p :: r => by simp only [mpK, List.map_cons, lowL, low, Bool.true_and]; exact zn (kv := r)
theorem yE {n : Nat} : ∀ {u : UpsT}, lowL n (mpV (uKV u)) = true
 | [] => rfl
 | p :: r => by simp only [uKV, mpV, List.map_cons, lowL, low, Bool.true_and]; exact yE (u := r)
theorem ZQ {n : Nat} : ∀ {u : Kids}, lowL n (mpV (kKV u)) = true
 | [] => rfl
 | p :: r => by simp only [kKV, mpV, List.map_cons, lowL, low, Bool.true_and]; exact ZQ (u := r)
theorem Xy : ∀ {u : UpsT}, jy (mpV (uKV u)) = true
 | [] => rfl
 | p :: r => by simp only [uKV, mpV, List.map_cons, jy, closed, bA]; exact Xy (u := r)
theorem Xz : ∀ {u : Kids}, jy (mpV (kKV u)) = true
 | [] => rfl
 | p :: r => by simp only [kKV, mpV, List.map_cons, jy, closed, bA]; exact Xz (u := r)
theorem J9 {ks : List Nat} {n : Nat} : ∀ {u : UpsT}, renL ks n (mpV (uKV u)) = mpV (uKV u)
 | [] => rfl
 | p :: r => by simp only [uKV, mpV, List.map_cons, renL, renD]; exact congrArg _ (J9 (u := r))
theorem js1 {ks : List Nat} {n : Nat} : ∀ {u : Kids}, renL ks n (mpV (kKV u)) = mpV (kKV u)
 | [] => rfl
 | p :: r => by simp only [kKV, mpV, List.map_cons, renL, renD]; exact congrArg _ (js1 (u := r))
structure CpX where
 done : UpsT
 left : UpsT
 cur : Option (D × D)
def stCp (x : CpX) : St := ⟨[(0, [], .ownm 0 0), (7, [], .box 1 0)], [.map (mpK .u32 (uKV x.done)) (mpV (uKV x.done)), .iter x.cur (mpK .u32 (uKV x.left)) (mpV (uKV x.left))]⟩
theorem jj5 {u : UpsT} (hn : NdK u) : TSpM 189 [.ownm 0 0, .mp (mpK .u32 (uKV u)) (mpV (uKV u))] [.map (mpK .u32 []) (mpV [])] (.tup []) [.map (mpK .u32 (uKV u)) (mpV (uKV u))] := by
 refine qw (by rfl) ?_
 dsimp only [c_maps_Copy_map_api_ID_api_ID_map_api_ID_api_ID_api_ID_api_ID, kU, jn,jH,jO,jq,jF,jJ,jo,jG,jI,iteR,regK,jh,jc,jk,jj,jb,ji,blkK,kp,kd,jd,ja,jx,fpOk,foot,km,allN,memN,jK,jl,jr,jv,jt,ju,jf,jg,je,newN,jw,jN,jP,jY,jQ,jM,jS,jz,jA,jC,jD,jE,jm,jB,evX,evL,evB,rd,get,subG,memG,jT,jV,hyps,gob,impP,allP,j1,jX,j3,kj,nth,j8,kh,jU,lenB,kg,jR,entN,setE,jZ,addE,setL,setN,putE,env0,eqCs,j6,eqC,bA,bO,bN,bE,negB,kEq,ke,j5,lend,frz,frzL,zRow,j9,j7,closed,jy,jW,binI,remP,remI,retK,retG,ko,retD,ki,resL,resD,oneD,renD,renL,renE,j0,rho,jL,j4,zla,zlb,zlc,zld,zca,zcb,o1,o0,og,Nat.reduceBEq,Nat.reduceAdd,Nat.beq]
 refine qh _ _ (jz3 tU) ?_
 dsimp only [jn,jH,jO,jq,jF,jJ,jo,jG,jI,iteR,regK,jh,jc,jk,jj,jb,ji,blkK,kp,kd,jd,ja,jx,fpOk,foot,km,allN,memN,jK,jl,jr,jv,jt,ju,jf,jg,je,newN,jw,jN,jP,jY,jQ,jM,jS,jz,jA,jC,jD,jE,jm,jB,evX,evL,evB,rd,get,subG,memG,jT,jV,hyps,gob,impP,allP,j1,jX,j3,kj,nth,j8,kh,jU,lenB,kg,jR,entN,setE,jZ,addE,setL,setN,putE,env0,eqCs,j6,eqC,bA,bO,bN,bE,negB,kEq,ke,j5,lend,frz,frzL,zRow,j9,j7,closed,jy,jW,binI,remP,remI,retK,retG,ko,retD,ki,resL,resD,oneD,renD,renL,renE,j0,rho,jL,j4,zla,zlb,zlc,zld,zca,zcb,o1,o0,og,Nat.reduceBEq,Nat.reduceAdd,Nat.beq]
 refine kG (α := {x : CpX // Part u x.done x.left}) (fun x => stCp x.1) (fun x => x.1.left.length) ?_ ⟨⟨[], u, none⟩, Part.start u⟩ rfl
 rintro ⟨⟨done, left, cur⟩, hp⟩ I ih
 dsimp only at hp
 dsimp only [stCp, jn,jH,jO,jq,jF,jJ,jo,jG,jI,iteR,regK,jh,jc,jk,jj,jb,ji,blkK,kp,kd,jd,ja,jx,fpOk,foot,km,allN,memN,jK,jl,jr,jv,jt,ju,jf,jg,je,newN,jw,jN,jP,jY,jQ,jM,jS,jz,jA,jC,jD,jE,jm,jB,evX,evL,evB,rd,get,subG,memG,jT,jV,hyps,gob,impP,allP,j1,jX,j3,kj,nth,j8,kh,jU,lenB,kg,jR,entN,setE,jZ,addE,setL,setN,putE,env0,eqCs,j6,eqC,bA,bO,bN,bE,negB,kEq,ke,j5,lend,frz,frzL,zRow,j9,j7,closed,jy,jW,binI,remP,remI,retK,retG,ko,retD,ki,resL,resD,oneD,renD,renL,renE,j0,rho,jL,j4,zla,zlb,zlc,zld,zca,zcb,o1,o0,og,Nat.reduceBEq,Nat.reduceAdd,Nat.beq]
 refine y9 _ (jz4 rfl) ?_
 rintro d bx' (⟨hks, rfl, rfl⟩ | ⟨i, dk, dv, h1, h2, rfl, rfl⟩)
 ·dsimp only [jn,jH,jO,jq,jF,jJ,jo,jG,jI,iteR,regK,jh,jc,jk,jj,jb,ji,blkK,kp,kd,jd,ja,jx,fpOk,foot,km,allN,memN,jK,jl,jr,jv,jt,ju,jf,jg,je,newN,jw,jN,jP,jY,jQ,jM,jS,jz,jA,jC,jD,jE,jm,jB,evX,evL,evB,rd,get,subG,memG,jT,jV,hyps,gob,impP,allP,j1,jX,j3,kj,nth,j8,kh,jU,lenB,kg,jR,entN,setE,jZ,addE,setL,setN,putE,env0,eqCs,j6,eqC,bA,bO,bN,bE,negB,kEq,ke,j5,lend,frz,frzL,zRow,j9,j7,closed,jy,jW,binI,remP,remI,retK,retG,ko,retD,ki,resL,resD,oneD,renD,renL,renE,j0,rho,jL,j4,zla,zlb,zlc,zld,zca,zcb,o1,o0,og,Nat.reduceBEq,Nat.reduceAdd,Nat.beq]
  refine ⟨nofun, fun _ => ?_⟩
  have hl : left = [] := by simpa [mpK, uKV] using hks
  subst hl
  refine Rt.trans (Rt.cut (bx' := [.map (mpK .u32 (uKV done)) (mpV (uKV done))]) (Nat.le_refl _) ⟨rfl, trivial⟩ (by simp [lowB, zn, yE]) rfl) (Rt.perm (k := 0) (ik := .u32) (kv := uKV done) rfl (hp.fin.map _))
 ·obtain ⟨q, hq, rfl⟩ := jA4 h1
  obtain ⟨p, hpp, rfl⟩ := uKV_at hq
  rw [jA3 hq] at h2
  cases h2
  dsimp only [jn,jH,jO,jq,jF,jJ,jo,jG,jI,iteR,regK,jh,jc,jk,jj,jb,ji,blkK,kp,kd,jd,ja,jx,fpOk,foot,km,allN,memN,jK,jl,jr,jv,jt,ju,jf,jg,je,newN,jw,jN,jP,jY,jQ,jM,jS,jz,jA,jC,jD,jE,jm,jB,evX,evL,evB,rd,get,subG,memG,jT,jV,hyps,gob,impP,allP,j1,jX,j3,kj,nth,j8,kh,jU,lenB,kg,jR,entN,setE,jZ,addE,setL,setN,putE,env0,eqCs,j6,eqC,bA,bO,bN,bE,negB,kEq,ke,j5,lend,frz,frzL,zRow,j9,j7,closed,jy,jW,binI,remP,remI,retK,retG,ko,retD,ki,resL,resD,oneD,renD,renL,renE,j0,rho,jL,j4,zla,zlb,zlc,zld,zca,zcb,o1,o0,og,Nat.reduceBEq,Nat.reduceAdd,Nat.beq]
  refine ⟨fun _ => ?_, nofun⟩
  refine kO _ (jz5 rfl) ?_
  dsimp only [jn,jH,jO,jq,jF,jJ,jo,jG,jI,iteR,regK,jh,jc,jk,jj,jb,ji,blkK,kp,kd,jd,ja,jx,fpOk,foot,km,allN,memN,jK,jl,jr,jv,jt,ju,jf,jg,je,newN,jw,jN,jP,jY,jQ,jM,jS,jz,jA,jC,jD,jE,jm,jB,evX,evL,evB,rd,get,subG,memG,jT,jV,hyps,gob,impP,allP,j1,jX,j3,kj,nth,j8,kh,jU,lenB,kg,jR,entN,setE,jZ,addE,setL,setN,putE,env0,eqCs,j6,eqC,bA,bO,bN,bE,negB,kEq,ke,j5,lend,frz,frzL,zRow,j9,j7,closed,jy,jW,binI,remP,remI,retK,retG,ko,retD,ki,resL,resD,oneD,renD,renL,renE,j0,rho,jL,j4,zla,zlb,zlc,zld,zca,zcb,o1,o0,og,Nat.reduceBEq,Nat.reduceAdd,Nat.beq]
  refine qh _ _ (ye tU tI (kv := uKV done) rfl (X8 (hp.ndD hn)) p.1 (.int .u32 p.2)) ?_
  dsimp only [jn,jH,jO,jq,jF,jJ,jo,jG,jI,iteR,regK,jh,jc,jk,jj,jb,ji,blkK,kp,kd,jd,ja,jx,fpOk,foot,km,allN,memN,jK,jl,jr,jv,jt,ju,jf,jg,je,newN,jw,jN,jP,jY,jQ,jM,jS,jz,jA,jC,jD,jE,jm,jB,evX,evL,evB,rd,get,subG,memG,jT,jV,hyps,gob,impP,allP,j1,jX,j3,kj,nth,j8,kh,jU,lenB,kg,jR,entN,setE,jZ,addE,setL,setN,putE,env0,eqCs,j6,eqC,bA,bO,bN,bE,negB,kEq,ke,j5,lend,frz,frzL,zRow,j9,j7,closed,jy,jW,binI,remP,remI,retK,retG,ko,retD,ki,resL,resD,oneD,renD,renL,renE,j0,rho,jL,j4,zla,zlb,zlc,zld,zca,zcb,o1,o0,og,Nat.reduceBEq,Nat.reduceAdd,Nat.beq]
  rw [jD1, qY (hp.fresh hn hpp), KO, KN, jI0]
  exact qa (ih ⟨⟨done ++ [p], left.eraseIdx i, _⟩, hp.step hpp⟩ (by have := VS hpp; dsimp only; omega)) ⟨rfl, rfl, trivial⟩ ⟨rfl, rfl, trivial⟩ rfl (by simp [stCp, lowB, zn, yE])

def fKV (p : Int) (d : D) (k : Kids) : KV := k.map fun q => (q.1, if q.1 = p then d else .ls 1 (iL q.2))
def zC (p : Int) (k : Kids) : Ent := match lk k p with
 | some l => .arr 53 1 1 (iL l)
 | none => .arr 53 1 0 []
theorem jU2 {p : Int} {d : D} {k : Kids} (h : NdK k) : NdK (fKV p d k) := by
 unfold NdK fKV at *
 rw [List.map_map]; exact h
theorem jG9 {p : Int} {d : D} {k m : Kids} : fKV p d (k ++ m) = fKV p d k ++ fKV p d m := by simp [fKV]
theorem VO {p : Int} {d : D} : ∀ {k : Kids} {n : Int}, lk (fKV p d k) n = (lk k n).map fun l => if n = p then d else .ls 1 (iL l)
 | [], n => rfl
 | q :: r, n => by
   simp only [fKV, List.map_cons, lk]
   by_cases h : q.1 = n
   ·subst h; simp
   ·simp only [if_neg h]; exact VO (k := r)
theorem jU1 {p n : Int} {d : D} {k : Kids} {l : List Int} (h : lk k n = none) (hn : n ≠ p) : put (fKV p d k) n (.ls 1 (iL l)) = fKV p d (k ++ [(n, l)]) := by
 rw [qY (by rw [VO, h]; rfl), jG9]
 simp [fKV, hn]
theorem jU0 {p : Int} {d : D} {k : Kids} {l : List Int} (h : lk k p = none) : put (fKV p d k) p d = fKV p d (k ++ [(p, l)]) := by
 rw [qY (by rw [VO, h]; rfl), jG9]
 simp [fKV]
theorem mpK_fKV {p : Int} {d d' : D} : ∀ {k : Kids}, mpK .u32 (fKV p d k) = mpK .u32 (fKV p d' k) := fun {k} => by simp [mpK, fKV]
theorem Yu {ks : List Nat} {n : Nat} {p : Int} {d : D} : ∀ {k : Kids}, renL ks n (mpV (fKV p d k)) = mpV (fKV p (renD ks n d) k)
 | [] => rfl
 | q :: r => by
   simp only [fKV, mpV, List.map_cons, renL]
   congr 1
   ·by_cases h : q.1 = p <;> simp [h, renD]
   ·exact Yu (k := r)
theorem YL {n : Nat} {p : Int} {d : D} (h : low n d = true) : ∀ {k : Kids}, lowL n (mpV (fKV p d k)) = true
 | [] => rfl
 | q :: r => by
   have ih := YL (n := n) (p := p) h (k := r)
   simp only [fKV, mpV] at ih
   simp only [fKV, mpV, List.map_cons, lowL, Bool.and_eq_true]
   refine ⟨?_, ih⟩
   by_cases h2 : q.1 = p
   ·simp [h2, h]
   ·simp [h2, low]
theorem js2 {ks : List Nat} {n : Nat} {p : Int} {k : Kids} : renE ks n (zC p k) = zC p k := by
 unfold zC; split <;> rfl
theorem ju6 {n : Nat} {p : Int} {k : Kids} {r : List Ent} : lowB n (zC p k :: r) = lowB n r := by
 unfold zC; split <;> rfl
theorem Kept.snoc {bx : List Ent} {e : Ent} : Kept [bx.length] bx (bx ++ [e]) := fun k hk => by
 rw [kD, kD]
 simp at hk
 by_cases h : k < bx.length
 ·rw [List.getElem?_append_left h]
 ·rw [List.getElem?_eq_none (by simp; omega), List.getElem?_eq_none (by omega)]
theorem Kept.call {bx : List Ent} {e : Ent} {n m : Nat} (h : jZ bx = n) : Kept [n] bx (jL bx [] (j0 [] m [e])) := by
 subst h
 rw [kH]
 exact Kept.snoc
structure TwX where
 done : Kids
 left : Kids
 cur : Option (D × D)
def stTw (t : TT) (p : Int) (x : TwX) : St := ⟨[(2, [], .box 1 0), (3, [], .box 5 0), (16, [], .box 6 0)],
 [.cells [.mp (mpK .u32 (kKV t.kids)) (mpV (kKV t.kids)), .mp (mpK .u32 (uKV t.up)) (mpV (uKV t.up))], .cells [.mp [] [], .mp [] []], .map (mpK .u32 (fKV p (.own 3 1) x.done)) (mpV (fKV p (.own 3 1) x.done)), zC p x.done, .map (mpK .u32 (uKV t.up)) (mpV (uKV t.up)),
  .cells [.ownm 2 0, .ownm 4 0], .iter x.cur (mpK .u32 (kKV x.left)) (mpV (kKV x.left))]⟩
theorem jj4 {t : TT} (h : t.Ok) (p : Int) : TSpM 154 [tD t] [] (.agg [.ownm 0 0, .ownm 2 0]) [.map (mpK .u32 (fKV p (.own 1 1) t.kids)) (mpV (fKV p (.own 1 1) t.kids)), zC p t.kids, .map (mpK .u32 (uKV t.up)) (mpV (uKV t.up))] := by
 refine QF (by rfl) ?_
 dsimp only [c_tree_Tree_twin, yu, tD, jn,jH,jO,jq,jF,jJ,jo,jG,jI,iteR,regK,jh,jc,jk,jj,jb,ji,blkK,kp,kd,jd,ja,jx,fpOk,foot,km,allN,memN,jK,jl,jr,jv,jt,ju,jf,jg,je,newN,jw,jN,jP,jY,jQ,jM,jS,jz,jA,jC,jD,jE,jm,jB,evX,evL,evB,rd,get,subG,memG,jT,jV,hyps,gob,impP,allP,j1,jX,j3,kj,nth,j8,kh,jU,lenB,kg,jR,entN,setE,jZ,addE,setL,setN,putE,env0,eqCs,j6,eqC,bA,bO,bN,bE,negB,kEq,ke,j5,lend,frz,frzL,zRow,j9,j7,closed,jy,jW,binI,remP,remI,retK,retG,ko,retD,ki,resL,resD,oneD,renD,renL,renE,j0,rho,jL,j4,zla,zlb,zlc,zld,zca,zcb,o1,o0,og,Nat.reduceBEq,Nat.reduceAdd,Nat.beq]
 refine qh _ _ (pr_mkmN (ik := .u32) 53 1) ?_
 dsimp only [jn,jH,jO,jq,jF,jJ,jo,jG,jI,iteR,regK,jh,jc,jk,jj,jb,ji,blkK,kp,kd,jd,ja,jx,fpOk,foot,km,allN,memN,jK,jl,jr,jv,jt,ju,jf,jg,je,newN,jw,jN,jP,jY,jQ,jM,jS,jz,jA,jC,jD,jE,jm,jB,evX,evL,evB,rd,get,subG,memG,jT,jV,hyps,gob,impP,allP,j1,jX,j3,kj,nth,j8,kh,jU,lenB,kg,jR,entN,setE,jZ,addE,setL,setN,putE,env0,eqCs,j6,eqC,bA,bO,bN,bE,negB,kEq,ke,j5,lend,frz,frzL,zRow,j9,j7,closed,jy,jW,binI,remP,remI,retK,retG,ko,retD,ki,resL,resD,oneD,renD,renL,renE,j0,rho,jL,j4,zla,zlb,zlc,zld,zca,zcb,o1,o0,og,Nat.reduceBEq,Nat.reduceAdd,Nat.beq]
 refine qh _ _ (jk8 (ik := .u32)) ?_
 dsimp only [jn,jH,jO,jq,jF,jJ,jo,jG,jI,iteR,regK,jh,jc,jk,jj,jb,ji,blkK,kp,kd,jd,ja,jx,fpOk,foot,km,allN,memN,jK,jl,jr,jv,jt,ju,jf,jg,je,newN,jw,jN,jP,jY,jQ,jM,jS,jz,jA,jC,jD,jE,jm,jB,evX,evL,evB,rd,get,subG,memG,jT,jV,hyps,gob,impP,allP,j1,jX,j3,kj,nth,j8,kh,jU,lenB,kg,jR,entN,setE,jZ,addE,setL,setN,putE,env0,eqCs,j6,eqC,bA,bO,bN,bE,negB,kEq,ke,j5,lend,frz,frzL,zRow,j9,j7,closed,jy,jW,binI,remP,remI,retK,retG,ko,retD,ki,resL,resD,oneD,renD,renL,renE,j0,rho,jL,j4,zla,zlb,zlc,zld,zca,zcb,o1,o0,og,Nat.reduceBEq,Nat.reduceAdd,Nat.beq]
 refine kX [4] (jj5 h.un) rfl rfl ?_
 dsimp only [jn,jH,jO,jq,jF,jJ,jo,jG,jI,iteR,regK,jh,jc,jk,jj,jb,ji,blkK,kp,kd,jd,ja,jx,fpOk,foot,km,allN,memN,jK,jl,jr,jv,jt,ju,jf,jg,je,newN,jw,jN,jP,jY,jQ,jM,jS,jz,jA,jC,jD,jE,jm,jB,evX,evL,evB,rd,get,subG,memG,jT,jV,hyps,gob,impP,allP,j1,jX,j3,kj,nth,j8,kh,jU,lenB,kg,jR,entN,setE,jZ,addE,setL,setN,putE,env0,eqCs,j6,eqC,bA,bO,bN,bE,negB,kEq,ke,j5,lend,frz,frzL,zRow,j9,j7,closed,jy,jW,binI,remP,remI,retK,retG,ko,retD,ki,resL,resD,oneD,renD,renL,renE,j0,rho,jL,j4,zla,zlb,zlc,zld,zca,zcb,o1,o0,og,Nat.reduceBEq,Nat.reduceAdd,Nat.beq]
 rw [J9]
 refine qh _ _ (jz3 tK) ?_
 dsimp only [jn,jH,jO,jq,jF,jJ,jo,jG,jI,iteR,regK,jh,jc,jk,jj,jb,ji,blkK,kp,kd,jd,ja,jx,fpOk,foot,km,allN,memN,jK,jl,jr,jv,jt,ju,jf,jg,je,newN,jw,jN,jP,jY,jQ,jM,jS,jz,jA,jC,jD,jE,jm,jB,evX,evL,evB,rd,get,subG,memG,jT,jV,hyps,gob,impP,allP,j1,jX,j3,kj,nth,j8,kh,jU,lenB,kg,jR,entN,setE,jZ,addE,setL,setN,putE,env0,eqCs,j6,eqC,bA,bO,bN,bE,negB,kEq,ke,j5,lend,frz,frzL,zRow,j9,j7,closed,jy,jW,binI,remP,remI,retK,retG,ko,retD,ki,resL,resD,oneD,renD,renL,renE,j0,rho,jL,j4,zla,zlb,zlc,zld,zca,zcb,o1,o0,og,Nat.reduceBEq,Nat.reduceAdd,Nat.beq]
 refine kG (α := {x : TwX // Part t.kids x.done x.left}) (fun x => stTw t p x.1) (fun x => x.1.left.length) ?_ ⟨⟨[], t.kids, none⟩, Part.start _⟩ rfl
 rintro ⟨⟨done, left, cur⟩, hp⟩ I ih
 dsimp only at hp
 dsimp only [stTw, jn,jH,jO,jq,jF,jJ,jo,jG,jI,iteR,regK,jh,jc,jk,jj,jb,ji,blkK,kp,kd,jd,ja,jx,fpOk,foot,km,allN,memN,jK,jl,jr,jv,jt,ju,jf,jg,je,newN,jw,jN,jP,jY,jQ,jM,jS,jz,jA,jC,jD,jE,jm,jB,evX,evL,evB,rd,get,subG,memG,jT,jV,hyps,gob,impP,allP,j1,jX,j3,kj,nth,j8,kh,jU,lenB,kg,jR,entN,setE,jZ,addE,setL,setN,putE,env0,eqCs,j6,eqC,bA,bO,bN,bE,negB,kEq,ke,j5,lend,frz,frzL,zRow,j9,j7,closed,jy,jW,binI,remP,remI,retK,retG,ko,retD,ki,resL,resD,oneD,renD,renL,renE,j0,rho,jL,j4,zla,zlb,zlc,zld,zca,zcb,o1,o0,og,Nat.reduceBEq,Nat.reduceAdd,Nat.beq]
 refine y9 _ (jz4 rfl) ?_
 rintro d bx' (⟨hks, rfl, rfl⟩ | ⟨i, dk, dv, h1, h2, rfl, rfl⟩)
 ·dsimp only [jn,jH,jO,jq,jF,jJ,jo,jG,jI,iteR,regK,jh,jc,jk,jj,jb,ji,blkK,kp,kd,jd,ja,jx,fpOk,foot,km,allN,memN,jK,jl,jr,jv,jt,ju,jf,jg,je,newN,jw,jN,jP,jY,jQ,jM,jS,jz,jA,jC,jD,jE,jm,jB,evX,evL,evB,rd,get,subG,memG,jT,jV,hyps,gob,impP,allP,j1,jX,j3,kj,nth,j8,kh,jU,lenB,kg,jR,entN,setE,jZ,addE,setL,setN,putE,env0,eqCs,j6,eqC,bA,bO,bN,bE,negB,kEq,ke,j5,lend,frz,frzL,zRow,j9,j7,closed,jy,jW,binI,remP,remI,retK,retG,ko,retD,ki,resL,resD,oneD,renD,renL,renE,j0,rho,jL,j4,zla,zlb,zlc,zld,zca,zcb,o1,o0,og,Nat.reduceBEq,Nat.reduceAdd,Nat.beq]
  refine ⟨nofun, fun _ => ?_⟩
  have hl : left = [] := by simpa [mpK, kKV] using hks
  subst hl
  have hpm := hp.fin
  refine Rt.trans (Rt.perm (k := 2) (ik := .u32) (kv := fKV p (.own 3 1) done) (kv' := fKV p (.own 3 1) t.kids) rfl (hpm.map _)) ?_
  refine Rt.pick [2, 3, 4] rfl ?_ rfl
  have hrow : zC p done = zC p t.kids := by unfold zC; rw [lk_perm hpm (hp.ndD h.kn)]
  rw [hrow]
  simp only [j4, entN, setE, j0]
  rw [js2]
  simp only [renE, Yu, J9]
  rw [mpK_fKV (d := .own 1 1) (d' := .own 3 1)]
  rfl
 ·obtain ⟨q, hq, rfl⟩ := jA4 h1
  obtain ⟨⟨n, l⟩, hpp, rfl⟩ := kKV_at hq
  rw [jA3 hq] at h2
  cases h2
  dsimp only [jn,jH,jO,jq,jF,jJ,jo,jG,jI,iteR,regK,jh,jc,jk,jj,jb,ji,blkK,kp,kd,jd,ja,jx,fpOk,foot,km,allN,memN,jK,jl,jr,jv,jt,ju,jf,jg,je,newN,jw,jN,jP,jY,jQ,jM,jS,jz,jA,jC,jD,jE,jm,jB,evX,evL,evB,rd,get,subG,memG,jT,jV,hyps,gob,impP,allP,j1,jX,j3,kj,nth,j8,kh,jU,lenB,kg,jR,entN,setE,jZ,addE,setL,setN,putE,env0,eqCs,j6,eqC,bA,bO,bN,bE,negB,kEq,ke,j5,lend,frz,frzL,zRow,j9,j7,closed,jy,jW,binI,remP,remI,retK,retG,ko,retD,ki,resL,resD,oneD,renD,renL,renE,j0,rho,jL,j4,zla,zlb,zlc,zld,zca,zcb,o1,o0,og,Nat.reduceBEq,Nat.reduceAdd,Nat.beq]
  refine ⟨fun _ => ?_, nofun⟩
  refine kO _ (jz5 rfl) ?_
  dsimp only [jn,jH,jO,jq,jF,jJ,jo,jG,jI,iteR,regK,jh,jc,jk,jj,jb,ji,blkK,kp,kd,jd,ja,jx,fpOk,foot,km,allN,memN,jK,jl,jr,jv,jt,ju,jf,jg,je,newN,jw,jN,jP,jY,jQ,jM,jS,jz,jA,jC,jD,jE,jm,jB,evX,evL,evB,rd,get,subG,memG,jT,jV,hyps,gob,impP,allP,j1,jX,j3,kj,nth,j8,kh,jU,lenB,kg,jR,entN,setE,jZ,addE,setL,setN,putE,env0,eqCs,j6,eqC,bA,bO,bN,bE,negB,kEq,ke,j5,lend,frz,frzL,zRow,j9,j7,closed,jy,jW,binI,remP,remI,retK,retG,ko,retD,ki,resL,resD,oneD,renD,renL,renE,j0,rho,jL,j4,zla,zlb,zlc,zld,zca,zcb,o1,o0,og,Nat.reduceBEq,Nat.reduceAdd,Nat.beq]
  have hll : l.length < 1000000 := by
   have := h.kl n
   have e : lk t.kids n = some l := YM h.kn (hp.perm.mem_iff.1 (List.mem_append_right _ (List.mem_of_getElem? hpp)))
   unfold kJ at this
   rw [e] at this
   simp at this; omega
  have hfr := hp.fresh h.kn hpp
  have hnd := jU2 (p := p) (d := .own 3 1) (hp.ndD h.kn)
  have hlen := VS hpp
  refine Xa [] (XN hll) rfl rfl (fun k hk => Kept.call (n := 7) rfl k (fun h => hk (by rw [List.mem_singleton] at h; rw [h]; decide))) ?_
  dsimp only [jn,jH,jO,jq,jF,jJ,jo,jG,jI,iteR,regK,jh,jc,jk,jj,jb,ji,blkK,kp,kd,jd,ja,jx,fpOk,foot,km,allN,memN,jK,jl,jr,jv,jt,ju,jf,jg,je,newN,jw,jN,jP,jY,jQ,jM,jS,jz,jA,jC,jD,jE,jm,jB,evX,evL,evB,rd,get,subG,memG,jT,jV,hyps,gob,impP,allP,j1,jX,j3,kj,nth,j8,kh,jU,lenB,kg,jR,entN,setE,jZ,addE,setL,setN,putE,env0,eqCs,j6,eqC,bA,bO,bN,bE,negB,kEq,ke,j5,lend,frz,frzL,zRow,j9,j7,closed,jy,jW,binI,remP,remI,retK,retG,ko,retD,ki,resL,resD,oneD,renD,renL,renE,j0,rho,jL,j4,zla,zlb,zlc,zld,zca,zcb,o1,o0,og,Nat.reduceBEq,Nat.reduceAdd,Nat.beq]
  by_cases hn : n = p
  ·subst hn
   have hrow : zC n done = .arr 53 1 0 [] := by unfold zC; rw [hfr]
   have hrow2 : zC n (done ++ [(n, l)]) = .arr 53 1 1 (iL l) := by
    unfold zC
    have : lk (done ++ [(n, l)]) n = some l := by rw [<- qY hfr, jm2]; simp
    rw [this]
   rw [hrow]
   refine qh _ _ (pr_updM (j := 2) (i := 7) (s := 3) tK tI (kv := fKV n (.own 3 1) done) rfl rfl rfl (by decide) hnd n) ?_
   dsimp only [jn,jH,jO,jq,jF,jJ,jo,jG,jI,iteR,regK,jh,jc,jk,jj,jb,ji,blkK,kp,kd,jd,ja,jx,fpOk,foot,km,allN,memN,jK,jl,jr,jv,jt,ju,jf,jg,je,newN,jw,jN,jP,jY,jQ,jM,jS,jz,jA,jC,jD,jE,jm,jB,evX,evL,evB,rd,get,subG,memG,jT,jV,hyps,gob,impP,allP,j1,jX,j3,kj,nth,j8,kh,jU,lenB,kg,jR,entN,setE,jZ,addE,setL,setN,putE,env0,eqCs,j6,eqC,bA,bO,bN,bE,negB,kEq,ke,j5,lend,frz,frzL,zRow,j9,j7,closed,jy,jW,binI,remP,remI,retK,retG,ko,retD,ki,resL,resD,oneD,renD,renL,renE,j0,rho,jL,j4,zla,zlb,zlc,zld,zca,zcb,o1,o0,og,Nat.reduceBEq,Nat.reduceAdd,Nat.beq]
   rw [jU0 (l := l) hfr, KO, KN, jg6]
   exact qa (ih ⟨⟨done ++ [(n, l)], left.eraseIdx i, _⟩, hp.step hpp⟩ (by dsimp only; omega)) ⟨rfl, rfl, rfl, trivial⟩ ⟨rfl, rfl, rfl, hrow2.symm, rfl, rfl, rfl, trivial⟩ rfl (by simp [stTw, lowB, zn, yE, ZQ, ju6, low, lowL, jZ]; exact YL rfl)
  ·have hrow2 : zC p (done ++ [(n, l)]) = zC p done := by
    unfold zC
    have : lk (done ++ [(n, l)]) p = lk done p := by rw [<- qY hfr, jm2, if_neg hn]
    rw [this]
   refine qh _ _ (jk6 (j := 2) (i := 7) tK tI (kv := fKV p (.own 3 1) done) rfl rfl hnd n) ?_
   dsimp only [jn,jH,jO,jq,jF,jJ,jo,jG,jI,iteR,regK,jh,jc,jk,jj,jb,ji,blkK,kp,kd,jd,ja,jx,fpOk,foot,km,allN,memN,jK,jl,jr,jv,jt,ju,jf,jg,je,newN,jw,jN,jP,jY,jQ,jM,jS,jz,jA,jC,jD,jE,jm,jB,evX,evL,evB,rd,get,subG,memG,jT,jV,hyps,gob,impP,allP,j1,jX,j3,kj,nth,j8,kh,jU,lenB,kg,jR,entN,setE,jZ,addE,setL,setN,putE,env0,eqCs,j6,eqC,bA,bO,bN,bE,negB,kEq,ke,j5,lend,frz,frzL,zRow,j9,j7,closed,jy,jW,binI,remP,remI,retK,retG,ko,retD,ki,resL,resD,oneD,renD,renL,renE,j0,rho,jL,j4,zla,zlb,zlc,zld,zca,zcb,o1,o0,og,Nat.reduceBEq,Nat.reduceAdd,Nat.beq]
   rw [jU1 (l := l) hfr hn, KO, KN, jg6]
   exact qa (ih ⟨⟨done ++ [(n, l)], left.eraseIdx i, _⟩, hp.step hpp⟩ (by dsimp only; omega)) ⟨rfl, rfl, rfl, trivial⟩ ⟨rfl, rfl, rfl, hrow2.symm, rfl, rfl, rfl, trivial⟩ rfl (by simp [stTw, lowB, zn, yE, ZQ, ju6, low, lowL, jZ]; exact YL rfl)
end Go.AM
