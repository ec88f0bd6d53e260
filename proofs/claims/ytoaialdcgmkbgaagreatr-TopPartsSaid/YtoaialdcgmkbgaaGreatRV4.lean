import Derived.Test.YtoaialdcgmkbgaaGreatRV2

set_option linter.all false
namespace Go.AM
open Go Go.Proofs
theorem jG8 {p : Int} {d : D} : ∀ {k : Kids} {l : List Int}, NdK k -> put (fKV p d k) p (.ls 1 (iL l)) = kKV (put k p l)
 | [], l, _ => rfl
 | q :: r, l, h => by
   simp only [NdK, List.map_cons, List.nodup_cons] at h
   simp only [fKV, List.map_cons, put]
   by_cases e : q.1 = p
   ·simp only [e, if_true, kKV, List.map_cons]
    congr 1
    refine List.map_congr_left fun x hx => ?_
    have : x.1 ≠ p := fun e' => h.1 (by rw [e, <- e']; exact List.mem_map_of_mem (f := (·.1)) hx)
    simp [this]
   ·have ih := jG8 (p := p) (d := d) (k := r) (l := l) h.2
    simp only [fKV, kKV] at ih
    simp only [e, if_false, kKV, List.map_cons]
    rw [ih]
def putT (t : TT) (id p : Int) : TT := ⟨put t.kids p (kJ t p ++ [id]), put t.up id p⟩
theorem jq5 {t : TT} (h : t.Ok) (id p : Int) : TSpM 155 [.agg [.ownm 0 0, .ownm 2 0], .int .u32 id, .int .u32 p] [.map (mpK .u32 (fKV p (.own 1 1) t.kids)) (mpV (fKV p (.own 1 1) t.kids)), zC p t.kids, .map (mpK .u32 (uKV t.up)) (mpV (uKV t.up))] (.tup [])
  [.map (mpK .u32 (kKV (putT t id p).kids)) (mpV (kKV (putT t id p).kids)), .gone, .map (mpK .u32 (uKV (putT t id p).up)) (mpV (uKV (putT t id p).up))] := by
 refine Zw (by rfl) ?_
 dsimp only [c_tree_Tree_put, Js, jn,jH,jO,jq,jF,jJ,jo,jG,jI,iteR,regK,jh,jc,jk,jj,jb,ji,blkK,kp,kd,jd,ja,jx,fpOk,foot,km,allN,memN,jK,jl,jr,jv,jt,ju,jf,jg,je,newN,jw,jN,jP,jY,jQ,jM,jS,jz,jA,jC,jD,jE,jm,jB,evX,evL,evB,rd,get,subG,memG,jT,jV,hyps,gob,impP,allP,j1,jX,j3,kj,nth,j8,kh,jU,lenB,kg,jR,entN,setE,jZ,addE,setL,setN,putE,env0,eqCs,j6,eqC,bA,bO,bN,bE,negB,kEq,ke,j5,lend,frz,frzL,zRow,j9,j7,closed,jy,jW,binI,remP,remI,retK,retG,ko,retD,ki,resL,resD,oneD,renD,renL,renE,j0,rho,jL,j4,zla,zlb,zlc,zld,zca,zcb,o1,o0,og,Nat.reduceBEq,Nat.reduceAdd,Nat.beq]
 have hnd := jU2 (p := p) (d := .own 1 1) h.kn
 have hkl := h.kl p
 have fin : ∀ (env : Env) (row : List Int) (ver : Nat), row = kJ t p -> Rt 3 [.map (mpK .u32 (put (fKV p (.own 1 1) t.kids) p (.ls 1 (iL (row ++ [id]))))) (mpV (put (fKV p (.own 1 1) t.kids) p (.ls 1 (iL (row ++ [id]))))), .gone, .map (mpK .u32 (put (uKV t.up) id (.int .u32 p))) (mpV (put (uKV t.up) id (.int .u32 p))), .cells [.ownm 0 0, .ownm 2 0]] (.tup []) (.tup [])
  [.map (mpK .u32 (kKV (putT t id p).kids)) (mpV (kKV (putT t id p).kids)), .gone, .map (mpK .u32 (uKV (putT t id p).up)) (mpV (uKV (putT t id p).up))] := by
  intro env row ver hrow
  rw [hrow, jG8 h.kn, jD1]
  exact Rt.cut (Nat.le_refl _) ⟨rfl, rfl, rfl, trivial⟩ (by simp [lowB, zn, yE, ZQ]) rfl
 cases hp : lk t.kids p with
 | some l =>
   have hrow : zC p t.kids = .arr 53 1 1 (iL l) := by unfold zC; rw [hp]
   have hkl' : l = kJ t p := by unfold kJ; rw [hp]; rfl
   rw [hrow]
   have hlk := jk9 (gt := gtab) (bx := [.map (mpK .u32 (fKV p (.own 1 1) t.kids)) (mpV (fKV p (.own 1 1) t.kids)), .arr 53 1 1 (iL l), .map (mpK .u32 (uKV t.up)) (mpV (uKV t.up)), .cells [.ownm 0 0, .ownm 2 0]]) (j := 0) tK tI zK (kv := fKV p (.own 1 1) t.kids) rfl hnd p false (zd := .ls 1 []) (fun hn => by rw [VO, hp] at hn; cases hn)
   rw [VO, hp] at hlk
   simp only [Option.map_some, if_true, lkD] at hlk
   refine kO _ hlk ?_
   dsimp only [jn,jH,jO,jq,jF,jJ,jo,jG,jI,iteR,regK,jh,jc,jk,jj,jb,ji,blkK,kp,kd,jd,ja,jx,fpOk,foot,km,allN,memN,jK,jl,jr,jv,jt,ju,jf,jg,je,newN,jw,jN,jP,jY,jQ,jM,jS,jz,jA,jC,jD,jE,jm,jB,evX,evL,evB,rd,get,subG,memG,jT,jV,hyps,gob,impP,allP,j1,jX,j3,kj,nth,j8,kh,jU,lenB,kg,jR,entN,setE,jZ,addE,setL,setN,putE,env0,eqCs,j6,eqC,bA,bO,bN,bE,negB,kEq,ke,j5,lend,frz,frzL,zRow,j9,j7,closed,jy,jW,binI,remP,remI,retK,retG,ko,retD,ki,resL,resD,oneD,renD,renL,renE,j0,rho,jL,j4,zla,zlb,zlc,zld,zca,zcb,o1,o0,og,Nat.reduceBEq,Nat.reduceAdd,Nat.beq]
   refine ⟨⟨rfl, rfl, rfl, rfl, by rw [qT]; rw [<- hkl'] at hkl; simp; omega⟩, ?_⟩
   rw [show iL l ++ [D.int .u32 id] = iL (l ++ [id]) from jB1 l [id]]
   refine qh _ _ (jk6 (j := 0) (i := 1) tK tI (kv := fKV p (.own 1 1) t.kids) rfl rfl hnd p) ?_
   dsimp only [jn,jH,jO,jq,jF,jJ,jo,jG,jI,iteR,regK,jh,jc,jk,jj,jb,ji,blkK,kp,kd,jd,ja,jx,fpOk,foot,km,allN,memN,jK,jl,jr,jv,jt,ju,jf,jg,je,newN,jw,jN,jP,jY,jQ,jM,jS,jz,jA,jC,jD,jE,jm,jB,evX,evL,evB,rd,get,subG,memG,jT,jV,hyps,gob,impP,allP,j1,jX,j3,kj,nth,j8,kh,jU,lenB,kg,jR,entN,setE,jZ,addE,setL,setN,putE,env0,eqCs,j6,eqC,bA,bO,bN,bE,negB,kEq,ke,j5,lend,frz,frzL,zRow,j9,j7,closed,jy,jW,binI,remP,remI,retK,retG,ko,retD,ki,resL,resD,oneD,renD,renL,renE,j0,rho,jL,j4,zla,zlb,zlc,zld,zca,zcb,o1,o0,og,Nat.reduceBEq,Nat.reduceAdd,Nat.beq]
   refine qh _ _ (ye (j := 2) tU tI (kv := uKV t.up) rfl (X8 h.un) id (.int .u32 p)) ?_
   dsimp only [jn,jH,jO,jq,jF,jJ,jo,jG,jI,iteR,regK,jh,jc,jk,jj,jb,ji,blkK,kp,kd,jd,ja,jx,fpOk,foot,km,allN,memN,jK,jl,jr,jv,jt,ju,jf,jg,je,newN,jw,jN,jP,jY,jQ,jM,jS,jz,jA,jC,jD,jE,jm,jB,evX,evL,evB,rd,get,subG,memG,jT,jV,hyps,gob,impP,allP,j1,jX,j3,kj,nth,j8,kh,jU,lenB,kg,jR,entN,setE,jZ,addE,setL,setN,putE,env0,eqCs,j6,eqC,bA,bO,bN,bE,negB,kEq,ke,j5,lend,frz,frzL,zRow,j9,j7,closed,jy,jW,binI,remP,remI,retK,retG,ko,retD,ki,resL,resD,oneD,renD,renL,renE,j0,rho,jL,j4,zla,zlb,zlc,zld,zca,zcb,o1,o0,og,Nat.reduceBEq,Nat.reduceAdd,Nat.beq]
   exact fin [] l 2 hkl'
 | none =>
   have hrow : zC p t.kids = .arr 53 1 0 [] := by unfold zC; rw [hp]
   have hkl' : [] = kJ t p := by unfold kJ; rw [hp]; rfl
   rw [hrow]
   refine kO _ (pr_lkpN (j := 0) (j2 := 1) (et := 53) (sz := 1) tK tI zK (kv := fKV p (.own 1 1) t.kids) rfl rfl hnd p (by rw [VO, hp]; rfl)) ?_
   dsimp only [jn,jH,jO,jq,jF,jJ,jo,jG,jI,iteR,regK,jh,jc,jk,jj,jb,ji,blkK,kp,kd,jd,ja,jx,fpOk,foot,km,allN,memN,jK,jl,jr,jv,jt,ju,jf,jg,je,newN,jw,jN,jP,jY,jQ,jM,jS,jz,jA,jC,jD,jE,jm,jB,evX,evL,evB,rd,get,subG,memG,jT,jV,hyps,gob,impP,allP,j1,jX,j3,kj,nth,j8,kh,jU,lenB,kg,jR,entN,setE,jZ,addE,setL,setN,putE,env0,eqCs,j6,eqC,bA,bO,bN,bE,negB,kEq,ke,j5,lend,frz,frzL,zRow,j9,j7,closed,jy,jW,binI,remP,remI,retK,retG,ko,retD,ki,resL,resD,oneD,renD,renL,renE,j0,rho,jL,j4,zla,zlb,zlc,zld,zca,zcb,o1,o0,og,Nat.reduceBEq,Nat.reduceAdd,Nat.beq]
   refine ⟨⟨rfl, rfl, rfl, rfl, by simp⟩, ?_⟩
   refine qh _ _ (jk6 (j := 0) (i := 1) tK tI (kv := fKV p (.own 1 1) t.kids) rfl rfl hnd p) ?_
   dsimp only [jn,jH,jO,jq,jF,jJ,jo,jG,jI,iteR,regK,jh,jc,jk,jj,jb,ji,blkK,kp,kd,jd,ja,jx,fpOk,foot,km,allN,memN,jK,jl,jr,jv,jt,ju,jf,jg,je,newN,jw,jN,jP,jY,jQ,jM,jS,jz,jA,jC,jD,jE,jm,jB,evX,evL,evB,rd,get,subG,memG,jT,jV,hyps,gob,impP,allP,j1,jX,j3,kj,nth,j8,kh,jU,lenB,kg,jR,entN,setE,jZ,addE,setL,setN,putE,env0,eqCs,j6,eqC,bA,bO,bN,bE,negB,kEq,ke,j5,lend,frz,frzL,zRow,j9,j7,closed,jy,jW,binI,remP,remI,retK,retG,ko,retD,ki,resL,resD,oneD,renD,renL,renE,j0,rho,jL,j4,zla,zlb,zlc,zld,zca,zcb,o1,o0,og,Nat.reduceBEq,Nat.reduceAdd,Nat.beq]
   refine qh _ _ (ye (j := 2) tU tI (kv := uKV t.up) rfl (X8 h.un) id (.int .u32 p)) ?_
   dsimp only [jn,jH,jO,jq,jF,jJ,jo,jG,jI,iteR,regK,jh,jc,jk,jj,jb,ji,blkK,kp,kd,jd,ja,jx,fpOk,foot,km,allN,memN,jK,jl,jr,jv,jt,ju,jf,jg,je,newN,jw,jN,jP,jY,jQ,jM,jS,jz,jA,jC,jD,jE,jm,jB,evX,evL,evB,rd,get,subG,memG,jT,jV,hyps,gob,impP,allP,j1,jX,j3,kj,nth,j8,kh,jU,lenB,kg,jR,entN,setE,jZ,addE,setL,setN,putE,env0,eqCs,j6,eqC,bA,bO,bN,bE,negB,kEq,ke,j5,lend,frz,frzL,zRow,j9,j7,closed,jy,jW,binI,remP,remI,retK,retG,ko,retD,ki,resL,resD,oneD,renD,renL,renE,j0,rho,jL,j4,zla,zlb,zlc,zld,zca,zcb,o1,o0,og,Nat.reduceBEq,Nat.reduceAdd,Nat.beq]
   exact fin [] [] 1 hkl'

theorem twR {ks : List Nat} {n : Nat} {p : Int} {k : Kids} {u : UpsT} : j0 ks n [.map (mpK .u32 (fKV p (.own 1 1) k)) (mpV (fKV p (.own 1 1) k)), zC p k, .map (mpK .u32 (uKV u)) (mpV (uKV u))] = [.map (mpK .u32 (fKV p (.own 1 1) k)) (mpV (fKV p (renD ks n (.own 1 1)) k)), zC p k, .map (mpK .u32 (uKV u)) (mpV (uKV u))] := by
 simp only [j0]
 rw [js2]
 simp only [renE, Yu, J9]
def isCl (n : Int) : Bool := decide (1 <= n) && decide (n <= 8)
theorem ZB (n : Int) : TSp 191 [.int .i64 n] (.bool (isCl n)) := by
 refine QD (by rfl) ?_
 dsimp only [c_ident_isClient, yy, jn,jH,jO,jq,jF,jJ,jo,jG,jI,iteR,regK,jh,jc,jk,jj,jb,ji,blkK,kp,kd,jd,ja,jx,fpOk,foot,km,allN,memN,jK,jl,jr,jv,jt,ju,jf,jg,je,newN,jw,jN,jP,jY,jQ,jM,jS,jz,jA,jC,jD,jE,jm,jB,evX,evL,evB,rd,get,subG,memG,jT,jV,hyps,gob,impP,allP,j1,jX,j3,kj,nth,j8,kh,jU,lenB,kg,jR,entN,setE,jZ,addE,setL,setN,putE,env0,eqCs,j6,eqC,bA,bO,bN,bE,negB,kEq,ke,j5,lend,frz,frzL,zRow,j9,j7,closed,jy,jW,binI,remP,remI,retK,retG,ko,retD,ki,resL,resD,oneD,renD,renL,renE,j0,rho,jL,j4,zla,zlb,zlc,zld,zca,zcb,o1,o0,og,Nat.reduceBEq,Nat.reduceAdd,Nat.beq]
 unfold isCl
 by_cases h1 : 1 <= n <;> by_cases h2 : n <= 8 <;> simp [h1, h2]
def clP (id : Int) : Int × Bool := if id = 1 then (0, true) else if decide (id % 1048576 = 0) || !isCl (id / 1048576) then (0, false) else (id / 1048576, true)
theorem XM {id : Int} (h : fits .u32 id) : TSp 164 [.int .u32 id] (.tup [.int .i64 (clP id).1, .bool (clP id).2]) := by
 refine Vw (by rfl) ?_
 dsimp only [c_ident_Client, Kg, jn,jH,jO,jq,jF,jJ,jo,jG,jI,iteR,regK,jh,jc,jk,jj,jb,ji,blkK,kp,kd,jd,ja,jx,fpOk,foot,km,allN,memN,jK,jl,jr,jv,jt,ju,jf,jg,je,newN,jw,jN,jP,jY,jQ,jM,jS,jz,jA,jC,jD,jE,jm,jB,evX,evL,evB,rd,get,subG,memG,jT,jV,hyps,gob,impP,allP,j1,jX,j3,kj,nth,j8,kh,jU,lenB,kg,jR,entN,setE,jZ,addE,setL,setN,putE,env0,eqCs,j6,eqC,bA,bO,bN,bE,negB,kEq,ke,j5,lend,frz,frzL,zRow,j9,j7,closed,jy,jW,binI,remP,remI,retK,retG,ko,retD,ki,resL,resD,oneD,renD,renL,renE,j0,rho,jL,j4,zla,zlb,zlc,zld,zca,zcb,o1,o0,og,Nat.reduceBEq,Nat.reduceAdd,Nat.beq]
 simp only [fits] at h
 unfold clP
 by_cases h1 : id = 1
 ·subst h1
  refine ⟨fun _ => by rfl, fun h => by simp at h⟩
 ·simp only [h1, decide_false, if_false]
  refine ⟨nofun, fun _ => ?_⟩
  have hq0 : 0 <= id / 1048576 := Int.ediv_nonneg h.1 (by omega)
  refine ⟨⟨by omega, by omega, by simp only [fits]; omega⟩, by simp only [fits]; omega, ⟨by omega, by omega⟩, ?_⟩
  refine kq (fun _ => ZB _) ?_
  dsimp only [jn,jH,jO,jq,jF,jJ,jo,jG,jI,iteR,regK,jh,jc,jk,jj,jb,ji,blkK,kp,kd,jd,ja,jx,fpOk,foot,km,allN,memN,jK,jl,jr,jv,jt,ju,jf,jg,je,newN,jw,jN,jP,jY,jQ,jM,jS,jz,jA,jC,jD,jE,jm,jB,evX,evL,evB,rd,get,subG,memG,jT,jV,hyps,gob,impP,allP,j1,jX,j3,kj,nth,j8,kh,jU,lenB,kg,jR,entN,setE,jZ,addE,setL,setN,putE,env0,eqCs,j6,eqC,bA,bO,bN,bE,negB,kEq,ke,j5,lend,frz,frzL,zRow,j9,j7,closed,jy,jW,binI,remP,remI,retK,retG,ko,retD,ki,resL,resD,oneD,renD,renL,renE,j0,rho,jL,j4,zla,zlb,zlc,zld,zca,zcb,o1,o0,og,Nat.reduceBEq,Nat.reduceAdd,Nat.beq]
  by_cases h2 : id % 1048576 = 0
  ·simp only [h2, decide_true, Bool.true_or, if_true]
   refine ⟨fun _ => by first | rfl | trivial, nofun⟩
  ·simp only [h2, decide_false, Bool.false_or]
   cases h3 : isCl (id / 1048576)
   ·refine ⟨fun _ => by first | rfl | trivial, nofun⟩
   ·refine ⟨nofun, fun _ => by first | rfl | trivial⟩
def yh (id : Int) : Int := if id = 0 then 6 else if (clP id).2 then 0 else 1
theorem xJ {id : Int} (h : fits .u32 id) : TSp 114 [.int .u32 id] (.int .i64 (yh id)) := by
 refine XI (by rfl) ?_
 dsimp only [c_ident_Check, Qu, jn,jH,jO,jq,jF,jJ,jo,jG,jI,iteR,regK,jh,jc,jk,jj,jb,ji,blkK,kp,kd,jd,ja,jx,fpOk,foot,km,allN,memN,jK,jl,jr,jv,jt,ju,jf,jg,je,newN,jw,jN,jP,jY,jQ,jM,jS,jz,jA,jC,jD,jE,jm,jB,evX,evL,evB,rd,get,subG,memG,jT,jV,hyps,gob,impP,allP,j1,jX,j3,kj,nth,j8,kh,jU,lenB,kg,jR,entN,setE,jZ,addE,setL,setN,putE,env0,eqCs,j6,eqC,bA,bO,bN,bE,negB,kEq,ke,j5,lend,frz,frzL,zRow,j9,j7,closed,jy,jW,binI,remP,remI,retK,retG,ko,retD,ki,resL,resD,oneD,renD,renL,renE,j0,rho,jL,j4,zla,zlb,zlc,zld,zca,zcb,o1,o0,og,Nat.reduceBEq,Nat.reduceAdd,Nat.beq]
 unfold yh
 by_cases h1 : id = 0
 ·subst h1
  exact ⟨fun _ => by rfl, fun h => by simp at h⟩
 ·simp only [h1, decide_false, if_false]
  refine ⟨nofun, fun _ => ?_⟩
  refine kq (XM h) ?_
  dsimp only [jn,jH,jO,jq,jF,jJ,jo,jG,jI,iteR,regK,jh,jc,jk,jj,jb,ji,blkK,kp,kd,jd,ja,jx,fpOk,foot,km,allN,memN,jK,jl,jr,jv,jt,ju,jf,jg,je,newN,jw,jN,jP,jY,jQ,jM,jS,jz,jA,jC,jD,jE,jm,jB,evX,evL,evB,rd,get,subG,memG,jT,jV,hyps,gob,impP,allP,j1,jX,j3,kj,nth,j8,kh,jU,lenB,kg,jR,entN,setE,jZ,addE,setL,setN,putE,env0,eqCs,j6,eqC,bA,bO,bN,bE,negB,kEq,ke,j5,lend,frz,frzL,zRow,j9,j7,closed,jy,jW,binI,remP,remI,retK,retG,ko,retD,ki,resL,resD,oneD,renD,renL,renE,j0,rho,jL,j4,zla,zlb,zlc,zld,zca,zcb,o1,o0,og,Nat.reduceBEq,Nat.reduceAdd,Nat.beq]
  cases (clP id).2
  ·exact ⟨fun _ => by first | rfl | trivial, nofun⟩
  ·exact ⟨nofun, fun _ => by first | rfl | trivial⟩
def addC (t : TT) (id p : Int) : Int := if yh id ≠ 0 then yh id else if hasT t id then 7 else if !hasT t p then 6 else if 64 <= t.up.length + 1 then 5 else 0
def addT (t : TT) (id p : Int) : TT := if addC t id p = 0 then putT t id p else t
theorem uKV_len (u : UpsT) : (uKV u).length = u.length := by simp [uKV]
theorem jp8 {t : TT} (h : t.Ok) {id p : Int} (hid : fits .u32 id) : TSp 97 [tD t, .int .u32 id, .int .u32 p] (.tup [tD (addT t id p), .int .i64 (addC t id p)]) := by
 refine Zn (by rfl) ?_
 dsimp only [c_tree_Tree_Add, Ju, jn,jH,jO,jq,jF,jJ,jo,jG,jI,iteR,regK,jh,jc,jk,jj,jb,ji,blkK,kp,kd,jd,ja,jx,fpOk,foot,km,allN,memN,jK,jl,jr,jv,jt,ju,jf,jg,je,newN,jw,jN,jP,jY,jQ,jM,jS,jz,jA,jC,jD,jE,jm,jB,evX,evL,evB,rd,get,subG,memG,jT,jV,hyps,gob,impP,allP,j1,jX,j3,kj,nth,j8,kh,jU,lenB,kg,jR,entN,setE,jZ,addE,setL,setN,putE,env0,eqCs,j6,eqC,bA,bO,bN,bE,negB,kEq,ke,j5,lend,frz,frzL,zRow,j9,j7,closed,jy,jW,binI,remP,remI,retK,retG,ko,retD,ki,resL,resD,oneD,renD,renL,renE,j0,rho,jL,j4,zla,zlb,zlc,zld,zca,zcb,o1,o0,og,Nat.reduceBEq,Nat.reduceAdd,Nat.beq]
 rw [show tD t = .agg [mpD .u32 (kKV t.kids), mpD .u32 (uKV t.up)] from rfl]
 dsimp only [jn,jH,jO,jq,jF,jJ,jo,jG,jI,iteR,regK,jh,jc,jk,jj,jb,ji,blkK,kp,kd,jd,ja,jx,fpOk,foot,km,allN,memN,jK,jl,jr,jv,jt,ju,jf,jg,je,newN,jw,jN,jP,jY,jQ,jM,jS,jz,jA,jC,jD,jE,jm,jB,evX,evL,evB,rd,get,subG,memG,jT,jV,hyps,gob,impP,allP,j1,jX,j3,kj,nth,j8,kh,jU,lenB,kg,jR,entN,setE,jZ,addE,setL,setN,putE,env0,eqCs,j6,eqC,bA,bO,bN,bE,negB,kEq,ke,j5,lend,frz,frzL,zRow,j9,j7,closed,jy,jW,binI,remP,remI,retK,retG,ko,retD,ki,resL,resD,oneD,renD,renL,renE,j0,rho,jL,j4,zla,zlb,zlc,zld,zca,zcb,o1,o0,og,Nat.reduceBEq,Nat.reduceAdd,Nat.beq]
 refine kq (xJ hid) ?_
 dsimp only [jn,jH,jO,jq,jF,jJ,jo,jG,jI,iteR,regK,jh,jc,jk,jj,jb,ji,blkK,kp,kd,jd,ja,jx,fpOk,foot,km,allN,memN,jK,jl,jr,jv,jt,ju,jf,jg,je,newN,jw,jN,jP,jY,jQ,jM,jS,jz,jA,jC,jD,jE,jm,jB,evX,evL,evB,rd,get,subG,memG,jT,jV,hyps,gob,impP,allP,j1,jX,j3,kj,nth,j8,kh,jU,lenB,kg,jR,entN,setE,jZ,addE,setL,setN,putE,env0,eqCs,j6,eqC,bA,bO,bN,bE,negB,kEq,ke,j5,lend,frz,frzL,zRow,j9,j7,closed,jy,jW,binI,remP,remI,retK,retG,ko,retD,ki,resL,resD,oneD,renD,renL,renE,j0,rho,jL,j4,zla,zlb,zlc,zld,zca,zcb,o1,o0,og,Nat.reduceBEq,Nat.reduceAdd,Nat.beq]
 have key : ∀ e, addC t id p = e -> e ≠ 0 -> addT t id p = t := fun e h1 h2 => by unfold addT; rw [if_neg (by rw [h1]; exact h2)]
 by_cases h1 : yh id = 0
 case neg =>
  have he : addC t id p = yh id := by unfold addC; rw [if_pos h1]
  rw [key _ he h1, he]
  simp only [h1, decide_false, Bool.not_false]
  exact ⟨fun _ => by first | rfl | trivial, nofun⟩
 simp only [h1, decide_true, Bool.not_true]
 refine ⟨nofun, fun _ => ?_⟩
 refine kq (xh h id) ?_
 dsimp only [jn,jH,jO,jq,jF,jJ,jo,jG,jI,iteR,regK,jh,jc,jk,jj,jb,ji,blkK,kp,kd,jd,ja,jx,fpOk,foot,km,allN,memN,jK,jl,jr,jv,jt,ju,jf,jg,je,newN,jw,jN,jP,jY,jQ,jM,jS,jz,jA,jC,jD,jE,jm,jB,evX,evL,evB,rd,get,subG,memG,jT,jV,hyps,gob,impP,allP,j1,jX,j3,kj,nth,j8,kh,jU,lenB,kg,jR,entN,setE,jZ,addE,setL,setN,putE,env0,eqCs,j6,eqC,bA,bO,bN,bE,negB,kEq,ke,j5,lend,frz,frzL,zRow,j9,j7,closed,jy,jW,binI,remP,remI,retK,retG,ko,retD,ki,resL,resD,oneD,renD,renL,renE,j0,rho,jL,j4,zla,zlb,zlc,zld,zca,zcb,o1,o0,og,Nat.reduceBEq,Nat.reduceAdd,Nat.beq]
 cases h2 : hasT t id
 case true =>
  have he : addC t id p = 7 := by unfold addC; rw [if_neg (by simp [h1]), if_pos h2]
  rw [key _ he (by omega), he]
  exact ⟨fun _ => by first | rfl | trivial, nofun⟩
 refine ⟨nofun, fun _ => ?_⟩
 refine kq (xh h p) ?_
 dsimp only [jn,jH,jO,jq,jF,jJ,jo,jG,jI,iteR,regK,jh,jc,jk,jj,jb,ji,blkK,kp,kd,jd,ja,jx,fpOk,foot,km,allN,memN,jK,jl,jr,jv,jt,ju,jf,jg,je,newN,jw,jN,jP,jY,jQ,jM,jS,jz,jA,jC,jD,jE,jm,jB,evX,evL,evB,rd,get,subG,memG,jT,jV,hyps,gob,impP,allP,j1,jX,j3,kj,nth,j8,kh,jU,lenB,kg,jR,entN,setE,jZ,addE,setL,setN,putE,env0,eqCs,j6,eqC,bA,bO,bN,bE,negB,kEq,ke,j5,lend,frz,frzL,zRow,j9,j7,closed,jy,jW,binI,remP,remI,retK,retG,ko,retD,ki,resL,resD,oneD,renD,renL,renE,j0,rho,jL,j4,zla,zlb,zlc,zld,zca,zcb,o1,o0,og,Nat.reduceBEq,Nat.reduceAdd,Nat.beq]
 cases h3 : hasT t p
 case false =>
  have he : addC t id p = 6 := by unfold addC; rw [if_neg (by simp [h1]), if_neg (by simp [h2]), if_pos (by simp [h3])]
  rw [key _ he (by omega), he]
  exact ⟨fun _ => by first | rfl | trivial, nofun⟩
 refine ⟨nofun, fun _ => ?_⟩
 refine kO _ (YB tU) ?_
 rw [uKV_len]
 dsimp only [jn,jH,jO,jq,jF,jJ,jo,jG,jI,iteR,regK,jh,jc,jk,jj,jb,ji,blkK,kp,kd,jd,ja,jx,fpOk,foot,km,allN,memN,jK,jl,jr,jv,jt,ju,jf,jg,je,newN,jw,jN,jP,jY,jQ,jM,jS,jz,jA,jC,jD,jE,jm,jB,evX,evL,evB,rd,get,subG,memG,jT,jV,hyps,gob,impP,allP,j1,jX,j3,kj,nth,j8,kh,jU,lenB,kg,jR,entN,setE,jZ,addE,setL,setN,putE,env0,eqCs,j6,eqC,bA,bO,bN,bE,negB,kEq,ke,j5,lend,frz,frzL,zRow,j9,j7,closed,jy,jW,binI,remP,remI,retK,retG,ko,retD,ki,resL,resD,oneD,renD,renL,renE,j0,rho,jL,j4,zla,zlb,zlc,zld,zca,zcb,o1,o0,og,Nat.reduceBEq,Nat.reduceAdd,Nat.beq]
 have hul := h.ul
 refine ⟨by simp only [fits]; omega, ?_⟩
 by_cases h4 : 64 <= t.up.length + 1
 case pos =>
  have he : addC t id p = 5 := by unfold addC; rw [if_neg (by simp [h1]), if_neg (by simp [h2]), if_neg (by simp [h3]), if_pos h4]
  rw [key _ he (by omega), he]
  rw [show decide ((64 : Int) <= (t.up.length : Int) + 1) = true from decide_eq_true (by omega)]
  exact ⟨fun _ => by first | rfl | trivial, nofun⟩
 rw [show decide ((64 : Int) <= (t.up.length : Int) + 1) = false from decide_eq_false (by omega)]
 refine ⟨nofun, fun _ => ?_⟩
 have he : addC t id p = 0 := by unfold addC; rw [if_neg (by simp [h1]), if_neg (by simp [h2]), if_neg (by simp [h3]), if_neg h4]
 have ha : addT t id p = putT t id p := by unfold addT; rw [if_pos he]
 rw [he, ha]
 refine kX [] (jj4 h p) rfl rfl ?_
 rw [twR]
 dsimp only [jn,jH,jO,jq,jF,jJ,jo,jG,jI,iteR,regK,jh,jc,jk,jj,jb,ji,blkK,kp,kd,jd,ja,jx,fpOk,foot,km,allN,memN,jK,jl,jr,jv,jt,ju,jf,jg,je,newN,jw,jN,jP,jY,jQ,jM,jS,jz,jA,jC,jD,jE,jm,jB,evX,evL,evB,rd,get,subG,memG,jT,jV,hyps,gob,impP,allP,j1,jX,j3,kj,nth,j8,kh,jU,lenB,kg,jR,entN,setE,jZ,addE,setL,setN,putE,env0,eqCs,j6,eqC,bA,bO,bN,bE,negB,kEq,ke,j5,lend,frz,frzL,zRow,j9,j7,closed,jy,jW,binI,remP,remI,retK,retG,ko,retD,ki,resL,resD,oneD,renD,renL,renE,j0,rho,jL,j4,zla,zlb,zlc,zld,zca,zcb,o1,o0,og,Nat.reduceBEq,Nat.reduceAdd,Nat.beq]
 refine kX [2, 3, 4] (jq5 h id p) rfl ?_ ?_
 ·rw [twR]
  rfl
 dsimp only [jn,jH,jO,jq,jF,jJ,jo,jG,jI,iteR,regK,jh,jc,jk,jj,jb,ji,blkK,kp,kd,jd,ja,jx,fpOk,foot,km,allN,memN,jK,jl,jr,jv,jt,ju,jf,jg,je,newN,jw,jN,jP,jY,jQ,jM,jS,jz,jA,jC,jD,jE,jm,jB,evX,evL,evB,rd,get,subG,memG,jT,jV,hyps,gob,impP,allP,j1,jX,j3,kj,nth,j8,kh,jU,lenB,kg,jR,entN,setE,jZ,addE,setL,setN,putE,env0,eqCs,j6,eqC,bA,bO,bN,bE,negB,kEq,ke,j5,lend,frz,frzL,zRow,j9,j7,closed,jy,jW,binI,remP,remI,retK,retG,ko,retD,ki,resL,resD,oneD,renD,renL,renE,j0,rho,jL,j4,zla,zlb,zlc,zld,zca,zcb,o1,o0,og,Nat.reduceBEq,Nat.reduceAdd,Nat.beq]
 rw [js1, J9]
 exact ⟨rfl, Xz, rfl, Xy, rfl⟩

def jx1 (t : TT) : Int -> List Int -> Prop
 | _, [] => False
 | id, x :: r => x = id /\ if id = 1 then r = [] else ∃ u, lk t.up id = some u /\ jx1 t u r
structure PaX where
 done : List Int
 id : Int
 rest : List Int
 v : Nat
def stPa (t : TT) (x : PaX) : St := ⟨[(1, [], .int .u32 x.id), (2, [], .box 0 0), (5, [], .own 2 x.v)], [.cells [.mp (mpK .u32 (kKV t.kids)) (mpV (kKV t.kids)), .mp (mpK .u32 (uKV t.up)) (mpV (uKV t.up))], .arr 53 1 0 [], .arr 53 1 x.v (iL (x.done ++ [x.id]))]⟩
theorem ji7 {t : TT} (h : t.Ok) {id : Int} {l : List Int} (hh : hasT t id = true) (hp : jx1 t id l) (hl : l.length < 1000000) : TSp 156 [tD t, .int .u32 id] (.ls 1 (iL l)) := by
 refine QA (by rfl) ?_
 dsimp only [c_tree_Tree_Path, yv, jn,jH,jO,jq,jF,jJ,jo,jG,jI,iteR,regK,jh,jc,jk,jj,jb,ji,blkK,kp,kd,jd,ja,jx,fpOk,foot,km,allN,memN,jK,jl,jr,jv,jt,ju,jf,jg,je,newN,jw,jN,jP,jY,jQ,jM,jS,jz,jA,jC,jD,jE,jm,jB,evX,evL,evB,rd,get,subG,memG,jT,jV,hyps,gob,impP,allP,j1,jX,j3,kj,nth,j8,kh,jU,lenB,kg,jR,entN,setE,jZ,addE,setL,setN,putE,env0,eqCs,j6,eqC,bA,bO,bN,bE,negB,kEq,ke,j5,lend,frz,frzL,zRow,j9,j7,closed,jy,jW,binI,remP,remI,retK,retG,ko,retD,ki,resL,resD,oneD,renD,renL,renE,j0,rho,jL,j4,zla,zlb,zlc,zld,zca,zcb,o1,o0,og,Nat.reduceBEq,Nat.reduceAdd,Nat.beq]
 rw [show tD t = .agg [mpD .u32 (kKV t.kids), mpD .u32 (uKV t.up)] from rfl]
 dsimp only [jn,jH,jO,jq,jF,jJ,jo,jG,jI,iteR,regK,jh,jc,jk,jj,jb,ji,blkK,kp,kd,jd,ja,jx,fpOk,foot,km,allN,memN,jK,jl,jr,jv,jt,ju,jf,jg,je,newN,jw,jN,jP,jY,jQ,jM,jS,jz,jA,jC,jD,jE,jm,jB,evX,evL,evB,rd,get,subG,memG,jT,jV,hyps,gob,impP,allP,j1,jX,j3,kj,nth,j8,kh,jU,lenB,kg,jR,entN,setE,jZ,addE,setL,setN,putE,env0,eqCs,j6,eqC,bA,bO,bN,bE,negB,kEq,ke,j5,lend,frz,frzL,zRow,j9,j7,closed,jy,jW,binI,remP,remI,retK,retG,ko,retD,ki,resL,resD,oneD,renD,renL,renE,j0,rho,jL,j4,zla,zlb,zlc,zld,zca,zcb,o1,o0,og,Nat.reduceBEq,Nat.reduceAdd,Nat.beq]
 refine kq (xh h id) ?_
 rw [hh]
 dsimp only [jn,jH,jO,jq,jF,jJ,jo,jG,jI,iteR,regK,jh,jc,jk,jj,jb,ji,blkK,kp,kd,jd,ja,jx,fpOk,foot,km,allN,memN,jK,jl,jr,jv,jt,ju,jf,jg,je,newN,jw,jN,jP,jY,jQ,jM,jS,jz,jA,jC,jD,jE,jm,jB,evX,evL,evB,rd,get,subG,memG,jT,jV,hyps,gob,impP,allP,j1,jX,j3,kj,nth,j8,kh,jU,lenB,kg,jR,entN,setE,jZ,addE,setL,setN,putE,env0,eqCs,j6,eqC,bA,bO,bN,bE,negB,kEq,ke,j5,lend,frz,frzL,zRow,j9,j7,closed,jy,jW,binI,remP,remI,retK,retG,ko,retD,ki,resL,resD,oneD,renD,renL,renE,j0,rho,jL,j4,zla,zlb,zlc,zld,zca,zcb,o1,o0,og,Nat.reduceBEq,Nat.reduceAdd,Nat.beq]
 refine ⟨nofun, fun _ => ?_⟩
 obtain ⟨r, rfl⟩ : ∃ r, l = id :: r := by
  cases l with
  | nil => exact hp.elim
  | cons x r => exact ⟨r, by rw [hp.1]⟩
 refine kG (α := {x : PaX // jx1 t x.id (x.id :: x.rest) /\ x.done ++ x.id :: x.rest = id :: r}) (fun x => stPa t x.1) (fun x => x.1.rest.length) ?_ ⟨⟨[], id, r, 1⟩, hp, rfl⟩ rfl
 rintro ⟨⟨done, i, rest, v⟩, hp, hd⟩ I ih
 dsimp only at hp hd
 dsimp only [stPa, jn,jH,jO,jq,jF,jJ,jo,jG,jI,iteR,regK,jh,jc,jk,jj,jb,ji,blkK,kp,kd,jd,ja,jx,fpOk,foot,km,allN,memN,jK,jl,jr,jv,jt,ju,jf,jg,je,newN,jw,jN,jP,jY,jQ,jM,jS,jz,jA,jC,jD,jE,jm,jB,evX,evL,evB,rd,get,subG,memG,jT,jV,hyps,gob,impP,allP,j1,jX,j3,kj,nth,j8,kh,jU,lenB,kg,jR,entN,setE,jZ,addE,setL,setN,putE,env0,eqCs,j6,eqC,bA,bO,bN,bE,negB,kEq,ke,j5,lend,frz,frzL,zRow,j9,j7,closed,jy,jW,binI,remP,remI,retK,retG,ko,retD,ki,resL,resD,oneD,renD,renL,renE,j0,rho,jL,j4,zla,zlb,zlc,zld,zca,zcb,o1,o0,og,Nat.reduceBEq,Nat.reduceAdd,Nat.beq]
 have hlen : done.length + (rest.length + 1) = (id :: r).length := by rw [<- hd]; simp
 by_cases he : i = 1
 ·subst he
  refine ⟨fun h => by simp at h, fun _ => ?_⟩
  obtain ⟨_, hr⟩ := hp
  rw [if_pos rfl] at hr
  subst hr
  rw [hd]
  exact ⟨rfl, rfl⟩
 ·refine ⟨fun _ => ?_, fun h => by simp [he] at h⟩
  obtain ⟨_, hr⟩ := hp
  rw [if_neg he] at hr
  obtain ⟨u, hu, hp⟩ := hr
  refine kO _ (pr_upF h.un i) ?_
  rw [hu]
  dsimp only [Option.getD, jn,jH,jO,jq,jF,jJ,jo,jG,jI,iteR,regK,jh,jc,jk,jj,jb,ji,blkK,kp,kd,jd,ja,jx,fpOk,foot,km,allN,memN,jK,jl,jr,jv,jt,ju,jf,jg,je,newN,jw,jN,jP,jY,jQ,jM,jS,jz,jA,jC,jD,jE,jm,jB,evX,evL,evB,rd,get,subG,memG,jT,jV,hyps,gob,impP,allP,j1,jX,j3,kj,nth,j8,kh,jU,lenB,kg,jR,entN,setE,jZ,addE,setL,setN,putE,env0,eqCs,j6,eqC,bA,bO,bN,bE,negB,kEq,ke,j5,lend,frz,frzL,zRow,j9,j7,closed,jy,jW,binI,remP,remI,retK,retG,ko,retD,ki,resL,resD,oneD,renD,renL,renE,j0,rho,jL,j4,zla,zlb,zlc,zld,zca,zcb,o1,o0,og,Nat.reduceBEq,Nat.reduceAdd,Nat.beq]
  cases rest with
  | nil => exact hp.elim
  | cons y rest =>
    have hy : y = u := hp.1
    subst hy
    simp only [List.length_cons] at hlen hl
    refine ⟨⟨rfl, rfl, rfl, rfl, by rw [qT]; simp; omega⟩, ?_⟩
    rw [show iL (done ++ [i]) ++ [D.int .u32 y] = iL ((done ++ [i]) ++ [y]) from jB1 (done ++ [i]) [y]]
    exact qa (ih ⟨⟨done ++ [i], y, rest, v + 1⟩, hp, by simpa using hd⟩ (by dsimp only; simp)) ⟨rfl, rfl, rfl, trivial⟩ ⟨rfl, rfl, rfl, trivial⟩ rfl rfl

def qA (K : Int -> List Int) : Nat -> Int -> List Int
 | 0, _ => []
 | n + 1, id => id :: (K id).flatMap (qA K n)
def Hg (K : Int -> List Int) : Nat -> Int -> Prop
 | 0, _ => False
 | n + 1, id => ∀ k ∈ K id, Hg K n k
theorem jn1 {f : Int -> List Int} {l : List Int} {i : Nat} (h : i < l.length) : (l.take (i + 1)).flatMap f = (l.take i).flatMap f ++ f l[i] := by
 rw [List.take_succ_eq_append_getElem h, List.flatMap_append]; simp
theorem XO {f : Int -> List Int} {l : List Int} {i : Nat} : ((l.take i).flatMap f).length <= (l.flatMap f).length := by
 have : (l.take i ++ l.drop i).flatMap f = l.flatMap f := by rw [List.take_append_drop]
 rw [<- this, List.flatMap_append, List.length_append]; omega
def stBe (t : TT) (id : Int) (out : List Int) (v n i : Nat) : St :=
 ⟨[(3, [], .box 3 0), (14, [], .ls 1 (iL (kJ t id))), (15, [], .int .i64 (kJ t id).length), (16, [], .int .i64 i)],
  [.cells [.own 1 (v + 1 + (((kJ t id).take i).flatMap (qA (kJ t) n)).length)], .arr 53 1 (v + 1 + (((kJ t id).take i).flatMap (qA (kJ t) n)).length) (iL (out ++ [id] ++ ((kJ t id).take i).flatMap (qA (kJ t) n))),
   .cells [mpD .u32 (kKV t.kids), mpD .u32 (uKV t.up)], .cells [.fn 158 [.box 0 0, .box 2 0, .box 3 0]]]⟩
theorem Jr {t : TT} (h : t.Ok) : ∀ (n : Nat) (id : Int), Hg (kJ t) n id -> ∀ (out : List Int) (v : Nat), out.length + (qA (kJ t) n id).length < 1000000 ->
  TSpM 158 [.int .u32 id, .box 0 0, .box 2 0, .box 3 0] [.cells [.own 1 v], .arr 53 1 v (iL out), .cells [mpD .u32 (kKV t.kids), mpD .u32 (uKV t.up)], .cells [.fn 158 [.box 0 0, .box 2 0, .box 3 0]]] (.tup [])
   [.cells [.own 1 (v + (qA (kJ t) n id).length)], .arr 53 1 (v + (qA (kJ t) n id).length) (iL (out ++ qA (kJ t) n id)), .cells [mpD .u32 (kKV t.kids), mpD .u32 (uKV t.up)], .cells [.fn 158 [.box 0 0, .box 2 0, .box 3 0]]]
 | 0, _, hg, _, _, _ => hg.elim
 | n + 1, id, hg, out, v, hb => by
   have hkl := h.kl id
   simp only [qA, List.length_cons] at hb |-
   refine JL (by rfl) ?_
   dsimp only [c_tree_Tree_Below_1, xB, jn,jH,jO,jq,jF,jJ,jo,jG,jI,iteR,regK,jh,jc,jk,jj,jb,ji,blkK,kp,kd,jd,ja,jx,fpOk,foot,km,allN,memN,jK,jl,jr,jv,jt,ju,jf,jg,je,newN,jw,jN,jP,jY,jQ,jM,jS,jz,jA,jC,jD,jE,jm,jB,evX,evL,evB,rd,get,subG,memG,jT,jV,hyps,gob,impP,allP,j1,jX,j3,kj,nth,j8,kh,jU,lenB,kg,jR,entN,setE,jZ,addE,setL,setN,putE,env0,eqCs,j6,eqC,bA,bO,bN,bE,negB,kEq,ke,j5,lend,frz,frzL,zRow,j9,j7,closed,jy,jW,binI,remP,remI,retK,retG,ko,retD,ki,resL,resD,oneD,renD,renL,renE,j0,rho,jL,j4,zla,zlb,zlc,zld,zca,zcb,o1,o0,og,Nat.reduceBEq,Nat.reduceAdd,Nat.beq]
   refine ⟨⟨rfl, rfl, rfl, rfl, by rw [qT]; simp; omega⟩, ?_⟩
   rw [show iL out ++ [D.int .u32 id] = iL (out ++ [id]) from jB1 out [id]]
   have hk := jF2 (bx := [.cells [.own 1 (v + 1)], .arr 53 1 (v + 1) (iL (out ++ [id])), .cells [mpD .u32 (kKV t.kids), mpD .u32 (uKV t.up)], .cells [.fn 158 [.box 0 0, .box 2 0, .box 3 0]]]) h.kn id
   refine kO _ hk ?_
   rw [show (lk t.kids id).getD [] = kJ t id from rfl]
   dsimp only [jn,jH,jO,jq,jF,jJ,jo,jG,jI,iteR,regK,jh,jc,jk,jj,jb,ji,blkK,kp,kd,jd,ja,jx,fpOk,foot,km,allN,memN,jK,jl,jr,jv,jt,ju,jf,jg,je,newN,jw,jN,jP,jY,jQ,jM,jS,jz,jA,jC,jD,jE,jm,jB,evX,evL,evB,rd,get,subG,memG,jT,jV,hyps,gob,impP,allP,j1,jX,j3,kj,nth,j8,kh,jU,lenB,kg,jR,entN,setE,jZ,addE,setL,setN,putE,env0,eqCs,j6,eqC,bA,bO,bN,bE,negB,kEq,ke,j5,lend,frz,frzL,zRow,j9,j7,closed,jy,jW,binI,remP,remI,retK,retG,ko,retD,ki,resL,resD,oneD,renD,renL,renE,j0,rho,jL,j4,zla,zlb,zlc,zld,zca,zcb,o1,o0,og,Nat.reduceBEq,Nat.reduceAdd,Nat.beq]
   rw [qT]
   refine kG (α := {i : Nat // i <= (kJ t id).length}) (fun i => stBe t id out v n i.1) (fun i => (kJ t id).length - i.1) ?_ ⟨0, by simp⟩ (by simp [stBe])
   rintro ⟨i, hi⟩ I ih
   dsimp only [stBe, jn,jH,jO,jq,jF,jJ,jo,jG,jI,iteR,regK,jh,jc,jk,jj,jb,ji,blkK,kp,kd,jd,ja,jx,fpOk,foot,km,allN,memN,jK,jl,jr,jv,jt,ju,jf,jg,je,newN,jw,jN,jP,jY,jQ,jM,jS,jz,jA,jC,jD,jE,jm,jB,evX,evL,evB,rd,get,subG,memG,jT,jV,hyps,gob,impP,allP,j1,jX,j3,kj,nth,j8,kh,jU,lenB,kg,jR,entN,setE,jZ,addE,setL,setN,putE,env0,eqCs,j6,eqC,bA,bO,bN,bE,negB,kEq,ke,j5,lend,frz,frzL,zRow,j9,j7,closed,jy,jW,binI,remP,remI,retK,retG,ko,retD,ki,resL,resD,oneD,renD,renL,renE,j0,rho,jL,j4,zla,zlb,zlc,zld,zca,zcb,o1,o0,og,Nat.reduceBEq,Nat.reduceAdd,Nat.beq]
   refine ⟨fun hj => ?_, fun hj => ?_⟩
   ·have hj : i < (kJ t id).length := by simp at hj; omega
    refine ⟨⟨rfl, by omega, by rw [qT]; omega⟩, ky _ _ (Xu hj) rfl ?_⟩
    dsimp only [jn,jH,jO,jq,jF,jJ,jo,jG,jI,iteR,regK,jh,jc,jk,jj,jb,ji,blkK,kp,kd,jd,ja,jx,fpOk,foot,km,allN,memN,jK,jl,jr,jv,jt,ju,jf,jg,je,newN,jw,jN,jP,jY,jQ,jM,jS,jz,jA,jC,jD,jE,jm,jB,evX,evL,evB,rd,get,subG,memG,jT,jV,hyps,gob,impP,allP,j1,jX,j3,kj,nth,j8,kh,jU,lenB,kg,jR,entN,setE,jZ,addE,setL,setN,putE,env0,eqCs,j6,eqC,bA,bO,bN,bE,negB,kEq,ke,j5,lend,frz,frzL,zRow,j9,j7,closed,jy,jW,binI,remP,remI,retK,retG,ko,retD,ki,resL,resD,oneD,renD,renL,renE,j0,rho,jL,j4,zla,zlb,zlc,zld,zca,zcb,o1,o0,og,Nat.reduceBEq,Nat.reduceAdd,Nat.beq]
    have hft := jn1 (f := qA (kJ t) n) hj
    have hle := XO (f := qA (kJ t) n) (l := kJ t id) (i := i + 1)
    rw [hft, List.length_append] at hle
    have hrec := Jr h n _ (hg _ (List.getElem_mem hj)) (out ++ [id] ++ ((kJ t id).take i).flatMap (qA (kJ t) n)) (v + 1 + (((kJ t id).take i).flatMap (qA (kJ t) n)).length) (by simp only [List.length_append, List.length_cons, List.length_nil]; omega)
    refine kX [0, 1, 2, 3] hrec rfl rfl ?_
    dsimp only [jn,jH,jO,jq,jF,jJ,jo,jG,jI,iteR,regK,jh,jc,jk,jj,jb,ji,blkK,kp,kd,jd,ja,jx,fpOk,foot,km,allN,memN,jK,jl,jr,jv,jt,ju,jf,jg,je,newN,jw,jN,jP,jY,jQ,jM,jS,jz,jA,jC,jD,jE,jm,jB,evX,evL,evB,rd,get,subG,memG,jT,jV,hyps,gob,impP,allP,j1,jX,j3,kj,nth,j8,kh,jU,lenB,kg,jR,entN,setE,jZ,addE,setL,setN,putE,env0,eqCs,j6,eqC,bA,bO,bN,bE,negB,kEq,ke,j5,lend,frz,frzL,zRow,j9,j7,closed,jy,jW,binI,remP,remI,retK,retG,ko,retD,ki,resL,resD,oneD,renD,renL,renE,j0,rho,jL,j4,zla,zlb,zlc,zld,zca,zcb,o1,o0,og,Nat.reduceBEq,Nat.reduceAdd,Nat.beq]
    refine ⟨by simp only [fits]; omega, ?_⟩
    have e1 : out ++ [id] ++ ((kJ t id).take i).flatMap (qA (kJ t) n) ++ qA (kJ t) n (kJ t id)[i] = out ++ [id] ++ ((kJ t id).take (i + 1)).flatMap (qA (kJ t) n) := by rw [hft]; simp
    have e2 : v + 1 + (((kJ t id).take i).flatMap (qA (kJ t) n)).length + (qA (kJ t) n (kJ t id)[i]).length = v + 1 + (((kJ t id).take (i + 1)).flatMap (qA (kJ t) n)).length := by rw [hft, List.length_append]; omega
    rw [e1, e2]
    exact qa (ih ⟨i + 1, by omega⟩ (by dsimp only; omega)) ⟨rfl, rfl, rfl, rfl, trivial⟩ ⟨rfl, rfl, rfl, rfl, trivial⟩ rfl rfl
   ·have hj : i = (kJ t id).length := by simp at hj; omega
    subst hj
    rw [List.take_length]
    rw [show v + 1 + ((kJ t id).flatMap (qA (kJ t) n)).length = v + (((kJ t id).flatMap (qA (kJ t) n)).length + 1) by omega, show out ++ [id] ++ (kJ t id).flatMap (qA (kJ t) n) = out ++ id :: (kJ t id).flatMap (qA (kJ t) n) by simp]
    exact Rt.cut (Nat.le_refl _) ⟨rfl, rfl, rfl, rfl, trivial⟩ rfl rfl
theorem jc2 {t : TT} (h : t.Ok) {id : Int} (hh : hasT t id = true) {n : Nat} (hg : Hg (kJ t) n id) (hb : (qA (kJ t) n id).length < 1000000) : TSp 102 [tD t, .int .u32 id] (.ls 1 (iL (qA (kJ t) n id))) := by
 refine K5 (by rfl) ?_
 dsimp only [c_tree_Tree_Below, xX, jn,jH,jO,jq,jF,jJ,jo,jG,jI,iteR,regK,jh,jc,jk,jj,jb,ji,blkK,kp,kd,jd,ja,jx,fpOk,foot,km,allN,memN,jK,jl,jr,jv,jt,ju,jf,jg,je,newN,jw,jN,jP,jY,jQ,jM,jS,jz,jA,jC,jD,jE,jm,jB,evX,evL,evB,rd,get,subG,memG,jT,jV,hyps,gob,impP,allP,j1,jX,j3,kj,nth,j8,kh,jU,lenB,kg,jR,entN,setE,jZ,addE,setL,setN,putE,env0,eqCs,j6,eqC,bA,bO,bN,bE,negB,kEq,ke,j5,lend,frz,frzL,zRow,j9,j7,closed,jy,jW,binI,remP,remI,retK,retG,ko,retD,ki,resL,resD,oneD,renD,renL,renE,j0,rho,jL,j4,zla,zlb,zlc,zld,zca,zcb,o1,o0,og,Nat.reduceBEq,Nat.reduceAdd,Nat.beq]
 rw [show tD t = .agg [mpD .u32 (kKV t.kids), mpD .u32 (uKV t.up)] from rfl]
 dsimp only [jn,jH,jO,jq,jF,jJ,jo,jG,jI,iteR,regK,jh,jc,jk,jj,jb,ji,blkK,kp,kd,jd,ja,jx,fpOk,foot,km,allN,memN,jK,jl,jr,jv,jt,ju,jf,jg,je,newN,jw,jN,jP,jY,jQ,jM,jS,jz,jA,jC,jD,jE,jm,jB,evX,evL,evB,rd,get,subG,memG,jT,jV,hyps,gob,impP,allP,j1,jX,j3,kj,nth,j8,kh,jU,lenB,kg,jR,entN,setE,jZ,addE,setL,setN,putE,env0,eqCs,j6,eqC,bA,bO,bN,bE,negB,kEq,ke,j5,lend,frz,frzL,zRow,j9,j7,closed,jy,jW,binI,remP,remI,retK,retG,ko,retD,ki,resL,resD,oneD,renD,renL,renE,j0,rho,jL,j4,zla,zlb,zlc,zld,zca,zcb,o1,o0,og,Nat.reduceBEq,Nat.reduceAdd,Nat.beq]
 refine kq (xh h id) ?_
 rw [hh]
 dsimp only [jn,jH,jO,jq,jF,jJ,jo,jG,jI,iteR,regK,jh,jc,jk,jj,jb,ji,blkK,kp,kd,jd,ja,jx,fpOk,foot,km,allN,memN,jK,jl,jr,jv,jt,ju,jf,jg,je,newN,jw,jN,jP,jY,jQ,jM,jS,jz,jA,jC,jD,jE,jm,jB,evX,evL,evB,rd,get,subG,memG,jT,jV,hyps,gob,impP,allP,j1,jX,j3,kj,nth,j8,kh,jU,lenB,kg,jR,entN,setE,jZ,addE,setL,setN,putE,env0,eqCs,j6,eqC,bA,bO,bN,bE,negB,kEq,ke,j5,lend,frz,frzL,zRow,j9,j7,closed,jy,jW,binI,remP,remI,retK,retG,ko,retD,ki,resL,resD,oneD,renD,renL,renE,j0,rho,jL,j4,zla,zlb,zlc,zld,zca,zcb,o1,o0,og,Nat.reduceBEq,Nat.reduceAdd,Nat.beq]
 refine ⟨nofun, fun _ => ?_⟩
 refine kX [2, 3, 0, 4] (Jr h n id hg [] 0 (by simpa using hb)) rfl rfl ?_
 dsimp only [jn,jH,jO,jq,jF,jJ,jo,jG,jI,iteR,regK,jh,jc,jk,jj,jb,ji,blkK,kp,kd,jd,ja,jx,fpOk,foot,km,allN,memN,jK,jl,jr,jv,jt,ju,jf,jg,je,newN,jw,jN,jP,jY,jQ,jM,jS,jz,jA,jC,jD,jE,jm,jB,evX,evL,evB,rd,get,subG,memG,jT,jV,hyps,gob,impP,allP,j1,jX,j3,kj,nth,j8,kh,jU,lenB,kg,jR,entN,setE,jZ,addE,setL,setN,putE,env0,eqCs,j6,eqC,bA,bO,bN,bE,negB,kEq,ke,j5,lend,frz,frzL,zRow,j9,j7,closed,jy,jW,binI,remP,remI,retK,retG,ko,retD,ki,resL,resD,oneD,renD,renL,renE,j0,rho,jL,j4,zla,zlb,zlc,zld,zca,zcb,o1,o0,og,Nat.reduceBEq,Nat.reduceAdd,Nat.beq]
 exact ⟨rfl, by simp⟩
end Go.AM
