import Derived.Test.YtoaialdcgmkbgaaGreatRQ1

set_option linter.all false
namespace Go.AM
open Go Go.Proofs
theorem Xa {P : Program} {gt : Nat -> Option (List D)} {l : List Nat} {f : Nat} {ds ds' : List D} {dst : Option Nat} {g : G} {os : List O} {st : St} {K : St -> Prop} {es es' : List Ent} {d : D} (ks : List Nat) (h : SpM P gt f ds' es d es') (h1 : ds = renL ks (jZ st.bx) ds') (h2 : j4 st.bx ks = some (j0 ks (jZ st.bx) es))
  (hl : Kept l st.bx (jL st.bx ks (j0 ks (jZ st.bx) es'))) (hk : kV (SpC P gt) gt os K ⟨putE dst g (renD ks (jZ st.bx) d) st.env, jL st.bx ks (j0 ks (jZ st.bx) es')⟩) (hks : okKs ks = true := by rfl) : jH6 (SpC P gt) gt l f ds dst g os st K :=
 ⟨_, _, SpM.own h ks h1 h2 hks, hl, hk⟩
theorem Kept.one {bx : List Ent} {k n : Nat} {e : Ent} : Kept [k] bx (jL bx [k] (j0 [k] n [e])) := fun j hj => by
 have hjk : k ≠ j := fun h => hj (by simp [h])
 show entN (List.append (setE bx k (renE [k] n e)) []) j = _
 rw [show List.append (setE bx k (renE [k] n e)) [] = setE bx k (renE [k] n e) from List.append_nil _, qo, kD, kD, List.getElem?_set_ne hjk]
structure JS where
 i : Nat
 ver : Nat
 out : List Rc
 u : List Rc
 d : List Rc
structure JS2 where
 j : Nat
 ver : Nat
 out : List Rc
 p : List Rc
 q : List Rc
theorem jM9 {pst : Int -> Rc -> Bool} {L c : List Rc} {y : Int} (h : Suf pst L c y) (hv : ∀ r ∈ L, Vr r) : (∀ r ∈ c, Vr r) /\ c.length <= L.length := by
 obtain ⟨pre, e, _⟩ := h
 refine ⟨fun r hr => hv r (by rw [e]; exact List.mem_append_right _ hr), by rw [e, List.length_append]; omega⟩
theorem jD6 {g : Nat} {kf : Bool -> Bool -> Bool} (hk : kf false false = false) (hg : ∀ a b, TSp g [.bool a, .bool b] (.bool (kf a b))) {P Q : Int -> Int -> Prop} (hP : Bdd P) (hQ : Bdd Q) (hl : (reg P).length + (reg Q).length <= 8192) :
  TSp 71 [.agg [.fn g []], .agg [.ls 4 (rcs (reg P))], .agg [.ls 4 (rcs (reg Q))]] (.agg [.ls 4 (rcs (reg fun x y => Kp2 kf (P x y) (Q x y)))]) := by
 have hav := x9 hP
 have hbv := x9 hQ
 obtain ⟨hap, haP⟩ := Jo (jk4 hP)
 obtain ⟨hbp, hbP⟩ := Jo (jk4 hQ)
 have hres : ∀ out : List Rc, (∀ r ∈ out, Vr r) -> (∀ X Y, pts out X Y ↔ Kp2 kf (pts (reg P) X Y) (pts (reg Q) X Y)) -> reg (pts (allL out)) = reg fun x y => Kp2 kf (P x y) (Q x y) := fun out hv hp => xW fun x y => by
  unfold allL
  rw [jb2 (fun r hr _ => hv r hr), hp]
  exact Kp2_iff (y7 hP x y) (y7 hQ x y)
 generalize (reg fun x y => Kp2 kf (P x y) (Q x y)) = rs at hres |-
 generalize reg P = a at *
 generalize reg Q = b at *
 refine JY (by rfl) ?_
 dsimp only [c_region_rule_join, kA, jn,jH,jO,jq,jF,jJ,jo,jG,jI,iteR,regK,jh,jc,jk,jj,jb,ji,blkK,kp,kd,jd,ja,jx,fpOk,foot,km,allN,memN,jK,jl,jr,jv,jt,ju,jf,jg,je,newN,jw,jN,jP,jY,jQ,jM,jS,jz,jA,jC,jD,jE,jm,jB,evX,evL,evB,rd,get,subG,memG,jT,jV,hyps,gob,impP,allP,j1,jX,j3,kj,nth,j8,kh,jU,lenB,kg,jR,entN,setE,jZ,addE,setL,setN,putE,env0,eqCs,j6,eqC,bA,bO,bN,bE,negB,kEq,ke,j5,lend,frz,frzL,zRow,j9,j7,closed,jy,jW,binI,remP,remI,retK,retG,ko,retD,ki,resL,resD,oneD,renD,renL,renE,j0,rho,jL,j4,zla,zlb,zlc,zld,zca,zcb,o1,o0,og,Nat.reduceBEq,Nat.reduceAdd,Nat.beq]
 refine kq (ZE (by rw [ku]; omega)) ?_
 dsimp only [c_region_rule_join, kA, jn,jH,jO,jq,jF,jJ,jo,jG,jI,iteR,regK,jh,jc,jk,jj,jb,ji,blkK,kp,kd,jd,ja,jx,fpOk,foot,km,allN,memN,jK,jl,jr,jv,jt,ju,jf,jg,je,newN,jw,jN,jP,jY,jQ,jM,jS,jz,jA,jC,jD,jE,jm,jB,evX,evL,evB,rd,get,subG,memG,jT,jV,hyps,gob,impP,allP,j1,jX,j3,kj,nth,j8,kh,jU,lenB,kg,jR,entN,setE,jZ,addE,setL,setN,putE,env0,eqCs,j6,eqC,bA,bO,bN,bE,negB,kEq,ke,j5,lend,frz,frzL,zRow,j9,j7,closed,jy,jW,binI,remP,remI,retK,retG,ko,retD,ki,resL,resD,oneD,renD,renL,renE,j0,rho,jL,j4,zla,zlb,zlc,zld,zca,zcb,o1,o0,og,Nat.reduceBEq,Nat.reduceAdd,Nat.beq]
 refine kq (ZE (by rw [ku]; omega)) ?_
 dsimp only [c_region_rule_join, kA, jn,jH,jO,jq,jF,jJ,jo,jG,jI,iteR,regK,jh,jc,jk,jj,jb,ji,blkK,kp,kd,jd,ja,jx,fpOk,foot,km,allN,memN,jK,jl,jr,jv,jt,ju,jf,jg,je,newN,jw,jN,jP,jY,jQ,jM,jS,jz,jA,jC,jD,jE,jm,jB,evX,evL,evB,rd,get,subG,memG,jT,jV,hyps,gob,impP,allP,j1,jX,j3,kj,nth,j8,kh,jU,lenB,kg,jR,entN,setE,jZ,addE,setL,setN,putE,env0,eqCs,j6,eqC,bA,bO,bN,bE,negB,kEq,ke,j5,lend,frz,frzL,zRow,j9,j7,closed,jy,jW,binI,remP,remI,retK,retG,ko,retD,ki,resL,resD,oneD,renD,renL,renE,j0,rho,jL,j4,zla,zlb,zlc,zld,zca,zcb,o1,o0,og,Nat.reduceBEq,Nat.reduceAdd,Nat.beq]
 refine kq (sp_cutY hav hbv (by omega)) ?_
 dsimp only [c_region_rule_join, kA, jn,jH,jO,jq,jF,jJ,jo,jG,jI,iteR,regK,jh,jc,jk,jj,jb,ji,blkK,kp,kd,jd,ja,jx,fpOk,foot,km,allN,memN,jK,jl,jr,jv,jt,ju,jf,jg,je,newN,jw,jN,jP,jY,jQ,jM,jS,jz,jA,jC,jD,jE,jm,jB,evX,evL,evB,rd,get,subG,memG,jT,jV,hyps,gob,impP,allP,j1,jX,j3,kj,nth,j8,kh,jU,lenB,kg,jR,entN,setE,jZ,addE,setL,setN,putE,env0,eqCs,j6,eqC,bA,bO,bN,bE,negB,kEq,ke,j5,lend,frz,frzL,zRow,j9,j7,closed,jy,jW,binI,remP,remI,retK,retG,ko,retD,ki,resL,resD,oneD,renD,renL,renE,j0,rho,jL,j4,zla,zlb,zlc,zld,zca,zcb,o1,o0,og,Nat.reduceBEq,Nat.reduceAdd,Nat.beq]
 have hyl := jU4 a b
 refine kG (α := {p : JS // Jn kf a b p.i p.out p.u p.d})
  (fun p => ⟨[(3, [], .box 0 0), (6, [], .box 3 0), (9, [], .ls 1 (iI (cutY a b))), (10, [], .box 4 0), (11, [], .box 5 0), (12, [], .own 6 p.1.ver), (13, [], .int .i64 p.1.i)],
    [.cells [.fn g []], .cells [.ls 4 (rcs a)], .cells [.ls 4 (rcs b)], .cells [.ls 4 []], .cells [.ls 4 (rcs p.1.u)], .cells [.ls 4 (rcs p.1.d)], .arr 45 4 p.1.ver (rcs p.1.out)]⟩)
  (fun p => (cutY a b).length - p.1.i) ?_ ⟨⟨0, 0, [], a, b⟩, jS8 hk⟩ rfl
 rintro ⟨⟨i, ver, out, u, d⟩, hJ⟩ I ih
 dsimp only at hJ |-
 dsimp only [c_region_rule_join, kA, jn,jH,jO,jq,jF,jJ,jo,jG,jI,iteR,regK,jh,jc,jk,jj,jb,ji,blkK,kp,kd,jd,ja,jx,fpOk,foot,km,allN,memN,jK,jl,jr,jv,jt,ju,jf,jg,je,newN,jw,jN,jP,jY,jQ,jM,jS,jz,jA,jC,jD,jE,jm,jB,evX,evL,evB,rd,get,subG,memG,jT,jV,hyps,gob,impP,allP,j1,jX,j3,kj,nth,j8,kh,jU,lenB,kg,jR,entN,setE,jZ,addE,setL,setN,putE,env0,eqCs,j6,eqC,bA,bO,bN,bE,negB,kEq,ke,j5,lend,frz,frzL,zRow,j9,j7,closed,jy,jW,binI,remP,remI,retK,retG,ko,retD,ki,resL,resD,oneD,renD,renL,renE,j0,rho,jL,j4,zla,zlb,zlc,zld,zca,zcb,o1,o0,og,Nat.reduceBEq,Nat.reduceAdd,Nat.beq]
 rw [qZ]
 have hil : i <= 16384 := by have := hJ.il; omega
 have hol : out.length <= 268435456 := Nat.le_trans hJ.len (by omega)
 refine ⟨by simp only [fits]; omega, fun hlt => ?_, fun hge => ?_⟩
 ·have hl1 : i + 1 < (cutY a b).length := by simp at hlt; omega
  obtain ⟨y, hy⟩ : ∃ y, (cutY a b)[i]? = some y := ⟨_, List.getElem?_eq_getElem (by omega)⟩
  obtain ⟨y2, hy2⟩ : ∃ y2, (cutY a b)[i + 1]? = some y2 := ⟨_, List.getElem?_eq_getElem hl1⟩
  have hybd : ∀ n ∈ cutY a b, -1048576 <= n /\ n <= 1048576 := fun n hn => by
   obtain ⟨r, hr, h2⟩ := va.1 hn
   have hv : Vr r := hr.elim (hav r) (hbv r)
   unfold Vr at hv; omega
  have hy1b := hybd y (List.mem_of_getElem? hy)
  have hy2b := hybd y2 (List.mem_of_getElem? hy2)
  have hyy := (zR (yK a b) hy hy2 (List.mem_of_getElem? hy)).2.2
  have hgy : (iI (cutY a b))[((i : Nat) : Int).toNat]? = some (.int .i64 y) := VQ (by simpa using hy)
  have hgy2 : (iI (cutY a b))[((i : Nat) : Int) + 1 |>.toNat]? = some (.int .i64 y2) := VQ (by rw [show ((i : Int) + 1).toNat = i + 1 from by omega]; exact hy2)
  refine ⟨⟨rfl, by omega, by omega⟩, ky (.int .i64 y) (.int .i64 y) hgy rfl ?_⟩
  dsimp only [c_region_rule_join, kA, jn,jH,jO,jq,jF,jJ,jo,jG,jI,iteR,regK,jh,jc,jk,jj,jb,ji,blkK,kp,kd,jd,ja,jx,fpOk,foot,km,allN,memN,jK,jl,jr,jv,jt,ju,jf,jg,je,newN,jw,jN,jP,jY,jQ,jM,jS,jz,jA,jC,jD,jE,jm,jB,evX,evL,evB,rd,get,subG,memG,jT,jV,hyps,gob,impP,allP,j1,jX,j3,kj,nth,j8,kh,jU,lenB,kg,jR,entN,setE,jZ,addE,setL,setN,putE,env0,eqCs,j6,eqC,bA,bO,bN,bE,negB,kEq,ke,j5,lend,frz,frzL,zRow,j9,j7,closed,jy,jW,binI,remP,remI,retK,retG,ko,retD,ki,resL,resD,oneD,renD,renL,renE,j0,rho,jL,j4,zla,zlb,zlc,zld,zca,zcb,o1,o0,og,Nat.reduceBEq,Nat.reduceAdd,Nat.beq]
  refine ⟨by simp only [fits]; omega, ⟨rfl, by omega, by rw [qZ]; omega⟩, ky (.int .i64 y2) (.int .i64 y2) hgy2 rfl ?_⟩
  dsimp only [c_region_rule_join, kA, jn,jH,jO,jq,jF,jJ,jo,jG,jI,iteR,regK,jh,jc,jk,jj,jb,ji,blkK,kp,kd,jd,ja,jx,fpOk,foot,km,allN,memN,jK,jl,jr,jv,jt,ju,jf,jg,je,newN,jw,jN,jP,jY,jQ,jM,jS,jz,jA,jC,jD,jE,jm,jB,evX,evL,evB,rd,get,subG,memG,jT,jV,hyps,gob,impP,allP,j1,jX,j3,kj,nth,j8,kh,jU,lenB,kg,jR,entN,setE,jZ,addE,setL,setN,putE,env0,eqCs,j6,eqC,bA,bO,bN,bE,negB,kEq,ke,j5,lend,frz,frzL,zRow,j9,j7,closed,jy,jW,binI,remP,remI,retK,retG,ko,retD,ki,resL,resD,oneD,renD,renL,renE,j0,rho,jL,j4,zla,zlb,zlc,zld,zca,zcb,o1,o0,og,Nat.reduceBEq,Nat.reduceAdd,Nat.beq]
  refine ⟨⟨rfl, by omega, by rw [qZ]; omega⟩, ky (.int .i64 y) (.int .i64 y) hgy rfl ?_⟩
  dsimp only [c_region_rule_join, kA, jn,jH,jO,jq,jF,jJ,jo,jG,jI,iteR,regK,jh,jc,jk,jj,jb,ji,blkK,kp,kd,jd,ja,jx,fpOk,foot,km,allN,memN,jK,jl,jr,jv,jt,ju,jf,jg,je,newN,jw,jN,jP,jY,jQ,jM,jS,jz,jA,jC,jD,jE,jm,jB,evX,evL,evB,rd,get,subG,memG,jT,jV,hyps,gob,impP,allP,j1,jX,j3,kj,nth,j8,kh,jU,lenB,kg,jR,entN,setE,jZ,addE,setL,setN,putE,env0,eqCs,j6,eqC,bA,bO,bN,bE,negB,kEq,ke,j5,lend,frz,frzL,zRow,j9,j7,closed,jy,jW,binI,remP,remI,retK,retG,ko,retD,ki,resL,resD,oneD,renD,renL,renE,j0,rho,jL,j4,zla,zlb,zlc,zld,zca,zcb,o1,o0,og,Nat.reduceBEq,Nat.reduceAdd,Nat.beq]
  obtain ⟨hout, ⟨y0, hy0, hsu⟩, ⟨y0', hy0', hsd⟩⟩ := hJ.at' y hy
  have hau : ∀ r ∈ a, r.y ∈ cutY a b /\ r.y + r.h ∈ cutY a b := fun r hr => ⟨va.2 ⟨r, .inl hr, .inl rfl⟩, va.2 ⟨r, .inl hr, .inr rfl⟩⟩
  have hbu : ∀ r ∈ b, r.y ∈ cutY a b /\ r.y + r.h ∈ cutY a b := fun r hr => ⟨va.2 ⟨r, .inr hr, .inl rfl⟩, va.2 ⟨r, .inr hr, .inr rfl⟩⟩
  obtain ⟨hsp, hsu2⟩ := jD3 hap haP hav (yK a b) hau hy hy2 hy0 hsu
  obtain ⟨hsq, hsd2⟩ := jD3 hbp hbP hbv (yK a b) hbu hy hy2 hy0' hsd
  obtain ⟨huv, hul⟩ := jM9 hsu hav
  obtain ⟨hdv, hdl⟩ := jM9 hsd hbv
  have hpl : (rowT y (rowD y u)).length <= a.length := Nat.le_trans (Nat.le_trans (List.takeWhile_sublist _).length_le (List.dropWhile_sublist _).length_le) hul
  have hql : (rowT y (rowD y d)).length <= b.length := Nat.le_trans (Nat.le_trans (List.takeWhile_sublist _).length_le (List.dropWhile_sublist _).length_le) hdl
  refine ⟨by simp only [fits]; omega, ?_⟩
  refine kX [4] (jO4 (y := y) huv (by omega)) rfl rfl ?_
  dsimp only [c_region_rule_join, kA, jn,jH,jO,jq,jF,jJ,jo,jG,jI,iteR,regK,jh,jc,jk,jj,jb,ji,blkK,kp,kd,jd,ja,jx,fpOk,foot,km,allN,memN,jK,jl,jr,jv,jt,ju,jf,jg,je,newN,jw,jN,jP,jY,jQ,jM,jS,jz,jA,jC,jD,jE,jm,jB,evX,evL,evB,rd,get,subG,memG,jT,jV,hyps,gob,impP,allP,j1,jX,j3,kj,nth,j8,kh,jU,lenB,kg,jR,entN,setE,jZ,addE,setL,setN,putE,env0,eqCs,j6,eqC,bA,bO,bN,bE,negB,kEq,ke,j5,lend,frz,frzL,zRow,j9,j7,closed,jy,jW,binI,remP,remI,retK,retG,ko,retD,ki,resL,resD,oneD,renD,renL,renE,j0,rho,jL,j4,zla,zlb,zlc,zld,zca,zcb,o1,o0,og,Nat.reduceBEq,Nat.reduceAdd,Nat.beq]
  refine kX [5] (jO4 (y := y) hdv (by omega)) rfl rfl ?_
  dsimp only [c_region_rule_join, kA, jn,jH,jO,jq,jF,jJ,jo,jG,jI,iteR,regK,jh,jc,jk,jj,jb,ji,blkK,kp,kd,jd,ja,jx,fpOk,foot,km,allN,memN,jK,jl,jr,jv,jt,ju,jf,jg,je,newN,jw,jN,jP,jY,jQ,jM,jS,jz,jA,jC,jD,jE,jm,jB,evX,evL,evB,rd,get,subG,memG,jT,jV,hyps,gob,impP,allP,j1,jX,j3,kj,nth,j8,kh,jU,lenB,kg,jR,entN,setE,jZ,addE,setL,setN,putE,env0,eqCs,j6,eqC,bA,bO,bN,bE,negB,kEq,ke,j5,lend,frz,frzL,zRow,j9,j7,closed,jy,jW,binI,remP,remI,retK,retG,ko,retD,ki,resL,resD,oneD,renD,renL,renE,j0,rho,jL,j4,zla,zlb,zlc,zld,zca,zcb,o1,o0,og,Nat.reduceBEq,Nat.reduceAdd,Nat.beq]
  generalize rowT y (rowD y u) = p at *
  generalize rowT y (rowD y d) = q at *
  generalize rowD y u = u2 at *
  generalize rowD y d = d2 at *
  refine kq (sp_cutX hsp.vr hsq.vr (by omega)) ?_
  dsimp only [c_region_rule_join, kA, jn,jH,jO,jq,jF,jJ,jo,jG,jI,iteR,regK,jh,jc,jk,jj,jb,ji,blkK,kp,kd,jd,ja,jx,fpOk,foot,km,allN,memN,jK,jl,jr,jv,jt,ju,jf,jg,je,newN,jw,jN,jP,jY,jQ,jM,jS,jz,jA,jC,jD,jE,jm,jB,evX,evL,evB,rd,get,subG,memG,jT,jV,hyps,gob,impP,allP,j1,jX,j3,kj,nth,j8,kh,jU,lenB,kg,jR,entN,setE,jZ,addE,setL,setN,putE,env0,eqCs,j6,eqC,bA,bO,bN,bE,negB,kEq,ke,j5,lend,frz,frzL,zRow,j9,j7,closed,jy,jW,binI,remP,remI,retK,retG,ko,retD,ki,resL,resD,oneD,renD,renL,renE,j0,rho,jL,j4,zla,zlb,zlc,zld,zca,zcb,o1,o0,og,Nat.reduceBEq,Nat.reduceAdd,Nat.beq]
  have hxl := jU5 p q
  have hxbd : ∀ n ∈ cutX p q, -1048576 <= n /\ n <= 1048576 := fun n hn => by
   obtain ⟨r, hr, h2⟩ := vJ.1 hn
   have hv : Vr r := hr.elim (hsp.vr r) (hsq.vr r)
   unfold Vr at hv; omega
  refine kG (α := {s : JS2 // JnI kf a b p q y y2 out.length s.j s.out s.p s.q /\ (∀ r ∈ s.p, Vr r) /\ ∀ r ∈ s.q, Vr r})
   (fun s => ⟨[(3, [], .box 0 0), (6, [], .box 3 0), (9, [], .ls 1 (iI (cutY a b))), (10, [], .box 4 0), (11, [], .box 5 0), (12, [], .own 6 s.1.ver), (13, [], .int .i64 i), (14, [], .int .i64 y), (15, [], .int .i64 (y2 - y)), (16, [], .box 7 0), (17, [], .box 8 0), (18, [], .ls 1 (iI (cutX p q))), (19, [], .int .i64 s.1.j)],
     [.cells [.fn g []], .cells [.ls 4 (rcs a)], .cells [.ls 4 (rcs b)], .cells [.ls 4 []], .cells [.ls 4 (rcs u2)], .cells [.ls 4 (rcs d2)], .arr 45 4 s.1.ver (rcs s.1.out), .cells [.ls 4 (rcs s.1.p)], .cells [.ls 4 (rcs s.1.q)]]⟩)
   (fun s => (cutX p q).length - s.1.j) ?_ ⟨⟨0, ver, out, p, q⟩, jK6 hk hsp hsq hJ.vr (Nat.le_refl _) hout, hsp.vr, hsq.vr⟩ rfl
  rintro ⟨⟨j, ver2, out2, pc, qc⟩, hI, hpv, hqv⟩ I2 ih2
  dsimp only at hI hpv hqv |-
  dsimp only [c_region_rule_join, kA, jn,jH,jO,jq,jF,jJ,jo,jG,jI,iteR,regK,jh,jc,jk,jj,jb,ji,blkK,kp,kd,jd,ja,jx,fpOk,foot,km,allN,memN,jK,jl,jr,jv,jt,ju,jf,jg,je,newN,jw,jN,jP,jY,jQ,jM,jS,jz,jA,jC,jD,jE,jm,jB,evX,evL,evB,rd,get,subG,memG,jT,jV,hyps,gob,impP,allP,j1,jX,j3,kj,nth,j8,kh,jU,lenB,kg,jR,entN,setE,jZ,addE,setL,setN,putE,env0,eqCs,j6,eqC,bA,bO,bN,bE,negB,kEq,ke,j5,lend,frz,frzL,zRow,j9,j7,closed,jy,jW,binI,remP,remI,retK,retG,ko,retD,ki,resL,resD,oneD,renD,renL,renE,j0,rho,jL,j4,zla,zlb,zlc,zld,zca,zcb,o1,o0,og,Nat.reduceBEq,Nat.reduceAdd,Nat.beq]
  rw [qZ]
  have hjl : j <= 16384 := by have := hI.il; omega
  have hol2 := hI.len
  refine ⟨by simp only [fits]; omega, fun hlt2 => ?_, fun hge2 => ?_⟩
  ·have hj1 : j + 1 < (cutX p q).length := by simp at hlt2; omega
   obtain ⟨x, hx⟩ : ∃ x, (cutX p q)[j]? = some x := ⟨_, List.getElem?_eq_getElem (by omega)⟩
   obtain ⟨x2, hx2⟩ : ∃ x2, (cutX p q)[j + 1]? = some x2 := ⟨_, List.getElem?_eq_getElem hj1⟩
   have hx1b := hxbd x (List.mem_of_getElem? hx)
   have hx2b := hxbd x2 (List.mem_of_getElem? hx2)
   have hxx := (zR (Z1 p q) hx hx2 (List.mem_of_getElem? hx)).2.2
   have hgx : (iI (cutX p q))[((j : Nat) : Int).toNat]? = some (.int .i64 x) := VQ (by simpa using hx)
   have hgx2 : (iI (cutX p q))[((j : Nat) : Int) + 1 |>.toNat]? = some (.int .i64 x2) := VQ (by rw [show ((j : Int) + 1).toNat = j + 1 from by omega]; exact hx2)
   refine ⟨⟨rfl, by omega, by omega⟩, ky (.int .i64 x) (.int .i64 x) hgx rfl ?_⟩
   dsimp only [c_region_rule_join, kA, jn,jH,jO,jq,jF,jJ,jo,jG,jI,iteR,regK,jh,jc,jk,jj,jb,ji,blkK,kp,kd,jd,ja,jx,fpOk,foot,km,allN,memN,jK,jl,jr,jv,jt,ju,jf,jg,je,newN,jw,jN,jP,jY,jQ,jM,jS,jz,jA,jC,jD,jE,jm,jB,evX,evL,evB,rd,get,subG,memG,jT,jV,hyps,gob,impP,allP,j1,jX,j3,kj,nth,j8,kh,jU,lenB,kg,jR,entN,setE,jZ,addE,setL,setN,putE,env0,eqCs,j6,eqC,bA,bO,bN,bE,negB,kEq,ke,j5,lend,frz,frzL,zRow,j9,j7,closed,jy,jW,binI,remP,remI,retK,retG,ko,retD,ki,resL,resD,oneD,renD,renL,renE,j0,rho,jL,j4,zla,zlb,zlc,zld,zca,zcb,o1,o0,og,Nat.reduceBEq,Nat.reduceAdd,Nat.beq]
   refine ⟨by simp only [fits]; omega, ⟨rfl, by omega, by rw [qZ]; omega⟩, ky (.int .i64 x2) (.int .i64 x2) hgx2 rfl ?_⟩
   dsimp only [c_region_rule_join, kA, jn,jH,jO,jq,jF,jJ,jo,jG,jI,iteR,regK,jh,jc,jk,jj,jb,ji,blkK,kp,kd,jd,ja,jx,fpOk,foot,km,allN,memN,jK,jl,jr,jv,jt,ju,jf,jg,je,newN,jw,jN,jP,jY,jQ,jM,jS,jz,jA,jC,jD,jE,jm,jB,evX,evL,evB,rd,get,subG,memG,jT,jV,hyps,gob,impP,allP,j1,jX,j3,kj,nth,j8,kh,jU,lenB,kg,jR,entN,setE,jZ,addE,setL,setN,putE,env0,eqCs,j6,eqC,bA,bO,bN,bE,negB,kEq,ke,j5,lend,frz,frzL,zRow,j9,j7,closed,jy,jW,binI,remP,remI,retK,retG,ko,retD,ki,resL,resD,oneD,renD,renL,renE,j0,rho,jL,j4,zla,zlb,zlc,zld,zca,zcb,o1,o0,og,Nat.reduceBEq,Nat.reduceAdd,Nat.beq]
   refine ⟨⟨rfl, by omega, by rw [qZ]; omega⟩, ky (.int .i64 x) (.int .i64 x) hgx rfl ?_⟩
   dsimp only [c_region_rule_join, kA, jn,jH,jO,jq,jF,jJ,jo,jG,jI,iteR,regK,jh,jc,jk,jj,jb,ji,blkK,kp,kd,jd,ja,jx,fpOk,foot,km,allN,memN,jK,jl,jr,jv,jt,ju,jf,jg,je,newN,jw,jN,jP,jY,jQ,jM,jS,jz,jA,jC,jD,jE,jm,jB,evX,evL,evB,rd,get,subG,memG,jT,jV,hyps,gob,impP,allP,j1,jX,j3,kj,nth,j8,kh,jU,lenB,kg,jR,entN,setE,jZ,addE,setL,setN,putE,env0,eqCs,j6,eqC,bA,bO,bN,bE,negB,kEq,ke,j5,lend,frz,frzL,zRow,j9,j7,closed,jy,jW,binI,remP,remI,retK,retG,ko,retD,ki,resL,resD,oneD,renD,renL,renE,j0,rho,jL,j4,zla,zlb,zlc,zld,zca,zcb,o1,o0,og,Nat.reduceBEq,Nat.reduceAdd,Nat.beq]
   refine ⟨by simp only [fits]; omega, ?_⟩
   refine Xa [7] (je3 (x := x) hpv) rfl rfl Kept.one ?_
   dsimp only [c_region_rule_join, kA, jn,jH,jO,jq,jF,jJ,jo,jG,jI,iteR,regK,jh,jc,jk,jj,jb,ji,blkK,kp,kd,jd,ja,jx,fpOk,foot,km,allN,memN,jK,jl,jr,jv,jt,ju,jf,jg,je,newN,jw,jN,jP,jY,jQ,jM,jS,jz,jA,jC,jD,jE,jm,jB,evX,evL,evB,rd,get,subG,memG,jT,jV,hyps,gob,impP,allP,j1,jX,j3,kj,nth,j8,kh,jU,lenB,kg,jR,entN,setE,jZ,addE,setL,setN,putE,env0,eqCs,j6,eqC,bA,bO,bN,bE,negB,kEq,ke,j5,lend,frz,frzL,zRow,j9,j7,closed,jy,jW,binI,remP,remI,retK,retG,ko,retD,ki,resL,resD,oneD,renD,renL,renE,j0,rho,jL,j4,zla,zlb,zlc,zld,zca,zcb,o1,o0,og,Nat.reduceBEq,Nat.reduceAdd,Nat.beq]
   refine Xa [8] (je3 (x := x) hqv) rfl rfl Kept.one ?_
   dsimp only [c_region_rule_join, kA, jn,jH,jO,jq,jF,jJ,jo,jG,jI,iteR,regK,jh,jc,jk,jj,jb,ji,blkK,kp,kd,jd,ja,jx,fpOk,foot,km,allN,memN,jK,jl,jr,jv,jt,ju,jf,jg,je,newN,jw,jN,jP,jY,jQ,jM,jS,jz,jA,jC,jD,jE,jm,jB,evX,evL,evB,rd,get,subG,memG,jT,jV,hyps,gob,impP,allP,j1,jX,j3,kj,nth,j8,kh,jU,lenB,kg,jR,entN,setE,jZ,addE,setL,setN,putE,env0,eqCs,j6,eqC,bA,bO,bN,bE,negB,kEq,ke,j5,lend,frz,frzL,zRow,j9,j7,closed,jy,jW,binI,remP,remI,retK,retG,ko,retD,ki,resL,resD,oneD,renD,renL,renE,j0,rho,jL,j4,zla,zlb,zlc,zld,zca,zcb,o1,o0,og,Nat.reduceBEq,Nat.reduceAdd,Nat.beq]
   refine kq (hg _ _) ?_
   dsimp only [c_region_rule_join, kA, jn,jH,jO,jq,jF,jJ,jo,jG,jI,iteR,regK,jh,jc,jk,jj,jb,ji,blkK,kp,kd,jd,ja,jx,fpOk,foot,km,allN,memN,jK,jl,jr,jv,jt,ju,jf,jg,je,newN,jw,jN,jP,jY,jQ,jM,jS,jz,jA,jC,jD,jE,jm,jB,evX,evL,evB,rd,get,subG,memG,jT,jV,hyps,gob,impP,allP,j1,jX,j3,kj,nth,j8,kh,jU,lenB,kg,jR,entN,setE,jZ,addE,setL,setN,putE,env0,eqCs,j6,eqC,bA,bO,bN,bE,negB,kEq,ke,j5,lend,frz,frzL,zRow,j9,j7,closed,jy,jW,binI,remP,remI,retK,retG,ko,retD,ki,resL,resD,oneD,renD,renL,renE,j0,rho,jL,j4,zla,zlb,zlc,zld,zca,zcb,o1,o0,og,Nat.reduceBEq,Nat.reduceAdd,Nat.beq]
   have hstep := jS7 hsp hsq ⟨hy1b.1, hyy, hy2b.2⟩ hI hx hx2
   have hpv2 : ∀ r ∈ colD x pc, Vr r := fun r hr => hpv r ((List.dropWhile_sublist _).subset hr)
   have hqv2 : ∀ r ∈ colD x qc, Vr r := fun r hr => hqv r ((List.dropWhile_sublist _).subset hr)
   refine ⟨fun hc => ?_, fun hc => ?_⟩
   ·rw [if_pos hc] at hstep
    have hol3 : (rcs out2).length <= 268451840 := by rw [ku]; omega
    refine ⟨⟨rfl, rfl, rfl, rfl, by simp only [List.length_cons, List.length_nil]; omega, by simp only [List.length_cons, List.length_nil]; omega⟩, by simp only [fits]; omega, ?_⟩
    refine qa (ih2 ⟨⟨j + 1, ver2 + 1, _, _, _⟩, hstep, hpv2, hqv2⟩ (by dsimp only; omega)) ⟨rfl, rfl, rfl, rfl, rfl, rfl, rfl, rfl, rfl, rfl, rfl, rfl, rfl, trivial⟩ ⟨rfl, rfl, rfl, rfl, rfl, rfl, ?_, rfl, rfl, trivial⟩ rfl rfl
    simp [rcs, rD]
   ·rw [if_neg (by rw [hc]; simp)] at hstep
    refine ⟨by simp only [fits]; omega, ?_⟩
    exact qa (ih2 ⟨⟨j + 1, ver2, _, _, _⟩, hstep, hpv2, hqv2⟩ (by dsimp only; omega)) ⟨rfl, rfl, rfl, rfl, rfl, rfl, rfl, rfl, rfl, rfl, rfl, rfl, rfl, trivial⟩ ⟨rfl, rfl, rfl, rfl, rfl, rfl, rfl, rfl, rfl, trivial⟩ rfl rfl
  ·have hge2' : ¬ j + 1 < (cutX p q).length := by simp only [decide_eq_false_iff_not] at hge2; omega
   have hpt2 := jni_end hk hsp hsq hyy hI hge2'
   refine ⟨by simp only [fits]; omega, ?_⟩
   have hJ2 : Jn kf a b (i + 1) out2 u2 d2 := jn_step (out := out) (u := u) (d := d) hy hy2 hI.vr (by have := hJ.len; omega) hpt2 hsu2 hsd2
   exact qa (ih ⟨⟨i + 1, ver2, out2, u2, d2⟩, hJ2⟩ (by dsimp only; omega)) ⟨rfl, rfl, rfl, rfl, rfl, rfl, rfl, trivial⟩ ⟨rfl, rfl, rfl, rfl, rfl, rfl, rfl, trivial⟩ rfl rfl
 ·have hge' : ¬ i + 1 < (cutY a b).length := by simp only [decide_eq_false_iff_not] at hge; omega
  have hpt := jn_end hk hJ hge'
  refine Vi rfl ⟨rfl, trivial⟩ (Sp.lift (xK (fun r hr => (hJ.vr r hr).in) (by omega)) rfl) ?_
  dsimp only [c_region_rule_join, kA, jn,jH,jO,jq,jF,jJ,jo,jG,jI,iteR,regK,jh,jc,jk,jj,jb,ji,blkK,kp,kd,jd,ja,jx,fpOk,foot,km,allN,memN,jK,jl,jr,jv,jt,ju,jf,jg,je,newN,jw,jN,jP,jY,jQ,jM,jS,jz,jA,jC,jD,jE,jm,jB,evX,evL,evB,rd,get,subG,memG,jT,jV,hyps,gob,impP,allP,j1,jX,j3,kj,nth,j8,kh,jU,lenB,kg,jR,entN,setE,jZ,addE,setL,setN,putE,env0,eqCs,j6,eqC,bA,bO,bN,bE,negB,kEq,ke,j5,lend,frz,frzL,zRow,j9,j7,closed,jy,jW,binI,remP,remI,retK,retG,ko,retD,ki,resL,resD,oneD,renD,renL,renE,j0,rho,jL,j4,zla,zlb,zlc,zld,zca,zcb,o1,o0,og,Nat.reduceBEq,Nat.reduceAdd,Nat.beq]
  rw [hres out hJ.vr hpt]
end Go.AM
