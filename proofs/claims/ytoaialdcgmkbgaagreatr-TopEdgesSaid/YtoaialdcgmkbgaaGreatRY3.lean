import Derived.Test.YtoaialdcgmkbgaaGreatRY1
import Derived.Test.YtoaialdcgmkbgaaGreatRA29

set_option linter.all false
namespace Go.AM
open Go Go.Proofs
theorem XI (b : List Ent) : subB b b := by simpa using qK b []
def sp1 (r : Rc) : Int × Int := (r.x, r.x + r.w)
def zq : List (Int × Int) → List (Int × Int)
 | [] => []
 | s :: l => va s l
theorem joinS_stop {s : Int × Int} {l : List (Int × Int)} (h : ∀ t r, l = t :: r → s.2 < t.1) : va s l = s :: zq l := by
 cases l with
 | nil => rfl
 | cons t r =>
   have := h t r rfl
   simp only [va, zq]
   rw [if_neg (by omega)]
theorem joinS_go {s t : Int × Int} {l : List (Int × Int)} (h : t.1 ≤ s.2) : va s (t :: l) = va (s.1, max s.2 t.2) l := by
 simp only [va]; rw [if_pos h]
def spnD (s : Int × Int) : List D := [.agg [.int .i64 s.1, .int .i64 s.2]]
def rowE (e0 e1 e2 e3 : Ent) (ver : Nat) (l : List Rc) (e5 e6 : Ent) : List Ent := [e0, e1, e2, e3, .arr 45 4 ver (rcs l), e5, e6, .cells [.own 4 ver]]
def SpnK (ver : Nat) (l : List Rc) (b : List Ent) : Prop := ∃ e0 e1 e2 e3 e5 e6, b = rowE e0 e1 e2 e3 ver l e5 e6
theorem ky (l : List Rc) : (rcs l).length = l.length := by simp [rcs]
theorem qo {l : List Rc} {i : Nat} {r : Rc} (h : l[i]? = some r) : (rcs l)[i]? = some (rD r) := by simp [rcs, h]
theorem it_spans {l : List Rc} {ver : Nat} (hin : ∀ r ∈ l, Vr r) (hlen : l.length ≤ 4294967296) : IterM Tryz.prog gtab 128 [.box 7 0] ((zq (l.map sp1)).map spnD) (SpnK ver l) := by
 refine QJ kM c_band_spans_1 qe (fn := Tryz.f128) (by kernel_rfl) (by kernel_rfl) QD (by kernel_rfl) (by rfl) (by kernel_rfl) fun y m S bs n F1 hn0 hm hy hS hbs hlb hgo hst => ?_
 have hsh : ∀ k, k ≤ m → ∃ e0 e1 e2 e3 e5 e6 o, S k = [e0, e1, e2, e3, .arr 45 4 ver (rcs l), e5, e6, .cells [.own 4 ver], .obj o] ∧ n = 9 ∧ lowB n (S k) = true := fun k hk => by
  obtain ⟨h1, h2, b0, o, h3, e0, e1, e2, e3, e5, e6, h4⟩ := hS k hk
  refine ⟨e0, e1, e2, e3, e5, e6, o, by rw [h3, h4]; rfl, ?_, h2⟩
  rw [← h1, h3, h4]; rfl
 have hn9 : n = 9 := (hsh 0 (Nat.zero_le _)).choose_spec.choose_spec.choose_spec.choose_spec.choose_spec.choose_spec.choose_spec.2.1
 subst hn9
 dsimp only [c_band_spans_1, qe, jo,jK,jT,jr,jI,jM,jq,jJ,jL,iteR,regK,ji,jc,jl,jk,jb,jj,blkK,kt,kh,jd,ja,jy,fpOk,foot,kq,allN,memN,jN,jm,js,jw,jv,jt,ju,jg,jh,jf,je,newN,jx,jS,jU,jX,jO,jP,jQ,jz,jA,jE,jB,jC,jn,jD,jF,jG,j7,evX,evL,evB,rd,get,subG,memG,jY,jW,hyps,gob,impP,allP,j5,j2,j4,kp,nth,ke,km,jZ,lenB,kj,jV,entN,setE,j0,addE,setL,setN,putE,env0,eqCs,j9,eqC,bA,bO,bN,bE,negB,kEq,ki,j8,lend,frz,frzL,zRow,kg,kd,closed,jH,j1,binI,remP,remI,retK,retG,kr,retD,ko,resL,resD,oneD,renD,renL,renE,j3,rho,jR,j6,List.append,List.nil_append,List.cons_append,List.append_nil,cond,Nat.reduceBEq,Nat.reduceAdd,Nat.beq]
 refine kH (α := {p : Nat × Nat // p.1 ≤ l.length ∧ p.2 ≤ m ∧ ((zq (l.map sp1)).map spnD).drop p.2 = (zq ((l.drop p.1).map sp1)).map spnD})
  (fun p => ⟨[(0, [], .yld y), (1, [], .box 7 0), (3, [], .int .i64 p.1.1)], S p.1.2⟩) (fun p => l.length - p.1.1) ?_ ⟨(0, 0), by simp⟩ rfl
 rintro ⟨⟨i, k⟩, hi, hk, hd⟩ I ih
 dsimp only at hi hk hd ⊢
 obtain ⟨e0, e1, e2, e3, e5, e6, o, hSk, _, hlow⟩ := hsh k hk
 rw [hSk]
 dsimp only [c_band_spans_1, qe, jo,jK,jT,jr,jI,jM,jq,jJ,jL,iteR,regK,ji,jc,jl,jk,jb,jj,blkK,kt,kh,jd,ja,jy,fpOk,foot,kq,allN,memN,jN,jm,js,jw,jv,jt,ju,jg,jh,jf,je,newN,jx,jS,jU,jX,jO,jP,jQ,jz,jA,jE,jB,jC,jn,jD,jF,jG,j7,evX,evL,evB,rd,get,subG,memG,jY,jW,hyps,gob,impP,allP,j5,j2,j4,kp,nth,ke,km,jZ,lenB,kj,jV,entN,setE,j0,addE,setL,setN,putE,env0,eqCs,j9,eqC,bA,bO,bN,bE,negB,kEq,ki,j8,lend,frz,frzL,zRow,kg,kd,closed,jH,j1,binI,remP,remI,retK,retG,kr,retD,ko,resL,resD,oneD,renD,renL,renE,j3,rho,jR,j6,List.append,List.nil_append,List.cons_append,List.append_nil,cond,Nat.reduceBEq,Nat.reduceAdd,Nat.beq]
 refine ⟨rfl, fun hlt => ?_, fun hge => ?_⟩
 ·have hl : i < l.length := by rw [ky] at hlt; simpa using hlt
  obtain ⟨r, hr⟩ : ∃ r, l[i]? = some r := ⟨_, List.getElem?_eq_getElem hl⟩
  have hV := hin r (List.mem_of_getElem? hr)
  have hix : (0 : Int) ≤ i ∧ (i : Int) < ((rcs l).length : Int) := by rw [ky]; omega
  have hrow : (rcs l)[(i : Int).toNat]? = some (rD r) := qo (by simpa using hr)
  refine ⟨⟨rfl, rfl, hix⟩, ⟨rfl, rfl⟩, kB (rD r) (.int .i64 r.x) hrow rfl ?_⟩
  dsimp only [c_band_spans_1, qe, jo,jK,jT,jr,jI,jM,jq,jJ,jL,iteR,regK,ji,jc,jl,jk,jb,jj,blkK,kt,kh,jd,ja,jy,fpOk,foot,kq,allN,memN,jN,jm,js,jw,jv,jt,ju,jg,jh,jf,je,newN,jx,jS,jU,jX,jO,jP,jQ,jz,jA,jE,jB,jC,jn,jD,jF,jG,j7,evX,evL,evB,rd,get,subG,memG,jY,jW,hyps,gob,impP,allP,j5,j2,j4,kp,nth,ke,km,jZ,lenB,kj,jV,entN,setE,j0,addE,setL,setN,putE,env0,eqCs,j9,eqC,bA,bO,bN,bE,negB,kEq,ki,j8,lend,frz,frzL,zRow,kg,kd,closed,jH,j1,binI,remP,remI,retK,retG,kr,retD,ko,resL,resD,oneD,renD,renL,renE,j3,rho,jR,j6,List.append,List.nil_append,List.cons_append,List.append_nil,cond,Nat.reduceBEq,Nat.reduceAdd,Nat.beq]
  refine ⟨⟨rfl, rfl, hix⟩, ⟨rfl, rfl⟩, kB (rD r) (.int .i64 r.x) hrow rfl ?_⟩
  dsimp only [c_band_spans_1, qe, jo,jK,jT,jr,jI,jM,jq,jJ,jL,iteR,regK,ji,jc,jl,jk,jb,jj,blkK,kt,kh,jd,ja,jy,fpOk,foot,kq,allN,memN,jN,jm,js,jw,jv,jt,ju,jg,jh,jf,je,newN,jx,jS,jU,jX,jO,jP,jQ,jz,jA,jE,jB,jC,jn,jD,jF,jG,j7,evX,evL,evB,rd,get,subG,memG,jY,jW,hyps,gob,impP,allP,j5,j2,j4,kp,nth,ke,km,jZ,lenB,kj,jV,entN,setE,j0,addE,setL,setN,putE,env0,eqCs,j9,eqC,bA,bO,bN,bE,negB,kEq,ki,j8,lend,frz,frzL,zRow,kg,kd,closed,jH,j1,binI,remP,remI,retK,retG,kr,retD,ko,resL,resD,oneD,renD,renL,renE,j3,rho,jR,j6,List.append,List.nil_append,List.cons_append,List.append_nil,cond,Nat.reduceBEq,Nat.reduceAdd,Nat.beq]
  refine ⟨⟨rfl, rfl, hix⟩, ⟨rfl, rfl⟩, kB (rD r) (.int .i64 r.w) hrow rfl ?_⟩
  dsimp only [c_band_spans_1, qe, jo,jK,jT,jr,jI,jM,jq,jJ,jL,iteR,regK,ji,jc,jl,jk,jb,jj,blkK,kt,kh,jd,ja,jy,fpOk,foot,kq,allN,memN,jN,jm,js,jw,jv,jt,ju,jg,jh,jf,je,newN,jx,jS,jU,jX,jO,jP,jQ,jz,jA,jE,jB,jC,jn,jD,jF,jG,j7,evX,evL,evB,rd,get,subG,memG,jY,jW,hyps,gob,impP,allP,j5,j2,j4,kp,nth,ke,km,jZ,lenB,kj,jV,entN,setE,j0,addE,setL,setN,putE,env0,eqCs,j9,eqC,bA,bO,bN,bE,negB,kEq,ki,j8,lend,frz,frzL,zRow,kg,kd,closed,jH,j1,binI,remP,remI,retK,retG,kr,retD,ko,resL,resD,oneD,renD,renL,renE,j3,rho,jR,j6,List.append,List.nil_append,List.cons_append,List.append_nil,cond,Nat.reduceBEq,Nat.reduceAdd,Nat.beq]
  have hV' := hV
  simp only [Vr] at hV'
  refine ⟨by simp only [fits]; omega, by simp only [fits]; omega, ?_⟩
  refine kH (α := {p : Nat × Int // (i + 1 ≤ p.1 ∧ p.1 ≤ l.length) ∧ va (r.x, p.2) ((l.drop p.1).map sp1) = va (sp1 r) ((l.drop (i + 1)).map sp1) ∧ -1048576 ≤ p.2 ∧ p.2 ≤ 1048576})
   (fun p => ⟨[(0, [], .yld y), (1, [], .box 7 0), (3, [], .int .i64 p.1.1), (4, [], .box 9 0)], [e0, e1, e2, e3, .arr 45 4 ver (rcs l), e5, e6, .cells [.own 4 ver], .obj o, .cells [.int .i64 r.x, .int .i64 p.1.2]]⟩) (fun p => l.length - p.1.1) ?_
   ⟨(i + 1, r.x + r.w), ⟨Nat.le_refl _, hl⟩, rfl, by omega, by omega⟩ (by simp)
  rintro ⟨⟨j, to⟩, ⟨hj1, hj2⟩, hjo, ht1, ht2⟩ I' ih'
  dsimp only at hj1 hj2 hjo ht1 ht2 ⊢
  dsimp only [c_band_spans_1, qe, jo,jK,jT,jr,jI,jM,jq,jJ,jL,iteR,regK,ji,jc,jl,jk,jb,jj,blkK,kt,kh,jd,ja,jy,fpOk,foot,kq,allN,memN,jN,jm,js,jw,jv,jt,ju,jg,jh,jf,je,newN,jx,jS,jU,jX,jO,jP,jQ,jz,jA,jE,jB,jC,jn,jD,jF,jG,j7,evX,evL,evB,rd,get,subG,memG,jY,jW,hyps,gob,impP,allP,j5,j2,j4,kp,nth,ke,km,jZ,lenB,kj,jV,entN,setE,j0,addE,setL,setN,putE,env0,eqCs,j9,eqC,bA,bO,bN,bE,negB,kEq,ki,j8,lend,frz,frzL,zRow,kg,kd,closed,jH,j1,binI,remP,remI,retK,retG,kr,retD,ko,resL,resD,oneD,renD,renL,renE,j3,rho,jR,j6,List.append,List.nil_append,List.cons_append,List.append_nil,cond,Nat.reduceBEq,Nat.reduceAdd,Nat.beq]
  obtain ⟨q, hq⟩ : ∃ q, q = l[j]?.getD .o := ⟨_, rfl⟩
  have hqj : j < l.length → l[j]? = some q := fun h => by rw [hq, List.getElem?_eq_getElem h]; rfl
  have hlt2 : ∀ {p : Prop}, (decide ((j : Int) < ((rcs l).length : Int)) = true → p) ↔ (j < l.length → p) := by rw [ky]; simp
  refine ⟨rfl, hlt2.2 fun h => ⟨rfl, rfl, by omega, by rw [ky]; omega⟩, hlt2.2 fun h => ⟨rfl, rfl⟩, kB (rD q) (.int .i64 q.x) (hlt2.2 fun h => qo (by simpa using hqj h)) rfl ?_⟩
  dsimp only [c_band_spans_1, qe, jo,jK,jT,jr,jI,jM,jq,jJ,jL,iteR,regK,ji,jc,jl,jk,jb,jj,blkK,kt,kh,jd,ja,jy,fpOk,foot,kq,allN,memN,jN,jm,js,jw,jv,jt,ju,jg,jh,jf,je,newN,jx,jS,jU,jX,jO,jP,jQ,jz,jA,jE,jB,jC,jn,jD,jF,jG,j7,evX,evL,evB,rd,get,subG,memG,jY,jW,hyps,gob,impP,allP,j5,j2,j4,kp,nth,ke,km,jZ,lenB,kj,jV,entN,setE,j0,addE,setL,setN,putE,env0,eqCs,j9,eqC,bA,bO,bN,bE,negB,kEq,ki,j8,lend,frz,frzL,zRow,kg,kd,closed,jH,j1,binI,remP,remI,retK,retG,kr,retD,ko,resL,resD,oneD,renD,renL,renE,j3,rho,jR,j6,List.append,List.nil_append,List.cons_append,List.append_nil,cond,Nat.reduceBEq,Nat.reduceAdd,Nat.beq]
  refine ⟨fun hc => ?_, fun hc => ?_⟩
  ·-- a further one
   rw [ky] at hc
   simp only [Bool.and_eq_true, decide_eq_true_eq] at hc
   have hjl : j < l.length := by omega
   have hqV := hin q (List.mem_of_getElem? (hqj hjl))
   simp only [Vr] at hqV
   have hix2 : (0 : Int) ≤ j ∧ (j : Int) < ((rcs l).length : Int) := by rw [ky]; omega
   have hrow2 : (rcs l)[(j : Int).toNat]? = some (rD q) := qo (by simpa using hqj hjl)
   refine ⟨⟨rfl, rfl, hix2⟩, ⟨rfl, rfl⟩, kB (rD q) (.int .i64 q.x) hrow2 rfl ?_⟩
   dsimp only [c_band_spans_1, qe, jo,jK,jT,jr,jI,jM,jq,jJ,jL,iteR,regK,ji,jc,jl,jk,jb,jj,blkK,kt,kh,jd,ja,jy,fpOk,foot,kq,allN,memN,jN,jm,js,jw,jv,jt,ju,jg,jh,jf,je,newN,jx,jS,jU,jX,jO,jP,jQ,jz,jA,jE,jB,jC,jn,jD,jF,jG,j7,evX,evL,evB,rd,get,subG,memG,jY,jW,hyps,gob,impP,allP,j5,j2,j4,kp,nth,ke,km,jZ,lenB,kj,jV,entN,setE,j0,addE,setL,setN,putE,env0,eqCs,j9,eqC,bA,bO,bN,bE,negB,kEq,ki,j8,lend,frz,frzL,zRow,kg,kd,closed,jH,j1,binI,remP,remI,retK,retG,kr,retD,ko,resL,resD,oneD,renD,renL,renE,j3,rho,jR,j6,List.append,List.nil_append,List.cons_append,List.append_nil,cond,Nat.reduceBEq,Nat.reduceAdd,Nat.beq]
   refine ⟨⟨rfl, rfl, hix2⟩, ⟨rfl, rfl⟩, kB (rD q) (.int .i64 q.w) hrow2 rfl ?_⟩
   dsimp only [c_band_spans_1, qe, jo,jK,jT,jr,jI,jM,jq,jJ,jL,iteR,regK,ji,jc,jl,jk,jb,jj,blkK,kt,kh,jd,ja,jy,fpOk,foot,kq,allN,memN,jN,jm,js,jw,jv,jt,ju,jg,jh,jf,je,newN,jx,jS,jU,jX,jO,jP,jQ,jz,jA,jE,jB,jC,jn,jD,jF,jG,j7,evX,evL,evB,rd,get,subG,memG,jY,jW,hyps,gob,impP,allP,j5,j2,j4,kp,nth,ke,km,jZ,lenB,kj,jV,entN,setE,j0,addE,setL,setN,putE,env0,eqCs,j9,eqC,bA,bO,bN,bE,negB,kEq,ki,j8,lend,frz,frzL,zRow,kg,kd,closed,jH,j1,binI,remP,remI,retK,retG,kr,retD,ko,resL,resD,oneD,renD,renL,renE,j3,rho,jR,j6,List.append,List.nil_append,List.cons_append,List.append_nil,cond,Nat.reduceBEq,Nat.reduceAdd,Nat.beq]
   refine ⟨by simp only [fits]; omega, by simp only [fits]; omega, ?_⟩
   have hdj : l.drop j = q :: l.drop (j + 1) := by
    rw [List.drop_eq_getElem_cons hjl]
    congr 1
    have := hqj hjl
    rw [List.getElem?_eq_getElem hjl] at this
    exact Option.some.inj this
   refine k9 (ih' ⟨(j + 1, max to (q.x + q.w)), ⟨by omega, hjl⟩, ?_, by dsimp only; omega, by dsimp only; omega⟩ (by dsimp only; omega)) ?_ ⟨rfl, rfl, rfl, rfl, rfl, rfl, rfl, rfl, rfl, rfl, trivial⟩ ?_ ?_
   ·rw [← hjo, hdj, List.map_cons, joinS_go (s := (r.x, to)) (t := sp1 q) (show (sp1 q).1 ≤ (r.x, to).2 from hc.2)]
    rfl
   ·exact ⟨rfl, rfl, by simp [get], rfl, trivial⟩
   ·have h10 : y < 10 := by omega
    simp [lowE, low, j0, qC, h10]
   ·rw [hSk] at hlow
    exact JB (xQ hlow) (b := [.cells _]) rfl
  ·-- handed on
   rw [ky] at hc
   simp only [Bool.and_eq_false_iff, decide_eq_false_iff_not] at hc
   have hstop : va (r.x, to) ((l.drop j).map sp1) = (r.x, to) :: zq ((l.drop j).map sp1) := by
    refine joinS_stop fun t u htu => ?_
    by_cases hjl : j < l.length
    ·rw [List.drop_eq_getElem_cons hjl, List.map_cons] at htu
     have := hqj hjl
     rw [List.getElem?_eq_getElem hjl] at this
     rw [Option.some.inj this] at htu
     have h2 := (List.cons.inj htu).1
     rw [← h2]
     have h1 : ¬ q.x ≤ to := by
      rcases hc with hc | hc
      ·omega
      ·exact hc
     simp only [sp1]; omega
    ·rw [List.drop_eq_nil_of_le (by omega)] at htu; cases htu
   have hdi : l.drop i = r :: l.drop (i + 1) := by
    rw [List.drop_eq_getElem_cons hl]
    congr 1
    rw [List.getElem?_eq_getElem hl] at hr
    exact Option.some.inj hr
   have hdk : ((zq (l.map sp1)).map spnD).drop k = spnD (r.x, to) :: (zq ((l.drop j).map sp1)).map spnD := by
    rw [hd, hdi, List.map_cons]
    show (va (sp1 r) ((l.drop (i + 1)).map sp1)).map spnD = _
    rw [← hjo, hstop, List.map_cons]
   have hkx : ((zq (l.map sp1)).map spnD)[k]? = some (spnD (r.x, to)) := by
    rw [← List.head?_drop, hdk]; rfl
   have hk1 : ((zq (l.map sp1)).map spnD).drop (k + 1) = (zq ((l.drop j).map sp1)).map spnD := by
    rw [← List.drop_drop, hdk]; rfl
   have hlow9 : lowL 9 (.yld y :: spnD (r.x, to)) = true := by simp [spnD, lowL, low, qC, hy]
   have hszk : (S k).length = 9 := by rw [hSk]; rfl
   rcases Nat.lt_or_ge k m with hkm | hkm
   ·have hszk1 : (S (k + 1)).length = 9 := by rw [← kR]; exact (hS (k + 1) hkm).1
    have hp := (hgo k _ hkm hkx [154]).frame (by rw [hn0, hszk]) (by rw [hszk]; exact hlow) (by rw [hszk]; exact hlow9) (by rw [hszk, hszk1]) rfl [.cells [.int .i64 r.x, .int .i64 to]]
    rw [hSk] at hp
    refine xY _ _ hp ?_
    dsimp only [c_band_spans_1, qe, jo,jK,jT,jr,jI,jM,jq,jJ,jL,iteR,regK,ji,jc,jl,jk,jb,jj,blkK,kt,kh,jd,ja,jy,fpOk,foot,kq,allN,memN,jN,jm,js,jw,jv,jt,ju,jg,jh,jf,je,newN,jx,jS,jU,jX,jO,jP,jQ,jz,jA,jE,jB,jC,jn,jD,jF,jG,j7,evX,evL,evB,rd,get,subG,memG,jY,jW,hyps,gob,impP,allP,j5,j2,j4,kp,nth,ke,km,jZ,lenB,kj,jV,entN,setE,j0,addE,setL,setN,putE,env0,eqCs,j9,eqC,bA,bO,bN,bE,negB,kEq,ki,j8,lend,frz,frzL,zRow,kg,kd,closed,jH,j1,binI,remP,remI,retK,retG,kr,retD,ko,resL,resD,oneD,renD,renL,renE,j3,rho,jR,j6,List.append,List.nil_append,List.cons_append,List.append_nil,cond,Nat.reduceBEq,Nat.reduceAdd,Nat.beq]
    refine ⟨nofun, fun _ => ?_⟩
    refine k9 (ih ⟨(j, k + 1), hj2, hkm, hk1⟩ (by dsimp only; omega)) ⟨rfl, rfl, rfl, trivial⟩ (qK _ _) ?_ ?_ ?_
    ·dsimp only
     rw [(hS (k + 1) hkm).1]
     simp [lowE, low, qC, hy]
    ·dsimp only
     rw [(hS (k + 1) hkm).1]; exact (hS (k + 1) hkm).2.1
    ·dsimp only
     rw [(hS (k + 1) hkm).1]; rfl
   ·have hkm' : k = m := by omega
    subst hkm'
    have hp := (hst _ hkx [154]).frame (by rw [hn0, hszk]) (by rw [hszk]; exact hlow) (by rw [hszk]; exact hlow9) (by rw [hszk, ← kR]; exact hbs) rfl [.cells [.int .i64 r.x, .int .i64 to]]
    rw [hSk] at hp
    refine xY _ _ hp ?_
    dsimp only [c_band_spans_1, qe, jo,jK,jT,jr,jI,jM,jq,jJ,jL,iteR,regK,ji,jc,jl,jk,jb,jj,blkK,kt,kh,jd,ja,jy,fpOk,foot,kq,allN,memN,jN,jm,js,jw,jv,jt,ju,jg,jh,jf,je,newN,jx,jS,jU,jX,jO,jP,jQ,jz,jA,jE,jB,jC,jn,jD,jF,jG,j7,evX,evL,evB,rd,get,subG,memG,jY,jW,hyps,gob,impP,allP,j5,j2,j4,kp,nth,ke,km,jZ,lenB,kj,jV,entN,setE,j0,addE,setL,setN,putE,env0,eqCs,j9,eqC,bA,bO,bN,bE,negB,kEq,ki,j8,lend,frz,frzL,zRow,kg,kd,closed,jH,j1,binI,remP,remI,retK,retG,kr,retD,ko,resL,resD,oneD,renD,renL,renE,j3,rho,jR,j6,List.append,List.nil_append,List.cons_append,List.append_nil,cond,Nat.reduceBEq,Nat.reduceAdd,Nat.beq]
    refine ⟨fun _ => ?_, nofun⟩
    have hlt' := (List.getElem?_eq_some_iff.1 hkx).1
    rw [yW, if_pos hlt']
    exact qK _ _
 ·-- all have come
  have hil : ¬ i < l.length := by rw [ky] at hge; simpa using hge
  rw [List.drop_eq_nil_of_le (by omega : l.length ≤ i)] at hd
  have : ((zq (l.map sp1)).map spnD).length ≤ k := by
   have := congrArg List.length hd
   simp [zq] at this ⊢; omega
  rw [yW, if_neg (by omega), show m = k by omega, hSk]
  exact ⟨rfl, rfl, rfl, rfl, rfl, rfl, rfl, rfl, rfl, trivial⟩
end Go.AM

