import Derived.Test.YtoaialdcgmkbgaaGreatRY3
import Derived.Test.YtoaialdcgmkbgaaGreatRA30

set_option linter.all false
namespace Go.AM
open Go Go.Proofs
def alkB (a b : Rc) : Bool := decide (a.x = b.x) && decide (a.w = b.w) && decide (a.y + a.h = b.y)
theorem sp_alike_1 {a b : Rc} (h : fits .i64 (a.y + a.h)) : TSp 130 [rD a, rD b] (.bool (alkB a b)) := by
  refine spo_band_alike_1 (by rfl) ?_
  dsimp only [c_band_alike_1, xD, rD, jo,jK,jT,jr,jI,jM,jq,jJ,jL,iteR,regK,ji,jc,jl,jk,jb,jj,blkK,kr,kh,jd,ja,jy,fpOk,foot,kp,allN,memN,jN,jm,js,jw,jv,jt,ju,jg,jh,jf,je,newN,jx,jS,jU,j2,jO,jP,jQ,jz,jA,jE,jB,jC,jn,jD,jF,jG,j7,evX,evL,evB,rd,get,subG,memG,jW,jY,hyps,gob,impP,allP,j6,j1,j4,ko,nth,ke,km,jX,lenB,kj,jV,entN,setE,jZ,addE,setL,setN,putE,env0,eqCs,j9,eqC,bA,bO,bN,bE,negB,kEq,ki,j8,lend,frz,frzL,zRow,kg,kd,closed,jH,j0,binI,remP,remI,retK,retG,kq,retD,kn,resL,resD,oneD,renD,renL,renE,j3,rho,jR,j5,List.append,List.nil_append,List.cons_append,List.append_nil,cond,Nat.reduceBEq,Nat.reduceAdd,Nat.beq]
  exact ⟨fun _ => h, rfl⟩
def eqF : List Rc → List Rc → Bool
  | [], [] => true
  | a :: l, b :: r => alkB a b && eqF l r
  | _, _ => false
theorem eqF_len : ∀ {a b : List Rc}, eqF a b = true → a.length = b.length
  | [], [], _ => rfl
  | a :: l, b :: r, h => by simp only [eqF, Bool.and_eq_true] at h; simp [eqF_len h.2]
  | [], _ :: _, h => by simp [eqF] at h
  | _ :: _, [], h => by simp [eqF] at h
theorem sp_EqualFunc {a b : List Rc} (ha : ∀ r ∈ a, fits .i64 (r.y + r.h)) (hl : a.length ≤ 4611686018427387904) :
    TSp 129 [.ls 4 (rcs a), .ls 4 (rcs b), .fn 130 []] (.bool (eqF a b)) := by
  refine qM (by rfl) ?_
  dsimp only [c_slices_EqualFunc_api_Rect_api_Rect_api_Rect_api_Rect, kx, jo,jK,jT,jr,jI,jM,jq,jJ,jL,iteR,regK,ji,jc,jl,jk,jb,jj,blkK,kr,kh,jd,ja,jy,fpOk,foot,kp,allN,memN,jN,jm,js,jw,jv,jt,ju,jg,jh,jf,je,newN,jx,jS,jU,j2,jO,jP,jQ,jz,jA,jE,jB,jC,jn,jD,jF,jG,j7,evX,evL,evB,rd,get,subG,memG,jW,jY,hyps,gob,impP,allP,j6,j1,j4,ko,nth,ke,km,jX,lenB,kj,jV,entN,setE,jZ,addE,setL,setN,putE,env0,eqCs,j9,eqC,bA,bO,bN,bE,negB,kEq,ki,j8,lend,frz,frzL,zRow,kg,kd,closed,jH,j0,binI,remP,remI,retK,retG,kq,retD,kn,resL,resD,oneD,renD,renL,renE,j3,rho,jR,j5,List.append,List.nil_append,List.cons_append,List.append_nil,cond,Nat.reduceBEq,Nat.reduceAdd,Nat.beq]
  rw [ky, ky]
  refine ⟨fun h => ?_, fun h => ?_⟩
  · have : eqF a b = false := by
      rw [Bool.eq_false_iff]; intro h1
      have := eqF_len h1
      simp at h; omega
    rw [this]
  have hlen : a.length = b.length := by simp at h; omega
  refine kE (α := {i : Nat // i ≤ a.length ∧ eqF a b = eqF (a.drop i) (b.drop i)}) (fun i => ⟨[(1, [], .ls 4 (rcs b)), (2, [], .fn 130 []), (15, [], .ls 4 (rcs a)), (16, [], .int .i64 a.length), (17, [], .int .i64 i.1)], []⟩)
    (fun i => a.length - i.1) ?_ ⟨0, by simp⟩ rfl
  rintro ⟨i, hi, he⟩ I ih
  dsimp only [c_slices_EqualFunc_api_Rect_api_Rect_api_Rect_api_Rect, kx, jo,jK,jT,jr,jI,jM,jq,jJ,jL,iteR,regK,ji,jc,jl,jk,jb,jj,blkK,kr,kh,jd,ja,jy,fpOk,foot,kp,allN,memN,jN,jm,js,jw,jv,jt,ju,jg,jh,jf,je,newN,jx,jS,jU,j2,jO,jP,jQ,jz,jA,jE,jB,jC,jn,jD,jF,jG,j7,evX,evL,evB,rd,get,subG,memG,jW,jY,hyps,gob,impP,allP,j6,j1,j4,ko,nth,ke,km,jX,lenB,kj,jV,entN,setE,jZ,addE,setL,setN,putE,env0,eqCs,j9,eqC,bA,bO,bN,bE,negB,kEq,ki,j8,lend,frz,frzL,zRow,kg,kd,closed,jH,j0,binI,remP,remI,retK,retG,kq,retD,kn,resL,resD,oneD,renD,renL,renE,j3,rho,jR,j5,List.append,List.nil_append,List.cons_append,List.append_nil,cond,Nat.reduceBEq,Nat.reduceAdd,Nat.beq]
  refine ⟨fun hlt => ?_, fun hge => ?_⟩
  · have hl : i < a.length := by simpa using hlt
    obtain ⟨r, hr⟩ : ∃ r, a[i]? = some r := ⟨_, List.getElem?_eq_getElem hl⟩
    obtain ⟨q, hq⟩ : ∃ q, b[i]? = some q := ⟨_, List.getElem?_eq_getElem (by omega)⟩
    refine ⟨⟨rfl, by omega, by rw [ky]; omega⟩, kA (rD r) (rD r) (qv (by simpa using hr)) rfl ?_⟩
    dsimp only [c_slices_EqualFunc_api_Rect_api_Rect_api_Rect_api_Rect, kx, rD, jo,jK,jT,jr,jI,jM,jq,jJ,jL,iteR,regK,ji,jc,jl,jk,jb,jj,blkK,kr,kh,jd,ja,jy,fpOk,foot,kp,allN,memN,jN,jm,js,jw,jv,jt,ju,jg,jh,jf,je,newN,jx,jS,jU,j2,jO,jP,jQ,jz,jA,jE,jB,jC,jn,jD,jF,jG,j7,evX,evL,evB,rd,get,subG,memG,jW,jY,hyps,gob,impP,allP,j6,j1,j4,ko,nth,ke,km,jX,lenB,kj,jV,entN,setE,jZ,addE,setL,setN,putE,env0,eqCs,j9,eqC,bA,bO,bN,bE,negB,kEq,ki,j8,lend,frz,frzL,zRow,kg,kd,closed,jH,j0,binI,remP,remI,retK,retG,kq,retD,kn,resL,resD,oneD,renD,renL,renE,j3,rho,jR,j5,List.append,List.nil_append,List.cons_append,List.append_nil,cond,Nat.reduceBEq,Nat.reduceAdd,Nat.beq]
    refine ⟨⟨rfl, by omega, by rw [ky]; omega⟩, kA (rD q) (rD q) (qv (by simpa using hq)) rfl ?_⟩
    dsimp only [c_slices_EqualFunc_api_Rect_api_Rect_api_Rect_api_Rect, kx, rD, jo,jK,jT,jr,jI,jM,jq,jJ,jL,iteR,regK,ji,jc,jl,jk,jb,jj,blkK,kr,kh,jd,ja,jy,fpOk,foot,kp,allN,memN,jN,jm,js,jw,jv,jt,ju,jg,jh,jf,je,newN,jx,jS,jU,j2,jO,jP,jQ,jz,jA,jE,jB,jC,jn,jD,jF,jG,j7,evX,evL,evB,rd,get,subG,memG,jW,jY,hyps,gob,impP,allP,j6,j1,j4,ko,nth,ke,km,jX,lenB,kj,jV,entN,setE,jZ,addE,setL,setN,putE,env0,eqCs,j9,eqC,bA,bO,bN,bE,negB,kEq,ki,j8,lend,frz,frzL,zRow,kg,kd,closed,jH,j0,binI,remP,remI,retK,retG,kq,retD,kn,resL,resD,oneD,renD,renL,renE,j3,rho,jR,j5,List.append,List.nil_append,List.cons_append,List.append_nil,cond,Nat.reduceBEq,Nat.reduceAdd,Nat.beq]
    refine kt (sp_alike_1 (ha r (List.mem_of_getElem? hr))) ?_
    dsimp only [c_slices_EqualFunc_api_Rect_api_Rect_api_Rect_api_Rect, kx, jo,jK,jT,jr,jI,jM,jq,jJ,jL,iteR,regK,ji,jc,jl,jk,jb,jj,blkK,kr,kh,jd,ja,jy,fpOk,foot,kp,allN,memN,jN,jm,js,jw,jv,jt,ju,jg,jh,jf,je,newN,jx,jS,jU,j2,jO,jP,jQ,jz,jA,jE,jB,jC,jn,jD,jF,jG,j7,evX,evL,evB,rd,get,subG,memG,jW,jY,hyps,gob,impP,allP,j6,j1,j4,ko,nth,ke,km,jX,lenB,kj,jV,entN,setE,jZ,addE,setL,setN,putE,env0,eqCs,j9,eqC,bA,bO,bN,bE,negB,kEq,ki,j8,lend,frz,frzL,zRow,kg,kd,closed,jH,j0,binI,remP,remI,retK,retG,kq,retD,kn,resL,resD,oneD,renD,renL,renE,j3,rho,jR,j5,List.append,List.nil_append,List.cons_append,List.append_nil,cond,Nat.reduceBEq,Nat.reduceAdd,Nat.beq]
    have hda : a.drop i = r :: a.drop (i + 1) := by
      rw [List.drop_eq_getElem_cons hl]; congr 1; rw [List.getElem?_eq_getElem hl] at hr; exact Option.some.inj hr
    have hdb : b.drop i = q :: b.drop (i + 1) := by
      rw [List.drop_eq_getElem_cons (by omega)]; congr 1; rw [List.getElem?_eq_getElem (by omega)] at hq; exact Option.some.inj hq
    rw [hda, hdb] at he
    simp only [eqF] at he
    refine ⟨fun h1 => ?_, fun h1 => ⟨by simp only [fits]; omega, ?_⟩⟩
    · have h2 : alkB r q = false := by simpa using h1
      rw [he, h2]; rfl
    · have h2 : alkB r q = true := by simpa using h1
      rw [h2, Bool.true_and] at he
      exact qj (ih ⟨i + 1, hl, he⟩ (by dsimp only; omega)) ⟨rfl, rfl, rfl, rfl, by simp [get], trivial⟩ trivial rfl rfl
  · have hl : ¬ i < a.length := by simpa using hge
    rw [List.drop_eq_nil_of_le (by omega), List.drop_eq_nil_of_le (by omega)] at he
    rw [he]; rfl
theorem sp_alike {a b : List Rc} (ha : ∀ r ∈ a, fits .i64 (r.y + r.h)) (hl : a.length ≤ 4611686018427387904) : TSp 68 [.ls 4 (rcs a), .ls 4 (rcs b)] (.bool (decide (0 < (a.length : Int)) && eqF a b)) := by
  refine spo_band_alike (by rfl) ?_
  dsimp only [c_band_alike, xw, jo,jK,jT,jr,jI,jM,jq,jJ,jL,iteR,regK,ji,jc,jl,jk,jb,jj,blkK,kr,kh,jd,ja,jy,fpOk,foot,kp,allN,memN,jN,jm,js,jw,jv,jt,ju,jg,jh,jf,je,newN,jx,jS,jU,j2,jO,jP,jQ,jz,jA,jE,jB,jC,jn,jD,jF,jG,j7,evX,evL,evB,rd,get,subG,memG,jW,jY,hyps,gob,impP,allP,j6,j1,j4,ko,nth,ke,km,jX,lenB,kj,jV,entN,setE,jZ,addE,setL,setN,putE,env0,eqCs,j9,eqC,bA,bO,bN,bE,negB,kEq,ki,j8,lend,frz,frzL,zRow,kg,kd,closed,jH,j0,binI,remP,remI,retK,retG,kq,retD,kn,resL,resD,oneD,renD,renL,renE,j3,rho,jR,j5,List.append,List.nil_append,List.cons_append,List.append_nil,cond,Nat.reduceBEq,Nat.reduceAdd,Nat.beq]
  refine kt (fun _ => sp_EqualFunc ha hl) ?_
  dsimp only [c_band_alike, xw, jo,jK,jT,jr,jI,jM,jq,jJ,jL,iteR,regK,ji,jc,jl,jk,jb,jj,blkK,kr,kh,jd,ja,jy,fpOk,foot,kp,allN,memN,jN,jm,js,jw,jv,jt,ju,jg,jh,jf,je,newN,jx,jS,jU,j2,jO,jP,jQ,jz,jA,jE,jB,jC,jn,jD,jF,jG,j7,evX,evL,evB,rd,get,subG,memG,jW,jY,hyps,gob,impP,allP,j6,j1,j4,ko,nth,ke,km,jX,lenB,kj,jV,entN,setE,jZ,addE,setL,setN,putE,env0,eqCs,j9,eqC,bA,bO,bN,bE,negB,kEq,ki,j8,lend,frz,frzL,zRow,kg,kd,closed,jH,j0,binI,remP,remI,retK,retG,kq,retD,kn,resL,resD,oneD,renD,renL,renE,j3,rho,jR,j5,List.append,List.nil_append,List.cons_append,List.append_nil,cond,Nat.reduceBEq,Nat.reduceAdd,Nat.beq]
  rw [ky]
theorem yi : Tryz.prog.underlying 40 = some (.slice 45) := by kernel_rfl
theorem szRect : szOf Tryz.prog 45 = some 4 := by kernel_rfl
theorem sp_Clip {l : List D} : TSp 69 [.ls 4 l] (.ls 4 l) := by
  refine vl (by rfl) ?_
  dsimp only [c_slices_Clip_api_Rect_api_Rect, qk, jo,jK,jT,jr,jI,jM,jq,jJ,jL,iteR,regK,ji,jc,jl,jk,jb,jj,blkK,kr,kh,jd,ja,jy,fpOk,foot,kp,allN,memN,jN,jm,js,jw,jv,jt,ju,jg,jh,jf,je,newN,jx,jS,jU,j2,jO,jP,jQ,jz,jA,jE,jB,jC,jn,jD,jF,jG,j7,evX,evL,evB,rd,get,subG,memG,jW,jY,hyps,gob,impP,allP,j6,j1,j4,ko,nth,ke,km,jX,lenB,kj,jV,entN,setE,jZ,addE,setL,setN,putE,env0,eqCs,j9,eqC,bA,bO,bN,bE,negB,kEq,ki,j8,lend,frz,frzL,zRow,kg,kd,closed,jH,j0,binI,remP,remI,retK,retG,kq,retD,kn,resL,resD,oneD,renD,renL,renE,j3,rho,jR,j5,List.append,List.nil_append,List.cons_append,List.append_nil,cond,Nat.reduceBEq,Nat.reduceAdd,Nat.beq]
  refine prm_look _ (pr_clp yi szRect rfl) ?_
  dsimp only [c_slices_Clip_api_Rect_api_Rect, qk, jo,jK,jT,jr,jI,jM,jq,jJ,jL,iteR,regK,ji,jc,jl,jk,jb,jj,blkK,kr,kh,jd,ja,jy,fpOk,foot,kp,allN,memN,jN,jm,js,jw,jv,jt,ju,jg,jh,jf,je,newN,jx,jS,jU,j2,jO,jP,jQ,jz,jA,jE,jB,jC,jn,jD,jF,jG,j7,evX,evL,evB,rd,get,subG,memG,jW,jY,hyps,gob,impP,allP,j6,j1,j4,ko,nth,ke,km,jX,lenB,kj,jV,entN,setE,jZ,addE,setL,setN,putE,env0,eqCs,j9,eqC,bA,bO,bN,bE,negB,kEq,ki,j8,lend,frz,frzL,zRow,kg,kd,closed,jH,j0,binI,remP,remI,retK,retG,kq,retD,kn,resL,resD,oneD,renD,renL,renE,j3,rho,jR,j5,List.append,List.nil_append,List.cons_append,List.append_nil,cond,Nat.reduceBEq,Nat.reduceAdd,Nat.beq]
theorem sp_Clone {l : List D} (hl : l.length ≤ 4294967296) : TSp 138 [.ls 4 l] (.ls 4 l) := by
  refine z6 (by rfl) ?_
  dsimp only [c_slices_Clone_api_Rect_api_Rect, kG, jo,jK,jT,jr,jI,jM,jq,jJ,jL,iteR,regK,ji,jc,jl,jk,jb,jj,blkK,kr,kh,jd,ja,jy,fpOk,foot,kp,allN,memN,jN,jm,js,jw,jv,jt,ju,jg,jh,jf,je,newN,jx,jS,jU,j2,jO,jP,jQ,jz,jA,jE,jB,jC,jn,jD,jF,jG,j7,evX,evL,evB,rd,get,subG,memG,jW,jY,hyps,gob,impP,allP,j6,j1,j4,ko,nth,ke,km,jX,lenB,kj,jV,entN,setE,jZ,addE,setL,setN,putE,env0,eqCs,j9,eqC,bA,bO,bN,bE,negB,kEq,ki,j8,lend,frz,frzL,zRow,kg,kd,closed,jH,j0,binI,remP,remI,retK,retG,kq,retD,kn,resL,resD,oneD,renD,renL,renE,j3,rho,jR,j5,List.append,List.nil_append,List.cons_append,List.append_nil,cond,Nat.reduceBEq,Nat.reduceAdd,Nat.beq]
  refine prm_all _ (pr_eqn yi false) ?_
  rintro d bx' ⟨rfl, b, rfl, hb⟩
  dsimp only [c_slices_Clone_api_Rect_api_Rect, kG, jo,jK,jT,jr,jI,jM,jq,jJ,jL,iteR,regK,ji,jc,jl,jk,jb,jj,blkK,kr,kh,jd,ja,jy,fpOk,foot,kp,allN,memN,jN,jm,js,jw,jv,jt,ju,jg,jh,jf,je,newN,jx,jS,jU,j2,jO,jP,jQ,jz,jA,jE,jB,jC,jn,jD,jF,jG,j7,evX,evL,evB,rd,get,subG,memG,jW,jY,hyps,gob,impP,allP,j6,j1,j4,ko,nth,ke,km,jX,lenB,kj,jV,entN,setE,jZ,addE,setL,setN,putE,env0,eqCs,j9,eqC,bA,bO,bN,bE,negB,kEq,ki,j8,lend,frz,frzL,zRow,kg,kd,closed,jH,j0,binI,remP,remI,retK,retG,kq,retD,kn,resL,resD,oneD,renD,renL,renE,j3,rho,jR,j5,List.append,List.nil_append,List.cons_append,List.append_nil,cond,Nat.reduceBEq,Nat.reduceAdd,Nat.beq]
  refine ⟨fun h => ?_, fun h => ?_⟩
  · have : l = [] := hb (by simpa using h)
    subst this
    exact ⟨rfl, rfl⟩
  · refine ⟨⟨rfl, rfl, rfl, rfl, ?_, ?_⟩, rfl, rfl⟩ <;> simp only [List.length_nil] <;> omega
theorem sp_Equal {a b : List Rc} (hl : a.length ≤ 4611686018427387904) : TSp 81 [.ls 4 (rcs a), .ls 4 (rcs b)] (.bool (decide (a = b))) := by
  refine z2 (by rfl) ?_
  dsimp only [c_slices_Equal_api_Rect_api_Rect, kO, jo,jK,jT,jr,jI,jM,jq,jJ,jL,iteR,regK,ji,jc,jl,jk,jb,jj,blkK,kr,kh,jd,ja,jy,fpOk,foot,kp,allN,memN,jN,jm,js,jw,jv,jt,ju,jg,jh,jf,je,newN,jx,jS,jU,j2,jO,jP,jQ,jz,jA,jE,jB,jC,jn,jD,jF,jG,j7,evX,evL,evB,rd,get,subG,memG,jW,jY,hyps,gob,impP,allP,j6,j1,j4,ko,nth,ke,km,jX,lenB,kj,jV,entN,setE,jZ,addE,setL,setN,putE,env0,eqCs,j9,eqC,bA,bO,bN,bE,negB,kEq,ki,j8,lend,frz,frzL,zRow,kg,kd,closed,jH,j0,binI,remP,remI,retK,retG,kq,retD,kn,resL,resD,oneD,renD,renL,renE,j3,rho,jR,j5,List.append,List.nil_append,List.cons_append,List.append_nil,cond,Nat.reduceBEq,Nat.reduceAdd,Nat.beq]
  rw [ky, ky]
  refine ⟨fun h => ?_, fun h => ?_⟩
  · have : ¬ a = b := by rintro rfl; simp at h
    rw [decide_eq_false this]
  have hlen : a.length = b.length := by simp at h; omega
  refine kE (α := {i : Nat // i ≤ a.length ∧ (a = b ↔ a.drop i = b.drop i)}) (fun i => ⟨[(0, [], .ls 4 (rcs a)), (1, [], .ls 4 (rcs b)), (12, [], .int .i64 a.length), (13, [], .int .i64 i.1)], []⟩)
    (fun i => a.length - i.1) ?_ ⟨0, by simp⟩ rfl
  rintro ⟨i, hi, he⟩ I ih
  dsimp only [c_slices_Equal_api_Rect_api_Rect, kO, jo,jK,jT,jr,jI,jM,jq,jJ,jL,iteR,regK,ji,jc,jl,jk,jb,jj,blkK,kr,kh,jd,ja,jy,fpOk,foot,kp,allN,memN,jN,jm,js,jw,jv,jt,ju,jg,jh,jf,je,newN,jx,jS,jU,j2,jO,jP,jQ,jz,jA,jE,jB,jC,jn,jD,jF,jG,j7,evX,evL,evB,rd,get,subG,memG,jW,jY,hyps,gob,impP,allP,j6,j1,j4,ko,nth,ke,km,jX,lenB,kj,jV,entN,setE,jZ,addE,setL,setN,putE,env0,eqCs,j9,eqC,bA,bO,bN,bE,negB,kEq,ki,j8,lend,frz,frzL,zRow,kg,kd,closed,jH,j0,binI,remP,remI,retK,retG,kq,retD,kn,resL,resD,oneD,renD,renL,renE,j3,rho,jR,j5,List.append,List.nil_append,List.cons_append,List.append_nil,cond,Nat.reduceBEq,Nat.reduceAdd,Nat.beq]
  refine ⟨fun hlt => ?_, fun hge => ?_⟩
  · have hl : i < a.length := by simpa using hlt
    obtain ⟨r, hr⟩ : ∃ r, a[i]? = some r := ⟨_, List.getElem?_eq_getElem hl⟩
    obtain ⟨q, hq⟩ : ∃ q, b[i]? = some q := ⟨_, List.getElem?_eq_getElem (by omega)⟩
    refine ⟨⟨rfl, by omega, by rw [ky]; omega⟩, kA (rD r) (rD r) (qv (by simpa using hr)) rfl ?_⟩
    dsimp only [c_slices_Equal_api_Rect_api_Rect, kO, rD, jo,jK,jT,jr,jI,jM,jq,jJ,jL,iteR,regK,ji,jc,jl,jk,jb,jj,blkK,kr,kh,jd,ja,jy,fpOk,foot,kp,allN,memN,jN,jm,js,jw,jv,jt,ju,jg,jh,jf,je,newN,jx,jS,jU,j2,jO,jP,jQ,jz,jA,jE,jB,jC,jn,jD,jF,jG,j7,evX,evL,evB,rd,get,subG,memG,jW,jY,hyps,gob,impP,allP,j6,j1,j4,ko,nth,ke,km,jX,lenB,kj,jV,entN,setE,jZ,addE,setL,setN,putE,env0,eqCs,j9,eqC,bA,bO,bN,bE,negB,kEq,ki,j8,lend,frz,frzL,zRow,kg,kd,closed,jH,j0,binI,remP,remI,retK,retG,kq,retD,kn,resL,resD,oneD,renD,renL,renE,j3,rho,jR,j5,List.append,List.nil_append,List.cons_append,List.append_nil,cond,Nat.reduceBEq,Nat.reduceAdd,Nat.beq]
    refine ⟨⟨rfl, by omega, by rw [ky]; omega⟩, kA (rD q) (rD q) (qv (by simpa using hq)) rfl ?_⟩
    dsimp only [c_slices_Equal_api_Rect_api_Rect, kO, rD, jo,jK,jT,jr,jI,jM,jq,jJ,jL,iteR,regK,ji,jc,jl,jk,jb,jj,blkK,kr,kh,jd,ja,jy,fpOk,foot,kp,allN,memN,jN,jm,js,jw,jv,jt,ju,jg,jh,jf,je,newN,jx,jS,jU,j2,jO,jP,jQ,jz,jA,jE,jB,jC,jn,jD,jF,jG,j7,evX,evL,evB,rd,get,subG,memG,jW,jY,hyps,gob,impP,allP,j6,j1,j4,ko,nth,ke,km,jX,lenB,kj,jV,entN,setE,jZ,addE,setL,setN,putE,env0,eqCs,j9,eqC,bA,bO,bN,bE,negB,kEq,ki,j8,lend,frz,frzL,zRow,kg,kd,closed,jH,j0,binI,remP,remI,retK,retG,kq,retD,kn,resL,resD,oneD,renD,renL,renE,j3,rho,jR,j5,List.append,List.nil_append,List.cons_append,List.append_nil,cond,Nat.reduceBEq,Nat.reduceAdd,Nat.beq]
    have hda : a.drop i = r :: a.drop (i + 1) := by
      rw [List.drop_eq_getElem_cons hl]; congr 1; rw [List.getElem?_eq_getElem hl] at hr; exact Option.some.inj hr
    have hdb : b.drop i = q :: b.drop (i + 1) := by
      rw [List.drop_eq_getElem_cons (by omega)]; congr 1; rw [List.getElem?_eq_getElem (by omega)] at hq; exact Option.some.inj hq
    rw [hda, hdb, List.cons.injEq] at he
    have hrq : (decide (r.x = q.x) && (decide (r.y = q.y) && (decide (r.w = q.w) && decide (r.h = q.h)))) = r.eq q := rfl
    rw [hrq]
    refine ⟨fun h1 => ?_, fun h1 => ⟨by simp only [fits]; omega, ?_⟩⟩
    · have h2 : ¬ r = q := by rw [← Rc.eq_iff]; simpa using h1
      rw [decide_eq_false (fun h3 => h2 (he.1 h3).1)]
    · have h2 : r = q := by rw [← Rc.eq_iff]; simpa using h1
      exact qj (ih ⟨i + 1, hl, he.trans ⟨fun h => h.2, fun h => ⟨h2, h⟩⟩⟩ (by dsimp only; omega)) ⟨rfl, rfl, rfl, by simp [get], trivial⟩ trivial rfl rfl
  · have hl : ¬ i < a.length := by simpa using hge
    rw [List.drop_eq_nil_of_le (by omega), List.drop_eq_nil_of_le (by omega)] at he
    rw [decide_eq_true (he.2 rfl)]
/-! ### Rectangles that end are deleted -/
def qA (y : Int) (r : Rc) : Bool := decide (r.y + r.h ≤ y)
def idxF (y : Int) : List Rc → Int → Int
  | [], _ => -1
  | r :: l, i => if qA y r then i else idxF y l (i + 1)
theorem sm_IndexFunc {l : List Rc} {ver : Nat} {y : Int} (hin : ∀ r ∈ l, Vr r) (hl : l.length ≤ 4611686018427387904) :
    TSpM 127 [.own 0 ver, .fn 65 [.box 1 0]] [.arr 45 4 ver (rcs l), .cells [.int .i64 y]] (.int .i64 (idxF y l 0)) [.arr 45 4 ver (rcs l), .cells [.int .i64 y]] := by
  refine zB (by rfl) ?_
  dsimp only [c_slices_IndexFunc_api_Rect_api_Rect, kL, jo,jK,jT,jr,jI,jM,jq,jJ,jL,iteR,regK,ji,jc,jl,jk,jb,jj,blkK,kr,kh,jd,ja,jy,fpOk,foot,kp,allN,memN,jN,jm,js,jw,jv,jt,ju,jg,jh,jf,je,newN,jx,jS,jU,j2,jO,jP,jQ,jz,jA,jE,jB,jC,jn,jD,jF,jG,j7,evX,evL,evB,rd,get,subG,memG,jW,jY,hyps,gob,impP,allP,j6,j1,j4,ko,nth,ke,km,jX,lenB,kj,jV,entN,setE,jZ,addE,setL,setN,putE,env0,eqCs,j9,eqC,bA,bO,bN,bE,negB,kEq,ki,j8,lend,frz,frzL,zRow,kg,kd,closed,jH,j0,binI,remP,remI,retK,retG,kq,retD,kn,resL,resD,oneD,renD,renL,renE,j3,rho,jR,j5,List.append,List.nil_append,List.cons_append,List.append_nil,cond,Nat.reduceBEq,Nat.reduceAdd,Nat.beq]
  refine ⟨rfl, ?_⟩
  refine kE (α := {i : Nat // i ≤ l.length ∧ idxF y l 0 = idxF y (l.drop i) i}) (fun i => ⟨[(0, [], .own 0 ver), (1, [], .fn 65 [.box 1 0]), (7, [], .int .i64 (rcs l).length), (8, [], .int .i64 i.1)], [.arr 45 4 ver (rcs l), .cells [.int .i64 y]]⟩)
    (fun i => l.length - i.1) ?_ ⟨0, by simp⟩ rfl
  rintro ⟨i, hi, he⟩ I ih
  dsimp only [c_slices_IndexFunc_api_Rect_api_Rect, kL, jo,jK,jT,jr,jI,jM,jq,jJ,jL,iteR,regK,ji,jc,jl,jk,jb,jj,blkK,kr,kh,jd,ja,jy,fpOk,foot,kp,allN,memN,jN,jm,js,jw,jv,jt,ju,jg,jh,jf,je,newN,jx,jS,jU,j2,jO,jP,jQ,jz,jA,jE,jB,jC,jn,jD,jF,jG,j7,evX,evL,evB,rd,get,subG,memG,jW,jY,hyps,gob,impP,allP,j6,j1,j4,ko,nth,ke,km,jX,lenB,kj,jV,entN,setE,jZ,addE,setL,setN,putE,env0,eqCs,j9,eqC,bA,bO,bN,bE,negB,kEq,ki,j8,lend,frz,frzL,zRow,kg,kd,closed,jH,j0,binI,remP,remI,retK,retG,kq,retD,kn,resL,resD,oneD,renD,renL,renE,j3,rho,jR,j5,List.append,List.nil_append,List.cons_append,List.append_nil,cond,Nat.reduceBEq,Nat.reduceAdd,Nat.beq]
  rw [ky]
  refine ⟨fun hlt => ?_, fun hge => ?_⟩
  · have hl : i < l.length := by simpa using hlt
    obtain ⟨r, hr⟩ : ∃ r, l[i]? = some r := ⟨_, List.getElem?_eq_getElem hl⟩
    have hV := hin r (List.mem_of_getElem? hr)
    simp only [Vr] at hV
    refine ⟨⟨rfl, rfl, by omega, by omega⟩, ⟨rfl, rfl⟩, kA (rD r) (rD r) (qv (by simpa using hr)) rfl ?_⟩
    dsimp only [c_slices_IndexFunc_api_Rect_api_Rect, kL, rD, jo,jK,jT,jr,jI,jM,jq,jJ,jL,iteR,regK,ji,jc,jl,jk,jb,jj,blkK,kr,kh,jd,ja,jy,fpOk,foot,kp,allN,memN,jN,jm,js,jw,jv,jt,ju,jg,jh,jf,je,newN,jx,jS,jU,j2,jO,jP,jQ,jz,jA,jE,jB,jC,jn,jD,jF,jG,j7,evX,evL,evB,rd,get,subG,memG,jW,jY,hyps,gob,impP,allP,j6,j1,j4,ko,nth,ke,km,jX,lenB,kj,jV,entN,setE,jZ,addE,setL,setN,putE,env0,eqCs,j9,eqC,bA,bO,bN,bE,negB,kEq,ki,j8,lend,frz,frzL,zRow,kg,kd,closed,jH,j0,binI,remP,remI,retK,retG,kq,retD,kn,resL,resD,oneD,renD,renL,renE,j3,rho,jR,j5,List.append,List.nil_append,List.cons_append,List.append_nil,cond,Nat.reduceBEq,Nat.reduceAdd,Nat.beq]
    refine qF [1] (sm_band_Of_2 (r := r) (y := y) (by simp only [fits]; omega)) rfl rfl rfl ?_
    dsimp only [c_slices_IndexFunc_api_Rect_api_Rect, kL, jo,jK,jT,jr,jI,jM,jq,jJ,jL,iteR,regK,ji,jc,jl,jk,jb,jj,blkK,kr,kh,jd,ja,jy,fpOk,foot,kp,allN,memN,jN,jm,js,jw,jv,jt,ju,jg,jh,jf,je,newN,jx,jS,jU,j2,jO,jP,jQ,jz,jA,jE,jB,jC,jn,jD,jF,jG,j7,evX,evL,evB,rd,get,subG,memG,jW,jY,hyps,gob,impP,allP,j6,j1,j4,ko,nth,ke,km,jX,lenB,kj,jV,entN,setE,jZ,addE,setL,setN,putE,env0,eqCs,j9,eqC,bA,bO,bN,bE,negB,kEq,ki,j8,lend,frz,frzL,zRow,kg,kd,closed,jH,j0,binI,remP,remI,retK,retG,kq,retD,kn,resL,resD,oneD,renD,renL,renE,j3,rho,jR,j5,List.append,List.nil_append,List.cons_append,List.append_nil,cond,Nat.reduceBEq,Nat.reduceAdd,Nat.beq]
    have hda : l.drop i = r :: l.drop (i + 1) := by
      rw [List.drop_eq_getElem_cons hl]; congr 1; rw [List.getElem?_eq_getElem hl] at hr; exact Option.some.inj hr
    rw [hda] at he
    simp only [idxF] at he
    refine ⟨fun h1 => ?_, fun h1 => ⟨by simp only [fits]; omega, ?_⟩⟩
    · rw [show qA y r = true from h1] at he
      rw [he]
      exact Rt.cut (Nat.le_refl _) ⟨rfl, rfl, trivial⟩ rfl rfl
    · rw [show qA y r = false from h1] at he
      exact qj (ih ⟨i + 1, hl, by simpa using he⟩ (by dsimp only; omega)) ⟨rfl, rfl, by rw [ky]; rfl, by simp [get], trivial⟩ ⟨rfl, rfl, trivial⟩ rfl rfl
  · have hl : ¬ i < l.length := by simpa using hge
    rw [List.drop_eq_nil_of_le (by omega)] at he
    rw [he]
    exact Rt.cut (Nat.le_refl _) ⟨rfl, rfl, trivial⟩ rfl rfl
end Go.AM

