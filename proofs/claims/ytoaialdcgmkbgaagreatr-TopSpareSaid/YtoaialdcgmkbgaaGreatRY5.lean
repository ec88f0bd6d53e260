import Derived.Test.YtoaialdcgmkbgaaGreatRY4

set_option linter.all false
namespace Go.AM
open Go Go.Proofs
theorem agRect : aggN Tryz.prog 45 = some (some 4) := by kernel_rfl
theorem zoRect : xj Tryz.prog 45 = some [.int .i64 0, .int .i64 0, .int .i64 0, .int .i64 0] := by kernel_rfl
theorem idxF_spec {y : Int} : ∀ {l : List Rc} {i : Int}, (idxF y l i = -1 ∧ (∀ r ∈ l, qA y r = false)) ∨ ∃ k : Nat, idxF y l i = i + k ∧ k < l.length ∧ (∀ r ∈ l.take k, qA y r = false) ∧ (∃ r, l[k]? = some r ∧ qA y r = true)
  | [], i => .inl ⟨rfl, nofun⟩
  | r :: l, i => by
    simp only [idxF]
    cases h : qA y r with
    | true => exact .inr ⟨0, by simp, by simp, by simp, r, rfl, h⟩
    | false =>
      simp only [Bool.false_eq_true, if_false]
      rcases idxF_spec (y := y) (l := l) (i := i + 1) with ⟨h1, h2⟩ | ⟨k, h1, h2, h3, h4⟩
      · exact .inl ⟨h1, fun q hq => by rcases List.mem_cons.1 hq with rfl | hq; exact h; exact h2 q hq⟩
      · refine .inr ⟨k + 1, by rw [h1]; omega, by simpa using h2, fun q hq => ?_, by simpa using h4⟩
        rw [List.take_succ_cons] at hq
        rcases List.mem_cons.1 hq with rfl | hq
        · exact h
        · exact h3 q hq
def vB (y : Int) (l : List Rc) : List Rc := l.filter fun r => !qA y r
theorem keepF_all {y : Int} {l : List Rc} (h : ∀ r ∈ l, qA y r = false) : vB y l = l := List.filter_eq_self.2 fun r hr => by rw [h r hr]; rfl
theorem rcs_set (l : List Rc) (i : Nat) (r : Rc) : (rcs l).set i (rD r) = rcs (l.set i r) := by simp [rcs, List.map_set]
theorem rcs_take (l : List Rc) (i : Nat) : (rcs l).take i = rcs (l.take i) := by simp [rcs]
def delV (y : Int) (l : List Rc) (ver : Nat) : Nat := if l.any (qA y) then ver + 1 else ver
theorem sm_DeleteFunc {l : List Rc} {ver : Nat} {y : Int} (hin : ∀ r ∈ l, Vr r) (hl : l.length ≤ 4611686018427387904) :
    TSpM 64 [.own 0 ver, .fn 65 [.box 1 0]] [.arr 45 4 ver (rcs l), .cells [.int .i64 y]] (.own 0 (delV y l ver)) [.arr 45 4 (delV y l ver) (rcs (vB y l)), .cells [.int .i64 y]] := by
  refine zz (by rfl) ?_
  dsimp only [c_slices_DeleteFunc_api_Rect_api_Rect, kw, jo,jK,jT,jr,jI,jM,jq,jJ,jL,iteR,regK,ji,jc,jl,jk,jb,jj,blkK,kr,kh,jd,ja,jy,fpOk,foot,kp,allN,memN,jN,jm,js,jw,jv,jt,ju,jg,jh,jf,je,newN,jx,jS,jU,j2,jO,jP,jQ,jz,jA,jE,jB,jC,jn,jD,jF,jG,j7,evX,evL,evB,rd,get,subG,memG,jW,jY,hyps,gob,impP,allP,j6,j1,j4,ko,nth,ke,km,jX,lenB,kj,jV,entN,setE,jZ,addE,setL,setN,putE,env0,eqCs,j9,eqC,bA,bO,bN,bE,negB,kEq,ki,j8,lend,frz,frzL,zRow,kg,kd,closed,jH,j0,binI,remP,remI,retK,retG,kq,retD,kn,resL,resD,oneD,renD,renL,renE,j3,rho,jR,j5,List.append,List.nil_append,List.cons_append,List.append_nil,cond,Nat.reduceBEq,Nat.reduceAdd,Nat.beq]
  refine qF [0, 1] (sm_IndexFunc (y := y) hin hl) rfl rfl rfl ?_
  dsimp only [c_slices_DeleteFunc_api_Rect_api_Rect, kw, jo,jK,jT,jr,jI,jM,jq,jJ,jL,iteR,regK,ji,jc,jl,jk,jb,jj,blkK,kr,kh,jd,ja,jy,fpOk,foot,kp,allN,memN,jN,jm,js,jw,jv,jt,ju,jg,jh,jf,je,newN,jx,jS,jU,j2,jO,jP,jQ,jz,jA,jE,jB,jC,jn,jD,jF,jG,j7,evX,evL,evB,rd,get,subG,memG,jW,jY,hyps,gob,impP,allP,j6,j1,j4,ko,nth,ke,km,jX,lenB,kj,jV,entN,setE,jZ,addE,setL,setN,putE,env0,eqCs,j9,eqC,bA,bO,bN,bE,negB,kEq,ki,j8,lend,frz,frzL,zRow,kg,kd,closed,jH,j0,binI,remP,remI,retK,retG,kq,retD,kn,resL,resD,oneD,renD,renL,renE,j3,rho,jR,j5,List.append,List.nil_append,List.cons_append,List.append_nil,cond,Nat.reduceBEq,Nat.reduceAdd,Nat.beq]
  rcases idxF_spec (y := y) (l := l) (i := 0) with ⟨h1, h2⟩ | ⟨k, h1, h2, h3, r0, h4, h5⟩
  · have hany : l.any (qA y) = false := by rw [List.any_eq_false]; intro r hr; rw [h2 r hr]; simp
    rw [h1, keepF_all h2, delV, hany]
    refine ⟨fun _ => ?_, fun h => by simp at h⟩
    exact Rt.cut (Nat.le_refl _) ⟨rfl, rfl, trivial⟩ rfl rfl
  have hany : l.any (qA y) = true := List.any_eq_true.2 ⟨r0, List.mem_of_getElem? h4, h5⟩
  rw [h1, delV, hany]
  simp only [Int.zero_add, if_true]
  refine ⟨fun h => by simp only [decide_eq_true_eq] at h; omega, fun _ => ⟨by simp only [fits]; omega, ?_⟩⟩
  refine kE (α := {p : (Nat × Nat) × List Rc // (p.1.1 < p.1.2 ∧ p.1.2 ≤ l.length) ∧ p.2.length = l.length ∧ p.2.take p.1.1 = vB y (l.take p.1.2) ∧ p.2.drop p.1.2 = l.drop p.1.2 ∧ ∀ r ∈ p.2, Vr r})
    (fun p => ⟨[(0, [], .own 0 ver), (1, [], .fn 65 [.box 1 0]), (5, [], .int .i64 p.1.1.1), (6, [], .int .i64 p.1.1.2)], [.arr 45 4 ver (rcs p.1.2), .cells [.int .i64 y], .arr 45 4 0 []]⟩)
    (fun p => l.length - p.1.1.2) ?_ ⟨((k, k + 1), l), ⟨Nat.lt_succ_self k, h2⟩, rfl, ?_, rfl, hin⟩ (by simp)
  · rintro ⟨⟨⟨i, j⟩, cur⟩, ⟨hij, hj⟩, hcl, htk, hdr, hcin⟩ I ih
    dsimp only at hij hj hcl htk hdr hcin ⊢
    dsimp only [c_slices_DeleteFunc_api_Rect_api_Rect, kw, jo,jK,jT,jr,jI,jM,jq,jJ,jL,iteR,regK,ji,jc,jl,jk,jb,jj,blkK,kr,kh,jd,ja,jy,fpOk,foot,kp,allN,memN,jN,jm,js,jw,jv,jt,ju,jg,jh,jf,je,newN,jx,jS,jU,j2,jO,jP,jQ,jz,jA,jE,jB,jC,jn,jD,jF,jG,j7,evX,evL,evB,rd,get,subG,memG,jW,jY,hyps,gob,impP,allP,j6,j1,j4,ko,nth,ke,km,jX,lenB,kj,jV,entN,setE,jZ,addE,setL,setN,putE,env0,eqCs,j9,eqC,bA,bO,bN,bE,negB,kEq,ki,j8,lend,frz,frzL,zRow,kg,kd,closed,jH,j0,binI,remP,remI,retK,retG,kq,retD,kn,resL,resD,oneD,renD,renL,renE,j3,rho,jR,j5,List.append,List.nil_append,List.cons_append,List.append_nil,cond,Nat.reduceBEq,Nat.reduceAdd,Nat.beq]
    rw [ky]
    refine ⟨rfl, fun hlt => ?_, fun hge => ?_⟩
    · have hjl : j < cur.length := by simpa using hlt
      obtain ⟨r, hr⟩ : ∃ r, cur[j]? = some r := ⟨_, List.getElem?_eq_getElem hjl⟩
      have hrl : l[j]? = some r := by rw [← List.head?_drop, ← hdr, List.head?_drop]; exact hr
      have hV := hcin r (List.mem_of_getElem? hr)
      have hV' := hV
      simp only [Vr] at hV'
      refine ⟨⟨rfl, rfl, by omega, by omega⟩, ⟨rfl, rfl⟩, kA (rD r) (rD r) (qv (by simpa using hr)) rfl ?_⟩
      dsimp only [c_slices_DeleteFunc_api_Rect_api_Rect, kw, rD, jo,jK,jT,jr,jI,jM,jq,jJ,jL,iteR,regK,ji,jc,jl,jk,jb,jj,blkK,kr,kh,jd,ja,jy,fpOk,foot,kp,allN,memN,jN,jm,js,jw,jv,jt,ju,jg,jh,jf,je,newN,jx,jS,jU,j2,jO,jP,jQ,jz,jA,jE,jB,jC,jn,jD,jF,jG,j7,evX,evL,evB,rd,get,subG,memG,jW,jY,hyps,gob,impP,allP,j6,j1,j4,ko,nth,ke,km,jX,lenB,kj,jV,entN,setE,jZ,addE,setL,setN,putE,env0,eqCs,j9,eqC,bA,bO,bN,bE,negB,kEq,ki,j8,lend,frz,frzL,zRow,kg,kd,closed,jH,j0,binI,remP,remI,retK,retG,kq,retD,kn,resL,resD,oneD,renD,renL,renE,j3,rho,jR,j5,List.append,List.nil_append,List.cons_append,List.append_nil,cond,Nat.reduceBEq,Nat.reduceAdd,Nat.beq]
      refine qF [1] (sm_band_Of_2 (r := r) (y := y) (by simp only [fits]; omega)) rfl rfl rfl ?_
      dsimp only [c_slices_DeleteFunc_api_Rect_api_Rect, kw, jo,jK,jT,jr,jI,jM,jq,jJ,jL,iteR,regK,ji,jc,jl,jk,jb,jj,blkK,kr,kh,jd,ja,jy,fpOk,foot,kp,allN,memN,jN,jm,js,jw,jv,jt,ju,jg,jh,jf,je,newN,jx,jS,jU,j2,jO,jP,jQ,jz,jA,jE,jB,jC,jn,jD,jF,jG,j7,evX,evL,evB,rd,get,subG,memG,jW,jY,hyps,gob,impP,allP,j6,j1,j4,ko,nth,ke,km,jX,lenB,kj,jV,entN,setE,jZ,addE,setL,setN,putE,env0,eqCs,j9,eqC,bA,bO,bN,bE,negB,kEq,ki,j8,lend,frz,frzL,zRow,kg,kd,closed,jH,j0,binI,remP,remI,retK,retG,kq,retD,kn,resL,resD,oneD,renD,renL,renE,j3,rho,jR,j5,List.append,List.nil_append,List.cons_append,List.append_nil,cond,Nat.reduceBEq,Nat.reduceAdd,Nat.beq]
      rw [ky]
      have htj : l.take (j + 1) = l.take j ++ [r] := by
        rw [List.take_add_one, hrl]; rfl
      have hkj : vB y (l.take (j + 1)) = if qA y r then vB y (l.take j) else vB y (l.take j) ++ [r] := by
        rw [htj]; unfold vB; rw [List.filter_append]
        cases h : qA y r <;> simp [h]
      have hd1 : cur.drop (j + 1) = l.drop (j + 1) := by rw [← List.drop_drop, hdr, List.drop_drop]
      refine ⟨fun hb => ?_, fun hb => ⟨by simp only [fits]; omega, ?_⟩⟩
      · have hp : qA y r = false := by simpa [qA] using hb
        rw [hp] at hkj
        simp only [Bool.false_eq_true, if_false] at hkj
        obtain ⟨r1, hr1⟩ : ∃ r1, cur[i]? = some r1 := ⟨_, List.getElem?_eq_getElem (by omega)⟩
        refine ⟨⟨rfl, rfl, by omega, by omega⟩, ⟨rfl, rfl⟩, qD (hs := []) (rD r1) (rD r) (qv (by simpa using hr1)) rfl ?_⟩
        dsimp only [c_slices_DeleteFunc_api_Rect_api_Rect, kw, jo,jK,jT,jr,jI,jM,jq,jJ,jL,iteR,regK,ji,jc,jl,jk,jb,jj,blkK,kr,kh,jd,ja,jy,fpOk,foot,kp,allN,memN,jN,jm,js,jw,jv,jt,ju,jg,jh,jf,je,newN,jx,jS,jU,j2,jO,jP,jQ,jz,jA,jE,jB,jC,jn,jD,jF,jG,j7,evX,evL,evB,rd,get,subG,memG,jW,jY,hyps,gob,impP,allP,j6,j1,j4,ko,nth,ke,km,jX,lenB,kj,jV,entN,setE,jZ,addE,setL,setN,putE,env0,eqCs,j9,eqC,bA,bO,bN,bE,negB,kEq,ki,j8,lend,frz,frzL,zRow,kg,kd,closed,jH,j0,binI,remP,remI,retK,retG,kq,retD,kn,resL,resD,oneD,renD,renL,renE,j3,rho,jR,j5,List.append,List.nil_append,List.cons_append,List.append_nil,cond,Nat.reduceBEq,Nat.reduceAdd,Nat.beq]
        refine ⟨by simp only [fits]; omega, by simp only [fits]; omega, ?_⟩
        rw [show (i : Int).toNat = i from by simp, rcs_set]
        refine qj (ih ⟨((i + 1, j + 1), cur.set i r), ⟨by dsimp only; omega, by dsimp only; omega⟩, by simpa using hcl, ?_, ?_, fun q hq => ?_⟩ (by dsimp only; omega)) ⟨rfl, rfl, by simp [get], by simp [get], trivial⟩ ⟨rfl, rfl, rfl, trivial⟩ rfl rfl
        · dsimp only
          rw [hkj, ← htk, List.take_add_one, List.getElem?_set_self (by omega), List.take_set_of_le (Nat.le_refl _)]; rfl
        · dsimp only
          rw [List.drop_set_of_lt (by omega)]; exact hd1
        · rcases List.mem_or_eq_of_mem_set hq with h | rfl
          · exact hcin q h
          · exact hV
      · have hp : qA y r = true := by simpa [qA] using hb
        rw [hp] at hkj
        simp only [if_true] at hkj
        exact qj (ih ⟨((i, j + 1), cur), ⟨by dsimp only; omega, by dsimp only; omega⟩, hcl, by dsimp only; rw [hkj]; exact htk, hd1, hcin⟩ (by dsimp only; omega)) ⟨rfl, rfl, rfl, by simp [get], trivial⟩ ⟨rfl, rfl, rfl, trivial⟩ rfl rfl
    · have hjl : j = l.length := by simp at hge; omega
      subst hjl
      refine prm_look _ (pr_subE yi szRect (ka := .i64) (a := (i : Int)) rfl (by omega) (by rw [ky]; omega)) ?_
      dsimp only [c_slices_DeleteFunc_api_Rect_api_Rect, kw, jo,jK,jT,jr,jI,jM,jq,jJ,jL,iteR,regK,ji,jc,jl,jk,jb,jj,blkK,kr,kh,jd,ja,jy,fpOk,foot,kp,allN,memN,jN,jm,js,jw,jv,jt,ju,jg,jh,jf,je,newN,jx,jS,jU,j2,jO,jP,jQ,jz,jA,jE,jB,jC,jn,jD,jF,jG,j7,evX,evL,evB,rd,get,subG,memG,jW,jY,hyps,gob,impP,allP,j6,j1,j4,ko,nth,ke,km,jX,lenB,kj,jV,entN,setE,jZ,addE,setL,setN,putE,env0,eqCs,j9,eqC,bA,bO,bN,bE,negB,kEq,ki,j8,lend,frz,frzL,zRow,kg,kd,closed,jH,j0,binI,remP,remI,retK,retG,kq,retD,kn,resL,resD,oneD,renD,renL,renE,j3,rho,jR,j5,List.append,List.nil_append,List.cons_append,List.append_nil,cond,Nat.reduceBEq,Nat.reduceAdd,Nat.beq]
      refine prm_eff _ _ (pr_clr yi agRect rfl zoRect rfl rfl (by omega) rfl (by rw [ky]; omega)) ?_
      dsimp only [c_slices_DeleteFunc_api_Rect_api_Rect, kw, jo,jK,jT,jr,jI,jM,jq,jJ,jL,iteR,regK,ji,jc,jl,jk,jb,jj,blkK,kr,kh,jd,ja,jy,fpOk,foot,kp,allN,memN,jN,jm,js,jw,jv,jt,ju,jg,jh,jf,je,newN,jx,jS,jU,j2,jO,jP,jQ,jz,jA,jE,jB,jC,jn,jD,jF,jG,j7,evX,evL,evB,rd,get,subG,memG,jW,jY,hyps,gob,impP,allP,j6,j1,j4,ko,nth,ke,km,jX,lenB,kj,jV,entN,setE,jZ,addE,setL,setN,putE,env0,eqCs,j9,eqC,bA,bO,bN,bE,negB,kEq,ki,j8,lend,frz,frzL,zRow,kg,kd,closed,jH,j0,binI,remP,remI,retK,retG,kq,retD,kn,resL,resD,oneD,renD,renL,renE,j3,rho,jR,j5,List.append,List.nil_append,List.cons_append,List.append_nil,cond,Nat.reduceBEq,Nat.reduceAdd,Nat.beq]
      refine prm_eff _ _ (pr_trc yi szRect (kb := .i64) (b := (i : Int)) rfl (by omega) (by simp [ky]; omega)) ?_
      dsimp only [c_slices_DeleteFunc_api_Rect_api_Rect, kw, jo,jK,jT,jr,jI,jM,jq,jJ,jL,iteR,regK,ji,jc,jl,jk,jb,jj,blkK,kr,kh,jd,ja,jy,fpOk,foot,kp,allN,memN,jN,jm,js,jw,jv,jt,ju,jg,jh,jf,je,newN,jx,jS,jU,j2,jO,jP,jQ,jz,jA,jE,jB,jC,jn,jD,jF,jG,j7,evX,evL,evB,rd,get,subG,memG,jW,jY,hyps,gob,impP,allP,j6,j1,j4,ko,nth,ke,km,jX,lenB,kj,jV,entN,setE,jZ,addE,setL,setN,putE,env0,eqCs,j9,eqC,bA,bO,bN,bE,negB,kEq,ki,j8,lend,frz,frzL,zRow,kg,kd,closed,jH,j0,binI,remP,remI,retK,retG,kq,retD,kn,resL,resD,oneD,renD,renL,renE,j3,rho,jR,j5,List.append,List.nil_append,List.cons_append,List.append_nil,cond,Nat.reduceBEq,Nat.reduceAdd,Nat.beq]
      have e1 : ((rcs cur).take (i : Int).toNat ++ List.replicate ((rcs cur).length - (i : Int).toNat) (D.agg [.int .i64 0, .int .i64 0, .int .i64 0, .int .i64 0])).take (i : Int).toNat = rcs (vB y l) := by
        rw [show (i : Int).toNat = i from by simp, List.take_append_of_le_length (by simp [ky]; omega), List.take_take, Nat.min_self, rcs_take, htk]
        simp
      rw [e1]
      exact Rt.cut (Nat.le_refl _) ⟨rfl, rfl, trivial⟩ rfl rfl
  · dsimp only
    rw [List.take_add_one, h4]
    unfold vB
    rw [List.filter_append, List.filter_eq_self.2 (fun r hr => by rw [h3 r hr]; rfl)]
    simp [h5]
end Go.AM

