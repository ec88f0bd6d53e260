
/- Shapes: grown, their edge, flipped. -/
import Derived.Test.YtoaialdcgmkbgaaDoorQ5
set_option linter.all false
namespace Go.AM
open Go Go.Proofs

theorem minX_lo {lo : Int} : ∀ {l : List Rc} {a : Int}, (∀ r ∈ l, lo ≤ r.x) → lo ≤ a → lo ≤ minX a l
  | [], a, _, h => h
  | r :: l, a, hv, h => by
    have := hv r (by simp)
    exact minX_lo (l := l) (a := min a r.x) (fun q hq => hv q (by simp [hq])) (by omega)
theorem minX_le : ∀ {l : List Rc} {a : Int}, minX a l ≤ a
  | [], a => Int.le_refl _
  | r :: l, a => by
    have := minX_le (l := l) (a := min a r.x)
    show minX (min a r.x) l ≤ _
    omega
theorem maxX_hi {hi : Int} : ∀ {l : List Rc} {a : Int}, (∀ r ∈ l, r.x + r.w ≤ hi) → a ≤ hi → maxX a l ≤ hi
  | [], a, _, h => h
  | r :: l, a, hv, h => by
    have := hv r (by simp)
    exact maxX_hi (l := l) (a := max a (r.x + r.w)) (fun q hq => hv q (by simp [hq])) (by omega)
theorem maxX_ge : ∀ {l : List Rc} {a : Int}, a ≤ maxX a l
  | [], a => Int.le_refl _
  | r :: l, a => by
    have := maxX_ge (l := l) (a := max a (r.x + r.w))
    show _ ≤ maxX (max a (r.x + r.w)) l
    omega
/-- Within, by so much. -/
def Mid (r : Rc) : Prop := (-1000000 ≤ r.x ∧ r.x + r.w ≤ 1000000) ∧ (-1000000 ≤ r.y ∧ r.y + r.h ≤ 1000000) ∧ 1 ≤ r.w ∧ 1 ≤ r.h
theorem mid_of {l : List Rc} (hc : Canon l) (hw : ∀ x y, pts l x y → (-1000000 ≤ x ∧ x < 1000000) ∧ -1000000 ≤ y ∧ y < 1000000) : ∀ r ∈ l, Mid r := fun r hr => by
  have hp := (canon_pair hc).2 r hr
  unfold Pos at hp
  have h1 := hw r.x r.y ⟨r, hr, ⟨by omega, by omega⟩, by omega, by omega⟩
  have h2 := hw (r.x + r.w - 1) (r.y + r.h - 1) ⟨r, hr, ⟨by omega, by omega⟩, by omega, by omega⟩
  unfold Mid; omega
theorem Mid.vr {r : Rc} (h : Mid r) : Vr r := by unfold Mid at h; unfold Vr; omega
theorem Mid.wide {r : Rc} (h : Mid r) {n : Nat} (hn : n ≤ 128) : Vr (widR n r) := by unfold Mid at h; unfold Vr widR; dsimp only; omega
theorem box_mid {l : List Rc} (hc : Canon l) (hm : ∀ r ∈ l, Mid r) : l = [] ∨ Mid (boxR l) := by
  cases l with
  | nil => exact .inl rfl
  | cons f m =>
    right
    obtain ⟨t, ht⟩ : ∃ t, t = (f :: m).getLast (by simp) := ⟨_, rfl⟩
    have htm : t ∈ f :: m := by rw [ht]; exact List.getLast_mem _
    have h1 := hm f (by simp)
    have h2 := hm t htm
    have e : boxR (f :: m) = ⟨minX f.x (f :: m), f.y, maxX (f.x + f.w) (f :: m) - minX f.x (f :: m), t.y + t.h - f.y⟩ := by rw [ht]; rfl
    have hy : f.y ≤ t.y := by
      rcases List.mem_cons.1 htm with rfl | h
      · exact Int.le_refl _
      · have := (List.pairwise_cons.1 (canon_pair hc).1).1 t h
        have hp := (canon_pair hc).2 f (by simp)
        unfold Bfr at this
        unfold Pos at hp
        omega
    have a1 := minX_lo (lo := -1000000) (l := f :: m) (a := f.x) (fun r hr => by have := hm r hr; unfold Mid at this; omega) (by unfold Mid at h1; omega)
    have a2 := minX_le (l := f :: m) (a := f.x)
    have a3 := maxX_hi (hi := 1000000) (l := f :: m) (a := f.x + f.w) (fun r hr => by have := hm r hr; unfold Mid at this; omega) (by unfold Mid at h1; omega)
    have a4 := maxX_ge (l := f :: m) (a := f.x + f.w)
    rw [e]
    unfold Mid at *
    dsimp only
    omega
def MidP (P : Int → Int → Prop) : Prop := ∀ x y, P x y → (-1000000 ≤ x ∧ x < 1000000) ∧ -1000000 ≤ y ∧ y < 1000000
theorem MidP.bdd {P : Int → Int → Prop} (h : MidP P) : Bdd P := fun x y hp => by have := h x y hp; omega
theorem dil_bdd {P : Int → Int → Prop} (h : MidP P) {n : Nat} (hn : n ≤ 128) : Bdd (Dil n P) := fun x y ⟨a, b, ha, hb, hp⟩ => by have := h _ _ hp; omega

theorem sp_Grow_pos {P : Int → Int → Prop} (hM : MidP P) {n : Nat} (hn : n ≤ 128) (hn0 : 0 < n) (h0 : (reg P).length ≤ 1048576) :
    TSp 11 [.agg [.ls 4 (rcs (reg P))], .int .i64 n] (.tup [.agg [.ls 4 (rcs (reg (Dil n P)))], .int .i64 0]) := by
  have hP := hM.bdd
  have hv := reg_Vr hP
  have hm : ∀ r ∈ reg P, Mid r := mid_of (reg_Ca hP) fun x y h => hM x y ((reg_Pt hP x y).1 h)
  have hres : reg (pts (allL ((reg P).map (widR n)))) = reg (Dil n P) := reg_ext fun x y => by
    unfold allL
    rw [allL_pts (fun r hr hp => by
      obtain ⟨q, hq, rfl⟩ := List.mem_map.1 hr
      exact (hm q hq).wide hn), pts_wid (canon_pair (reg_Ca hP)).2]
    unfold Dil
    simp only [reg_Pt hP]
  have hbx := box_mid (reg_Ca hP) hm
  generalize reg (Dil n P) = rs at *
  generalize reg P = l at *
  refine spo_shape_Grow (by rfl) ?_
  dsimp only [c_shape_Grow, r_shape_Grow, run_skip,run_reg,plainB,ifB_true,run_seq,run_blk,run_exit,run_ret,run_ite,iteR,regK,thenK_nrm,thenK_exit,thenK_ret,thenR_nrm,thenR_exit,thenR_ret,blkK,keepS,keepE,runOps_nil,runOps_cons,goG_some,fpOk,foot,entOf,allN,memN,goOn_ok,goOn_call,goOn_row,goOn_arr,goOn_ask,goOn_put,goOn_prm,goOn_callK,goOn_callC,goOn_all,guardP,guardO,notInO,stepF,stepLd,stepSt,stepIxs,stepIxa,stepLen,stepApp,stepCpy,stepPick,stepSls,stepSst,stepSla,bareZ,evX,evL,evB,rd,get,subG,memG,freshG,notInG,hyps,gob,impP,allP,partD,partOf,isOne,isPtr,nth,takeN,dropN,cellsD,lenB,fillD,thirds,entN,setE,sizeE,addE,setL,setN,putE,env0,eqCs,eqAux,eqC,bA,bO,bN,bE,negB,kEq,isShr,lendL,lend,frz,frzL,zRow,known,skipP,closed,closedL,rowsOf,binI,retK,retG,atRet,retD,lendO,resL,resD,oneD,renD,renL,renE,renEs,rho,putAll,entsN,List.append,List.nil_append,List.cons_append,List.append_nil,cond,Nat.reduceBEq,Nat.reduceAdd,Nat.beq]
  refine ⟨fun h => ?_, fun _ => ⟨fun h => ?_, fun _ => ?_⟩⟩
  · simp only [Bool.or_eq_true, decide_eq_true_eq] at h; omega
  · simp only [decide_eq_true_eq] at h; omega
  refine call_pure (sp_Box hv h0) ?_
  dsimp only [c_shape_Grow, r_shape_Grow, run_skip,run_reg,plainB,ifB_true,run_seq,run_blk,run_exit,run_ret,run_ite,iteR,regK,thenK_nrm,thenK_exit,thenK_ret,thenR_nrm,thenR_exit,thenR_ret,blkK,keepS,keepE,runOps_nil,runOps_cons,goG_some,fpOk,foot,entOf,allN,memN,goOn_ok,goOn_call,goOn_row,goOn_arr,goOn_ask,goOn_put,goOn_prm,goOn_callK,goOn_callC,goOn_all,guardP,guardO,notInO,stepF,stepLd,stepSt,stepIxs,stepIxa,stepLen,stepApp,stepCpy,stepPick,stepSls,stepSst,stepSla,bareZ,evX,evL,evB,rd,get,subG,memG,freshG,notInG,hyps,gob,impP,allP,partD,partOf,isOne,isPtr,nth,takeN,dropN,cellsD,lenB,fillD,thirds,entN,setE,sizeE,addE,setL,setN,putE,env0,eqCs,eqAux,eqC,bA,bO,bN,bE,negB,kEq,isShr,lendL,lend,frz,frzL,zRow,known,skipP,closed,closedL,rowsOf,binI,retK,retG,atRet,retD,lendO,resL,resD,oneD,renD,renL,renE,renEs,rho,putAll,entsN,List.append,List.nil_append,List.cons_append,List.append_nil,cond,Nat.reduceBEq,Nat.reduceAdd,Nat.beq]
  have hbv : Vr (boxR l) ∨ boxR l = .o := hbx.elim (fun h => .inr (by rw [h]; rfl)) fun h => .inl h.vr
  have hwv : Vr (widR n (boxR l)) := hbx.elim (fun h => by rw [h]; show Vr (widR n .o); unfold Vr widR Rc.o; dsimp only; omega) fun h => h.wide hn
  refine call_pure (sp_wider hbv hn) ?_
  dsimp only [c_shape_Grow, r_shape_Grow, rD, run_skip,run_reg,plainB,ifB_true,run_seq,run_blk,run_exit,run_ret,run_ite,iteR,regK,thenK_nrm,thenK_exit,thenK_ret,thenR_nrm,thenR_exit,thenR_ret,blkK,keepS,keepE,runOps_nil,runOps_cons,goG_some,fpOk,foot,entOf,allN,memN,goOn_ok,goOn_call,goOn_row,goOn_arr,goOn_ask,goOn_put,goOn_prm,goOn_callK,goOn_callC,goOn_all,guardP,guardO,notInO,stepF,stepLd,stepSt,stepIxs,stepIxa,stepLen,stepApp,stepCpy,stepPick,stepSls,stepSst,stepSla,bareZ,evX,evL,evB,rd,get,subG,memG,freshG,notInG,hyps,gob,impP,allP,partD,partOf,isOne,isPtr,nth,takeN,dropN,cellsD,lenB,fillD,thirds,entN,setE,sizeE,addE,setL,setN,putE,env0,eqCs,eqAux,eqC,bA,bO,bN,bE,negB,kEq,isShr,lendL,lend,frz,frzL,zRow,known,skipP,closed,closedL,rowsOf,binI,retK,retG,atRet,retD,lendO,resL,resD,oneD,renD,renL,renE,renEs,rho,putAll,entsN,List.append,List.nil_append,List.cons_append,List.append_nil,cond,Nat.reduceBEq,Nat.reduceAdd,Nat.beq]
  refine call_pure (sp_Of_one hwv) ?_
  dsimp only [c_shape_Grow, r_shape_Grow, run_skip,run_reg,plainB,ifB_true,run_seq,run_blk,run_exit,run_ret,run_ite,iteR,regK,thenK_nrm,thenK_exit,thenK_ret,thenR_nrm,thenR_exit,thenR_ret,blkK,keepS,keepE,runOps_nil,runOps_cons,goG_some,fpOk,foot,entOf,allN,memN,goOn_ok,goOn_call,goOn_row,goOn_arr,goOn_ask,goOn_put,goOn_prm,goOn_callK,goOn_callC,goOn_all,guardP,guardO,notInO,stepF,stepLd,stepSt,stepIxs,stepIxa,stepLen,stepApp,stepCpy,stepPick,stepSls,stepSst,stepSla,bareZ,evX,evL,evB,rd,get,subG,memG,freshG,notInG,hyps,gob,impP,allP,partD,partOf,isOne,isPtr,nth,takeN,dropN,cellsD,lenB,fillD,thirds,entN,setE,sizeE,addE,setL,setN,putE,env0,eqCs,eqAux,eqC,bA,bO,bN,bE,negB,kEq,isShr,lendL,lend,frz,frzL,zRow,known,skipP,closed,closedL,rowsOf,binI,retK,retG,atRet,retD,lendO,resL,resD,oneD,renD,renL,renE,renEs,rho,putAll,entsN,List.append,List.nil_append,List.cons_append,List.append_nil,cond,Nat.reduceBEq,Nat.reduceAdd,Nat.beq]
  refine call_pure sp_Empty ?_
  dsimp only [c_shape_Grow, r_shape_Grow, run_skip,run_reg,plainB,ifB_true,run_seq,run_blk,run_exit,run_ret,run_ite,iteR,regK,thenK_nrm,thenK_exit,thenK_ret,thenR_nrm,thenR_exit,thenR_ret,blkK,keepS,keepE,runOps_nil,runOps_cons,goG_some,fpOk,foot,entOf,allN,memN,goOn_ok,goOn_call,goOn_row,goOn_arr,goOn_ask,goOn_put,goOn_prm,goOn_callK,goOn_callC,goOn_all,guardP,guardO,notInO,stepF,stepLd,stepSt,stepIxs,stepIxa,stepLen,stepApp,stepCpy,stepPick,stepSls,stepSst,stepSla,bareZ,evX,evL,evB,rd,get,subG,memG,freshG,notInG,hyps,gob,impP,allP,partD,partOf,isOne,isPtr,nth,takeN,dropN,cellsD,lenB,fillD,thirds,entN,setE,sizeE,addE,setL,setN,putE,env0,eqCs,eqAux,eqC,bA,bO,bN,bE,negB,kEq,isShr,lendL,lend,frz,frzL,zRow,known,skipP,closed,closedL,rowsOf,binI,retK,retG,atRet,retD,lendO,resL,resD,oneD,renD,renL,renE,renEs,rho,putAll,entsN,List.append,List.nil_append,List.cons_append,List.append_nil,cond,Nat.reduceBEq,Nat.reduceAdd,Nat.beq]
  refine ⟨fun h => ?_, fun _ => ?_⟩
  · rw [(reg_one hwv).2.1] at h
    simp [rcs] at h
  refine call_own [] (sm_Rects (l := rcs l) (by rw [rcs_len]; omega)) rfl rfl ?_
  dsimp only [c_shape_Grow, r_shape_Grow, run_skip,run_reg,plainB,ifB_true,run_seq,run_blk,run_exit,run_ret,run_ite,iteR,regK,thenK_nrm,thenK_exit,thenK_ret,thenR_nrm,thenR_exit,thenR_ret,blkK,keepS,keepE,runOps_nil,runOps_cons,goG_some,fpOk,foot,entOf,allN,memN,goOn_ok,goOn_call,goOn_row,goOn_arr,goOn_ask,goOn_put,goOn_prm,goOn_callK,goOn_callC,goOn_all,guardP,guardO,notInO,stepF,stepLd,stepSt,stepIxs,stepIxa,stepLen,stepApp,stepCpy,stepPick,stepSls,stepSst,stepSla,bareZ,evX,evL,evB,rd,get,subG,memG,freshG,notInG,hyps,gob,impP,allP,partD,partOf,isOne,isPtr,nth,takeN,dropN,cellsD,lenB,fillD,thirds,entN,setE,sizeE,addE,setL,setN,putE,env0,eqCs,eqAux,eqC,bA,bO,bN,bE,negB,kEq,isShr,lendL,lend,frz,frzL,zRow,known,skipP,closed,closedL,rowsOf,binI,retK,retG,atRet,retD,lendO,resL,resD,oneD,renD,renL,renE,renEs,rho,putAll,entsN,List.append,List.nil_append,List.cons_append,List.append_nil,cond,Nat.reduceBEq,Nat.reduceAdd,Nat.beq]
  rw [rcs_len]
  refine ⟨rfl, ?_⟩
  refine loop_ind (α := {i : Nat // i ≤ l.length})
    (fun i => ⟨[(1, [], .int .i64 n), (4, [], .box 1 0), (6, [], .own 5 2), (35, [], .int .i64 l.length), (36, [], .int .i64 i.1)],
      [.cells [.ls 4 (rcs l)], .cells [.ls 4 []], .cells [.ls 4 (rcs l)], .arr 25 4 0 [], .arr 25 4 0 [], .arr 25 4 2 (rcs (mapTo (widR n) l i.1))]⟩)
    (fun i => l.length - i.1) ?_ ⟨0, Nat.zero_le _⟩ (by simp [mapTo_zero])
  rintro ⟨i, hi⟩ I ih
  dsimp only at hi ⊢
  dsimp only [c_shape_Grow, r_shape_Grow, run_skip,run_reg,plainB,ifB_true,run_seq,run_blk,run_exit,run_ret,run_ite,iteR,regK,thenK_nrm,thenK_exit,thenK_ret,thenR_nrm,thenR_exit,thenR_ret,blkK,keepS,keepE,runOps_nil,runOps_cons,goG_some,fpOk,foot,entOf,allN,memN,goOn_ok,goOn_call,goOn_row,goOn_arr,goOn_ask,goOn_put,goOn_prm,goOn_callK,goOn_callC,goOn_all,guardP,guardO,notInO,stepF,stepLd,stepSt,stepIxs,stepIxa,stepLen,stepApp,stepCpy,stepPick,stepSls,stepSst,stepSla,bareZ,evX,evL,evB,rd,get,subG,memG,freshG,notInG,hyps,gob,impP,allP,partD,partOf,isOne,isPtr,nth,takeN,dropN,cellsD,lenB,fillD,thirds,entN,setE,sizeE,addE,setL,setN,putE,env0,eqCs,eqAux,eqC,bA,bO,bN,bE,negB,kEq,isShr,lendL,lend,frz,frzL,zRow,known,skipP,closed,closedL,rowsOf,binI,retK,retG,atRet,retD,lendO,resL,resD,oneD,renD,renL,renE,renEs,rho,putAll,entsN,List.append,List.nil_append,List.cons_append,List.append_nil,cond,Nat.reduceBEq,Nat.reduceAdd,Nat.beq]
  refine ⟨fun hlt => ?_, fun hge => ?_⟩
  · have hil : i < l.length := by simpa using hlt
    obtain ⟨r, hr⟩ : ∃ r, l[i]? = some r := ⟨_, List.getElem?_eq_getElem hil⟩
    have hix : (0 : Int) ≤ i ∧ (i : Int) < ((rcs (mapTo (widR n) l i)).length : Int) := by rw [rcs_len, mapTo_len]; omega
    have hrq : (rcs (mapTo (widR n) l i))[((i : Nat) : Int).toNat]? = some (rD r) := rcs_get (by rw [Int.toNat_natCast]; exact mapTo_get hr)
    refine ⟨⟨rfl, rfl, hix⟩, ⟨rfl, rfl⟩, row_intro (rD r) (rD r) hrq rfl ?_⟩
    dsimp only [c_shape_Grow, r_shape_Grow, run_skip,run_reg,plainB,ifB_true,run_seq,run_blk,run_exit,run_ret,run_ite,iteR,regK,thenK_nrm,thenK_exit,thenK_ret,thenR_nrm,thenR_exit,thenR_ret,blkK,keepS,keepE,runOps_nil,runOps_cons,goG_some,fpOk,foot,entOf,allN,memN,goOn_ok,goOn_call,goOn_row,goOn_arr,goOn_ask,goOn_put,goOn_prm,goOn_callK,goOn_callC,goOn_all,guardP,guardO,notInO,stepF,stepLd,stepSt,stepIxs,stepIxa,stepLen,stepApp,stepCpy,stepPick,stepSls,stepSst,stepSla,bareZ,evX,evL,evB,rd,get,subG,memG,freshG,notInG,hyps,gob,impP,allP,partD,partOf,isOne,isPtr,nth,takeN,dropN,cellsD,lenB,fillD,thirds,entN,setE,sizeE,addE,setL,setN,putE,env0,eqCs,eqAux,eqC,bA,bO,bN,bE,negB,kEq,isShr,lendL,lend,frz,frzL,zRow,known,skipP,closed,closedL,rowsOf,binI,retK,retG,atRet,retD,lendO,resL,resD,oneD,renD,renL,renE,renEs,rho,putAll,entsN,List.append,List.nil_append,List.cons_append,List.append_nil,cond,Nat.reduceBEq,Nat.reduceAdd,Nat.beq]
    refine call_pure (sp_wider (.inl (hv r (List.mem_of_getElem? hr))) hn) ?_
    dsimp only [c_shape_Grow, r_shape_Grow, run_skip,run_reg,plainB,ifB_true,run_seq,run_blk,run_exit,run_ret,run_ite,iteR,regK,thenK_nrm,thenK_exit,thenK_ret,thenR_nrm,thenR_exit,thenR_ret,blkK,keepS,keepE,runOps_nil,runOps_cons,goG_some,fpOk,foot,entOf,allN,memN,goOn_ok,goOn_call,goOn_row,goOn_arr,goOn_ask,goOn_put,goOn_prm,goOn_callK,goOn_callC,goOn_all,guardP,guardO,notInO,stepF,stepLd,stepSt,stepIxs,stepIxa,stepLen,stepApp,stepCpy,stepPick,stepSls,stepSst,stepSla,bareZ,evX,evL,evB,rd,get,subG,memG,freshG,notInG,hyps,gob,impP,allP,partD,partOf,isOne,isPtr,nth,takeN,dropN,cellsD,lenB,fillD,thirds,entN,setE,sizeE,addE,setL,setN,putE,env0,eqCs,eqAux,eqC,bA,bO,bN,bE,negB,kEq,isShr,lendL,lend,frz,frzL,zRow,known,skipP,closed,closedL,rowsOf,binI,retK,retG,atRet,retD,lendO,resL,resD,oneD,renD,renL,renE,renEs,rho,putAll,entsN,List.append,List.nil_append,List.cons_append,List.append_nil,cond,Nat.reduceBEq,Nat.reduceAdd,Nat.beq]
    refine ⟨⟨rfl, rfl, hix⟩, ?_⟩
    rw [show closed (rD (widR n r)) = true from rfl]
    dsimp only [c_shape_Grow, r_shape_Grow, run_skip,run_reg,plainB,ifB_true,run_seq,run_blk,run_exit,run_ret,run_ite,iteR,regK,thenK_nrm,thenK_exit,thenK_ret,thenR_nrm,thenR_exit,thenR_ret,blkK,keepS,keepE,runOps_nil,runOps_cons,goG_some,fpOk,foot,entOf,allN,memN,goOn_ok,goOn_call,goOn_row,goOn_arr,goOn_ask,goOn_put,goOn_prm,goOn_callK,goOn_callC,goOn_all,guardP,guardO,notInO,stepF,stepLd,stepSt,stepIxs,stepIxa,stepLen,stepApp,stepCpy,stepPick,stepSls,stepSst,stepSla,bareZ,evX,evL,evB,rd,get,subG,memG,freshG,notInG,hyps,gob,impP,allP,partD,partOf,isOne,isPtr,nth,takeN,dropN,cellsD,lenB,fillD,thirds,entN,setE,sizeE,addE,setL,setN,putE,env0,eqCs,eqAux,eqC,bA,bO,bN,bE,negB,kEq,isShr,lendL,lend,frz,frzL,zRow,known,skipP,closed,closedL,rowsOf,binI,retK,retG,atRet,retD,lendO,resL,resD,oneD,renD,renL,renE,renEs,rho,putAll,entsN,List.append,List.nil_append,List.cons_append,List.append_nil,cond,Nat.reduceBEq,Nat.reduceAdd,Nat.beq]
    refine ⟨⟨rfl, rfl⟩, putrow_intro (hs := []) (rD r) (rD (widR n r)) hrq rfl ?_⟩
    dsimp only [c_shape_Grow, r_shape_Grow, run_skip,run_reg,plainB,ifB_true,run_seq,run_blk,run_exit,run_ret,run_ite,iteR,regK,thenK_nrm,thenK_exit,thenK_ret,thenR_nrm,thenR_exit,thenR_ret,blkK,keepS,keepE,runOps_nil,runOps_cons,goG_some,fpOk,foot,entOf,allN,memN,goOn_ok,goOn_call,goOn_row,goOn_arr,goOn_ask,goOn_put,goOn_prm,goOn_callK,goOn_callC,goOn_all,guardP,guardO,notInO,stepF,stepLd,stepSt,stepIxs,stepIxa,stepLen,stepApp,stepCpy,stepPick,stepSls,stepSst,stepSla,bareZ,evX,evL,evB,rd,get,subG,memG,freshG,notInG,hyps,gob,impP,allP,partD,partOf,isOne,isPtr,nth,takeN,dropN,cellsD,lenB,fillD,thirds,entN,setE,sizeE,addE,setL,setN,putE,env0,eqCs,eqAux,eqC,bA,bO,bN,bE,negB,kEq,isShr,lendL,lend,frz,frzL,zRow,known,skipP,closed,closedL,rowsOf,binI,retK,retG,atRet,retD,lendO,resL,resD,oneD,renD,renL,renE,renEs,rho,putAll,entsN,List.append,List.nil_append,List.cons_append,List.append_nil,cond,Nat.reduceBEq,Nat.reduceAdd,Nat.beq]
    rw [rcs_set', Int.toNat_natCast, mapTo_set hr]
    exact ⟨by simp only [fits]; omega, again (ih ⟨i + 1, by omega⟩ (by dsimp only; omega)) ⟨rfl, rfl, rfl, rfl, by simp [get], trivial⟩ ⟨rfl, rfl, rfl, rfl, rfl, rfl, trivial⟩ rfl rfl⟩
  · have hil : i = l.length := by simp at hge; omega
    subst hil
    rw [mapTo_all]
    refine call_frz rfl ⟨rfl, trivial⟩ (Sp.lift (sp_band_Of (fun r hr => ?_) (by rw [List.length_map]; omega)) rfl) ?_
    · obtain ⟨q, hq, rfl⟩ := List.mem_map.1 hr
      exact ((hm q hq).wide hn).in
    dsimp only [c_shape_Grow, r_shape_Grow, run_skip,run_reg,plainB,ifB_true,run_seq,run_blk,run_exit,run_ret,run_ite,iteR,regK,thenK_nrm,thenK_exit,thenK_ret,thenR_nrm,thenR_exit,thenR_ret,blkK,keepS,keepE,runOps_nil,runOps_cons,goG_some,fpOk,foot,entOf,allN,memN,goOn_ok,goOn_call,goOn_row,goOn_arr,goOn_ask,goOn_put,goOn_prm,goOn_callK,goOn_callC,goOn_all,guardP,guardO,notInO,stepF,stepLd,stepSt,stepIxs,stepIxa,stepLen,stepApp,stepCpy,stepPick,stepSls,stepSst,stepSla,bareZ,evX,evL,evB,rd,get,subG,memG,freshG,notInG,hyps,gob,impP,allP,partD,partOf,isOne,isPtr,nth,takeN,dropN,cellsD,lenB,fillD,thirds,entN,setE,sizeE,addE,setL,setN,putE,env0,eqCs,eqAux,eqC,bA,bO,bN,bE,negB,kEq,isShr,lendL,lend,frz,frzL,zRow,known,skipP,closed,closedL,rowsOf,binI,retK,retG,atRet,retD,lendO,resL,resD,oneD,renD,renL,renE,renEs,rho,putAll,entsN,List.append,List.nil_append,List.cons_append,List.append_nil,cond,Nat.reduceBEq,Nat.reduceAdd,Nat.beq]
    rw [hres]
theorem sp_Edge {P : Int → Int → Prop} (hP : Bdd P) (h0 : (reg P).length ≤ 2048) (h2 : (reg fun x y => P y x).length ≤ 1073741824) (h3 : (reg (Ero 1 fun x y => P y x)).length ≤ 1073741824) (h4 : (reg (Ero 1 P)).length ≤ 2048) (h5 : (reg (EroY 1 P)).length ≤ 2048) (h6 : (reg fun x y => Ero 1 P x y ∧ EroY 1 P x y).length ≤ 2048) :
    TSp 15 [.agg [.ls 4 (rcs (reg P))]] (.agg [.ls 4 (rcs (reg fun x y => P x y ∧ ¬ (Ero 1 P x y ∧ EroY 1 P x y)))]) := by
  refine spo_shape_Edge (by rfl) ?_
  dsimp only [c_shape_Edge, r_shape_Edge, run_skip,run_reg,plainB,ifB_true,run_seq,run_blk,run_exit,run_ret,run_ite,iteR,regK,thenK_nrm,thenK_exit,thenK_ret,thenR_nrm,thenR_exit,thenR_ret,blkK,keepS,keepE,runOps_nil,runOps_cons,goG_some,fpOk,foot,entOf,allN,memN,goOn_ok,goOn_call,goOn_row,goOn_arr,goOn_ask,goOn_put,goOn_prm,goOn_callK,goOn_callC,goOn_all,guardP,guardO,notInO,stepF,stepLd,stepSt,stepIxs,stepIxa,stepLen,stepApp,stepCpy,stepPick,stepSls,stepSst,stepSla,bareZ,evX,evL,evB,rd,get,subG,memG,freshG,notInG,hyps,gob,impP,allP,partD,partOf,isOne,isPtr,nth,takeN,dropN,cellsD,lenB,fillD,thirds,entN,setE,sizeE,addE,setL,setN,putE,env0,eqCs,eqAux,eqC,bA,bO,bN,bE,negB,kEq,isShr,lendL,lend,frz,frzL,zRow,known,skipP,closed,closedL,rowsOf,binI,retK,retG,atRet,retD,lendO,resL,resD,oneD,renD,renL,renE,renEs,rho,putAll,entsN,List.append,List.nil_append,List.cons_append,List.append_nil,cond,Nat.reduceBEq,Nat.reduceAdd,Nat.beq]
  refine call_pure (sp_thin (n := 1) hP (by omega) (by omega)) ?_
  dsimp only [c_shape_Edge, r_shape_Edge, run_skip,run_reg,plainB,ifB_true,run_seq,run_blk,run_exit,run_ret,run_ite,iteR,regK,thenK_nrm,thenK_exit,thenK_ret,thenR_nrm,thenR_exit,thenR_ret,blkK,keepS,keepE,runOps_nil,runOps_cons,goG_some,fpOk,foot,entOf,allN,memN,goOn_ok,goOn_call,goOn_row,goOn_arr,goOn_ask,goOn_put,goOn_prm,goOn_callK,goOn_callC,goOn_all,guardP,guardO,notInO,stepF,stepLd,stepSt,stepIxs,stepIxa,stepLen,stepApp,stepCpy,stepPick,stepSls,stepSst,stepSla,bareZ,evX,evL,evB,rd,get,subG,memG,freshG,notInG,hyps,gob,impP,allP,partD,partOf,isOne,isPtr,nth,takeN,dropN,cellsD,lenB,fillD,thirds,entN,setE,sizeE,addE,setL,setN,putE,env0,eqCs,eqAux,eqC,bA,bO,bN,bE,negB,kEq,isShr,lendL,lend,frz,frzL,zRow,known,skipP,closed,closedL,rowsOf,binI,retK,retG,atRet,retD,lendO,resL,resD,oneD,renD,renL,renE,renEs,rho,putAll,entsN,List.append,List.nil_append,List.cons_append,List.append_nil,cond,Nat.reduceBEq,Nat.reduceAdd,Nat.beq]
  refine call_pure (sp_low (n := 1) hP (by omega) (by omega) h2 h3) ?_
  dsimp only [c_shape_Edge, r_shape_Edge, run_skip,run_reg,plainB,ifB_true,run_seq,run_blk,run_exit,run_ret,run_ite,iteR,regK,thenK_nrm,thenK_exit,thenK_ret,thenR_nrm,thenR_exit,thenR_ret,blkK,keepS,keepE,runOps_nil,runOps_cons,goG_some,fpOk,foot,entOf,allN,memN,goOn_ok,goOn_call,goOn_row,goOn_arr,goOn_ask,goOn_put,goOn_prm,goOn_callK,goOn_callC,goOn_all,guardP,guardO,notInO,stepF,stepLd,stepSt,stepIxs,stepIxa,stepLen,stepApp,stepCpy,stepPick,stepSls,stepSst,stepSla,bareZ,evX,evL,evB,rd,get,subG,memG,freshG,notInG,hyps,gob,impP,allP,partD,partOf,isOne,isPtr,nth,takeN,dropN,cellsD,lenB,fillD,thirds,entN,setE,sizeE,addE,setL,setN,putE,env0,eqCs,eqAux,eqC,bA,bO,bN,bE,negB,kEq,isShr,lendL,lend,frz,frzL,zRow,known,skipP,closed,closedL,rowsOf,binI,retK,retG,atRet,retD,lendO,resL,resD,oneD,renD,renL,renE,renEs,rho,putAll,entsN,List.append,List.nil_append,List.cons_append,List.append_nil,cond,Nat.reduceBEq,Nat.reduceAdd,Nat.beq]
  refine call_pure (sp_Meet (P := Ero 1 P) (Q := EroY 1 P) (ero_bdd (by omega) hP) (eroY_bdd (by omega) hP) (by omega)) ?_
  dsimp only [c_shape_Edge, r_shape_Edge, run_skip,run_reg,plainB,ifB_true,run_seq,run_blk,run_exit,run_ret,run_ite,iteR,regK,thenK_nrm,thenK_exit,thenK_ret,thenR_nrm,thenR_exit,thenR_ret,blkK,keepS,keepE,runOps_nil,runOps_cons,goG_some,fpOk,foot,entOf,allN,memN,goOn_ok,goOn_call,goOn_row,goOn_arr,goOn_ask,goOn_put,goOn_prm,goOn_callK,goOn_callC,goOn_all,guardP,guardO,notInO,stepF,stepLd,stepSt,stepIxs,stepIxa,stepLen,stepApp,stepCpy,stepPick,stepSls,stepSst,stepSla,bareZ,evX,evL,evB,rd,get,subG,memG,freshG,notInG,hyps,gob,impP,allP,partD,partOf,isOne,isPtr,nth,takeN,dropN,cellsD,lenB,fillD,thirds,entN,setE,sizeE,addE,setL,setN,putE,env0,eqCs,eqAux,eqC,bA,bO,bN,bE,negB,kEq,isShr,lendL,lend,frz,frzL,zRow,known,skipP,closed,closedL,rowsOf,binI,retK,retG,atRet,retD,lendO,resL,resD,oneD,renD,renL,renE,renEs,rho,putAll,entsN,List.append,List.nil_append,List.cons_append,List.append_nil,cond,Nat.reduceBEq,Nat.reduceAdd,Nat.beq]
  refine call_pure (sp_Minus hP (Q := fun x y => Ero 1 P x y ∧ EroY 1 P x y) (fun x y h => hP x y (ero_sub (by omega) h.1)) (by omega)) ?_
  dsimp only [c_shape_Edge, r_shape_Edge, run_skip,run_reg,plainB,ifB_true,run_seq,run_blk,run_exit,run_ret,run_ite,iteR,regK,thenK_nrm,thenK_exit,thenK_ret,thenR_nrm,thenR_exit,thenR_ret,blkK,keepS,keepE,runOps_nil,runOps_cons,goG_some,fpOk,foot,entOf,allN,memN,goOn_ok,goOn_call,goOn_row,goOn_arr,goOn_ask,goOn_put,goOn_prm,goOn_callK,goOn_callC,goOn_all,guardP,guardO,notInO,stepF,stepLd,stepSt,stepIxs,stepIxa,stepLen,stepApp,stepCpy,stepPick,stepSls,stepSst,stepSla,bareZ,evX,evL,evB,rd,get,subG,memG,freshG,notInG,hyps,gob,impP,allP,partD,partOf,isOne,isPtr,nth,takeN,dropN,cellsD,lenB,fillD,thirds,entN,setE,sizeE,addE,setL,setN,putE,env0,eqCs,eqAux,eqC,bA,bO,bN,bE,negB,kEq,isShr,lendL,lend,frz,frzL,zRow,known,skipP,closed,closedL,rowsOf,binI,retK,retG,atRet,retD,lendO,resL,resD,oneD,renD,renL,renE,renEs,rho,putAll,entsN,List.append,List.nil_append,List.cons_append,List.append_nil,cond,Nat.reduceBEq,Nat.reduceAdd,Nat.beq]
/-- Cut to a window, and turned over. -/
def flipP (w h : Int) (across : Bool) (P : Int → Int → Prop) : Int → Int → Prop := match across with
  | true => fun x y => P (w - 1 - x) y
  | false => fun x y => P x (h - 1 - y)
def flR (w h : Int) (across : Bool) (r : Rc) : Rc := match across with
  | true => flxR w r
  | false => flyR h r
theorem sp_Flip {P : Int → Int → Prop} (hP : Bdd P) {w h : Int} {ac : Bool} (hw : 1 ≤ w ∧ w ≤ 1048576) (hh : 1 ≤ h ∧ h ≤ 1048576) (h0 : (reg P).length ≤ 8191) (h1 : (reg fun x y => P x y ∧ (⟨0, 0, w, h⟩ : Rc).has x y).length ≤ 1048576) :
    TSp 10 [.agg [.ls 4 (rcs (reg P))], .int .i64 w, .int .i64 h, .bool ac] (.agg [.ls 4 (rcs (reg (flipP w h ac fun x y => P x y ∧ (⟨0, 0, w, h⟩ : Rc).has x y)))]) := by
  have hc : Vr ⟨0, 0, w, h⟩ := by unfold Vr; dsimp only; omega
  have hP2 : Bdd fun x y => P x y ∧ (⟨0, 0, w, h⟩ : Rc).has x y := fun x y hp => hP x y hp.1
  have hv := reg_Vr hP2
  have hwin : ∀ r ∈ reg fun x y => P x y ∧ (⟨0, 0, w, h⟩ : Rc).has x y, (0 ≤ r.x ∧ r.x + r.w ≤ w) ∧ 0 ≤ r.y ∧ r.y + r.h ≤ h := fun r hr => by
    have hp := hv r hr
    unfold Vr at hp
    have q1 := ((reg_Pt hP2 r.x r.y).1 ⟨r, hr, ⟨by omega, by omega⟩, by omega, by omega⟩).2
    have q2 := ((reg_Pt hP2 (r.x + r.w - 1) (r.y + r.h - 1)).1 ⟨r, hr, ⟨by omega, by omega⟩, by omega, by omega⟩).2
    unfold Rc.has at q1 q2
    dsimp only at q1 q2
    omega
  have hres : reg (pts (allL ((reg fun x y => P x y ∧ (⟨0, 0, w, h⟩ : Rc).has x y).map (flR w h ac)))) = reg (flipP w h ac fun x y => P x y ∧ (⟨0, 0, w, h⟩ : Rc).has x y) := reg_ext fun x y => by
    unfold allL
    rw [allL_pts (fun r hr hp => by
      obtain ⟨q, hq, rfl⟩ := List.mem_map.1 hr
      have h2 := hv q hq
      have h3 := hwin q hq
      cases ac
      · unfold Vr flR flyR at *
        dsimp only
        omega
      · unfold Vr flR flxR at *
        dsimp only
        omega)]
    cases ac
    · show pts (List.map (flyR h) _) x y ↔ _
      rw [pts_fly, reg_Pt hP2]
      exact Iff.rfl
    · show pts (List.map (flxR w) _) x y ↔ _
      rw [pts_flx, reg_Pt hP2]
      exact Iff.rfl
  refine spo_shape_Flip (by rfl) ?_
  dsimp only [c_shape_Flip, r_shape_Flip, run_skip,run_reg,plainB,ifB_true,run_seq,run_blk,run_exit,run_ret,run_ite,iteR,regK,thenK_nrm,thenK_exit,thenK_ret,thenR_nrm,thenR_exit,thenR_ret,blkK,keepS,keepE,runOps_nil,runOps_cons,goG_some,fpOk,foot,entOf,allN,memN,goOn_ok,goOn_call,goOn_row,goOn_arr,goOn_ask,goOn_put,goOn_prm,goOn_callK,goOn_callC,goOn_all,guardP,guardO,notInO,stepF,stepLd,stepSt,stepIxs,stepIxa,stepLen,stepApp,stepCpy,stepPick,stepSls,stepSst,stepSla,bareZ,evX,evL,evB,rd,get,subG,memG,freshG,notInG,hyps,gob,impP,allP,partD,partOf,isOne,isPtr,nth,takeN,dropN,cellsD,lenB,fillD,thirds,entN,setE,sizeE,addE,setL,setN,putE,env0,eqCs,eqAux,eqC,bA,bO,bN,bE,negB,kEq,isShr,lendL,lend,frz,frzL,zRow,known,skipP,closed,closedL,rowsOf,binI,retK,retG,atRet,retD,lendO,resL,resD,oneD,renD,renL,renE,renEs,rho,putAll,entsN,List.append,List.nil_append,List.cons_append,List.append_nil,cond,Nat.reduceBEq,Nat.reduceAdd,Nat.beq]
  refine ⟨fun h => ?_, fun _ => ?_⟩
  · simp only [Bool.or_eq_true, decide_eq_true_eq] at h; omega
  refine call_pure (sp_Within (c := ⟨0, 0, w, h⟩) hP hc h0) ?_
  dsimp only [c_shape_Flip, r_shape_Flip, run_skip,run_reg,plainB,ifB_true,run_seq,run_blk,run_exit,run_ret,run_ite,iteR,regK,thenK_nrm,thenK_exit,thenK_ret,thenR_nrm,thenR_exit,thenR_ret,blkK,keepS,keepE,runOps_nil,runOps_cons,goG_some,fpOk,foot,entOf,allN,memN,goOn_ok,goOn_call,goOn_row,goOn_arr,goOn_ask,goOn_put,goOn_prm,goOn_callK,goOn_callC,goOn_all,guardP,guardO,notInO,stepF,stepLd,stepSt,stepIxs,stepIxa,stepLen,stepApp,stepCpy,stepPick,stepSls,stepSst,stepSla,bareZ,evX,evL,evB,rd,get,subG,memG,freshG,notInG,hyps,gob,impP,allP,partD,partOf,isOne,isPtr,nth,takeN,dropN,cellsD,lenB,fillD,thirds,entN,setE,sizeE,addE,setL,setN,putE,env0,eqCs,eqAux,eqC,bA,bO,bN,bE,negB,kEq,isShr,lendL,lend,frz,frzL,zRow,known,skipP,closed,closedL,rowsOf,binI,retK,retG,atRet,retD,lendO,resL,resD,oneD,renD,renL,renE,renEs,rho,putAll,entsN,List.append,List.nil_append,List.cons_append,List.append_nil,cond,Nat.reduceBEq,Nat.reduceAdd,Nat.beq]
  generalize reg (flipP w h ac fun x y => P x y ∧ (⟨0, 0, w, h⟩ : Rc).has x y) = rs at *
  generalize (reg fun x y => P x y ∧ (⟨0, 0, w, h⟩ : Rc).has x y) = l at *
  refine call_own [] (sm_Rects (l := rcs l) (by rw [rcs_len]; omega)) rfl rfl ?_
  dsimp only [c_shape_Flip, r_shape_Flip, run_skip,run_reg,plainB,ifB_true,run_seq,run_blk,run_exit,run_ret,run_ite,iteR,regK,thenK_nrm,thenK_exit,thenK_ret,thenR_nrm,thenR_exit,thenR_ret,blkK,keepS,keepE,runOps_nil,runOps_cons,goG_some,fpOk,foot,entOf,allN,memN,goOn_ok,goOn_call,goOn_row,goOn_arr,goOn_ask,goOn_put,goOn_prm,goOn_callK,goOn_callC,goOn_all,guardP,guardO,notInO,stepF,stepLd,stepSt,stepIxs,stepIxa,stepLen,stepApp,stepCpy,stepPick,stepSls,stepSst,stepSla,bareZ,evX,evL,evB,rd,get,subG,memG,freshG,notInG,hyps,gob,impP,allP,partD,partOf,isOne,isPtr,nth,takeN,dropN,cellsD,lenB,fillD,thirds,entN,setE,sizeE,addE,setL,setN,putE,env0,eqCs,eqAux,eqC,bA,bO,bN,bE,negB,kEq,isShr,lendL,lend,frz,frzL,zRow,known,skipP,closed,closedL,rowsOf,binI,retK,retG,atRet,retD,lendO,resL,resD,oneD,renD,renL,renE,renEs,rho,putAll,entsN,List.append,List.nil_append,List.cons_append,List.append_nil,cond,Nat.reduceBEq,Nat.reduceAdd,Nat.beq]
  rw [rcs_len]
  refine ⟨rfl, ?_⟩
  refine loop_ind (α := {i : Nat // i ≤ l.length})
    (fun i => ⟨[(1, [], .int .i64 w), (2, [], .int .i64 h), (3, [], .bool ac), (8, [], .box 1 0), (9, [], .own 5 2), (33, [], .own 5 2), (34, [], .int .i64 l.length), (35, [], .int .i64 i.1)],
      [.cells [.ls 4 (rcs (reg P))], .cells [.ls 4 []], .cells [.ls 4 (rcs l)], .arr 25 4 0 [], .arr 25 4 0 [], .arr 25 4 2 (rcs (mapTo (flR w h ac) l i.1))]⟩)
    (fun i => l.length - i.1) ?_ ⟨0, Nat.zero_le _⟩ (by simp [mapTo_zero])
  rintro ⟨i, hi⟩ I ih
  dsimp only at hi ⊢
  dsimp only [c_shape_Flip, r_shape_Flip, run_skip,run_reg,plainB,ifB_true,run_seq,run_blk,run_exit,run_ret,run_ite,iteR,regK,thenK_nrm,thenK_exit,thenK_ret,thenR_nrm,thenR_exit,thenR_ret,blkK,keepS,keepE,runOps_nil,runOps_cons,goG_some,fpOk,foot,entOf,allN,memN,goOn_ok,goOn_call,goOn_row,goOn_arr,goOn_ask,goOn_put,goOn_prm,goOn_callK,goOn_callC,goOn_all,guardP,guardO,notInO,stepF,stepLd,stepSt,stepIxs,stepIxa,stepLen,stepApp,stepCpy,stepPick,stepSls,stepSst,stepSla,bareZ,evX,evL,evB,rd,get,subG,memG,freshG,notInG,hyps,gob,impP,allP,partD,partOf,isOne,isPtr,nth,takeN,dropN,cellsD,lenB,fillD,thirds,entN,setE,sizeE,addE,setL,setN,putE,env0,eqCs,eqAux,eqC,bA,bO,bN,bE,negB,kEq,isShr,lendL,lend,frz,frzL,zRow,known,skipP,closed,closedL,rowsOf,binI,retK,retG,atRet,retD,lendO,resL,resD,oneD,renD,renL,renE,renEs,rho,putAll,entsN,List.append,List.nil_append,List.cons_append,List.append_nil,cond,Nat.reduceBEq,Nat.reduceAdd,Nat.beq]
  refine ⟨fun hlt => ?_, fun hge => ?_⟩
  · have hil : i < l.length := by simpa using hlt
    obtain ⟨r, hr⟩ : ∃ r, l[i]? = some r := ⟨_, List.getElem?_eq_getElem hil⟩
    have hV := hv r (List.mem_of_getElem? hr)
    have hWn := hwin r (List.mem_of_getElem? hr)
    unfold Vr at hV
    have hix : (0 : Int) ≤ i ∧ (i : Int) < ((rcs (mapTo (flR w h ac) l i)).length : Int) := by rw [rcs_len, mapTo_len]; omega
    have hrq : (rcs (mapTo (flR w h ac) l i))[((i : Nat) : Int).toNat]? = some (rD r) := rcs_get (by rw [Int.toNat_natCast]; exact mapTo_get hr)
    refine ⟨⟨rfl, rfl, hix⟩, ⟨rfl, rfl⟩, row_intro (rD r) (rD r) hrq rfl ?_⟩
    dsimp only [c_shape_Flip, r_shape_Flip, rD, run_skip,run_reg,plainB,ifB_true,run_seq,run_blk,run_exit,run_ret,run_ite,iteR,regK,thenK_nrm,thenK_exit,thenK_ret,thenR_nrm,thenR_exit,thenR_ret,blkK,keepS,keepE,runOps_nil,runOps_cons,goG_some,fpOk,foot,entOf,allN,memN,goOn_ok,goOn_call,goOn_row,goOn_arr,goOn_ask,goOn_put,goOn_prm,goOn_callK,goOn_callC,goOn_all,guardP,guardO,notInO,stepF,stepLd,stepSt,stepIxs,stepIxa,stepLen,stepApp,stepCpy,stepPick,stepSls,stepSst,stepSla,bareZ,evX,evL,evB,rd,get,subG,memG,freshG,notInG,hyps,gob,impP,allP,partD,partOf,isOne,isPtr,nth,takeN,dropN,cellsD,lenB,fillD,thirds,entN,setE,sizeE,addE,setL,setN,putE,env0,eqCs,eqAux,eqC,bA,bO,bN,bE,negB,kEq,isShr,lendL,lend,frz,frzL,zRow,known,skipP,closed,closedL,rowsOf,binI,retK,retG,atRet,retD,lendO,resL,resD,oneD,renD,renL,renE,renEs,rho,putAll,entsN,List.append,List.nil_append,List.cons_append,List.append_nil,cond,Nat.reduceBEq,Nat.reduceAdd,Nat.beq]
    refine ⟨fun hac => ?_, fun hac => ?_⟩
    · subst hac
      refine ⟨by simp only [fits]; omega, by simp only [fits]; omega, ⟨rfl, rfl, hix⟩, ⟨rfl, rfl⟩, putrow_intro (hs := []) (rD r) (rD (flR w h true r)) hrq rfl ?_⟩
      dsimp only [c_shape_Flip, r_shape_Flip, run_skip,run_reg,plainB,ifB_true,run_seq,run_blk,run_exit,run_ret,run_ite,iteR,regK,thenK_nrm,thenK_exit,thenK_ret,thenR_nrm,thenR_exit,thenR_ret,blkK,keepS,keepE,runOps_nil,runOps_cons,goG_some,fpOk,foot,entOf,allN,memN,goOn_ok,goOn_call,goOn_row,goOn_arr,goOn_ask,goOn_put,goOn_prm,goOn_callK,goOn_callC,goOn_all,guardP,guardO,notInO,stepF,stepLd,stepSt,stepIxs,stepIxa,stepLen,stepApp,stepCpy,stepPick,stepSls,stepSst,stepSla,bareZ,evX,evL,evB,rd,get,subG,memG,freshG,notInG,hyps,gob,impP,allP,partD,partOf,isOne,isPtr,nth,takeN,dropN,cellsD,lenB,fillD,thirds,entN,setE,sizeE,addE,setL,setN,putE,env0,eqCs,eqAux,eqC,bA,bO,bN,bE,negB,kEq,isShr,lendL,lend,frz,frzL,zRow,known,skipP,closed,closedL,rowsOf,binI,retK,retG,atRet,retD,lendO,resL,resD,oneD,renD,renL,renE,renEs,rho,putAll,entsN,List.append,List.nil_append,List.cons_append,List.append_nil,cond,Nat.reduceBEq,Nat.reduceAdd,Nat.beq]
      rw [rcs_set', Int.toNat_natCast, mapTo_set hr]
      exact ⟨by simp only [fits]; omega, again (ih ⟨i + 1, by omega⟩ (by dsimp only; omega)) ⟨rfl, rfl, rfl, rfl, rfl, rfl, rfl, by simp [get], trivial⟩ ⟨rfl, rfl, rfl, rfl, rfl, rfl, trivial⟩ rfl rfl⟩
    · subst hac
      refine ⟨by simp only [fits]; omega, by simp only [fits]; omega, ⟨rfl, rfl, hix⟩, ⟨rfl, rfl⟩, putrow_intro (hs := []) (rD r) (rD (flR w h false r)) hrq rfl ?_⟩
      dsimp only [c_shape_Flip, r_shape_Flip, run_skip,run_reg,plainB,ifB_true,run_seq,run_blk,run_exit,run_ret,run_ite,iteR,regK,thenK_nrm,thenK_exit,thenK_ret,thenR_nrm,thenR_exit,thenR_ret,blkK,keepS,keepE,runOps_nil,runOps_cons,goG_some,fpOk,foot,entOf,allN,memN,goOn_ok,goOn_call,goOn_row,goOn_arr,goOn_ask,goOn_put,goOn_prm,goOn_callK,goOn_callC,goOn_all,guardP,guardO,notInO,stepF,stepLd,stepSt,stepIxs,stepIxa,stepLen,stepApp,stepCpy,stepPick,stepSls,stepSst,stepSla,bareZ,evX,evL,evB,rd,get,subG,memG,freshG,notInG,hyps,gob,impP,allP,partD,partOf,isOne,isPtr,nth,takeN,dropN,cellsD,lenB,fillD,thirds,entN,setE,sizeE,addE,setL,setN,putE,env0,eqCs,eqAux,eqC,bA,bO,bN,bE,negB,kEq,isShr,lendL,lend,frz,frzL,zRow,known,skipP,closed,closedL,rowsOf,binI,retK,retG,atRet,retD,lendO,resL,resD,oneD,renD,renL,renE,renEs,rho,putAll,entsN,List.append,List.nil_append,List.cons_append,List.append_nil,cond,Nat.reduceBEq,Nat.reduceAdd,Nat.beq]
      rw [rcs_set', Int.toNat_natCast, mapTo_set hr]
      exact ⟨by simp only [fits]; omega, again (ih ⟨i + 1, by omega⟩ (by dsimp only; omega)) ⟨rfl, rfl, rfl, rfl, rfl, rfl, rfl, by simp [get], trivial⟩ ⟨rfl, rfl, rfl, rfl, rfl, rfl, trivial⟩ rfl rfl⟩
  · have hil : i = l.length := by simp at hge; omega
    subst hil
    rw [mapTo_all]
    refine call_frz rfl ⟨rfl, trivial⟩ (Sp.lift (sp_band_Of (fun r hr => ?_) (by rw [List.length_map]; omega)) rfl) ?_
    · obtain ⟨q, hq, rfl⟩ := List.mem_map.1 hr
      have h2 := hv q hq
      have h3 := hwin q hq
      cases ac
      · unfold Vr flR flyR Rc.In fits at *
        dsimp only
        omega
      · unfold Vr flR flxR Rc.In fits at *
        dsimp only
        omega
    dsimp only [c_shape_Flip, r_shape_Flip, run_skip,run_reg,plainB,ifB_true,run_seq,run_blk,run_exit,run_ret,run_ite,iteR,regK,thenK_nrm,thenK_exit,thenK_ret,thenR_nrm,thenR_exit,thenR_ret,blkK,keepS,keepE,runOps_nil,runOps_cons,goG_some,fpOk,foot,entOf,allN,memN,goOn_ok,goOn_call,goOn_row,goOn_arr,goOn_ask,goOn_put,goOn_prm,goOn_callK,goOn_callC,goOn_all,guardP,guardO,notInO,stepF,stepLd,stepSt,stepIxs,stepIxa,stepLen,stepApp,stepCpy,stepPick,stepSls,stepSst,stepSla,bareZ,evX,evL,evB,rd,get,subG,memG,freshG,notInG,hyps,gob,impP,allP,partD,partOf,isOne,isPtr,nth,takeN,dropN,cellsD,lenB,fillD,thirds,entN,setE,sizeE,addE,setL,setN,putE,env0,eqCs,eqAux,eqC,bA,bO,bN,bE,negB,kEq,isShr,lendL,lend,frz,frzL,zRow,known,skipP,closed,closedL,rowsOf,binI,retK,retG,atRet,retD,lendO,resL,resD,oneD,renD,renL,renE,renEs,rho,putAll,entsN,List.append,List.nil_append,List.cons_append,List.append_nil,cond,Nat.reduceBEq,Nat.reduceAdd,Nat.beq]
    rw [hres]
end Go.AM
