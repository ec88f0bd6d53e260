
/- Shapes: the ones of some bits, handed on one by one. -/
import Derived.Test.YtoaialdcgmkbgaaDoorQ6
set_option linter.all false
namespace Go.AM
open Go Go.Proofs

theorem sp_sided {n : Int} : TSp 33 [.int .i64 n] (.bool (decide (1 ≤ n) && decide (n ≤ 128))) := by
  refine spo_shape_sided (by rfl) ?_
  dsimp only [c_shape_sided, r_shape_sided, run_skip,run_reg,plainB,ifB_true,run_seq,run_blk,run_exit,run_ret,run_ite,iteR,regK,thenK_nrm,thenK_exit,thenK_ret,thenR_nrm,thenR_exit,thenR_ret,blkK,keepS,keepE,runOps_nil,runOps_cons,goG_some,fpOk,foot,entOf,allN,memN,goOn_ok,goOn_call,goOn_row,goOn_arr,goOn_ask,goOn_put,goOn_prm,goOn_callK,goOn_callC,goOn_all,guardP,guardO,notInO,stepF,stepLd,stepSt,stepIxs,stepIxa,stepLen,stepApp,stepCpy,stepPick,stepSls,stepSst,stepSla,bareZ,evX,evL,evB,rd,get,subG,memG,freshG,notInG,hyps,gob,impP,allP,partD,partOf,isOne,isPtr,nth,takeN,dropN,cellsD,lenB,fillD,thirds,entN,setE,sizeE,addE,setL,setN,putE,env0,eqCs,eqAux,eqC,bA,bO,bN,bE,negB,kEq,isShr,lendL,lend,frz,frzL,zRow,known,skipP,closed,closedL,rowsOf,binI,retK,retG,atRet,retD,lendO,resL,resD,oneD,renD,renL,renE,renEs,rho,putAll,entsN,List.append,List.nil_append,List.cons_append,List.append_nil,cond,Nat.reduceBEq,Nat.reduceAdd,Nat.beq]
def onD (q : Int × Int) : List D := [.int .i64 q.1, .int .i64 q.2]
def OnK (stride : Nat) (s : List UInt8) (b : List Ent) : Prop := ∃ e0 e1 e2 e3 e4, b = [e0, e1, e2, e3, e4, .cells [.int .i64 stride], .cells [.str s]]
theorem sm_ones {stride : Int} {s : List UInt8} : TSpM 35 [.int .i64 stride, .str s] [] (.fn 59 [.box 1 0, .box 0 0]) [.cells [.int .i64 stride], .cells [.str s]] := by
  refine spm_shape_ones (by rfl) ?_
  dsimp only [c_shape_ones, r_shape_ones, run_skip,run_reg,plainB,ifB_true,run_seq,run_blk,run_exit,run_ret,run_ite,iteR,regK,thenK_nrm,thenK_exit,thenK_ret,thenR_nrm,thenR_exit,thenR_ret,blkK,keepS,keepE,runOps_nil,runOps_cons,goG_some,fpOk,foot,entOf,allN,memN,goOn_ok,goOn_call,goOn_row,goOn_arr,goOn_ask,goOn_put,goOn_prm,goOn_callK,goOn_callC,goOn_all,guardP,guardO,notInO,stepF,stepLd,stepSt,stepIxs,stepIxa,stepLen,stepApp,stepCpy,stepPick,stepSls,stepSst,stepSla,bareZ,evX,evL,evB,rd,get,subG,memG,freshG,notInG,hyps,gob,impP,allP,partD,partOf,isOne,isPtr,nth,takeN,dropN,cellsD,lenB,fillD,thirds,entN,setE,sizeE,addE,setL,setN,putE,env0,eqCs,eqAux,eqC,bA,bO,bN,bE,negB,kEq,isShr,lendL,lend,frz,frzL,zRow,known,skipP,closed,closedL,rowsOf,binI,retK,retG,atRet,retD,lendO,resL,resD,oneD,renD,renL,renE,renEs,rho,putAll,entsN,List.append,List.nil_append,List.cons_append,List.append_nil,cond,Nat.reduceBEq,Nat.reduceAdd,Nat.beq]
  exact Rt.id
theorem bit_is {b : UInt8} {k : Nat} : decide (Int.ofNat ((((b.toNat : Int) / 2 ^ ((k : Nat) : Int).toNat).toNat) &&& (1 : Int).toNat) = 1) = b.toNat.testBit k := by
  rw [Nat.testBit_eq_decide_div_mod_eq, Int.toNat_natCast]
  have e : ((b.toNat : Int) / 2 ^ k).toNat = b.toNat / 2 ^ k := by
    rw [show ((2 : Int) ^ k) = ((2 ^ k : Nat) : Int) from by simp, ← Int.natCast_ediv, Int.toNat_natCast]
  rw [e, show (1 : Int).toNat = 1 from rfl, Nat.and_one_is_mod]
  rw [Bool.eq_iff_iff, decide_eq_true_iff, decide_eq_true_iff]
  show ((b.toNat / 2 ^ k % 2 : Nat) : Int) = 1 ↔ _
  omega

theorem it_ones {stride : Nat} {s : List UInt8} (h0 : 0 < stride) (hst : stride ≤ 1048576) (hlen : s.length ≤ 1048576) : IterM Tryd.prog gtab 59 [.box 6 0, .box 5 0] ((onesAt stride s 0 (8 * s.length)).map onD) (OnK stride s) := by
  refine IterM_of_run mixed c_shape_ones_1 r_shape_ones_1 (fn := Tryd.f59) (by kernel_rfl) (by kernel_rfl) comp_shape_ones_1 (by kernel_rfl) (by rfl) (by kernel_rfl) fun y m S bs n F1 hn0 hm hy hS hbs hlb hgo hstp => ?_
  have hsh : ∀ k, k ≤ m → ∃ e0 e1 e2 e3 e4 o, S k = [e0, e1, e2, e3, e4, .cells [.int .i64 stride], .cells [.str s], .obj o] ∧ n = 8 ∧ lowB n (S k) = true := fun k hk => by
    obtain ⟨h1, h2, b0, o, h3, e0, e1, e2, e3, e4, h4⟩ := hS k hk
    refine ⟨e0, e1, e2, e3, e4, o, by rw [h3, h4]; rfl, ?_, h2⟩
    rw [← h1, h3, h4]; rfl
  have hn8 : n = 8 := (hsh 0 (Nat.zero_le _)).choose_spec.choose_spec.choose_spec.choose_spec.choose_spec.choose_spec.2.1
  subst hn8
  dsimp only [c_shape_ones_1, r_shape_ones_1, run_skip,run_reg,plainB,ifB_true,run_seq,run_blk,run_exit,run_ret,run_ite,iteR,regK,thenK_nrm,thenK_exit,thenK_ret,thenR_nrm,thenR_exit,thenR_ret,blkK,keepS,keepE,runOps_nil,runOps_cons,goG_some,fpOk,foot,entOf,allN,memN,goOn_ok,goOn_call,goOn_row,goOn_arr,goOn_ask,goOn_put,goOn_prm,goOn_callK,goOn_callC,goOn_all,guardP,guardO,notInO,stepF,stepLd,stepSt,stepIxs,stepIxa,stepLen,stepApp,stepCpy,stepPick,stepSls,stepSst,stepSla,bareZ,evX,evL,evB,rd,get,subG,memG,freshG,notInG,hyps,gob,impP,allP,partD,partOf,isOne,isPtr,nth,takeN,dropN,cellsD,lenB,fillD,thirds,entN,setE,sizeE,addE,setL,setN,putE,env0,eqCs,eqAux,eqC,bA,bO,bN,bE,negB,kEq,isShr,lendL,lend,frz,frzL,zRow,known,skipP,closed,closedL,rowsOf,binI,retK,retG,atRet,retD,lendO,resL,resD,oneD,renD,renL,renE,renEs,rho,putAll,entsN,List.append,List.nil_append,List.cons_append,List.append_nil,cond,Nat.reduceBEq,Nat.reduceAdd,Nat.beq]
  refine loop_ind (α := {p : Nat × Nat // p.1 ≤ s.length ∧ p.2 ≤ m ∧ ((onesAt stride s 0 (8 * s.length)).map onD).drop p.2 = (onesAt stride s (8 * p.1) (8 * (s.length - p.1))).map onD})
    (fun p => ⟨[(0, [], .yld y), (1, [], .box 6 0), (2, [], .box 5 0), (4, [], .int .i64 p.1.1)], S p.1.2⟩) (fun p => s.length - p.1.1) ?_ ⟨(0, 0), by simp⟩ rfl
  rintro ⟨⟨i, k⟩, hi, hk, hd⟩ I ih
  dsimp only at hi hk hd ⊢
  obtain ⟨e0, e1, e2, e3, e4, o, hSk, _, hlow⟩ := hsh k hk
  rw [hSk]
  dsimp only [c_shape_ones_1, r_shape_ones_1, run_skip,run_reg,plainB,ifB_true,run_seq,run_blk,run_exit,run_ret,run_ite,iteR,regK,thenK_nrm,thenK_exit,thenK_ret,thenR_nrm,thenR_exit,thenR_ret,blkK,keepS,keepE,runOps_nil,runOps_cons,goG_some,fpOk,foot,entOf,allN,memN,goOn_ok,goOn_call,goOn_row,goOn_arr,goOn_ask,goOn_put,goOn_prm,goOn_callK,goOn_callC,goOn_all,guardP,guardO,notInO,stepF,stepLd,stepSt,stepIxs,stepIxa,stepLen,stepApp,stepCpy,stepPick,stepSls,stepSst,stepSla,bareZ,evX,evL,evB,rd,get,subG,memG,freshG,notInG,hyps,gob,impP,allP,partD,partOf,isOne,isPtr,nth,takeN,dropN,cellsD,lenB,fillD,thirds,entN,setE,sizeE,addE,setL,setN,putE,env0,eqCs,eqAux,eqC,bA,bO,bN,bE,negB,kEq,isShr,lendL,lend,frz,frzL,zRow,known,skipP,closed,closedL,rowsOf,binI,retK,retG,atRet,retD,lendO,resL,resD,oneD,renD,renL,renE,renEs,rho,putAll,entsN,List.append,List.nil_append,List.cons_append,List.append_nil,cond,Nat.reduceBEq,Nat.reduceAdd,Nat.beq]
  refine ⟨fun hlt => ?_, fun hge => ?_⟩
  · have hil : i < s.length := by simpa using hlt
    rw [← hSk]
    clear hSk hlow e0 e1 e2 e3 e4 o
    refine loop_ind (α := {p : Nat × Nat // p.1 ≤ 8 ∧ p.2 ≤ m ∧ ((onesAt stride s 0 (8 * s.length)).map onD).drop p.2 = (onesAt stride s (8 * i + p.1) (8 * (s.length - i) - p.1)).map onD})
      (fun p => ⟨[(0, [], .yld y), (1, [], .box 6 0), (2, [], .box 5 0), (4, [], .int .i64 i), (5, [], .int .i64 p.1.1)], S p.1.2⟩) (fun p => 8 - p.1.1) ?_ ⟨(0, k), Nat.zero_le _, hk, by simpa using hd⟩ rfl
    rintro ⟨⟨b, k2⟩, hb8, hk2, hd2⟩ I2 ih2
    dsimp only at hb8 hk2 hd2 ⊢
    obtain ⟨e0, e1, e2, e3, e4, o, hSk, _, hlow⟩ := hsh k2 hk2
    rw [hSk]
    dsimp only [c_shape_ones_1, r_shape_ones_1, run_skip,run_reg,plainB,ifB_true,run_seq,run_blk,run_exit,run_ret,run_ite,iteR,regK,thenK_nrm,thenK_exit,thenK_ret,thenR_nrm,thenR_exit,thenR_ret,blkK,keepS,keepE,runOps_nil,runOps_cons,goG_some,fpOk,foot,entOf,allN,memN,goOn_ok,goOn_call,goOn_row,goOn_arr,goOn_ask,goOn_put,goOn_prm,goOn_callK,goOn_callC,goOn_all,guardP,guardO,notInO,stepF,stepLd,stepSt,stepIxs,stepIxa,stepLen,stepApp,stepCpy,stepPick,stepSls,stepSst,stepSla,bareZ,evX,evL,evB,rd,get,subG,memG,freshG,notInG,hyps,gob,impP,allP,partD,partOf,isOne,isPtr,nth,takeN,dropN,cellsD,lenB,fillD,thirds,entN,setE,sizeE,addE,setL,setN,putE,env0,eqCs,eqAux,eqC,bA,bO,bN,bE,negB,kEq,isShr,lendL,lend,frz,frzL,zRow,known,skipP,closed,closedL,rowsOf,binI,retK,retG,atRet,retD,lendO,resL,resD,oneD,renD,renL,renE,renEs,rho,putAll,entsN,List.append,List.nil_append,List.cons_append,List.append_nil,cond,Nat.reduceBEq,Nat.reduceAdd,Nat.beq]
    refine ⟨fun hlt2 => ?_, fun hge2 => ?_⟩
    · have hb : b < 8 := by simp only [decide_eq_true_eq] at hlt2; omega
      refine ⟨⟨by omega, by omega⟩, ⟨by omega, by simp only [IntKind.bits]; omega⟩, ?_⟩
      obtain ⟨byt, hbv⟩ : ∃ byt, s.getD ((i : Nat) : Int).toNat 0 = byt := ⟨_, rfl⟩
      rw [hbv]
      have hbv2 : byt = s[i]! := by rw [← hbv, Int.toNat_natCast, List.getD_eq_getElem?_getD, List.getElem?_eq_getElem hil, getElem!_pos s i hil]; rfl
      have hbt : byt.toNat.testBit b = bitAt s (8 * i + b) := by
        unfold bitAt
        rw [show (8 * i + b) / 8 = i by omega, show (8 * i + b) % 8 = b by omega, hbv2]
      rw [bit_is, hbt]
      have hnn : (byt.toNat : Int) / 2 ^ ((b : Nat) : Int).toNat = ((byt.toNat / 2 ^ b : Nat) : Int) := by
        rw [Int.toNat_natCast, show ((2 : Int) ^ b) = ((2 ^ b : Nat) : Int) from by simp, ← Int.natCast_ediv]
      have hle : byt.toNat / 2 ^ b ≤ 255 := Nat.le_trans (Nat.div_le_self _ _) (by have := byt.toNat_lt; omega)
      rw [hnn]
      have hm0 : ((i : Int) % (stride : Int)) = ((i % stride : Nat) : Int) := (Int.natCast_emod _ _).symm
      have hd0 : ((i : Int) / (stride : Int)) = ((i / stride : Nat) : Int) := (Int.natCast_ediv _ _).symm
      rw [hm0, hd0]
      have hml : i % stride < stride := Nat.mod_lt _ h0
      have hdl : i / stride ≤ i := Nat.div_le_self _ _
      have hone : onD (onP stride (8 * i + b)) = [.int .i64 (((i % stride : Nat) : Int) * 8 + b), .int .i64 ((i / stride : Nat) : Int)] := by
        unfold onD onP
        rw [show (8 * i + b) / 8 = i by omega, show (8 * i + b) % 8 = b by omega]
        simp
      clear hnn hm0 hd0
      generalize byt.toNat / 2 ^ b = qv at hle ⊢
      generalize i / stride = dv at hdl hone ⊢
      generalize i % stride = mv at hml hone ⊢
      refine ⟨⟨by omega, by omega, by simp only [fits]; omega, by simp only [fits]; omega⟩, fun _ => ⟨by omega, by omega⟩, fun _ => by simp only [fits]; omega, fun _ => by simp only [fits]; omega, fun _ => ⟨by omega, by omega, by simp only [fits]; omega⟩, ?_⟩
      have hn1 : 8 * (s.length - i) - b = (8 * (s.length - i) - (b + 1)) + 1 := by omega
      rw [hn1, onesAt] at hd2
      have hag : ∀ k3, k3 ≤ m → ((onesAt stride s 0 (8 * s.length)).map onD).drop k3 = (onesAt stride s (8 * i + (b + 1)) (8 * (s.length - i) - (b + 1))).map onD → some' 8 I2 ⟨[(0, [], .yld y), (1, [], .box 6 0), (2, [], .box 5 0), (4, [], .int .i64 i), (5, [], .int .i64 ((b : Int) + 1))], S k3⟩ := fun k3 hk3 hd3 => by
        refine again (ih2 ⟨(b + 1, k3), by dsimp only; omega, hk3, hd3⟩ (by dsimp only; omega)) ⟨rfl, rfl, rfl, rfl, by simp [get], trivial⟩ (subB_self _) ?_ ?_ ?_
        · dsimp only
          rw [(hS k3 hk3).1]
          simp [lowE, low, blt_iff, hy]
        · dsimp only
          rw [(hS k3 hk3).1]; exact (hS k3 hk3).2.1
        · dsimp only
          rw [(hS k3 hk3).1]; rfl
      cases hc : bitAt s (8 * i + b) with
      | false =>
        rw [hc, if_neg (by simp)] at hd2
        refine prm_if (.bool true) _ (fun h => absurd h (by simp)) (fun _ => rfl) ?_
        dsimp only [c_shape_ones_1, r_shape_ones_1, run_skip,run_reg,plainB,ifB_true,run_seq,run_blk,run_exit,run_ret,run_ite,iteR,regK,thenK_nrm,thenK_exit,thenK_ret,thenR_nrm,thenR_exit,thenR_ret,blkK,keepS,keepE,runOps_nil,runOps_cons,goG_some,fpOk,foot,entOf,allN,memN,goOn_ok,goOn_call,goOn_row,goOn_arr,goOn_ask,goOn_put,goOn_prm,goOn_callK,goOn_callC,goOn_all,guardP,guardO,notInO,stepF,stepLd,stepSt,stepIxs,stepIxa,stepLen,stepApp,stepCpy,stepPick,stepSls,stepSst,stepSla,bareZ,evX,evL,evB,rd,get,subG,memG,freshG,notInG,hyps,gob,impP,allP,partD,partOf,isOne,isPtr,nth,takeN,dropN,cellsD,lenB,fillD,thirds,entN,setE,sizeE,addE,setL,setN,putE,env0,eqCs,eqAux,eqC,bA,bO,bN,bE,negB,kEq,isShr,lendL,lend,frz,frzL,zRow,known,skipP,closed,closedL,rowsOf,binI,retK,retG,atRet,retD,lendO,resL,resD,oneD,renD,renL,renE,renEs,rho,putAll,entsN,List.append,List.nil_append,List.cons_append,List.append_nil,cond,Nat.reduceBEq,Nat.reduceAdd,Nat.beq]
        refine ⟨fun h => absurd h (by simp), fun _ => ⟨by simp only [fits]; omega, ?_⟩⟩
        rw [← hSk]
        exact hag k2 hk2 hd2
      | true =>
        rw [hc, if_pos rfl, List.map_cons] at hd2
        have hkx : ((onesAt stride s 0 (8 * s.length)).map onD)[k2]? = some (onD (onP stride (8 * i + b))) := by
          rw [← List.head?_drop, hd2]; rfl
        have hk1 : ((onesAt stride s 0 (8 * s.length)).map onD).drop (k2 + 1) = (onesAt stride s (8 * i + (b + 1)) (8 * (s.length - i) - (b + 1))).map onD := by
          rw [← List.drop_drop, hd2]; rfl
        rcases Nat.lt_or_ge k2 m with hkm | hkm
        · have hp := hgo k2 _ hkm hkx [3, 3]
          rw [hone, hSk] at hp
          refine prm_if _ _ (fun _ => hp) (fun h => h.elim (fun h => absurd rfl h) False.elim) ?_
          dsimp only [c_shape_ones_1, r_shape_ones_1, run_skip,run_reg,plainB,ifB_true,run_seq,run_blk,run_exit,run_ret,run_ite,iteR,regK,thenK_nrm,thenK_exit,thenK_ret,thenR_nrm,thenR_exit,thenR_ret,blkK,keepS,keepE,runOps_nil,runOps_cons,goG_some,fpOk,foot,entOf,allN,memN,goOn_ok,goOn_call,goOn_row,goOn_arr,goOn_ask,goOn_put,goOn_prm,goOn_callK,goOn_callC,goOn_all,guardP,guardO,notInO,stepF,stepLd,stepSt,stepIxs,stepIxa,stepLen,stepApp,stepCpy,stepPick,stepSls,stepSst,stepSla,bareZ,evX,evL,evB,rd,get,subG,memG,freshG,notInG,hyps,gob,impP,allP,partD,partOf,isOne,isPtr,nth,takeN,dropN,cellsD,lenB,fillD,thirds,entN,setE,sizeE,addE,setL,setN,putE,env0,eqCs,eqAux,eqC,bA,bO,bN,bE,negB,kEq,isShr,lendL,lend,frz,frzL,zRow,known,skipP,closed,closedL,rowsOf,binI,retK,retG,atRet,retD,lendO,resL,resD,oneD,renD,renL,renE,renEs,rho,putAll,entsN,List.append,List.nil_append,List.cons_append,List.append_nil,cond,Nat.reduceBEq,Nat.reduceAdd,Nat.beq]
          refine ⟨fun h => absurd h (by simp), fun _ => ⟨by simp only [fits]; omega, ?_⟩⟩
          exact hag (k2 + 1) hkm hk1
        · have hkm' : k2 = m := by omega
          subst hkm'
          have hp := hstp _ hkx [3, 3]
          rw [hone, hSk] at hp
          refine prm_if _ _ (fun _ => hp) (fun h => h.elim (fun h => absurd rfl h) False.elim) ?_
          dsimp only [c_shape_ones_1, r_shape_ones_1, run_skip,run_reg,plainB,ifB_true,run_seq,run_blk,run_exit,run_ret,run_ite,iteR,regK,thenK_nrm,thenK_exit,thenK_ret,thenR_nrm,thenR_exit,thenR_ret,blkK,keepS,keepE,runOps_nil,runOps_cons,goG_some,fpOk,foot,entOf,allN,memN,goOn_ok,goOn_call,goOn_row,goOn_arr,goOn_ask,goOn_put,goOn_prm,goOn_callK,goOn_callC,goOn_all,guardP,guardO,notInO,stepF,stepLd,stepSt,stepIxs,stepIxa,stepLen,stepApp,stepCpy,stepPick,stepSls,stepSst,stepSla,bareZ,evX,evL,evB,rd,get,subG,memG,freshG,notInG,hyps,gob,impP,allP,partD,partOf,isOne,isPtr,nth,takeN,dropN,cellsD,lenB,fillD,thirds,entN,setE,sizeE,addE,setL,setN,putE,env0,eqCs,eqAux,eqC,bA,bO,bN,bE,negB,kEq,isShr,lendL,lend,frz,frzL,zRow,known,skipP,closed,closedL,rowsOf,binI,retK,retG,atRet,retD,lendO,resL,resD,oneD,renD,renL,renE,renEs,rho,putAll,entsN,List.append,List.nil_append,List.cons_append,List.append_nil,cond,Nat.reduceBEq,Nat.reduceAdd,Nat.beq]
          refine ⟨fun _ => ?_, fun h => absurd h (by simp)⟩
          have hlt' := (List.getElem?_eq_some_iff.1 hkx).1
          rw [lastB, if_pos hlt']
          exact subB_self _
    · have hbe : b = 8 := by simp only [decide_eq_false_iff_not] at hge2; omega
      subst hbe
      refine ⟨by simp only [fits]; omega, ?_⟩
      rw [← hSk]
      refine again (ih ⟨(i + 1, k2), hil, hk2, ?_⟩ (by dsimp only; omega)) ⟨rfl, rfl, rfl, by simp [get], trivial⟩ (subB_self _) ?_ ?_ ?_
      · rw [hd2, show 8 * i + 8 = 8 * (i + 1) by omega, show 8 * (s.length - i) - 8 = 8 * (s.length - (i + 1)) by omega]
      · dsimp only
        rw [(hS k2 hk2).1]
        simp [lowE, low, blt_iff, hy]
      · dsimp only
        rw [(hS k2 hk2).1]; exact (hS k2 hk2).2.1
      · dsimp only
        rw [(hS k2 hk2).1]; rfl
  · have hil : ¬ i < s.length := by simpa using hge
    rw [show 8 * (s.length - i) = 0 by omega] at hd
    have : ((onesAt stride s 0 (8 * s.length)).map onD).length ≤ k := by
      have := congrArg List.length hd
      simp [onesAt] at this ⊢; omega
    rw [lastB, if_neg (by omega), show m = k by omega, hSk]
    exact subB_self _
end Go.AM
