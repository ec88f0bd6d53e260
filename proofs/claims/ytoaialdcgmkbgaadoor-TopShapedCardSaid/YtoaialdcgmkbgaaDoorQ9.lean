
/- Shapes: the bitmap of a region. -/
import Derived.Test.YtoaialdcgmkbgaaDoorQ8
set_option linter.all false
namespace Go.AM
open Go Go.Proofs

def byteOf (f : Nat → Bool) : Nat → Nat
  | 0 => 0
  | k + 1 => if f k = true then byteOf f k ||| 2 ^ k else byteOf f k
theorem byteOf_spec (f : Nat → Bool) : ∀ k, byteOf f k < 2 ^ k ∧ ∀ i, (byteOf f k).testBit i = (decide (i < k) && f i)
  | 0 => ⟨by simp [byteOf], fun i => by simp [byteOf]⟩
  | k + 1 => by
    obtain ⟨h1, h2⟩ := byteOf_spec f k
    have h3 : 2 ^ k < 2 ^ (k + 1) := Nat.pow_lt_pow_right (by omega) (by omega)
    unfold byteOf
    split
    · rename_i hf
      refine ⟨Nat.or_lt_two_pow (by omega) h3, fun i => ?_⟩
      rw [Nat.testBit_or, h2, Nat.testBit_two_pow]
      rcases Nat.lt_trichotomy i k with h | h | h
      · simp [show ¬ k = i by omega, h, show i < k + 1 by omega]
      · subst h; simp [hf]
      · simp [show ¬ k = i by omega, show ¬ i < k by omega, show ¬ i < k + 1 by omega]
    · rename_i hf
      refine ⟨by omega, fun i => ?_⟩
      rw [h2]
      rcases Nat.lt_trichotomy i k with h | h | h
      · simp [h, show i < k + 1 by omega]
      · subst h
        have : f i = false := by simpa using hf
        simp [this]
      · simp [show ¬ i < k by omega, show ¬ i < k + 1 by omega]
open Classical in
theorem bits_ex (P : Int → Int → Prop) (stride n : Nat) : IsBits P stride n (bitsS P stride n) := by
  have h : IsBits P stride n ((List.range n).map fun k => UInt8.ofNat (byteOf (fun b => decide (P (((k % stride * 8 + b : Nat) : Int)) ((k / stride : Nat) : Int))) 8)) := by
    refine ⟨by simp, fun k b hk hb => ?_⟩
    obtain ⟨h1, h2⟩ := byteOf_spec (fun b => decide (P (((k % stride * 8 + b : Nat) : Int)) ((k / stride : Nat) : Int))) 8
    rw [getElem!_pos _ k (by simpa using hk), List.getElem_map, List.getElem_range, UInt8.toNat_ofNat', Nat.mod_eq_of_lt (by omega), h2]
    simp [hb]
  rw [bitsS_eq h]
  exact h
/-- Bytes whose bits are these places. -/
structure IsB (Q : Int → Int → Prop) (stride n : Nat) (bs : List Nat) : Prop where
  len : bs.length = n
  lt : ∀ b ∈ bs, b < 256
  bit : ∀ k b, k < n → b < 8 → (bs[k]!.testBit b = true ↔ Q (((k % stride * 8 + b : Nat) : Int)) ((k / stride : Nat) : Int))
theorem IsB.congr {Q Q' : Int → Int → Prop} {stride n : Nat} {bs : List Nat} (h : IsB Q stride n bs) (hq : ∀ x y, Q x y ↔ Q' x y) : IsB Q' stride n bs :=
  ⟨h.len, h.lt, fun k b hk hb => (h.bit k b hk hb).trans (hq _ _)⟩
theorem setBit {Q : Int → Int → Prop} {stride rows x y : Nat} {bs : List Nat} (h : IsB Q stride (stride * rows) bs) (h0 : 0 < stride) (hx : x < 8 * stride) (hy : y < rows) :
    y * stride + x / 8 < stride * rows ∧ IsB (fun x' y' => Q x' y' ∨ (x' = x ∧ y' = y)) stride (stride * rows) (bs.set (y * stride + x / 8) (bs[y * stride + x / 8]! ||| 2 ^ (x % 8))) := by
  have ha : x / 8 < stride := by omega
  have hk : y * stride + x / 8 < stride * rows := by
    have : stride * (y + 1) ≤ stride * rows := Nat.mul_le_mul_left _ (by omega)
    rw [Nat.mul_succ, Nat.mul_comm stride y] at this; omega
  have e1 : (y * stride + x / 8) % stride = x / 8 := by rw [Nat.mul_comm, Nat.mul_add_mod, Nat.mod_eq_of_lt ha]
  have e2 : (y * stride + x / 8) / stride = y := by rw [Nat.mul_comm, Nat.mul_add_div h0, Nat.div_eq_of_lt ha]; omega
  refine ⟨hk, by rw [List.length_set]; exact h.len, fun b hb => ?_, fun k b hk' hb => ?_⟩
  · rcases List.mem_or_eq_of_mem_set hb with hb | rfl
    · exact h.lt b hb
    · have h1 : bs[y * stride + x / 8]! < 256 := h.lt _ (by rw [getElem!_pos bs _ (by rw [h.len]; exact hk)]; exact List.getElem_mem _)
      have h2 : 2 ^ (x % 8) < 2 ^ 8 := Nat.pow_lt_pow_right (by omega) (Nat.mod_lt _ (by omega))
      exact Nat.or_lt_two_pow (n := 8) h1 h2
  · have hlk : k < (bs.set (y * stride + x / 8) (bs[y * stride + x / 8]! ||| 2 ^ (x % 8))).length := by rw [List.length_set, h.len]; exact hk'
    rw [getElem!_pos _ k hlk, List.getElem_set]
    have hbit := h.bit k b hk' hb
    split
    · rename_i he
      subst he
      rw [Nat.testBit_or, Nat.testBit_two_pow, Bool.or_eq_true, hbit, decide_eq_true_eq]
      have : (((((y * stride + x / 8) % stride * 8 + b : Nat) : Int)) = x ∧ (((y * stride + x / 8) / stride : Nat) : Int) = y) ↔ x % 8 = b := by
        rw [e1, e2]; omega
      rw [this]
    · rename_i he
      rw [← getElem!_pos bs k (by rw [h.len]; exact hk'), hbit]
      constructor
      · exact .inl
      · rintro (h1 | ⟨h1, h2⟩)
        · exact h1
        · exfalso
          apply he
          have h3 : k % stride * 8 + b = x := by exact_mod_cast h1
          have h4 : k / stride = y := by exact_mod_cast h2
          have h5 : k % stride = x / 8 := by omega
          have := Nat.div_add_mod k stride
          rw [h4, h5] at this
          rw [Nat.mul_comm]; omega
def u8s (bs : List Nat) : List D := bs.map fun (b : Nat) => .int .u8 (b : Int)
theorem u8s_len (bs : List Nat) : (u8s bs).length = bs.length := by simp [u8s]
theorem isB_str {Q : Int → Int → Prop} {stride n : Nat} {bs : List Nat} (h : IsB Q stride n bs) : IsStr (u8s bs) (.str (bitsS Q stride n)) := by
  have hs : IsBits Q stride n (bs.map UInt8.ofNat) := by
    refine ⟨by rw [List.length_map]; exact h.len, fun k b hk hb => ?_⟩
    have hkl : k < bs.length := by rw [h.len]; exact hk
    rw [getElem!_pos _ k (by simpa using hkl), List.getElem_map, UInt8.toNat_ofNat', Nat.mod_eq_of_lt (h.lt _ (List.getElem_mem _)), ← getElem!_pos bs k hkl]
    exact h.bit k b hk hb
  rw [bitsS_eq hs]
  refine ⟨_, ?_, rfl⟩
  unfold u8s bytesD
  rw [List.map_map]
  refine List.map_congr_left fun b hb => ?_
  have := h.lt b hb
  simp only [Function.comp, UInt8.toNat_ofNat']
  rw [Nat.mod_eq_of_lt (by omega)]

theorem sp_Bits {P : Int → Int → Prop} (hP : Bdd P) {w h : Nat} (hw : 1 ≤ w ∧ w ≤ 128) (hh : 1 ≤ h ∧ h ≤ 128) (h0 : (reg P).length ≤ 8191) (h1 : (reg fun x y => P x y ∧ (⟨0, 0, w, h⟩ : Rc).has x y).length ≤ 1048576) :
    TSp 8 [.agg [.ls 4 (rcs (reg P))], .int .i64 w, .int .i64 h] (.tup [.str (bitsS (fun x y => P x y ∧ (⟨0, 0, w, h⟩ : Rc).has x y) ((w + 7) / 8) ((w + 7) / 8 * h)), .int .i64 0]) := by
  have hc : Vr ⟨0, 0, w, h⟩ := by unfold Vr; dsimp only; omega
  have hP2 : Bdd fun x y => P x y ∧ (⟨0, 0, w, h⟩ : Rc).has x y := fun x y hp => hP x y hp.1
  have hv := reg_Vr hP2
  have hwin : ∀ r ∈ reg fun x y => P x y ∧ (⟨0, 0, w, h⟩ : Rc).has x y, (0 ≤ r.x ∧ r.x + r.w ≤ w) ∧ 0 ≤ r.y ∧ r.y + r.h ≤ h := fun r hr => by
    have hp := hv r hr
    unfold Vr at hp
    have q1 := ((reg_Pt hP2 r.x r.y).1 ⟨r, hr, ⟨by omega, by omega⟩, by omega, by omega⟩).2
    have q2 := ((reg_Pt hP2 (r.x + r.w - 1) (r.y + r.h - 1)).1 ⟨r, hr, ⟨by omega, by omega⟩, by omega, by omega⟩).2
    unfold Rc.has at q1 q2
    dsimp only at q1 q2
    omega
  have hres : ∀ bs, IsB (pts (reg fun x y => P x y ∧ (⟨0, 0, w, h⟩ : Rc).has x y)) ((w + 7) / 8) ((w + 7) / 8 * h) bs → IsStr (u8s bs) (.str (bitsS (fun x y => P x y ∧ (⟨0, 0, w, h⟩ : Rc).has x y) ((w + 7) / 8) ((w + 7) / 8 * h))) := fun bs hb =>
    isB_str (hb.congr fun x y => reg_Pt hP2 x y)
  have hst : (w + 7) / 8 ≤ 16 := by omega
  have hst0 : 0 < (w + 7) / 8 := by omega
  have hst2 : ((w : Int) + 7) / 8 = (((w + 7) / 8 : Nat) : Int) := by omega
  have hmul : ((((w + 7) / 8 : Nat) : Int) * (h : Int)) = (((w + 7) / 8 * h : Nat) : Int) := by simp
  have hmle : (w + 7) / 8 * h ≤ 2048 := Nat.le_trans (Nat.mul_le_mul hst hh.2) (by omega)
  have hwst : w ≤ 8 * ((w + 7) / 8) := by omega
  refine spo_shape_Bits (by rfl) ?_
  dsimp only [c_shape_Bits, r_shape_Bits, run_skip,run_reg,plainB,ifB_true,run_seq,run_blk,run_exit,run_ret,run_ite,iteR,regK,thenK_nrm,thenK_exit,thenK_ret,thenR_nrm,thenR_exit,thenR_ret,blkK,keepS,keepE,runOps_nil,runOps_cons,goG_some,fpOk,foot,entOf,allN,memN,goOn_ok,goOn_call,goOn_row,goOn_arr,goOn_ask,goOn_put,goOn_prm,goOn_callK,goOn_callC,goOn_all,guardP,guardO,notInO,stepF,stepLd,stepSt,stepIxs,stepIxa,stepLen,stepApp,stepCpy,stepPick,stepSls,stepSst,stepSla,bareZ,evX,evL,evB,rd,get,subG,memG,freshG,notInG,hyps,gob,impP,allP,partD,partOf,isOne,isPtr,nth,takeN,dropN,cellsD,lenB,fillD,thirds,entN,setE,sizeE,addE,setL,setN,putE,env0,eqCs,eqAux,eqC,bA,bO,bN,bE,negB,kEq,isShr,lendL,lend,frz,frzL,zRow,known,skipP,closed,closedL,rowsOf,binI,retK,retG,atRet,retD,lendO,resL,resD,oneD,renD,renL,renE,renEs,rho,putAll,entsN,List.append,List.nil_append,List.cons_append,List.append_nil,cond,Nat.reduceBEq,Nat.reduceAdd,Nat.beq]
  refine call_pure sp_sided ?_
  dsimp only [c_shape_Bits, r_shape_Bits, run_skip,run_reg,plainB,ifB_true,run_seq,run_blk,run_exit,run_ret,run_ite,iteR,regK,thenK_nrm,thenK_exit,thenK_ret,thenR_nrm,thenR_exit,thenR_ret,blkK,keepS,keepE,runOps_nil,runOps_cons,goG_some,fpOk,foot,entOf,allN,memN,goOn_ok,goOn_call,goOn_row,goOn_arr,goOn_ask,goOn_put,goOn_prm,goOn_callK,goOn_callC,goOn_all,guardP,guardO,notInO,stepF,stepLd,stepSt,stepIxs,stepIxa,stepLen,stepApp,stepCpy,stepPick,stepSls,stepSst,stepSla,bareZ,evX,evL,evB,rd,get,subG,memG,freshG,notInG,hyps,gob,impP,allP,partD,partOf,isOne,isPtr,nth,takeN,dropN,cellsD,lenB,fillD,thirds,entN,setE,sizeE,addE,setL,setN,putE,env0,eqCs,eqAux,eqC,bA,bO,bN,bE,negB,kEq,isShr,lendL,lend,frz,frzL,zRow,known,skipP,closed,closedL,rowsOf,binI,retK,retG,atRet,retD,lendO,resL,resD,oneD,renD,renL,renE,renEs,rho,putAll,entsN,List.append,List.nil_append,List.cons_append,List.append_nil,cond,Nat.reduceBEq,Nat.reduceAdd,Nat.beq]
  refine call_pure (fun _ => sp_sided) ?_
  dsimp only [c_shape_Bits, r_shape_Bits, run_skip,run_reg,plainB,ifB_true,run_seq,run_blk,run_exit,run_ret,run_ite,iteR,regK,thenK_nrm,thenK_exit,thenK_ret,thenR_nrm,thenR_exit,thenR_ret,blkK,keepS,keepE,runOps_nil,runOps_cons,goG_some,fpOk,foot,entOf,allN,memN,goOn_ok,goOn_call,goOn_row,goOn_arr,goOn_ask,goOn_put,goOn_prm,goOn_callK,goOn_callC,goOn_all,guardP,guardO,notInO,stepF,stepLd,stepSt,stepIxs,stepIxa,stepLen,stepApp,stepCpy,stepPick,stepSls,stepSst,stepSla,bareZ,evX,evL,evB,rd,get,subG,memG,freshG,notInG,hyps,gob,impP,allP,partD,partOf,isOne,isPtr,nth,takeN,dropN,cellsD,lenB,fillD,thirds,entN,setE,sizeE,addE,setL,setN,putE,env0,eqCs,eqAux,eqC,bA,bO,bN,bE,negB,kEq,isShr,lendL,lend,frz,frzL,zRow,known,skipP,closed,closedL,rowsOf,binI,retK,retG,atRet,retD,lendO,resL,resD,oneD,renD,renL,renE,renEs,rho,putAll,entsN,List.append,List.nil_append,List.cons_append,List.append_nil,cond,Nat.reduceBEq,Nat.reduceAdd,Nat.beq]
  refine ⟨fun h => ?_, fun _ => ?_⟩
  · simp only [Bool.or_eq_true, Bool.not_eq_true', Bool.and_eq_false_iff, decide_eq_false_iff_not] at h; omega
  rw [hst2, hmul]
  generalize hstd : (w + 7) / 8 = st at *
  generalize hN : (bitsS (fun x y => P x y ∧ (⟨0, 0, w, h⟩ : Rc).has x y) st (st * h)) = fin at *
  refine ⟨by simp only [fits]; omega, ⟨by omega, by omega, by simp only [fits]; omega⟩, by simp only [fits]; omega, ⟨by omega, by omega, by omega⟩, ?_⟩
  refine call_pure (sp_Within (c := ⟨0, 0, w, h⟩) hP hc h0) ?_
  dsimp only [c_shape_Bits, r_shape_Bits, run_skip,run_reg,plainB,ifB_true,run_seq,run_blk,run_exit,run_ret,run_ite,iteR,regK,thenK_nrm,thenK_exit,thenK_ret,thenR_nrm,thenR_exit,thenR_ret,blkK,keepS,keepE,runOps_nil,runOps_cons,goG_some,fpOk,foot,entOf,allN,memN,goOn_ok,goOn_call,goOn_row,goOn_arr,goOn_ask,goOn_put,goOn_prm,goOn_callK,goOn_callC,goOn_all,guardP,guardO,notInO,stepF,stepLd,stepSt,stepIxs,stepIxa,stepLen,stepApp,stepCpy,stepPick,stepSls,stepSst,stepSla,bareZ,evX,evL,evB,rd,get,subG,memG,freshG,notInG,hyps,gob,impP,allP,partD,partOf,isOne,isPtr,nth,takeN,dropN,cellsD,lenB,fillD,thirds,entN,setE,sizeE,addE,setL,setN,putE,env0,eqCs,eqAux,eqC,bA,bO,bN,bE,negB,kEq,isShr,lendL,lend,frz,frzL,zRow,known,skipP,closed,closedL,rowsOf,binI,retK,retG,atRet,retD,lendO,resL,resD,oneD,renD,renL,renE,renEs,rho,putAll,entsN,List.append,List.nil_append,List.cons_append,List.append_nil,cond,Nat.reduceBEq,Nat.reduceAdd,Nat.beq]
  generalize (reg fun x y => P x y ∧ (⟨0, 0, w, h⟩ : Rc).has x y) = l at *
  refine call_pure (sp_Rects (l := rcs l) (by rw [rcs_len]; omega)) ?_
  dsimp only [c_shape_Bits, r_shape_Bits, run_skip,run_reg,plainB,ifB_true,run_seq,run_blk,run_exit,run_ret,run_ite,iteR,regK,thenK_nrm,thenK_exit,thenK_ret,thenR_nrm,thenR_exit,thenR_ret,blkK,keepS,keepE,runOps_nil,runOps_cons,goG_some,fpOk,foot,entOf,allN,memN,goOn_ok,goOn_call,goOn_row,goOn_arr,goOn_ask,goOn_put,goOn_prm,goOn_callK,goOn_callC,goOn_all,guardP,guardO,notInO,stepF,stepLd,stepSt,stepIxs,stepIxa,stepLen,stepApp,stepCpy,stepPick,stepSls,stepSst,stepSla,bareZ,evX,evL,evB,rd,get,subG,memG,freshG,notInG,hyps,gob,impP,allP,partD,partOf,isOne,isPtr,nth,takeN,dropN,cellsD,lenB,fillD,thirds,entN,setE,sizeE,addE,setL,setN,putE,env0,eqCs,eqAux,eqC,bA,bO,bN,bE,negB,kEq,isShr,lendL,lend,frz,frzL,zRow,known,skipP,closed,closedL,rowsOf,binI,retK,retG,atRet,retD,lendO,resL,resD,oneD,renD,renL,renE,renEs,rho,putAll,entsN,List.append,List.nil_append,List.cons_append,List.append_nil,cond,Nat.reduceBEq,Nat.reduceAdd,Nat.beq]
  rw [rcs_len, show List.replicate ((st * h : Nat) : Int).toNat (D.int .u8 0) = u8s (List.replicate (st * h) 0) from by rw [Int.toNat_natCast]; simp [u8s]]
  refine loop_ind (α := {p : Nat × List Nat // p.1 ≤ l.length ∧ IsB (pts (l.take p.1)) st (st * h) p.2})
    (fun p => ⟨[(8, [], .int .i64 st), (9, [], .own 1 1), (34, [], .ls 4 (rcs l)), (35, [], .int .i64 l.length), (36, [], .int .i64 p.1.1)], [.cells [.ls 4 (rcs (reg P))], .arr 5 1 1 (u8s p.1.2)]⟩)
    (fun p => l.length - p.1.1) ?_ ⟨(0, List.replicate (st * h) 0), Nat.zero_le _, by simp, fun b hb => by have := List.eq_of_mem_replicate hb; omega, fun k b hk hb => by
      rw [getElem!_pos _ k (by simpa using hk), List.getElem_replicate]
      simp [pts]⟩ rfl
  rintro ⟨⟨i, bs⟩, hi, hB⟩ I ih
  dsimp only at hi hB ⊢
  dsimp only [c_shape_Bits, r_shape_Bits, run_skip,run_reg,plainB,ifB_true,run_seq,run_blk,run_exit,run_ret,run_ite,iteR,regK,thenK_nrm,thenK_exit,thenK_ret,thenR_nrm,thenR_exit,thenR_ret,blkK,keepS,keepE,runOps_nil,runOps_cons,goG_some,fpOk,foot,entOf,allN,memN,goOn_ok,goOn_call,goOn_row,goOn_arr,goOn_ask,goOn_put,goOn_prm,goOn_callK,goOn_callC,goOn_all,guardP,guardO,notInO,stepF,stepLd,stepSt,stepIxs,stepIxa,stepLen,stepApp,stepCpy,stepPick,stepSls,stepSst,stepSla,bareZ,evX,evL,evB,rd,get,subG,memG,freshG,notInG,hyps,gob,impP,allP,partD,partOf,isOne,isPtr,nth,takeN,dropN,cellsD,lenB,fillD,thirds,entN,setE,sizeE,addE,setL,setN,putE,env0,eqCs,eqAux,eqC,bA,bO,bN,bE,negB,kEq,isShr,lendL,lend,frz,frzL,zRow,known,skipP,closed,closedL,rowsOf,binI,retK,retG,atRet,retD,lendO,resL,resD,oneD,renD,renL,renE,renEs,rho,putAll,entsN,List.append,List.nil_append,List.cons_append,List.append_nil,cond,Nat.reduceBEq,Nat.reduceAdd,Nat.beq]
  refine ⟨fun hlt => ?_, fun hge => ?_⟩
  · have hil : i < l.length := by simpa using hlt
    obtain ⟨r, hr⟩ : ∃ r, l[i]? = some r := ⟨_, List.getElem?_eq_getElem hil⟩
    refine ⟨⟨rfl, by omega, by rw [rcs_len]; omega⟩, row_intro (rD r) (rD r) (rcs_get (by simpa using hr)) rfl ?_⟩
    dsimp only [c_shape_Bits, r_shape_Bits, rD, run_skip,run_reg,plainB,ifB_true,run_seq,run_blk,run_exit,run_ret,run_ite,iteR,regK,thenK_nrm,thenK_exit,thenK_ret,thenR_nrm,thenR_exit,thenR_ret,blkK,keepS,keepE,runOps_nil,runOps_cons,goG_some,fpOk,foot,entOf,allN,memN,goOn_ok,goOn_call,goOn_row,goOn_arr,goOn_ask,goOn_put,goOn_prm,goOn_callK,goOn_callC,goOn_all,guardP,guardO,notInO,stepF,stepLd,stepSt,stepIxs,stepIxa,stepLen,stepApp,stepCpy,stepPick,stepSls,stepSst,stepSla,bareZ,evX,evL,evB,rd,get,subG,memG,freshG,notInG,hyps,gob,impP,allP,partD,partOf,isOne,isPtr,nth,takeN,dropN,cellsD,lenB,fillD,thirds,entN,setE,sizeE,addE,setL,setN,putE,env0,eqCs,eqAux,eqC,bA,bO,bN,bE,negB,kEq,isShr,lendL,lend,frz,frzL,zRow,known,skipP,closed,closedL,rowsOf,binI,retK,retG,atRet,retD,lendO,resL,resD,oneD,renD,renL,renE,renEs,rho,putAll,entsN,List.append,List.nil_append,List.cons_append,List.append_nil,cond,Nat.reduceBEq,Nat.reduceAdd,Nat.beq]
    have hV := hv r (List.mem_of_getElem? hr)
    have hW := hwin r (List.mem_of_getElem? hr)
    unfold Vr at hV
    refine loop_ind (α := {p : Nat × List Nat // p.1 ≤ r.h.toNat ∧ IsB (fun x y => pts (l.take i) x y ∨ ((r.x ≤ x ∧ x < r.x + r.w) ∧ r.y ≤ y ∧ y < r.y + p.1)) st (st * h) p.2})
      (fun p => ⟨[(8, [], .int .i64 st), (9, [], .own 1 1), (11, [], .box 2 0), (12, [], .int .i64 (r.y + p.1.1)), (34, [], .ls 4 (rcs l)), (35, [], .int .i64 l.length), (36, [], .int .i64 i)], [.cells [.ls 4 (rcs (reg P))], .arr 5 1 1 (u8s p.1.2), .cells [.int .i64 r.x, .int .i64 r.y, .int .i64 r.w, .int .i64 r.h]]⟩)
      (fun p => r.h.toNat - p.1.1) ?_ ⟨(0, bs), Nat.zero_le _, hB.congr fun x y => ⟨.inl, fun h => h.elim id fun h => by omega⟩⟩ (by simp)
    rintro ⟨⟨k, bs2⟩, hk, hB2⟩ I2 ih2
    dsimp only at hk hB2 ⊢
    dsimp only [c_shape_Bits, r_shape_Bits, run_skip,run_reg,plainB,ifB_true,run_seq,run_blk,run_exit,run_ret,run_ite,iteR,regK,thenK_nrm,thenK_exit,thenK_ret,thenR_nrm,thenR_exit,thenR_ret,blkK,keepS,keepE,runOps_nil,runOps_cons,goG_some,fpOk,foot,entOf,allN,memN,goOn_ok,goOn_call,goOn_row,goOn_arr,goOn_ask,goOn_put,goOn_prm,goOn_callK,goOn_callC,goOn_all,guardP,guardO,notInO,stepF,stepLd,stepSt,stepIxs,stepIxa,stepLen,stepApp,stepCpy,stepPick,stepSls,stepSst,stepSla,bareZ,evX,evL,evB,rd,get,subG,memG,freshG,notInG,hyps,gob,impP,allP,partD,partOf,isOne,isPtr,nth,takeN,dropN,cellsD,lenB,fillD,thirds,entN,setE,sizeE,addE,setL,setN,putE,env0,eqCs,eqAux,eqC,bA,bO,bN,bE,negB,kEq,isShr,lendL,lend,frz,frzL,zRow,known,skipP,closed,closedL,rowsOf,binI,retK,retG,atRet,retD,lendO,resL,resD,oneD,renD,renL,renE,renEs,rho,putAll,entsN,List.append,List.nil_append,List.cons_append,List.append_nil,cond,Nat.reduceBEq,Nat.reduceAdd,Nat.beq]
    refine ⟨by simp only [fits]; omega, fun hlt2 => ?_, fun hge2 => ?_⟩
    · have hkh : k < r.h.toNat := by simp only [decide_eq_true_eq] at hlt2; omega
      refine loop_ind (α := {p : Nat × List Nat // p.1 ≤ r.w.toNat ∧ IsB (fun x y => (pts (l.take i) x y ∨ ((r.x ≤ x ∧ x < r.x + r.w) ∧ r.y ≤ y ∧ y < r.y + k)) ∨ (y = r.y + k ∧ r.x ≤ x ∧ x < r.x + p.1)) st (st * h) p.2})
        (fun p => ⟨[(8, [], .int .i64 st), (9, [], .own 1 1), (11, [], .box 2 0), (12, [], .int .i64 (r.y + k)), (13, [], .int .i64 (r.x + p.1.1)), (34, [], .ls 4 (rcs l)), (35, [], .int .i64 l.length), (36, [], .int .i64 i)], [.cells [.ls 4 (rcs (reg P))], .arr 5 1 1 (u8s p.1.2), .cells [.int .i64 r.x, .int .i64 r.y, .int .i64 r.w, .int .i64 r.h]]⟩)
        (fun p => r.w.toNat - p.1.1) ?_ ⟨(0, bs2), Nat.zero_le _, hB2.congr fun x y => ⟨.inl, fun h => h.elim id fun h => by omega⟩⟩ (by simp)
      rintro ⟨⟨j, bs3⟩, hj, hB3⟩ I3 ih3
      dsimp only at hj hB3 ⊢
      dsimp only [c_shape_Bits, r_shape_Bits, run_skip,run_reg,plainB,ifB_true,run_seq,run_blk,run_exit,run_ret,run_ite,iteR,regK,thenK_nrm,thenK_exit,thenK_ret,thenR_nrm,thenR_exit,thenR_ret,blkK,keepS,keepE,runOps_nil,runOps_cons,goG_some,fpOk,foot,entOf,allN,memN,goOn_ok,goOn_call,goOn_row,goOn_arr,goOn_ask,goOn_put,goOn_prm,goOn_callK,goOn_callC,goOn_all,guardP,guardO,notInO,stepF,stepLd,stepSt,stepIxs,stepIxa,stepLen,stepApp,stepCpy,stepPick,stepSls,stepSst,stepSla,bareZ,evX,evL,evB,rd,get,subG,memG,freshG,notInG,hyps,gob,impP,allP,partD,partOf,isOne,isPtr,nth,takeN,dropN,cellsD,lenB,fillD,thirds,entN,setE,sizeE,addE,setL,setN,putE,env0,eqCs,eqAux,eqC,bA,bO,bN,bE,negB,kEq,isShr,lendL,lend,frz,frzL,zRow,known,skipP,closed,closedL,rowsOf,binI,retK,retG,atRet,retD,lendO,resL,resD,oneD,renD,renL,renE,renEs,rho,putAll,entsN,List.append,List.nil_append,List.cons_append,List.append_nil,cond,Nat.reduceBEq,Nat.reduceAdd,Nat.beq]
      refine ⟨by simp only [fits]; omega, fun hlt3 => ?_, fun hge3 => ?_⟩
      · have hjw : j < r.w.toNat := by simp only [decide_eq_true_eq] at hlt3; omega
        obtain ⟨X, hX⟩ : ∃ X : Nat, r.x + (j : Int) = X := ⟨(r.x + j).toNat, by omega⟩
        obtain ⟨Y, hY⟩ : ∃ Y : Nat, r.y + (k : Int) = Y := ⟨(r.y + k).toNat, by omega⟩
        obtain ⟨hk0, hset⟩ := setBit (x := X) (y := Y) hB3 hst0 (by omega) (by omega)
        rw [hX, hY]
        have hYS : ((Y : Int) * (st : Int)) = ((Y * st : Nat) : Int) := by simp
        have hX8 : ((X : Int) / 8) = ((X / 8 : Nat) : Int) := by omega
        have hsum : ((Y * st : Nat) : Int) + ((X / 8 : Nat) : Int) = ((Y * st + X / 8 : Nat) : Int) := by simp
        rw [hYS, hX8, hsum]
        have hYk : Y * st ≤ Y * st + X / 8 := Nat.le_add_right _ _
        have hXm : ((X : Int) % 8) = ((X % 8 : Nat) : Int) := by omega
        have hX8l : X / 8 ≤ 128 := by omega
        have hXml : X % 8 < 8 := Nat.mod_lt _ (by omega)
        clear hYS hX8 hsum
        generalize Y * st + X / 8 = k0 at *
        generalize Y * st = ys at *
        generalize st * h = sh at *
        generalize X / 8 = x8 at *
        have hbl : bs3.length = sh := hB3.len
        have hb0 : bs3[k0]? = some bs3[k0]! := by rw [List.getElem?_eq_getElem (by omega), getElem!_pos bs3 k0 (by omega)]
        have hb1 : bs3[k0]! < 256 := hB3.lt _ (List.mem_of_getElem? hb0)
        generalize bs3[k0]! = b0 at *
        have hget : (u8s bs3)[((k0 : Nat) : Int).toNat]? = some (.int .u8 b0) := by rw [Int.toNat_natCast]; simp [u8s, hb0]
        have hix : (0 : Int) ≤ (k0 : Int) ∧ (k0 : Int) < ((u8s bs3).length : Int) := by rw [u8s_len]; omega
        refine ⟨by simp only [fits]; omega, ⟨by omega, by omega, by simp only [fits]; omega⟩, by simp only [fits]; omega, ⟨rfl, rfl, hix⟩, ⟨rfl, rfl⟩, row_intro (.int .u8 b0) (.int .u8 b0) hget rfl ?_⟩
        dsimp only [c_shape_Bits, r_shape_Bits, run_skip,run_reg,plainB,ifB_true,run_seq,run_blk,run_exit,run_ret,run_ite,iteR,regK,thenK_nrm,thenK_exit,thenK_ret,thenR_nrm,thenR_exit,thenR_ret,blkK,keepS,keepE,runOps_nil,runOps_cons,goG_some,fpOk,foot,entOf,allN,memN,goOn_ok,goOn_call,goOn_row,goOn_arr,goOn_ask,goOn_put,goOn_prm,goOn_callK,goOn_callC,goOn_all,guardP,guardO,notInO,stepF,stepLd,stepSt,stepIxs,stepIxa,stepLen,stepApp,stepCpy,stepPick,stepSls,stepSst,stepSla,bareZ,evX,evL,evB,rd,get,subG,memG,freshG,notInG,hyps,gob,impP,allP,partD,partOf,isOne,isPtr,nth,takeN,dropN,cellsD,lenB,fillD,thirds,entN,setE,sizeE,addE,setL,setN,putE,env0,eqCs,eqAux,eqC,bA,bO,bN,bE,negB,kEq,isShr,lendL,lend,frz,frzL,zRow,known,skipP,closed,closedL,rowsOf,binI,retK,retG,atRet,retD,lendO,resL,resD,oneD,renD,renL,renE,renEs,rho,putAll,entsN,List.append,List.nil_append,List.cons_append,List.append_nil,cond,Nat.reduceBEq,Nat.reduceAdd,Nat.beq]
        rw [hXm]
        have hpw : (1 : Int) * 2 ^ ((X % 8 : Nat) : Int).toNat = ((2 ^ (X % 8) : Nat) : Int) := by rw [Int.toNat_natCast, Int.one_mul]; simp
        rw [hpw]
        have hp2 : 2 ^ (X % 8) < 256 := Nat.lt_of_lt_of_le (Nat.pow_lt_pow_right (by omega) hXml) (Nat.le_refl (2 ^ 8))
        generalize 2 ^ (X % 8) = pw at *
        have hor : Int.ofNat ((b0 : Int).toNat ||| (pw : Int).toNat) = ((b0 ||| pw : Nat) : Int) := by rw [Int.toNat_natCast, Int.toNat_natCast]; rfl
        refine ⟨⟨by omega, by omega⟩, ⟨by omega, by simp only [IntKind.bits]; omega, by simp only [fits]; omega⟩, ⟨by omega, by omega, by simp only [fits]; omega, by simp only [fits]; omega⟩, ⟨rfl, rfl, hix⟩, ⟨rfl, rfl⟩, putrow_intro (hs := []) (.int .u8 b0) (.int .u8 ((b0 ||| pw : Nat) : Int)) hget rfl ?_⟩
        dsimp only [c_shape_Bits, r_shape_Bits, run_skip,run_reg,plainB,ifB_true,run_seq,run_blk,run_exit,run_ret,run_ite,iteR,regK,thenK_nrm,thenK_exit,thenK_ret,thenR_nrm,thenR_exit,thenR_ret,blkK,keepS,keepE,runOps_nil,runOps_cons,goG_some,fpOk,foot,entOf,allN,memN,goOn_ok,goOn_call,goOn_row,goOn_arr,goOn_ask,goOn_put,goOn_prm,goOn_callK,goOn_callC,goOn_all,guardP,guardO,notInO,stepF,stepLd,stepSt,stepIxs,stepIxa,stepLen,stepApp,stepCpy,stepPick,stepSls,stepSst,stepSla,bareZ,evX,evL,evB,rd,get,subG,memG,freshG,notInG,hyps,gob,impP,allP,partD,partOf,isOne,isPtr,nth,takeN,dropN,cellsD,lenB,fillD,thirds,entN,setE,sizeE,addE,setL,setN,putE,env0,eqCs,eqAux,eqC,bA,bO,bN,bE,negB,kEq,isShr,lendL,lend,frz,frzL,zRow,known,skipP,closed,closedL,rowsOf,binI,retK,retG,atRet,retD,lendO,resL,resD,oneD,renD,renL,renE,renEs,rho,putAll,entsN,List.append,List.nil_append,List.cons_append,List.append_nil,cond,Nat.reduceBEq,Nat.reduceAdd,Nat.beq]
        refine ⟨by simp only [fits]; omega, ?_⟩
        refine again (ih3 ⟨(j + 1, bs3.set k0 (b0 ||| pw)), hjw, hset.congr fun x y => ?_⟩ (by dsimp only; omega)) ⟨rfl, rfl, rfl, by rw [hY]; rfl, by simp [get]; omega, rfl, rfl, rfl, trivial⟩ ⟨rfl, ?_, rfl, trivial⟩ rfl rfl
        · dsimp only
          constructor
          · rintro ((h | h) | h)
            · exact .inl h
            · exact .inr (by omega)
            · exact .inr (by omega)
          · rintro (h | h)
            · exact .inl (.inl h)
            · by_cases h9 : x < r.x + j
              · exact .inl (.inr (by omega))
              · exact .inr (by omega)
        · dsimp only
          rw [Int.toNat_natCast]
          simp [u8s, List.map_set]
      · have hje : j = r.w.toNat := by simp only [decide_eq_false_iff_not] at hge3; omega
        refine ⟨by simp only [fits]; omega, ?_⟩
        refine again (ih2 ⟨(k + 1, bs3), hkh, hB3.congr fun x y => ?_⟩ (by dsimp only; omega)) ⟨rfl, rfl, rfl, by simp [get]; omega, rfl, rfl, rfl, trivial⟩ ⟨rfl, rfl, rfl, trivial⟩ rfl rfl
        constructor
        · rintro ((h | h) | h)
          · exact .inl h
          · exact .inr (by dsimp only; omega)
          · exact .inr (by dsimp only; omega)
        · rintro (h | h)
          · exact .inl (.inl h)
          · dsimp only at h
            by_cases h9 : y < r.y + k
            · exact .inl (.inr (by omega))
            · exact .inr (by omega)
    · have hke : k = r.h.toNat := by simp only [decide_eq_false_iff_not] at hge2; omega
      refine ⟨by simp only [fits]; omega, ?_⟩
      refine again (ih ⟨(i + 1, bs2), hil, hB2.congr fun x y => ?_⟩ (by dsimp only; omega)) ⟨rfl, rfl, rfl, rfl, by simp [get], trivial⟩ ⟨rfl, rfl, trivial⟩ rfl rfl
      rw [List.take_add_one, hr, Option.toList, pts_app, pts_one]
      have : (r.x ≤ x ∧ x < r.x + r.w) ∧ r.y ≤ y ∧ y < r.y + k ↔ r.has x y := by unfold Rc.has; omega
      rw [this]
  · have hil : i = l.length := by simp at hge; omega
    subst hil
    rw [List.take_length] at hB
    refine ⟨⟨rfl, rfl⟩, ask_intro (.str fin) (hres bs hB) ?_⟩
    dsimp only [c_shape_Bits, r_shape_Bits, run_skip,run_reg,plainB,ifB_true,run_seq,run_blk,run_exit,run_ret,run_ite,iteR,regK,thenK_nrm,thenK_exit,thenK_ret,thenR_nrm,thenR_exit,thenR_ret,blkK,keepS,keepE,runOps_nil,runOps_cons,goG_some,fpOk,foot,entOf,allN,memN,goOn_ok,goOn_call,goOn_row,goOn_arr,goOn_ask,goOn_put,goOn_prm,goOn_callK,goOn_callC,goOn_all,guardP,guardO,notInO,stepF,stepLd,stepSt,stepIxs,stepIxa,stepLen,stepApp,stepCpy,stepPick,stepSls,stepSst,stepSla,bareZ,evX,evL,evB,rd,get,subG,memG,freshG,notInG,hyps,gob,impP,allP,partD,partOf,isOne,isPtr,nth,takeN,dropN,cellsD,lenB,fillD,thirds,entN,setE,sizeE,addE,setL,setN,putE,env0,eqCs,eqAux,eqC,bA,bO,bN,bE,negB,kEq,isShr,lendL,lend,frz,frzL,zRow,known,skipP,closed,closedL,rowsOf,binI,retK,retG,atRet,retD,lendO,resL,resD,oneD,renD,renL,renE,renEs,rho,putAll,entsN,List.append,List.nil_append,List.cons_append,List.append_nil,cond,Nat.reduceBEq,Nat.reduceAdd,Nat.beq]
end Go.AM
