import Derived.Test.YtoaialdcgmkbgaaGreatRL7

set_option linter.all false
namespace Go.AM
open Go Go.RowKit Go.Proofs
structure It where
 w : Nat
 h : Nat
 f : Px
 g : Int
 win : Bool
 back : Bool
def itD (i : It) : D := .agg [.int .i64 i.w, .int .i64 i.h, .ls 1 (gl i.w i.h i.f), .int .u8 i.g, .bool i.win, .bool i.back]
theorem YQ (i : It) : closed (itD i) = true := by simp [itD, closed, jy, bA]
theorem tIt : Tryz.prog.underlying 90 = some (.map 53 207) := by kernel_rfl
theorem zIt : ZV Tryz.prog 207 (.agg #[.int .i64 0, .int .i64 0, .slice none 0 0, .int .u8 0, .bool false, .bool false]) := by unfold ZV; kernel_rfl
def zItD : D := .agg [.int .i64 0, .int .i64 0, .ls 1 [], .int .u8 0, .bool false, .bool false]
theorem zIt_rep (K : Kn) (pl : Pl) : Rep K pl zItD (.agg #[.int .i64 0, .int .i64 0, .slice none 0 0, .int .u8 0, .bool false, .bool false]) := by
 simp only [zItD, Rep, RepL]
 refine ⟨_, rfl, ⟨_, _, rfl, rfl, _, _, rfl, rfl, _, _, rfl, ⟨none, 0, 0, rfl, rfl, Nat.le_refl _, fun _ => rfl, .inl trivial⟩, _, _, rfl, rfl, _, _, rfl, rfl, _, _, rfl, rfl, rfl⟩, fun c hc => ?_⟩
 simp only [List.mem_cons, List.not_mem_nil, or_false] at hc
 rcases hc with h | h | h | h | h | h <;> (rw [h]; rfl)
theorem pr_it {bx : List Ent} {kv : KV} (hn : NdK kv) {id : Int} {d : D} (h : lk kv id = some d) : PrM Tryz.prog gtab (.lkp 90 true) [.mp (mpK .u32 kv) (mpV kv), .int .u32 id] bx (.tup [d, .bool true]) bx := by
 have := Ja (gt := gtab) (bx := bx) tIt tI zIt hn id true (zd := .nil) (fun h' => by rw [h] at h'; cases h')
 rw [h] at this; exact this
theorem pr_itN {bx : List Ent} {kv : KV} (hn : NdK kv) {id : Int} (h : lk kv id = none) : PrM Tryz.prog gtab (.lkp 90 true) [.mp (mpK .u32 kv) (mpV kv), .int .u32 id] bx (.tup [zItD, .bool false]) bx := by
 have := Ja (gt := gtab) (bx := bx) tIt tI zIt hn id true (zd := zItD) (fun _ => zIt_rep)
 rw [h] at this; exact this
theorem KH : ∀ {l : List D}, jy l = true ↔ ∀ d ∈ l, closed d = true
 | [] => by simp [jy]
 | d :: l => by simp only [jy, qf, List.mem_cons, forall_eq_or_imp, KH (l := l)]
theorem ja9 {a b : KV} (h : jy (mpV b) = true) (hs : ∀ p ∈ a, p ∈ b) : jy (mpV a) = true := by
 rw [KH] at h |-
 intro d hd
 obtain ⟨p, hp, rfl⟩ := List.mem_map.1 hd
 exact h _ (List.mem_map.2 ⟨p, hs p hp, rfl⟩)
structure CpY where
 done : KV
 left : KV
 cur : Option (D × D)
def stCy (x : CpY) : St := ⟨[(0, [], .ownm 0 0), (7, [], .box 1 0)], [.map (mpK .u32 x.done) (mpV x.done), .iter x.cur (mpK .u32 x.left) (mpV x.left)]⟩
def ItV (kv : KV) : Prop := ∀ p ∈ kv, ∃ i, p.2 = itD i
theorem ItV.closed {kv : KV} (h : ItV kv) : jy (mpV kv) = true := by
 rw [KH]
 intro d hd
 obtain ⟨p, hp, rfl⟩ := List.mem_map.1 hd
 obtain ⟨i, hi⟩ := h p hp
 rw [hi]; exact YQ i
theorem ItV.put {kv : KV} (h : ItV kv) {n : Int} {i : It} : ItV (put kv n (itD i)) := by
 intro p hp
 have key : ∀ {l : KV}, (∀ p ∈ l, ∃ i, p.2 = itD i) -> p ∈ Go.AM.put l n (itD i) -> ∃ i, p.2 = itD i := fun {l} => by
  induction l with
  | nil => intro _ h; simp [Go.AM.put] at h; exact ⟨i, by rw [h]⟩
  | cons q l ih =>
    intro h1 h2
    simp only [Go.AM.put] at h2
    split at h2
    ·rcases List.mem_cons.1 h2 with h2 | h2
     ·exact ⟨i, by rw [h2]⟩
     ·exact h1 p (by simp [h2])
    ·rcases List.mem_cons.1 h2 with h2 | h2
     ·exact h1 p (by simp [h2])
     ·exact ih (fun p hp => h1 p (by simp [hp])) h2
 exact key h hp
theorem jc7 {kv : KV} (hn : NdK kv) (hv : ItV kv) : TSpM 190 [.ownm 0 0, .mp (mpK .u32 kv) (mpV kv)] [.map (mpK .u32 []) (mpV [])] (.tup []) [.map (mpK .u32 kv) (mpV kv)] := by
 refine qe (by rfl) ?_
 dsimp only [c_maps_Copy_map_api_ID_canvas_item_map_api_ID_canvas_item_api_ID_canvas_item, kI, jn,jH,jO,jq,jF,jJ,jo,jG,jI,iteR,regK,jh,jc,jk,jj,jb,ji,blkK,kp,kd,jd,ja,jx,fpOk,foot,km,allN,memN,jK,jl,jr,jv,jt,ju,jf,jg,je,newN,jw,jN,jP,jY,jQ,jM,jS,jz,jA,jC,jD,jE,jm,jB,evX,evL,evB,rd,get,subG,memG,jT,jV,hyps,gob,impP,allP,j1,jX,j3,kj,nth,j8,kh,jU,lenB,kg,jR,entN,setE,jZ,addE,setL,setN,putE,env0,eqCs,j6,eqC,bA,bO,bN,bE,negB,kEq,ke,j5,lend,frz,frzL,zRow,j9,j7,closed,jy,jW,binI,remP,remI,retK,retG,ko,retD,ki,resL,resD,oneD,renD,renL,renE,j0,rho,jL,j4,zla,zlb,zlc,zld,zca,zcb,o1,o0,og,Nat.reduceBEq,Nat.reduceAdd,Nat.beq]
 refine qh _ _ (jz3 tIt) ?_
 dsimp only [jn,jH,jO,jq,jF,jJ,jo,jG,jI,iteR,regK,jh,jc,jk,jj,jb,ji,blkK,kp,kd,jd,ja,jx,fpOk,foot,km,allN,memN,jK,jl,jr,jv,jt,ju,jf,jg,je,newN,jw,jN,jP,jY,jQ,jM,jS,jz,jA,jC,jD,jE,jm,jB,evX,evL,evB,rd,get,subG,memG,jT,jV,hyps,gob,impP,allP,j1,jX,j3,kj,nth,j8,kh,jU,lenB,kg,jR,entN,setE,jZ,addE,setL,setN,putE,env0,eqCs,j6,eqC,bA,bO,bN,bE,negB,kEq,ke,j5,lend,frz,frzL,zRow,j9,j7,closed,jy,jW,binI,remP,remI,retK,retG,ko,retD,ki,resL,resD,oneD,renD,renL,renE,j0,rho,jL,j4,zla,zlb,zlc,zld,zca,zcb,o1,o0,og,Nat.reduceBEq,Nat.reduceAdd,Nat.beq]
 refine kG (α := {x : CpY // Part kv x.done x.left}) (fun x => stCy x.1) (fun x => x.1.left.length) ?_ ⟨⟨[], kv, none⟩, Part.start kv⟩ rfl
 rintro ⟨⟨done, left, cur⟩, hp⟩ I ih
 dsimp only at hp
 dsimp only [stCy, jn,jH,jO,jq,jF,jJ,jo,jG,jI,iteR,regK,jh,jc,jk,jj,jb,ji,blkK,kp,kd,jd,ja,jx,fpOk,foot,km,allN,memN,jK,jl,jr,jv,jt,ju,jf,jg,je,newN,jw,jN,jP,jY,jQ,jM,jS,jz,jA,jC,jD,jE,jm,jB,evX,evL,evB,rd,get,subG,memG,jT,jV,hyps,gob,impP,allP,j1,jX,j3,kj,nth,j8,kh,jU,lenB,kg,jR,entN,setE,jZ,addE,setL,setN,putE,env0,eqCs,j6,eqC,bA,bO,bN,bE,negB,kEq,ke,j5,lend,frz,frzL,zRow,j9,j7,closed,jy,jW,binI,remP,remI,retK,retG,ko,retD,ki,resL,resD,oneD,renD,renL,renE,j0,rho,jL,j4,zla,zlb,zlc,zld,zca,zcb,o1,o0,og,Nat.reduceBEq,Nat.reduceAdd,Nat.beq]
 have hc := hv.closed
 have hcd : jy (mpV done) = true := ja9 hc fun p hp' => hp.perm.mem_iff.1 (List.mem_append_left _ hp')
 refine y9 _ (jz4 rfl) ?_
 rintro d bx' (⟨hks, rfl, rfl⟩ | ⟨i, dk, dv, h1, h2, rfl, rfl⟩)
 ·dsimp only [jn,jH,jO,jq,jF,jJ,jo,jG,jI,iteR,regK,jh,jc,jk,jj,jb,ji,blkK,kp,kd,jd,ja,jx,fpOk,foot,km,allN,memN,jK,jl,jr,jv,jt,ju,jf,jg,je,newN,jw,jN,jP,jY,jQ,jM,jS,jz,jA,jC,jD,jE,jm,jB,evX,evL,evB,rd,get,subG,memG,jT,jV,hyps,gob,impP,allP,j1,jX,j3,kj,nth,j8,kh,jU,lenB,kg,jR,entN,setE,jZ,addE,setL,setN,putE,env0,eqCs,j6,eqC,bA,bO,bN,bE,negB,kEq,ke,j5,lend,frz,frzL,zRow,j9,j7,closed,jy,jW,binI,remP,remI,retK,retG,ko,retD,ki,resL,resD,oneD,renD,renL,renE,j0,rho,jL,j4,zla,zlb,zlc,zld,zca,zcb,o1,o0,og,Nat.reduceBEq,Nat.reduceAdd,Nat.beq]
  refine ⟨nofun, fun _ => ?_⟩
  have hl : left = [] := by simpa [mpK] using hks
  subst hl
  refine Rt.trans (Rt.cut (bx' := [.map (mpK .u32 done) (mpV done)]) (Nat.le_refl _) ⟨rfl, trivial⟩ (by simp [lowB, zn, qK _ hcd]) rfl) (Rt.perm (k := 0) (ik := .u32) (kv := done) rfl hp.fin)
 ·obtain ⟨p, hpp, rfl⟩ := jA4 h1
  rw [jA3 hpp] at h2
  cases h2
  obtain ⟨it, hit⟩ := hv p (hp.perm.mem_iff.1 (List.mem_append_right _ (List.mem_of_getElem? hpp)))
  obtain ⟨pk, pv⟩ := p
  dsimp only at hit
  subst hit
  dsimp only [jn,jH,jO,jq,jF,jJ,jo,jG,jI,iteR,regK,jh,jc,jk,jj,jb,ji,blkK,kp,kd,jd,ja,jx,fpOk,foot,km,allN,memN,jK,jl,jr,jv,jt,ju,jf,jg,je,newN,jw,jN,jP,jY,jQ,jM,jS,jz,jA,jC,jD,jE,jm,jB,evX,evL,evB,rd,get,subG,memG,jT,jV,hyps,gob,impP,allP,j1,jX,j3,kj,nth,j8,kh,jU,lenB,kg,jR,entN,setE,jZ,addE,setL,setN,putE,env0,eqCs,j6,eqC,bA,bO,bN,bE,negB,kEq,ke,j5,lend,frz,frzL,zRow,j9,j7,closed,jy,jW,binI,remP,remI,retK,retG,ko,retD,ki,resL,resD,oneD,renD,renL,renE,j0,rho,jL,j4,zla,zlb,zlc,zld,zca,zcb,o1,o0,og,Nat.reduceBEq,Nat.reduceAdd,Nat.beq]
  refine ⟨fun _ => ?_, nofun⟩
  refine kO _ (jz5 rfl) ?_
  dsimp only [itD, jn,jH,jO,jq,jF,jJ,jo,jG,jI,iteR,regK,jh,jc,jk,jj,jb,ji,blkK,kp,kd,jd,ja,jx,fpOk,foot,km,allN,memN,jK,jl,jr,jv,jt,ju,jf,jg,je,newN,jw,jN,jP,jY,jQ,jM,jS,jz,jA,jC,jD,jE,jm,jB,evX,evL,evB,rd,get,subG,memG,jT,jV,hyps,gob,impP,allP,j1,jX,j3,kj,nth,j8,kh,jU,lenB,kg,jR,entN,setE,jZ,addE,setL,setN,putE,env0,eqCs,j6,eqC,bA,bO,bN,bE,negB,kEq,ke,j5,lend,frz,frzL,zRow,j9,j7,closed,jy,jW,binI,remP,remI,retK,retG,ko,retD,ki,resL,resD,oneD,renD,renL,renE,j0,rho,jL,j4,zla,zlb,zlc,zld,zca,zcb,o1,o0,og,Nat.reduceBEq,Nat.reduceAdd,Nat.beq]
  refine qh _ _ (ye tIt tI (kv := done) rfl (hp.ndD hn) pk _) ?_
  dsimp only [jn,jH,jO,jq,jF,jJ,jo,jG,jI,iteR,regK,jh,jc,jk,jj,jb,ji,blkK,kp,kd,jd,ja,jx,fpOk,foot,km,allN,memN,jK,jl,jr,jv,jt,ju,jf,jg,je,newN,jw,jN,jP,jY,jQ,jM,jS,jz,jA,jC,jD,jE,jm,jB,evX,evL,evB,rd,get,subG,memG,jT,jV,hyps,gob,impP,allP,j1,jX,j3,kj,nth,j8,kh,jU,lenB,kg,jR,entN,setE,jZ,addE,setL,setN,putE,env0,eqCs,j6,eqC,bA,bO,bN,bE,negB,kEq,ke,j5,lend,frz,frzL,zRow,j9,j7,closed,jy,jW,binI,remP,remI,retK,retG,ko,retD,ki,resL,resD,oneD,renD,renL,renE,j0,rho,jL,j4,zla,zlb,zlc,zld,zca,zcb,o1,o0,og,Nat.reduceBEq,Nat.reduceAdd,Nat.beq]
  rw [qY (hp.fresh hn hpp), KO, KN]
  rw [show D.agg [.int .i64 it.w, .int .i64 it.h, .ls 1 (gl it.w it.h it.f), .int .u8 it.g, .bool it.win, .bool it.back] = itD it from rfl]
  have hstep := hp.step hpp
  have hcd2 : jy (mpV (done ++ [(pk, itD it)])) = true := ja9 hc fun q hq => hstep.perm.mem_iff.1 (List.mem_append_left _ hq)
  exact qa (ih ⟨⟨done ++ [(pk, itD it)], left.eraseIdx i, _⟩, hstep⟩ (by have := VS hpp; dsimp only; omega)) ⟨rfl, rfl, trivial⟩ ⟨rfl, rfl, trivial⟩ rfl (by simp [stCy, lowB, zn, qK _ hcd2])
theorem Ym {kv : KV} (hn : NdK kv) (hv : ItV kv) (hl : kv.length < 1000000) {id : Int} {i : It} : TSp 159 [.agg [mpD .u32 kv], .int .u32 id, itD i] (.agg [mpD .u32 (put kv id (itD i))]) := by
 have hc := hv.closed
 refine yY (by rfl) ?_
 dsimp only [c_canvas_Canvas_with, qt, mpD, itD, jn,jH,jO,jq,jF,jJ,jo,jG,jI,iteR,regK,jh,jc,jk,jj,jb,ji,blkK,kp,kd,jd,ja,jx,fpOk,foot,km,allN,memN,jK,jl,jr,jv,jt,ju,jf,jg,je,newN,jw,jN,jP,jY,jQ,jM,jS,jz,jA,jC,jD,jE,jm,jB,evX,evL,evB,rd,get,subG,memG,jT,jV,hyps,gob,impP,allP,j1,jX,j3,kj,nth,j8,kh,jU,lenB,kg,jR,entN,setE,jZ,addE,setL,setN,putE,env0,eqCs,j6,eqC,bA,bO,bN,bE,negB,kEq,ke,j5,lend,frz,frzL,zRow,j9,j7,closed,jy,jW,binI,remP,remI,retK,retG,ko,retD,ki,resL,resD,oneD,renD,renL,renE,j0,rho,jL,j4,zla,zlb,zlc,zld,zca,zcb,o1,o0,og,Nat.reduceBEq,Nat.reduceAdd,Nat.beq]
 refine kO _ (YB tIt) ?_
 dsimp only [c_canvas_Canvas_with, qt, mpD, itD, jn,jH,jO,jq,jF,jJ,jo,jG,jI,iteR,regK,jh,jc,jk,jj,jb,ji,blkK,kp,kd,jd,ja,jx,fpOk,foot,km,allN,memN,jK,jl,jr,jv,jt,ju,jf,jg,je,newN,jw,jN,jP,jY,jQ,jM,jS,jz,jA,jC,jD,jE,jm,jB,evX,evL,evB,rd,get,subG,memG,jT,jV,hyps,gob,impP,allP,j1,jX,j3,kj,nth,j8,kh,jU,lenB,kg,jR,entN,setE,jZ,addE,setL,setN,putE,env0,eqCs,j6,eqC,bA,bO,bN,bE,negB,kEq,ke,j5,lend,frz,frzL,zRow,j9,j7,closed,jy,jW,binI,remP,remI,retK,retG,ko,retD,ki,resL,resD,oneD,renD,renL,renE,j0,rho,jL,j4,zla,zlb,zlc,zld,zca,zcb,o1,o0,og,Nat.reduceBEq,Nat.reduceAdd,Nat.beq]
 refine ⟨by simp only [fits]; omega, ?_⟩
 refine qh _ _ (pr_mkmC (ik := .u32) tIt) ?_
 dsimp only [c_canvas_Canvas_with, qt, mpD, itD, mapE, jn,jH,jO,jq,jF,jJ,jo,jG,jI,iteR,regK,jh,jc,jk,jj,jb,ji,blkK,kp,kd,jd,ja,jx,fpOk,foot,km,allN,memN,jK,jl,jr,jv,jt,ju,jf,jg,je,newN,jw,jN,jP,jY,jQ,jM,jS,jz,jA,jC,jD,jE,jm,jB,evX,evL,evB,rd,get,subG,memG,jT,jV,hyps,gob,impP,allP,j1,jX,j3,kj,nth,j8,kh,jU,lenB,kg,jR,entN,setE,jZ,addE,setL,setN,putE,env0,eqCs,j6,eqC,bA,bO,bN,bE,negB,kEq,ke,j5,lend,frz,frzL,zRow,j9,j7,closed,jy,jW,binI,remP,remI,retK,retG,ko,retD,ki,resL,resD,oneD,renD,renL,renE,j0,rho,jL,j4,zla,zlb,zlc,zld,zca,zcb,o1,o0,og,Nat.reduceBEq,Nat.reduceAdd,Nat.beq]
 refine kX [3] (jc7 hn hv) rfl rfl ?_
 dsimp only [c_canvas_Canvas_with, qt, mpD, itD, mapE, jn,jH,jO,jq,jF,jJ,jo,jG,jI,iteR,regK,jh,jc,jk,jj,jb,ji,blkK,kp,kd,jd,ja,jx,fpOk,foot,km,allN,memN,jK,jl,jr,jv,jt,ju,jf,jg,je,newN,jw,jN,jP,jY,jQ,jM,jS,jz,jA,jC,jD,jE,jm,jB,evX,evL,evB,rd,get,subG,memG,jT,jV,hyps,gob,impP,allP,j1,jX,j3,kj,nth,j8,kh,jU,lenB,kg,jR,entN,setE,jZ,addE,setL,setN,putE,env0,eqCs,j6,eqC,bA,bO,bN,bE,negB,kEq,ke,j5,lend,frz,frzL,zRow,j9,j7,closed,jy,jW,binI,remP,remI,retK,retG,ko,retD,ki,resL,resD,oneD,renD,renL,renE,j0,rho,jL,j4,zla,zlb,zlc,zld,zca,zcb,o1,o0,og,Nat.reduceBEq,Nat.reduceAdd,Nat.beq]
 rw [qU _ hc]
 refine qh _ _ (ye tIt tI (kv := kv) rfl hn id _) ?_
 dsimp only [c_canvas_Canvas_with, qt, mpD, itD, mapE, jn,jH,jO,jq,jF,jJ,jo,jG,jI,iteR,regK,jh,jc,jk,jj,jb,ji,blkK,kp,kd,jd,ja,jx,fpOk,foot,km,allN,memN,jK,jl,jr,jv,jt,ju,jf,jg,je,newN,jw,jN,jP,jY,jQ,jM,jS,jz,jA,jC,jD,jE,jm,jB,evX,evL,evB,rd,get,subG,memG,jT,jV,hyps,gob,impP,allP,j1,jX,j3,kj,nth,j8,kh,jU,lenB,kg,jR,entN,setE,jZ,addE,setL,setN,putE,env0,eqCs,j6,eqC,bA,bO,bN,bE,negB,kEq,ke,j5,lend,frz,frzL,zRow,j9,j7,closed,jy,jW,binI,remP,remI,retK,retG,ko,retD,ki,resL,resD,oneD,renD,renL,renE,j0,rho,jL,j4,zla,zlb,zlc,zld,zca,zcb,o1,o0,og,Nat.reduceBEq,Nat.reduceAdd,Nat.beq]
 exact ⟨rfl, Zd (YQ i) hc, rfl⟩
theorem J3 {kv : KV} (hn : NdK kv) (hv : ItV kv) (hl : kv.length <= 1000) {id : Int} (hid : fits .u32 id) (hck : yh id = 0) (hno : lk kv id = none) {w h : Nat} (hw : 1 <= w /\ w <= 128) (hh : 1 <= h /\ h <= 128) {p : Int} {b : Bool} :
  TSp 95 [.agg [mpD .u32 kv], .int .u32 id, .int .i64 w, .int .i64 h, .int .u8 p, .bool b] (.tup [.agg [mpD .u32 (put kv id (itD ⟨w, h, fun _ _ => p, p, true, b⟩))], .int .i64 0]) := by
 have hadd : TSp 152 [.agg [mpD .u32 kv], .int .u32 id, .int .i64 w, .int .i64 h, .agg [.int .i64 0, .int .i64 0, .ls 1 [], .int .u8 p, .bool true, .bool b]] (.tup [.agg [mpD .u32 (put kv id (itD ⟨w, h, fun _ _ => p, p, true, b⟩))], .int .i64 0]) := by
  refine JI (by rfl) ?_
  dsimp only [c_canvas_Canvas_add, qm, mpD, itD, jn,jH,jO,jq,jF,jJ,jo,jG,jI,iteR,regK,jh,jc,jk,jj,jb,ji,blkK,kp,kd,jd,ja,jx,fpOk,foot,km,allN,memN,jK,jl,jr,jv,jt,ju,jf,jg,je,newN,jw,jN,jP,jY,jQ,jM,jS,jz,jA,jC,jD,jE,jm,jB,evX,evL,evB,rd,get,subG,memG,jT,jV,hyps,gob,impP,allP,j1,jX,j3,kj,nth,j8,kh,jU,lenB,kg,jR,entN,setE,jZ,addE,setL,setN,putE,env0,eqCs,j6,eqC,bA,bO,bN,bE,negB,kEq,ke,j5,lend,frz,frzL,zRow,j9,j7,closed,jy,jW,binI,remP,remI,retK,retG,ko,retD,ki,resL,resD,oneD,renD,renL,renE,j0,rho,jL,j4,zla,zlb,zlc,zld,zca,zcb,o1,o0,og,Nat.reduceBEq,Nat.reduceAdd,Nat.beq]
  refine kq (xJ hid) ?_
  dsimp only [c_canvas_Canvas_add, qm, mpD, itD, jn,jH,jO,jq,jF,jJ,jo,jG,jI,iteR,regK,jh,jc,jk,jj,jb,ji,blkK,kp,kd,jd,ja,jx,fpOk,foot,km,allN,memN,jK,jl,jr,jv,jt,ju,jf,jg,je,newN,jw,jN,jP,jY,jQ,jM,jS,jz,jA,jC,jD,jE,jm,jB,evX,evL,evB,rd,get,subG,memG,jT,jV,hyps,gob,impP,allP,j1,jX,j3,kj,nth,j8,kh,jU,lenB,kg,jR,entN,setE,jZ,addE,setL,setN,putE,env0,eqCs,j6,eqC,bA,bO,bN,bE,negB,kEq,ke,j5,lend,frz,frzL,zRow,j9,j7,closed,jy,jW,binI,remP,remI,retK,retG,ko,retD,ki,resL,resD,oneD,renD,renL,renE,j0,rho,jL,j4,zla,zlb,zlc,zld,zca,zcb,o1,o0,og,Nat.reduceBEq,Nat.reduceAdd,Nat.beq]
  rw [hck]
  refine ⟨fun h => absurd h (by simp), fun _ => ?_⟩
  refine kq (jN8 hw hh) ?_
  dsimp only [c_canvas_Canvas_add, qm, mpD, itD, gD, jn,jH,jO,jq,jF,jJ,jo,jG,jI,iteR,regK,jh,jc,jk,jj,jb,ji,blkK,kp,kd,jd,ja,jx,fpOk,foot,km,allN,memN,jK,jl,jr,jv,jt,ju,jf,jg,je,newN,jw,jN,jP,jY,jQ,jM,jS,jz,jA,jC,jD,jE,jm,jB,evX,evL,evB,rd,get,subG,memG,jT,jV,hyps,gob,impP,allP,j1,jX,j3,kj,nth,j8,kh,jU,lenB,kg,jR,entN,setE,jZ,addE,setL,setN,putE,env0,eqCs,j6,eqC,bA,bO,bN,bE,negB,kEq,ke,j5,lend,frz,frzL,zRow,j9,j7,closed,jy,jW,binI,remP,remI,retK,retG,ko,retD,ki,resL,resD,oneD,renD,renL,renE,j0,rho,jL,j4,zla,zlb,zlc,zld,zca,zcb,o1,o0,og,Nat.reduceBEq,Nat.reduceAdd,Nat.beq]
  refine ⟨fun h => absurd h (by simp), fun _ => ?_⟩
  refine kO _ (pr_itN hn hno) ?_
  dsimp only [c_canvas_Canvas_add, qm, mpD, itD, zItD, gD, jn,jH,jO,jq,jF,jJ,jo,jG,jI,iteR,regK,jh,jc,jk,jj,jb,ji,blkK,kp,kd,jd,ja,jx,fpOk,foot,km,allN,memN,jK,jl,jr,jv,jt,ju,jf,jg,je,newN,jw,jN,jP,jY,jQ,jM,jS,jz,jA,jC,jD,jE,jm,jB,evX,evL,evB,rd,get,subG,memG,jT,jV,hyps,gob,impP,allP,j1,jX,j3,kj,nth,j8,kh,jU,lenB,kg,jR,entN,setE,jZ,addE,setL,setN,putE,env0,eqCs,j6,eqC,bA,bO,bN,bE,negB,kEq,ke,j5,lend,frz,frzL,zRow,j9,j7,closed,jy,jW,binI,remP,remI,retK,retG,ko,retD,ki,resL,resD,oneD,renD,renL,renE,j0,rho,jL,j4,zla,zlb,zlc,zld,zca,zcb,o1,o0,og,Nat.reduceBEq,Nat.reduceAdd,Nat.beq]
  refine ⟨nofun, fun _ => ?_⟩
  refine kO _ (YB tIt) ?_
  dsimp only [c_canvas_Canvas_add, qm, mpD, itD, zItD, gD, jn,jH,jO,jq,jF,jJ,jo,jG,jI,iteR,regK,jh,jc,jk,jj,jb,ji,blkK,kp,kd,jd,ja,jx,fpOk,foot,km,allN,memN,jK,jl,jr,jv,jt,ju,jf,jg,je,newN,jw,jN,jP,jY,jQ,jM,jS,jz,jA,jC,jD,jE,jm,jB,evX,evL,evB,rd,get,subG,memG,jT,jV,hyps,gob,impP,allP,j1,jX,j3,kj,nth,j8,kh,jU,lenB,kg,jR,entN,setE,jZ,addE,setL,setN,putE,env0,eqCs,j6,eqC,bA,bO,bN,bE,negB,kEq,ke,j5,lend,frz,frzL,zRow,j9,j7,closed,jy,jW,binI,remP,remI,retK,retG,ko,retD,ki,resL,resD,oneD,renD,renL,renE,j0,rho,jL,j4,zla,zlb,zlc,zld,zca,zcb,o1,o0,og,Nat.reduceBEq,Nat.reduceAdd,Nat.beq]
  refine ⟨fun h => ?_, fun _ => ?_⟩
  ·simp at h; omega
  refine kq (Ym hn hv (by omega) (i := ⟨w, h, fun _ _ => p, p, true, b⟩)) ?_
  dsimp only [c_canvas_Canvas_add, qm, mpD, itD, zItD, gD, jn,jH,jO,jq,jF,jJ,jo,jG,jI,iteR,regK,jh,jc,jk,jj,jb,ji,blkK,kp,kd,jd,ja,jx,fpOk,foot,km,allN,memN,jK,jl,jr,jv,jt,ju,jf,jg,je,newN,jw,jN,jP,jY,jQ,jM,jS,jz,jA,jC,jD,jE,jm,jB,evX,evL,evB,rd,get,subG,memG,jT,jV,hyps,gob,impP,allP,j1,jX,j3,kj,nth,j8,kh,jU,lenB,kg,jR,entN,setE,jZ,addE,setL,setN,putE,env0,eqCs,j6,eqC,bA,bO,bN,bE,negB,kEq,ke,j5,lend,frz,frzL,zRow,j9,j7,closed,jy,jW,binI,remP,remI,retK,retG,ko,retD,ki,resL,resD,oneD,renD,renL,renE,j0,rho,jL,j4,zla,zlb,zlc,zld,zca,zcb,o1,o0,og,Nat.reduceBEq,Nat.reduceAdd,Nat.beq]
 refine yZ (by rfl) ?_
 dsimp only [c_canvas_Canvas_Open, zM, mpD, itD, jn,jH,jO,jq,jF,jJ,jo,jG,jI,iteR,regK,jh,jc,jk,jj,jb,ji,blkK,kp,kd,jd,ja,jx,fpOk,foot,km,allN,memN,jK,jl,jr,jv,jt,ju,jf,jg,je,newN,jw,jN,jP,jY,jQ,jM,jS,jz,jA,jC,jD,jE,jm,jB,evX,evL,evB,rd,get,subG,memG,jT,jV,hyps,gob,impP,allP,j1,jX,j3,kj,nth,j8,kh,jU,lenB,kg,jR,entN,setE,jZ,addE,setL,setN,putE,env0,eqCs,j6,eqC,bA,bO,bN,bE,negB,kEq,ke,j5,lend,frz,frzL,zRow,j9,j7,closed,jy,jW,binI,remP,remI,retK,retG,ko,retD,ki,resL,resD,oneD,renD,renL,renE,j0,rho,jL,j4,zla,zlb,zlc,zld,zca,zcb,o1,o0,og,Nat.reduceBEq,Nat.reduceAdd,Nat.beq]
 refine kq hadd ?_
 dsimp only [c_canvas_Canvas_Open, zM, mpD, itD, jn,jH,jO,jq,jF,jJ,jo,jG,jI,iteR,regK,jh,jc,jk,jj,jb,ji,blkK,kp,kd,jd,ja,jx,fpOk,foot,km,allN,memN,jK,jl,jr,jv,jt,ju,jf,jg,je,newN,jw,jN,jP,jY,jQ,jM,jS,jz,jA,jC,jD,jE,jm,jB,evX,evL,evB,rd,get,subG,memG,jT,jV,hyps,gob,impP,allP,j1,jX,j3,kj,nth,j8,kh,jU,lenB,kg,jR,entN,setE,jZ,addE,setL,setN,putE,env0,eqCs,j6,eqC,bA,bO,bN,bE,negB,kEq,ke,j5,lend,frz,frzL,zRow,j9,j7,closed,jy,jW,binI,remP,remI,retK,retG,ko,retD,ki,resL,resD,oneD,renD,renL,renE,j0,rho,jL,j4,zla,zlb,zlc,zld,zca,zcb,o1,o0,og,Nat.reduceBEq,Nat.reduceAdd,Nat.beq]
theorem J4 {kv : KV} (hn : NdK kv) {id : Int} {i : It} (h : lk kv id = some (itD i)) : TSp 104 [.agg [mpD .u32 kv], .int .u32 id] (.tup [gD i.w i.h i.f, .bool true]) := by
 refine y4 (by rfl) ?_
 dsimp only [c_canvas_Canvas_Grid, zN, mpD, itD, jn,jH,jO,jq,jF,jJ,jo,jG,jI,iteR,regK,jh,jc,jk,jj,jb,ji,blkK,kp,kd,jd,ja,jx,fpOk,foot,km,allN,memN,jK,jl,jr,jv,jt,ju,jf,jg,je,newN,jw,jN,jP,jY,jQ,jM,jS,jz,jA,jC,jD,jE,jm,jB,evX,evL,evB,rd,get,subG,memG,jT,jV,hyps,gob,impP,allP,j1,jX,j3,kj,nth,j8,kh,jU,lenB,kg,jR,entN,setE,jZ,addE,setL,setN,putE,env0,eqCs,j6,eqC,bA,bO,bN,bE,negB,kEq,ke,j5,lend,frz,frzL,zRow,j9,j7,closed,jy,jW,binI,remP,remI,retK,retG,ko,retD,ki,resL,resD,oneD,renD,renL,renE,j0,rho,jL,j4,zla,zlb,zlc,zld,zca,zcb,o1,o0,og,Nat.reduceBEq,Nat.reduceAdd,Nat.beq]
 refine kO _ (pr_it hn h) ?_
 dsimp only [c_canvas_Canvas_Grid, zN, mpD, itD, gD, jn,jH,jO,jq,jF,jJ,jo,jG,jI,iteR,regK,jh,jc,jk,jj,jb,ji,blkK,kp,kd,jd,ja,jx,fpOk,foot,km,allN,memN,jK,jl,jr,jv,jt,ju,jf,jg,je,newN,jw,jN,jP,jY,jQ,jM,jS,jz,jA,jC,jD,jE,jm,jB,evX,evL,evB,rd,get,subG,memG,jT,jV,hyps,gob,impP,allP,j1,jX,j3,kj,nth,j8,kh,jU,lenB,kg,jR,entN,setE,jZ,addE,setL,setN,putE,env0,eqCs,j6,eqC,bA,bO,bN,bE,negB,kEq,ke,j5,lend,frz,frzL,zRow,j9,j7,closed,jy,jW,binI,remP,remI,retK,retG,ko,retD,ki,resL,resD,oneD,renD,renL,renE,j0,rho,jL,j4,zla,zlb,zlc,zld,zca,zcb,o1,o0,og,Nat.reduceBEq,Nat.reduceAdd,Nat.beq]

def cKV (C : Nat -> It) (n : Nat) : KV := mKV (fun k => itD (C k)) n
theorem cKV_itv {C : Nat -> It} {n : Nat} : ItV (cKV C n) := fun p hp => by
 obtain ⟨k, _, rfl⟩ := List.mem_map.1 hp
 exact ⟨_, rfl⟩
theorem jV5 {C : Nat -> It} {n k : Nat} (h : k <= n) : lk (cKV C n) (idn k) = some (itD (C k)) := by unfold cKV; rw [VN, if_pos h]
structure COk (S : Ws) (C : Nat -> It) : Prop where
 w : ∀ k, k <= S.n -> ((C k).w : Int) = (S.B k).w
 h : ∀ k, k <= S.n -> ((C k).h : Int) = (S.B k).h
theorem COk.size {S : Ws} {C : Nat -> It} (hS : S.Ok) (h : COk S C) {k : Nat} (hk : k <= S.n) : (1 <= (C k).w /\ (C k).w <= 16) /\ 1 <= (C k).h /\ (C k).h <= 16 := by
 have h1 := h.w k hk
 have h2 := h.h k hk
 have h3 := hS.size k
 omega
noncomputable def layS (S : Ws) (C : Nat -> It) (g : Px) (k : Nat) : Px := layX (C k).w (C k).h (C k).f (S.ox k) (S.oy k) (S.cl k) g
noncomputable def zI (S : Ws) (C : Nat -> It) (l : List Nat) : Px := l.foldl (layS S C) fun _ _ => 0
theorem jr1 {S : Ws} {C : Nat -> It} {l : List Nat} {k : Nat} : zI S C (l ++ [k]) = layS S C (zI S C l) k := by simp [zI]
theorem jK4 {w h : Nat} {f : Px} {x0 y0 : Int} {Q : PS} {g : Px} (hq : ∀ x y, ¬ Q x y) : layX w h f x0 y0 Q g = g := by
 funext x y
 unfold layX
 rw [X0 fun hc => hq _ _ hc.1]
noncomputable def jN4 (S : Ws) (C : Nat -> It) (w h : Nat) (i : Nat) : St := ⟨[(4, [], .box 0 0), (5, [], .box 1 0), (8, [], .box 2 0), (10, [], .box 3 0), (30, [], .ls 1 (iL (S.ord.map idn))), (31, [], .int .i64 S.ord.length), (32, [], .int .i64 i)],
 [.cells [.ls 1 (iL (S.ord.map idn)), .mp (mpK .u32 (vKV S S.vs)) (mpV (vKV S S.vs))], .cells [.mp (mpK .u32 (cKV C S.n)) (mpV (cKV C S.n))], .cells [.int .i64 0, .int .i64 0, .ls 1 []], .cells [.int .i64 w, .int .i64 h, .ls 1 (gl w h (zI S C (S.ord.take i)))]]⟩
theorem Yj {S : Ws} (hS : S.Ok) {C : Nat -> It} (hC : COk S C) {w h : Nat} (hw : 1 <= w /\ w <= 128) (hh : 1 <= h /\ h <= 128) :
  TSp 41 [vwD S, .agg [mpD .u32 (cKV C S.n)], .int .i64 w, .int .i64 h] (.tup [gD w h (zI S C S.ord), .int .i64 0]) := by
 have hol := hS.ordLen
 refine XD (by rfl) ?_
 dsimp only [c_screen_Show, xe, vwD, mpD, jn,jH,jO,jq,jF,jJ,jo,jG,jI,iteR,regK,jh,jc,jk,jj,jb,ji,blkK,kp,kd,jd,ja,jx,fpOk,foot,km,allN,memN,jK,jl,jr,jv,jt,ju,jf,jg,je,newN,jw,jN,jP,jY,jQ,jM,jS,jz,jA,jC,jD,jE,jm,jB,evX,evL,evB,rd,get,subG,memG,jT,jV,hyps,gob,impP,allP,j1,jX,j3,kj,nth,j8,kh,jU,lenB,kg,jR,entN,setE,jZ,addE,setL,setN,putE,env0,eqCs,j6,eqC,bA,bO,bN,bE,negB,kEq,ke,j5,lend,frz,frzL,zRow,j9,j7,closed,jy,jW,binI,remP,remI,retK,retG,ko,retD,ki,resL,resD,oneD,renD,renL,renE,j0,rho,jL,j4,zla,zlb,zlc,zld,zca,zcb,o1,o0,og,Nat.reduceBEq,Nat.reduceAdd,Nat.beq]
 refine kq (jN8 hw hh) ?_
 dsimp only [c_screen_Show, xe, gD, jn,jH,jO,jq,jF,jJ,jo,jG,jI,iteR,regK,jh,jc,jk,jj,jb,ji,blkK,kp,kd,jd,ja,jx,fpOk,foot,km,allN,memN,jK,jl,jr,jv,jt,ju,jf,jg,je,newN,jw,jN,jP,jY,jQ,jM,jS,jz,jA,jC,jD,jE,jm,jB,evX,evL,evB,rd,get,subG,memG,jT,jV,hyps,gob,impP,allP,j1,jX,j3,kj,nth,j8,kh,jU,lenB,kg,jR,entN,setE,jZ,addE,setL,setN,putE,env0,eqCs,j6,eqC,bA,bO,bN,bE,negB,kEq,ke,j5,lend,frz,frzL,zRow,j9,j7,closed,jy,jW,binI,remP,remI,retK,retG,ko,retD,ki,resL,resD,oneD,renD,renL,renE,j0,rho,jL,j4,zla,zlb,zlc,zld,zca,zcb,o1,o0,og,Nat.reduceBEq,Nat.reduceAdd,Nat.beq]
 refine ⟨fun h => absurd h (by simp), fun _ => ?_⟩
 have hwin := Jp hS
 unfold vwD at hwin
 refine kq hwin ?_
 dsimp only [c_screen_Show, xe, gD, jn,jH,jO,jq,jF,jJ,jo,jG,jI,iteR,regK,jh,jc,jk,jj,jb,ji,blkK,kp,kd,jd,ja,jx,fpOk,foot,km,allN,memN,jK,jl,jr,jv,jt,ju,jf,jg,je,newN,jw,jN,jP,jY,jQ,jM,jS,jz,jA,jC,jD,jE,jm,jB,evX,evL,evB,rd,get,subG,memG,jT,jV,hyps,gob,impP,allP,j1,jX,j3,kj,nth,j8,kh,jU,lenB,kg,jR,entN,setE,jZ,addE,setL,setN,putE,env0,eqCs,j6,eqC,bA,bO,bN,bE,negB,kEq,ke,j5,lend,frz,frzL,zRow,j9,j7,closed,jy,jW,binI,remP,remI,retK,retG,ko,retD,ki,resL,resD,oneD,renD,renL,renE,j0,rho,jL,j4,zla,zlb,zlc,zld,zca,zcb,o1,o0,og,Nat.reduceBEq,Nat.reduceAdd,Nat.beq]
 rw [qT, List.length_map]
 refine kG (α := {i : Nat // i <= S.ord.length}) (fun i => jN4 S C w h i.1) (fun i => S.ord.length - i.1) ?_ ⟨0, by simp⟩ rfl
 rintro ⟨i, hi⟩ I ih
 dsimp only [jN4, jn,jH,jO,jq,jF,jJ,jo,jG,jI,iteR,regK,jh,jc,jk,jj,jb,ji,blkK,kp,kd,jd,ja,jx,fpOk,foot,km,allN,memN,jK,jl,jr,jv,jt,ju,jf,jg,je,newN,jw,jN,jP,jY,jQ,jM,jS,jz,jA,jC,jD,jE,jm,jB,evX,evL,evB,rd,get,subG,memG,jT,jV,hyps,gob,impP,allP,j1,jX,j3,kj,nth,j8,kh,jU,lenB,kg,jR,entN,setE,jZ,addE,setL,setN,putE,env0,eqCs,j6,eqC,bA,bO,bN,bE,negB,kEq,ke,j5,lend,frz,frzL,zRow,j9,j7,closed,jy,jW,binI,remP,remI,retK,retG,ko,retD,ki,resL,resD,oneD,renD,renL,renE,j0,rho,jL,j4,zla,zlb,zlc,zld,zca,zcb,o1,o0,og,Nat.reduceBEq,Nat.reduceAdd,Nat.beq]
 refine ⟨fun hj => ?_, fun hj => ?_⟩
 ·have hj : i < S.ord.length := by simp at hj; omega
  obtain ⟨k, hk⟩ : ∃ k, S.ord[i] = k := ⟨_, rfl⟩
  have hkm : k ∈ S.ord := by rw [<- hk]; exact List.getElem_mem _
  have hkn := hS.ordle hkm
  have hrow : (iL (S.ord.map idn))[((i : Nat) : Int).toNat]? = some (.int .u32 (idn k)) := by
   rw [Int.toNat_natCast]
   have := Xu (l := S.ord.map idn) (i := i) (by rw [List.length_map]; exact hj)
   rw [this]; simp [hk]
  have hsn : zI S C (S.ord.take (i + 1)) = layS S C (zI S C (S.ord.take i)) k := by rw [List.take_succ_eq_append_getElem hj, hk, jr1]
  refine ⟨⟨rfl, by omega, by rw [qT, List.length_map]; omega⟩, ky _ _ hrow rfl ?_⟩
  dsimp only [jn,jH,jO,jq,jF,jJ,jo,jG,jI,iteR,regK,jh,jc,jk,jj,jb,ji,blkK,kp,kd,jd,ja,jx,fpOk,foot,km,allN,memN,jK,jl,jr,jv,jt,ju,jf,jg,je,newN,jw,jN,jP,jY,jQ,jM,jS,jz,jA,jC,jD,jE,jm,jB,evX,evL,evB,rd,get,subG,memG,jT,jV,hyps,gob,impP,allP,j1,jX,j3,kj,nth,j8,kh,jU,lenB,kg,jR,entN,setE,jZ,addE,setL,setN,putE,env0,eqCs,j6,eqC,bA,bO,bN,bE,negB,kEq,ke,j5,lend,frz,frzL,zRow,j9,j7,closed,jy,jW,binI,remP,remI,retK,retG,ko,retD,ki,resL,resD,oneD,renD,renL,renE,j0,rho,jL,j4,zla,zlb,zlc,zld,zca,zcb,o1,o0,og,Nat.reduceBEq,Nat.reduceAdd,Nat.beq]
  have hcl := y5 hS (k := k)
  have hor := J1 hS (hS.mem_ord.1 hkm)
  unfold vwD rgD at hcl
  unfold vwD at hor
  refine kq hcl ?_
  dsimp only [jn,jH,jO,jq,jF,jJ,jo,jG,jI,iteR,regK,jh,jc,jk,jj,jb,ji,blkK,kp,kd,jd,ja,jx,fpOk,foot,km,allN,memN,jK,jl,jr,jv,jt,ju,jf,jg,je,newN,jw,jN,jP,jY,jQ,jM,jS,jz,jA,jC,jD,jE,jm,jB,evX,evL,evB,rd,get,subG,memG,jT,jV,hyps,gob,impP,allP,j1,jX,j3,kj,nth,j8,kh,jU,lenB,kg,jR,entN,setE,jZ,addE,setL,setN,putE,env0,eqCs,j6,eqC,bA,bO,bN,bE,negB,kEq,ke,j5,lend,frz,frzL,zRow,j9,j7,closed,jy,jW,binI,remP,remI,retK,retG,ko,retD,ki,resL,resD,oneD,renD,renL,renE,j0,rho,jL,j4,zla,zlb,zlc,zld,zca,zcb,o1,o0,og,Nat.reduceBEq,Nat.reduceAdd,Nat.beq]
  refine kq (J4 YK (jV5 hkn)) ?_
  dsimp only [gD, jn,jH,jO,jq,jF,jJ,jo,jG,jI,iteR,regK,jh,jc,jk,jj,jb,ji,blkK,kp,kd,jd,ja,jx,fpOk,foot,km,allN,memN,jK,jl,jr,jv,jt,ju,jf,jg,je,newN,jw,jN,jP,jY,jQ,jM,jS,jz,jA,jC,jD,jE,jm,jB,evX,evL,evB,rd,get,subG,memG,jT,jV,hyps,gob,impP,allP,j1,jX,j3,kj,nth,j8,kh,jU,lenB,kg,jR,entN,setE,jZ,addE,setL,setN,putE,env0,eqCs,j6,eqC,bA,bO,bN,bE,negB,kEq,ke,j5,lend,frz,frzL,zRow,j9,j7,closed,jy,jW,binI,remP,remI,retK,retG,ko,retD,ki,resL,resD,oneD,renD,renL,renE,j0,rho,jL,j4,zla,zlb,zlc,zld,zca,zcb,o1,o0,og,Nat.reduceBEq,Nat.reduceAdd,Nat.beq]
  refine kq hor ?_
  dsimp only [gD, jn,jH,jO,jq,jF,jJ,jo,jG,jI,iteR,regK,jh,jc,jk,jj,jb,ji,blkK,kp,kd,jd,ja,jx,fpOk,foot,km,allN,memN,jK,jl,jr,jv,jt,ju,jf,jg,je,newN,jw,jN,jP,jY,jQ,jM,jS,jz,jA,jC,jD,jE,jm,jB,evX,evL,evB,rd,get,subG,memG,jT,jV,hyps,gob,impP,allP,j1,jX,j3,kj,nth,j8,kh,jU,lenB,kg,jR,entN,setE,jZ,addE,setL,setN,putE,env0,eqCs,j6,eqC,bA,bO,bN,bE,negB,kEq,ke,j5,lend,frz,frzL,zRow,j9,j7,closed,jy,jW,binI,remP,remI,retK,retG,ko,retD,ki,resL,resD,oneD,renD,renL,renE,j0,rho,jL,j4,zla,zlb,zlc,zld,zca,zcb,o1,o0,og,Nat.reduceBEq,Nat.reduceAdd,Nat.beq]
  refine kq ZF ?_
  dsimp only [gD, jn,jH,jO,jq,jF,jJ,jo,jG,jI,iteR,regK,jh,jc,jk,jj,jb,ji,blkK,kp,kd,jd,ja,jx,fpOk,foot,km,allN,memN,jK,jl,jr,jv,jt,ju,jf,jg,je,newN,jw,jN,jP,jY,jQ,jM,jS,jz,jA,jC,jD,jE,jm,jB,evX,evL,evB,rd,get,subG,memG,jT,jV,hyps,gob,impP,allP,j1,jX,j3,kj,nth,j8,kh,jU,lenB,kg,jR,entN,setE,jZ,addE,setL,setN,putE,env0,eqCs,j6,eqC,bA,bO,bN,bE,negB,kEq,ke,j5,lend,frz,frzL,zRow,j9,j7,closed,jy,jW,binI,remP,remI,retK,retG,ko,retD,ki,resL,resD,oneD,renD,renL,renE,j0,rho,jL,j4,zla,zlb,zlc,zld,zca,zcb,o1,o0,og,Nat.reduceBEq,Nat.reduceAdd,Nat.beq]
  rw [ku]
  have hq := hS.clSq (k := k)
  have hsz := hC.size hS hkn
  have hob := hS.orgB hkn
  refine ⟨fun he => ?_, fun he => ?_⟩
  ·have he' : reg (S.cl k) = [] := by
    simp at he
    exact he
   have hno := (KL hq.bdd).1 he'
   have hsm : zI S C (S.ord.take (i + 1)) = zI S C (S.ord.take i) := by rw [hsn]; unfold layS; exact jK4 hno
   rw [<- hsm]
   refine ⟨by simp only [fits]; omega, ?_⟩
   exact qa (ih ⟨i + 1, by omega⟩ (by dsimp only; omega)) ⟨rfl, rfl, rfl, rfl, rfl, rfl, rfl, trivial⟩ ⟨rfl, rfl, rfl, rfl, trivial⟩ rfl rfl
  ·refine kq (sp_Lay (by omega) (by omega) (by omega) (by omega) (by omega) (by omega) hq.bdd (Nat.le_trans hq.len (by omega))) ?_
   dsimp only [gD, jn,jH,jO,jq,jF,jJ,jo,jG,jI,iteR,regK,jh,jc,jk,jj,jb,ji,blkK,kp,kd,jd,ja,jx,fpOk,foot,km,allN,memN,jK,jl,jr,jv,jt,ju,jf,jg,je,newN,jw,jN,jP,jY,jQ,jM,jS,jz,jA,jC,jD,jE,jm,jB,evX,evL,evB,rd,get,subG,memG,jT,jV,hyps,gob,impP,allP,j1,jX,j3,kj,nth,j8,kh,jU,lenB,kg,jR,entN,setE,jZ,addE,setL,setN,putE,env0,eqCs,j6,eqC,bA,bO,bN,bE,negB,kEq,ke,j5,lend,frz,frzL,zRow,j9,j7,closed,jy,jW,binI,remP,remI,retK,retG,ko,retD,ki,resL,resD,oneD,renD,renL,renE,j0,rho,jL,j4,zla,zlb,zlc,zld,zca,zcb,o1,o0,og,Nat.reduceBEq,Nat.reduceAdd,Nat.beq]
   rw [show layX (C k).w (C k).h (C k).f (S.ox k) (S.oy k) (S.cl k) (zI S C (S.ord.take i)) = zI S C (S.ord.take (i + 1)) from hsn.symm]
   refine ⟨by simp only [fits]; omega, ?_⟩
   exact qa (ih ⟨i + 1, by omega⟩ (by dsimp only; omega)) ⟨rfl, rfl, rfl, rfl, rfl, rfl, rfl, trivial⟩ ⟨rfl, rfl, rfl, rfl, trivial⟩ rfl rfl
 ·have hj : i = S.ord.length := by simp at hj; omega
  subst hj
  rw [List.take_length]
theorem jE1 {S : Ws} (hS : S.Ok) {C : Nat -> It} (hC : COk S C) {x y : Int} (hr : S.root x y) : inP (C (S.top x y)).w (C (S.top x y)).h (x - S.ox (S.top x y)) (y - S.oy (S.top x y)) /\ zI S C S.ord x y = (C (S.top x y)).f (x - S.ox (S.top x y)) (y - S.oy (S.top x y)) := by
 obtain ⟨t, ht⟩ : ∃ t, S.top x y = t := ⟨_, rfl⟩
 have hcl : S.cl t x y := hS.cl_iff.2 ⟨hr, ht⟩
 have hm : t ∈ S.ord := hS.mem_ord.2 (hS.cl_key hcl)
 have hin : inP (C t).w (C t).h (x - S.ox t) (y - S.oy t) := by
  have h1 := yR (show q9 (S.B t) (x - S.ox t) (y - S.oy t) from (hS.cl_sh hcl).1)
  have h2 := hC.w t (hS.ordle hm)
  have h3 := hC.h t (hS.ordle hm)
  unfold inP; omega
 rw [ht]
 refine ⟨hin, ?_⟩
 have key : ∀ (l : List Nat) (g : Px), l.Nodup -> (t ∈ l -> l.foldl (layS S C) g x y = (C t).f (x - S.ox t) (y - S.oy t)) /\ (t ∉ l -> l.foldl (layS S C) g x y = g x y) := fun l => by
  induction l with
  | nil => intro g _; exact ⟨nofun, fun _ => rfl⟩
  | cons k l ih =>
    intro g hn
    rw [List.nodup_cons] at hn
    rw [List.foldl_cons]
    obtain ⟨h1, h2⟩ := ih (layS S C g k) hn.2
    by_cases hk : k = t
    ·subst hk
     refine ⟨fun _ => ?_, fun h => absurd (by simp) h⟩
     rw [h2 hn.1]
     unfold layS layX
     rw [jl3 ⟨hcl, hin⟩]
    ·have hno : layS S C g k x y = g x y := by
      unfold layS layX
      rw [X0 fun hc => hk (by rw [<- ht]; exact ((hS.cl_iff.1 hc.1).2).symm)]
     refine ⟨fun hm' => h1 (by
      rcases List.mem_cons.1 hm' with h | h
      ·exact absurd h.symm hk
      ·exact h), fun hm' => ?_⟩
     rw [h2 fun h => hm' (by simp [h]), hno]
 exact (key S.ord _ hS.ordn).1 hm
end Go.AM
