import Derived.Test.YtoaialdcgmkbgaaGreatRL4
import Derived.Test.YtoaialdcgmkbgaaGreatRZ6

set_option linter.all false
namespace Go.AM
open Go Go.Proofs
def Sq (P : PS) : Prop := ∃ a b : Int, (-90000 <= a /\ a <= 90000) /\ (-90000 <= b /\ b <= 90000) /\ ∀ x y, P x y -> (a <= x /\ x < a + 64) /\ b <= y /\ y < b + 64
theorem Sq.bdd {P : PS} (h : Sq P) : Bdd P := fun x y hp => by
 obtain ⟨a, b, h1, h2, h3⟩ := h
 have := h3 x y hp; omega
theorem Sq.len {P : PS} (h : Sq P) : (reg P).length <= 4096 := by
 have hb := h.bdd
 obtain ⟨a, b, h1, h2, h3⟩ := h
 have := reg_few (XY hb) h3
 have e1 : max (b + 64 - b) 0 = 64 := by omega
 have e2 : max (a + 64 - a) 0 = 64 := by omega
 rw [e1, e2] at this
 omega
theorem Sq.sub {P Q : PS} (h : Sq P) (hq : ∀ x y, Q x y -> P x y) : Sq Q := by
 obtain ⟨a, b, h1, h2, h3⟩ := h
 exact ⟨a, b, h1, h2, fun x y hp => h3 x y (hq x y hp)⟩
noncomputable def Ws.sc (S : Ws) : Sc := ⟨vw S.par S.n, fun k => (S.B k).on, fun k => mvP (S.ox k) (S.oy k) (q9 (S.B k))⟩
theorem Ws.Ok.orgB {S : Ws} (h : S.Ok) {k : Nat} (hk : k <= S.n) : (-8000 <= S.ox k /\ S.ox k <= 8000) /\ -8000 <= S.oy k /\ S.oy k <= 8000 := by
 have := h.few
 have h1 := jA0 h.pw (X := fun j => (S.B j).x) (B := 200) (by omega) h.x (f := k + 1) (k := k) (by omega)
 have h2 := jA0 h.pw (X := fun j => (S.B j).y) (B := 200) (by omega) h.y (f := k + 1) (k := k) (by omega)
 unfold Ws.ox Ws.oy org
 omega
theorem xT {b : Bx} (hw : b.w <= 16) (hh : b.h <= 16) : Sq (q9 b) := ⟨0, 0, by omega, by omega, fun x y hp => by have := yR hp; omega⟩
theorem mv_sq {P : PS} {dx dy : Int} (hP : ∀ x y, P x y -> (0 <= x /\ x < 64) /\ 0 <= y /\ y < 64) (hx : -90000 <= dx /\ dx <= 90000) (hy : -90000 <= dy /\ dy <= 90000) : Sq (mvP dx dy P) :=
 ⟨dx, dy, hx, hy, fun x y hp => by have := hP _ _ hp.1; omega⟩
theorem Ws.Ok.shSq {S : Ws} (h : S.Ok) {k : Nat} (hk : k <= S.n) : Sq (S.sc.sh k) := by
 have := h.orgB hk
 have hs := h.size k
 exact mv_sq (fun x y hp => by have := yR hp; omega) (by omega) (by omega)
theorem jS4 {S : Sc} {pl l : PS} (hl : Sq l) {js : List Nat} : Sq (vv S pl js l) := hl.sub fun _ _ h => yF h
theorem tV : Tryz.prog.underlying 96 = some (.map 53 190) := by kernel_rfl
noncomputable def shD (S : Ws) (e : Nat × PS) : D := .agg [.int .i64 (S.ox e.1), .int .i64 (S.oy e.1), .ls 4 (rcs (reg e.2))]
noncomputable def vKV (S : Ws) (l : List (Nat × PS)) : KV := l.map fun e => (idn e.1, shD S e)
theorem jC8 {S : Ws} {a b : List (Nat × PS)} : vKV S (a ++ b) = vKV S a ++ vKV S b := by simp [vKV]
theorem zG {S : Ws} : ∀ {l : List (Nat × PS)}, jy (mpV (vKV S l)) = true
 | [] => rfl
 | e :: l => by
   have := zG (S := S) (l := l)
   simp only [vKV, mpV, List.map_cons, jy, qf] at this |-
   exact ⟨by simp [shD, closed, jy, bA], this⟩
theorem KI : ∀ {a b : List D}, jy a = true -> jy b = true -> jy (a ++ b) = true
 | [], _, _, h => h
 | d :: a, b, h1, h2 => by
   simp only [jy, qf, List.cons_append] at h1 |-
   exact ⟨h1.1, KI h1.2 h2⟩
theorem jF7 {a b : KV} : mpV (a ++ b) = mpV a ++ mpV b := by simp [mpV]
theorem jA9 {α : Type} {m : Int} : ∀ {l r : List (Int × α)}, lk (l ++ r) m = match lk l m with | some e => some e | none => lk r m
 | [], r => by simp [lk]
 | p :: l, r => by
   simp only [List.cons_append, lk]
   by_cases h : p.1 = m
   ·simp [h]
   ·simp only [h, if_false]; exact jA9
theorem Kr {S : Ws} {l : List (Nat × PS)} {i : Nat} (h : i ∉ l.map (·.1)) : lk (vKV S l) (idn i) = none := by
 rw [Jd]
 intro hm
 obtain ⟨p, hp, he⟩ := List.mem_map.1 hm
 obtain ⟨e, he2, rfl⟩ := List.mem_map.1 hp
 exact h (List.mem_map.2 ⟨e, he2, xG.1 he⟩)
theorem lk_vKV {S : Ws} {l : List (Nat × PS)} {e : Nat × PS} (hn : (l.map (·.1)).Nodup) (h : e ∈ l) : lk (vKV S l) (idn e.1) = some (shD S e) := by
 refine YM ?_ (List.mem_map.2 ⟨e, h, rfl⟩)
 unfold NdK vKV
 rw [List.map_map]
 have : ((fun p : Int × D => p.1) ∘ fun e : Nat × PS => (idn e.1, shD S e)) = fun e => idn e.1 := rfl
 rw [this]
 have h2 : (l.map fun e => idn e.1) = (l.map (·.1)).map idn := by rw [List.map_map]; rfl
 rw [h2]
 exact List.Pairwise.map _ (fun a b h e => h (xG.1 e)) hn
theorem ndK_app {a b : KV} (ha : NdK a) (hb : NdK b) (h : ∀ p ∈ b, lk a p.1 = none) : NdK (a ++ b) := by
 unfold NdK at *
 rw [List.map_append, List.nodup_append]
 refine ⟨ha, hb, fun x hx y hy he => ?_⟩
 subst he
 obtain ⟨p, hp, rfl⟩ := List.mem_map.1 hy
 exact Jd.1 (h p hp) hx
theorem jM5 {S : Ws} {l : List (Nat × PS)} (hn : (l.map (·.1)).Nodup) : NdK (vKV S l) := by
 unfold NdK vKV
 rw [List.map_map]
 have h2 : (l.map ((fun p : Int × D => p.1) ∘ fun e => (idn e.1, shD S e))) = (l.map (·.1)).map idn := by rw [List.map_map]; rfl
 rw [h2]
 exact List.Pairwise.map _ (fun a b h e => h (xG.1 e)) hn
noncomputable def hdE (S : Ws) (kv : KV) : List Ent := [.cells [.mp (mpK .u32 S.kv) (mpV S.kv)], .cells [.mp (mpK .u32 (kKV S.tr.kids)) (mpV (kKV S.tr.kids)), .mp (mpK .u32 (uKV S.tr.up)) (mpV (uKV S.tr.up))],
 .cells [.fn 98 [.box 0 0, .box 1 0, .box 2 0, .box 3 0]], .cells [.own 5 0, .ownm 4 0], .map (mpK .u32 kv) (mpV kv), .arr 53 1 0 []]
theorem hdR {S : Ws} {kv : KV} (h : jy (mpV kv) = true) {n : Nat} : j0 [0, 1, 2, 3, 4, 5] n (hdE S kv) = hdE S kv := by
 simp only [hdE, j0, renE]
 rw [qU _ h]
 rfl
theorem jP3 {l : List Nat} {i : Nat} (h : i < l.length) : ∃ hj : i < l.reverse.length, l.reverse[i] = l[l.length - 1 - i] := ⟨by simpa using h, by rw [List.getElem_reverse]⟩
theorem jE0 {S : Ws} (hS : S.Ok) : ∀ (m k : Nat), S.n < m + k -> k <= S.n -> ∀ (pl left : PS) (kv0 : KV), Sq pl -> Sq left -> NdK kv0 -> jy (mpV kv0) = true -> (∀ i ∈ subV S.sc m k, lk kv0 (idn i) = none) ->
  TSpM 98 [.int .u32 (idn k), .agg [.ls 4 (rcs (reg pl))], .agg [.ls 4 (rcs (reg left))], .box 0 0, .box 1 0, .box 2 0, .box 3 0] (hdE S kv0) (.tup []) (hdE S (kv0 ++ vKV S (qR S.sc m k pl left)))
 | 0, k, h, hk, _, _, _, _, _, _, _, _ => by omega
 | m + 1, k, hm, hk, pl, left, kv0, hpl, hleft, hnd, hcl, hfr => by
   have hn := hS.few
   have hT : Tr S.sc S.n S.par := tr_mk hS.pw
   refine jc0 (by rfl) ?_
   dsimp only [hdE, c_view_Of_1, qj, jn,jH,jO,jq,jF,jJ,jo,jG,jI,iteR,regK,jh,jc,jk,jj,jb,ji,blkK,kp,kd,jd,ja,jx,fpOk,foot,km,allN,memN,jK,jl,jr,jv,jt,ju,jf,jg,je,newN,jw,jN,jP,jY,jQ,jM,jS,jz,jA,jC,jD,jE,jm,jB,evX,evL,evB,rd,get,subG,memG,jT,jV,hyps,gob,impP,allP,j1,jX,j3,kj,nth,j8,kh,jU,lenB,kg,jR,entN,setE,jZ,addE,setL,setN,putE,env0,eqCs,j6,eqC,bA,bO,bN,bE,negB,kEq,ke,j5,lend,frz,frzL,zRow,j9,j7,closed,jy,jW,binI,remP,remI,retK,retG,ko,retD,ki,resL,resD,oneD,renD,renL,renE,j0,rho,jL,j4,zla,zlb,zlc,zld,zca,zcb,o1,o0,og,Nat.reduceBEq,Nat.reduceAdd,Nat.beq]
   refine kq (XL hS hk) ?_
   dsimp only [c_view_Of_1, qj, jn,jH,jO,jq,jF,jJ,jo,jG,jI,iteR,regK,jh,jc,jk,jj,jb,ji,blkK,kp,kd,jd,ja,jx,fpOk,foot,km,allN,memN,jK,jl,jr,jv,jt,ju,jf,jg,je,newN,jw,jN,jP,jY,jQ,jM,jS,jz,jA,jC,jD,jE,jm,jB,evX,evL,evB,rd,get,subG,memG,jT,jV,hyps,gob,impP,allP,j1,jX,j3,kj,nth,j8,kh,jU,lenB,kg,jR,entN,setE,jZ,addE,setL,setN,putE,env0,eqCs,j6,eqC,bA,bO,bN,bE,negB,kEq,ke,j5,lend,frz,frzL,zRow,j9,j7,closed,jy,jW,binI,remP,remI,retK,retG,ko,retD,ki,resL,resD,oneD,renD,renL,renE,j0,rho,jL,j4,zla,zlb,zlc,zld,zca,zcb,o1,o0,og,Nat.reduceBEq,Nat.reduceAdd,Nat.beq]
   refine kq (ZA hS.tok (idn k)) ?_
   rw [show kJ S.tr (idn k) = (vw S.par S.n k).map idn from yD]
   dsimp only [c_view_Of_1, qj, jn,jH,jO,jq,jF,jJ,jo,jG,jI,iteR,regK,jh,jc,jk,jj,jb,ji,blkK,kp,kd,jd,ja,jx,fpOk,foot,km,allN,memN,jK,jl,jr,jv,jt,ju,jf,jg,je,newN,jw,jN,jP,jY,jQ,jM,jS,jz,jA,jC,jD,jE,jm,jB,evX,evL,evB,rd,get,subG,memG,jT,jV,hyps,gob,impP,allP,j1,jX,j3,kj,nth,j8,kh,jU,lenB,kg,jR,entN,setE,jZ,addE,setL,setN,putE,env0,eqCs,j6,eqC,bA,bO,bN,bE,negB,kEq,ke,j5,lend,frz,frzL,zRow,j9,j7,closed,jy,jW,binI,remP,remI,retK,retG,ko,retD,ki,resL,resD,oneD,renD,renL,renE,j0,rho,jL,j4,zla,zlb,zlc,zld,zca,zcb,o1,o0,og,Nat.reduceBEq,Nat.reduceAdd,Nat.beq]
   refine kX [] jq9 rfl rfl ?_
   dsimp only [c_view_Of_1, qj, jn,jH,jO,jq,jF,jJ,jo,jG,jI,iteR,regK,jh,jc,jk,jj,jb,ji,blkK,kp,kd,jd,ja,jx,fpOk,foot,km,allN,memN,jK,jl,jr,jv,jt,ju,jf,jg,je,newN,jw,jN,jP,jY,jQ,jM,jS,jz,jA,jC,jD,jE,jm,jB,evX,evL,evB,rd,get,subG,memG,jT,jV,hyps,gob,impP,allP,j1,jX,j3,kj,nth,j8,kh,jU,lenB,kg,jR,entN,setE,jZ,addE,setL,setN,putE,env0,eqCs,j6,eqC,bA,bO,bN,bE,negB,kEq,ke,j5,lend,frz,frzL,zRow,j9,j7,closed,jy,jW,binI,remP,remI,retK,retG,ko,retD,ki,resL,resD,oneD,renD,renL,renE,j0,rho,jL,j4,zla,zlb,zlc,zld,zca,zcb,o1,o0,og,Nat.reduceBEq,Nat.reduceAdd,Nat.beq]
   obtain ⟨ks, hks⟩ : ∃ ks, vw S.par S.n k = ks := ⟨_, rfl⟩
   have hksl : ks.length <= S.n := by rw [<- hks]; exact VP
   have hkm : ∀ j ∈ ks, S.par j = k /\ k < j /\ j <= S.n := fun j hj => hT.kid k j (by rw [<- hks] at hj; exact hj)
   rw [hks]
   refine ZK rfl rfl (bkL (ks.map idn)) (BkK (ks.map idn)) (fun i => [.cells [.mp (mpK .u32 S.kv) (mpV S.kv)], .cells [.mp (mpK .u32 (kKV S.tr.kids)) (mpV (kKV S.tr.kids)), .mp (mpK .u32 (uKV S.tr.up)) (mpV (uKV S.tr.up))],
    .cells [.fn 98 [.box 0 0, .box 1 0, .box 2 0, .box 3 0]], .cells [.own 5 0, .ownm 4 0], .map (mpK .u32 (kv0 ++ vKV S (goV S.sc (qR S.sc m) pl (ks.reverse.take i) left))) (mpV (kv0 ++ vKV S (goV S.sc (qR S.sc m) pl (ks.reverse.take i) left))), .arr 53 1 0 [],
    .cells [.ls 4 (rcs (reg pl))], .cells [.ls 4 (rcs (reg (vv S.sc pl (ks.reverse.take i) left)))], .cells [.int .i64 (S.ox k), .int .i64 (S.oy k)], .cells [.ls 1 (iL (ks.map idn))]]) (bkL (ks.map idn)).length ?_
   have hgk : ∀ (js : List Nat), (∀ a ∈ js, a ∈ ks) -> ∀ e ∈ goV S.sc (qR S.sc m) pl js left, ∃ a ∈ js, e.1 ∈ subV S.sc m a := fun js _ e he => by
    obtain ⟨a, ha, p, q, h⟩ := KT he
    exact ⟨a, ha, yH h⟩
   have hsubk : ∀ a ∈ ks, ∀ b ∈ subV S.sc m a, b ∈ subV S.sc (m + 1) k := fun a ha b hb => by
    simp only [subV, List.mem_cons, List.mem_flatMap]
    exact .inr ⟨a, by rw [<- hks] at ha; exact ha, hb⟩
   have hksm : ∀ a ∈ ks, a ∈ S.sc.kids k := fun a ha => by rw [<- hks] at ha; exact ha
   have hnds : ks.reverse.Nodup := (List.reverse_perm _).nodup_iff.2 (by rw [<- hks]; exact ZR)
   have hgnd : ∀ i, NdK (kv0 ++ vKV S (goV S.sc (qR S.sc m) pl (ks.reverse.take i) left)) := fun i => by
    have hin : ∀ a ∈ ks.reverse.take i, a ∈ ks := fun a ha => by simpa using List.mem_of_mem_take ha
    refine ndK_app hnd (jM5 (x4 hT (k := k) (fun a p q => jm8 hT m a p q) (hnds.sublist (List.take_sublist _ _)) fun a ha => hksm a (hin a ha))) fun p hp => ?_
    obtain ⟨e, he, rfl⟩ := List.mem_map.1 hp
    obtain ⟨a, ha, h⟩ := hgk _ hin e he
    exact hfr _ (hsubk a (hin a ha) _ h)
   have hclv : ∀ l, jy (mpV (kv0 ++ vKV S l)) = true := fun l => by rw [jF7]; exact KI hcl zG
   refine ⟨it_back (by rw [List.length_map]; omega), rfl, fun x hx => ?_, Nat.le_refl _, fun i _ => ⟨rfl, ?_, _, _, _, _, _, _, _, _, _, rfl⟩, ?_, fun i x o hi hx => ?_, fun h => absurd h (Nat.lt_irrefl _), fun _ => ?_⟩
   ·obtain ⟨r, _, rfl⟩ := List.mem_map.1 hx
    rfl
   ·simp [lowB, low, lowL, qK _ (hclv _), zn, jZ]
   ·simp [goV, vv, vKV]
   ·rw [Vj, List.length_map] at hi
    have hx' : x = bkD (ks.map idn) i := by
     have := jC1 (l := ks.map idn) (r := i) (by rw [List.length_map]; exact hi)
     rw [this] at hx; exact (Option.some.inj hx).symm
    subst hx'
    obtain ⟨hir, hrev⟩ := jP3 hi
    obtain ⟨j, hj⟩ : ∃ j, ks[ks.length - 1 - i] = j := ⟨_, rfl⟩
    have hjm : j ∈ ks := by rw [<- hj]; exact List.getElem_mem _
    obtain ⟨hjp, hjk, hjn⟩ := hkm j hjm
    have hid : (ks.map idn).getD ((ks.map idn).length - 1 - i) 0 = idn j := by
     rw [List.length_map, List.getD_eq_getElem?_getD, List.getElem?_map, List.getElem?_eq_getElem (by omega), hj]; rfl
    have htk : ks.reverse.take (i + 1) = ks.reverse.take i ++ [j] := by
     rw [List.take_succ_eq_append_getElem hir, hrev, hj]
    dsimp only [c_view_Of_1, qj, midK, goK, xn, bkD, za, jn,jH,jO,jq,jF,jJ,jo,jG,jI,iteR,regK,jh,jc,jk,jj,jb,ji,blkK,kp,kd,jd,ja,jx,fpOk,foot,km,allN,memN,jK,jl,jr,jv,jt,ju,jf,jg,je,newN,jw,jN,jP,jY,jQ,jM,jS,jz,jA,jC,jD,jE,jm,jB,evX,evL,evB,rd,get,subG,memG,jT,jV,hyps,gob,impP,allP,j1,jX,j3,kj,nth,j8,kh,jU,lenB,kg,jR,entN,setE,jZ,addE,setL,setN,putE,env0,eqCs,j6,eqC,bA,bO,bN,bE,negB,kEq,ke,j5,lend,frz,frzL,zRow,j9,j7,closed,jy,jW,binI,remP,remI,retK,retG,ko,retD,ki,resL,resD,oneD,renD,renL,renE,j0,rho,jL,j4,zla,zlb,zlc,zld,zca,zcb,o1,o0,og,Nat.reduceBEq,Nat.reduceAdd,Nat.beq]
    rw [hid]
    refine ⟨rfl, fun o' => ?_⟩
    refine kq (vC S.kv_nd (S.kv_lk hjn)) ?_
    dsimp only [c_view_Of_1, qj, midK, goK, xn, bkD, za, bxD, jn,jH,jO,jq,jF,jJ,jo,jG,jI,iteR,regK,jh,jc,jk,jj,jb,ji,blkK,kp,kd,jd,ja,jx,fpOk,foot,km,allN,memN,jK,jl,jr,jv,jt,ju,jf,jg,je,newN,jw,jN,jP,jY,jQ,jM,jS,jz,jA,jC,jD,jE,jm,jB,evX,evL,evB,rd,get,subG,memG,jT,jV,hyps,gob,impP,allP,j1,jX,j3,kj,nth,j8,kh,jU,lenB,kg,jR,entN,setE,jZ,addE,setL,setN,putE,env0,eqCs,j6,eqC,bA,bO,bN,bE,negB,kEq,ke,j5,lend,frz,frzL,zRow,j9,j7,closed,jy,jW,binI,remP,remI,retK,retG,ko,retD,ki,resL,resD,oneD,renD,renL,renE,j0,rho,jL,j4,zla,zlb,zlc,zld,zca,zcb,o1,o0,og,Nat.reduceBEq,Nat.reduceAdd,Nat.beq]
    have e1 := YY (S := S.sc) (H := qR S.sc m) (pl := pl) (j := j) (js := ks.reverse.take i) (l := left)
    have e2 := QT (S := S.sc) (pl := pl) (j := j) (js := ks.reverse.take i) (l := left)
    rw [<- htk] at e1 e2
    have hlq := jS4 (S := S.sc) (pl := pl) hleft (js := ks.reverse.take i)
    obtain ⟨L, hL⟩ : ∃ L, vv S.sc pl (ks.reverse.take i) left = L := ⟨_, rfl⟩
    obtain ⟨G, hG⟩ : ∃ G, goV S.sc (qR S.sc m) pl (ks.reverse.take i) left = G := ⟨_, rfl⟩
    rw [hL] at hlq e1 e2
    rw [hG] at e1
    rw [hG, hL]
    cases hon : (S.B j).on with
    | false =>
      have hon' : ¬ S.sc.on j = true := by show ¬ (S.B j).on = true; rw [hon]; simp
      rw [if_neg hon'] at e1 e2
      rw [List.append_nil] at e1
      rw [e1, e2]
      refine ⟨fun _ => ⟨rfl, rfl⟩, nofun⟩
    | true =>
      have hon' : S.sc.on j = true := hon
      rw [if_pos hon'] at e1 e2
      refine ⟨nofun, fun _ => ?_⟩
      have hsz := hS.size j
      have hbd := hS.bdd j
      have hok := hS.orgB hk
      have hoj := hS.orgB hjn
      have hox : S.ox k + (S.B j).x = S.ox j := by unfold Ws.ox; rw [ZP hS.pw (k := j) (by omega), hjp]
      have hoy : S.oy k + (S.B j).y = S.oy j := by unfold Ws.oy; rw [ZP hS.pw (k := j) (by omega), hjp]
      refine Zf (z1 S.kv_nd (S.kv_lk hjn) (by omega) (by omega) hbd.1 hbd.2) ?_
      dsimp only [c_view_Of_1, qj, midK, goK, xn, bkD, za, rgD, jn,jH,jO,jq,jF,jJ,jo,jG,jI,iteR,regK,jh,jc,jk,jj,jb,ji,blkK,kp,kd,jd,ja,jx,fpOk,foot,km,allN,memN,jK,jl,jr,jv,jt,ju,jf,jg,je,newN,jw,jN,jP,jY,jQ,jM,jS,jz,jA,jC,jD,jE,jm,jB,evX,evL,evB,rd,get,subG,memG,jT,jV,hyps,gob,impP,allP,j1,jX,j3,kj,nth,j8,kh,jU,lenB,kg,jR,entN,setE,jZ,addE,setL,setN,putE,env0,eqCs,j6,eqC,bA,bO,bN,bE,negB,kEq,ke,j5,lend,frz,frzL,zRow,j9,j7,closed,jy,jW,binI,remP,remI,retK,retG,ko,retD,ki,resL,resD,oneD,renD,renL,renE,j0,rho,jL,j4,zla,zlb,zlc,zld,zca,zcb,o1,o0,og,Nat.reduceBEq,Nat.reduceAdd,Nat.beq]
      rw [hox, hoy]
      have hasq := xT (b := S.B j) (by omega) (by omega)
      refine ⟨by simp only [fits]; omega, by simp only [fits]; omega, Zf (ZD hasq.bdd (by omega) (by omega) (Nat.le_trans hasq.len (by omega))) ?_⟩
      dsimp only [c_view_Of_1, qj, midK, goK, xn, bkD, za, rgD, jn,jH,jO,jq,jF,jJ,jo,jG,jI,iteR,regK,jh,jc,jk,jj,jb,ji,blkK,kp,kd,jd,ja,jx,fpOk,foot,km,allN,memN,jK,jl,jr,jv,jt,ju,jf,jg,je,newN,jw,jN,jP,jY,jQ,jM,jS,jz,jA,jC,jD,jE,jm,jB,evX,evL,evB,rd,get,subG,memG,jT,jV,hyps,gob,impP,allP,j1,jX,j3,kj,nth,j8,kh,jU,lenB,kg,jR,entN,setE,jZ,addE,setL,setN,putE,env0,eqCs,j6,eqC,bA,bO,bN,bE,negB,kEq,ke,j5,lend,frz,frzL,zRow,j9,j7,closed,jy,jW,binI,remP,remI,retK,retG,ko,retD,ki,resL,resD,oneD,renD,renL,renE,j0,rho,jL,j4,zla,zlb,zlc,zld,zca,zcb,o1,o0,og,Nat.reduceBEq,Nat.reduceAdd,Nat.beq]
      have hshq : Sq (mvP (S.ox j) (S.oy j) (q9 (S.B j))) := hS.shSq hjn
      refine kq (XW hshq.bdd hpl.bdd (Nat.add_le_add hshq.len hpl.len)) ?_
      dsimp only [c_view_Of_1, qj, midK, goK, xn, bkD, za, rgD, jn,jH,jO,jq,jF,jJ,jo,jG,jI,iteR,regK,jh,jc,jk,jj,jb,ji,blkK,kp,kd,jd,ja,jx,fpOk,foot,km,allN,memN,jK,jl,jr,jv,jt,ju,jf,jg,je,newN,jw,jN,jP,jY,jQ,jM,jS,jz,jA,jC,jD,jE,jm,jB,evX,evL,evB,rd,get,subG,memG,jT,jV,hyps,gob,impP,allP,j1,jX,j3,kj,nth,j8,kh,jU,lenB,kg,jR,entN,setE,jZ,addE,setL,setN,putE,env0,eqCs,j6,eqC,bA,bO,bN,bE,negB,kEq,ke,j5,lend,frz,frzL,zRow,j9,j7,closed,jy,jW,binI,remP,remI,retK,retG,ko,retD,ki,resL,resD,oneD,renD,renL,renE,j0,rho,jL,j4,zla,zlb,zlc,zld,zca,zcb,o1,o0,og,Nat.reduceBEq,Nat.reduceAdd,Nat.beq]
      have hA : Sq (fun x y => mvP (S.ox j) (S.oy j) (q9 (S.B j)) x y /\ pl x y) := hshq.sub fun _ _ h => h.1
      refine kq (XW hA.bdd hlq.bdd (Nat.add_le_add hA.len hlq.len)) ?_
      dsimp only [c_view_Of_1, qj, midK, goK, xn, bkD, za, rgD, jn,jH,jO,jq,jF,jJ,jo,jG,jI,iteR,regK,jh,jc,jk,jj,jb,ji,blkK,kp,kd,jd,ja,jx,fpOk,foot,km,allN,memN,jK,jl,jr,jv,jt,ju,jf,jg,je,newN,jw,jN,jP,jY,jQ,jM,jS,jz,jA,jC,jD,jE,jm,jB,evX,evL,evB,rd,get,subG,memG,jT,jV,hyps,gob,impP,allP,j1,jX,j3,kj,nth,j8,kh,jU,lenB,kg,jR,entN,setE,jZ,addE,setL,setN,putE,env0,eqCs,j6,eqC,bA,bO,bN,bE,negB,kEq,ke,j5,lend,frz,frzL,zRow,j9,j7,closed,jy,jW,binI,remP,remI,retK,retG,ko,retD,ki,resL,resD,oneD,renD,renL,renE,j0,rho,jL,j4,zla,zlb,zlc,zld,zca,zcb,o1,o0,og,Nat.reduceBEq,Nat.reduceAdd,Nat.beq]
      have hrec := jE0 hS m j (by omega) hjn (fun x y => mvP (S.ox j) (S.oy j) (q9 (S.B j)) x y /\ pl x y) (fun x y => (mvP (S.ox j) (S.oy j) (q9 (S.B j)) x y /\ pl x y) /\ L x y) (kv0 ++ vKV S G) hA (hA.sub fun _ _ h => h.1) ?_ (hclv G) ?_
      ·refine kX [0, 1, 2, 3, 4, 5] hrec rfl ?_ ?_
       ·rw [hdR (hclv G)]
        rfl
       ·rw [hdR (by rw [jF7]; exact KI (hclv G) zG)]
        dsimp only [c_view_Of_1, qj, midK, goK, xn, bkD, za, rgD, hdE, jn,jH,jO,jq,jF,jJ,jo,jG,jI,iteR,regK,jh,jc,jk,jj,jb,ji,blkK,kp,kd,jd,ja,jx,fpOk,foot,km,allN,memN,jK,jl,jr,jv,jt,ju,jf,jg,je,newN,jw,jN,jP,jY,jQ,jM,jS,jz,jA,jC,jD,jE,jm,jB,evX,evL,evB,rd,get,subG,memG,jT,jV,hyps,gob,impP,allP,j1,jX,j3,kj,nth,j8,kh,jU,lenB,kg,jR,entN,setE,jZ,addE,setL,setN,putE,env0,eqCs,j6,eqC,bA,bO,bN,bE,negB,kEq,ke,j5,lend,frz,frzL,zRow,j9,j7,closed,jy,jW,binI,remP,remI,retK,retG,ko,retD,ki,resL,resD,oneD,renD,renL,renE,j0,rho,jL,j4,zla,zlb,zlc,zld,zca,zcb,o1,o0,og,Nat.reduceBEq,Nat.reduceAdd,Nat.beq]
        refine kq (jq3 hlq.bdd hA.bdd (Nat.add_le_add hlq.len hA.len)) ?_
        dsimp only [c_view_Of_1, qj, midK, goK, xn, bkD, za, rgD, hdE, jn,jH,jO,jq,jF,jJ,jo,jG,jI,iteR,regK,jh,jc,jk,jj,jb,ji,blkK,kp,kd,jd,ja,jx,fpOk,foot,km,allN,memN,jK,jl,jr,jv,jt,ju,jf,jg,je,newN,jw,jN,jP,jY,jQ,jM,jS,jz,jA,jC,jD,jE,jm,jB,evX,evL,evB,rd,get,subG,memG,jT,jV,hyps,gob,impP,allP,j1,jX,j3,kj,nth,j8,kh,jU,lenB,kg,jR,entN,setE,jZ,addE,setL,setN,putE,env0,eqCs,j6,eqC,bA,bO,bN,bE,negB,kEq,ke,j5,lend,frz,frzL,zRow,j9,j7,closed,jy,jW,binI,remP,remI,retK,retG,ko,retD,ki,resL,resD,oneD,renD,renL,renE,j0,rho,jL,j4,zla,zlb,zlc,zld,zca,zcb,o1,o0,og,Nat.reduceBEq,Nat.reduceAdd,Nat.beq]
        rw [e1, e2, jC8, <- List.append_assoc]
        exact ⟨rfl, rfl⟩
      ·rw [<- hG]; exact hgnd i
      ·intro b hb
       rw [jA9, hfr b (hsubk j hjm b hb), <- hG]
       refine Kr fun hm' => ?_
       obtain ⟨e, he, rfl⟩ := List.mem_map.1 hm'
       have hin : ∀ a ∈ ks.reverse.take i, a ∈ ks := fun a ha => by simpa using List.mem_of_mem_take ha
       obtain ⟨a, ha, h⟩ := hgk _ hin e he
       obtain ⟨u, hu⟩ := xU hT h
       obtain ⟨u', hu'⟩ := xU hT hb
       have haj := jo3 hT (hksm a (hin a ha)) (hksm j hjm) hu hu'
       subst haj
       have hnn := hnds.sublist (List.take_sublist (i + 1) _)
       rw [htk, List.nodup_append] at hnn
       exact hnn.2.2 _ ha _ (by simp) rfl
   ·rw [Vj, List.length_map, show ks.reverse.take ks.length = ks.reverse by rw [<- List.length_reverse, List.take_length]]
    dsimp only [c_view_Of_1, qj, jn,jH,jO,jq,jF,jJ,jo,jG,jI,iteR,regK,jh,jc,jk,jj,jb,ji,blkK,kp,kd,jd,ja,jx,fpOk,foot,km,allN,memN,jK,jl,jr,jv,jt,ju,jf,jg,je,newN,jw,jN,jP,jY,jQ,jM,jS,jz,jA,jC,jD,jE,jm,jB,evX,evL,evB,rd,get,subG,memG,jT,jV,hyps,gob,impP,allP,j1,jX,j3,kj,nth,j8,kh,jU,lenB,kg,jR,entN,setE,jZ,addE,setL,setN,putE,env0,eqCs,j6,eqC,bA,bO,bN,bE,negB,kEq,ke,j5,lend,frz,frzL,zRow,j9,j7,closed,jy,jW,binI,remP,remI,retK,retG,ko,retD,ki,resL,resD,oneD,renD,renL,renE,j0,rho,jL,j4,zla,zlb,zlc,zld,zca,zcb,o1,o0,og,Nat.reduceBEq,Nat.reduceAdd,Nat.beq]
    have hnd2 := hgnd ks.length
    rw [show ks.reverse.take ks.length = ks.reverse by rw [<- List.length_reverse, List.take_length]] at hnd2
    obtain ⟨L, hL⟩ : ∃ L, vv S.sc pl ks.reverse left = L := ⟨_, rfl⟩
    obtain ⟨G, hG⟩ : ∃ G, goV S.sc (qR S.sc m) pl ks.reverse left = G := ⟨_, rfl⟩
    have hend : qR S.sc (m + 1) k pl left = G ++ [(k, L)] := by
     rw [<- hG, <- hL, <- hks]; rfl
    have habs : lk (kv0 ++ vKV S G) (idn k) = none := by
     rw [jA9, hfr k (by simp [subV])]
     refine Kr fun hm' => ?_
     obtain ⟨e, he, hek⟩ := List.mem_map.1 hm'
     rw [<- hG] at he
     obtain ⟨a, ha, h⟩ := hgk _ (fun a ha => by simpa using ha) e he
     have h1 := jx6 hT h
     have h2 := (hkm a (by simpa using ha)).2.1
     omega
    rw [hG] at hnd2
    rw [hG, hL, hend]
    refine qh _ _ (ye tV tI (kv := kv0 ++ vKV S G) rfl hnd2 (idn k) (.agg [.int .i64 (S.ox k), .int .i64 (S.oy k), .ls 4 (rcs (reg L))])) ?_
    dsimp only [c_view_Of_1, qj, hdE, jn,jH,jO,jq,jF,jJ,jo,jG,jI,iteR,regK,jh,jc,jk,jj,jb,ji,blkK,kp,kd,jd,ja,jx,fpOk,foot,km,allN,memN,jK,jl,jr,jv,jt,ju,jf,jg,je,newN,jw,jN,jP,jY,jQ,jM,jS,jz,jA,jC,jD,jE,jm,jB,evX,evL,evB,rd,get,subG,memG,jT,jV,hyps,gob,impP,allP,j1,jX,j3,kj,nth,j8,kh,jU,lenB,kg,jR,entN,setE,jZ,addE,setL,setN,putE,env0,eqCs,j6,eqC,bA,bO,bN,bE,negB,kEq,ke,j5,lend,frz,frzL,zRow,j9,j7,closed,jy,jW,binI,remP,remI,retK,retG,ko,retD,ki,resL,resD,oneD,renD,renL,renE,j0,rho,jL,j4,zla,zlb,zlc,zld,zca,zcb,o1,o0,og,Nat.reduceBEq,Nat.reduceAdd,Nat.beq]
    rw [qY habs, show kv0 ++ vKV S G ++ [(idn k, D.agg [.int .i64 (S.ox k), .int .i64 (S.oy k), .ls 4 (rcs (reg L))])] = kv0 ++ vKV S (G ++ [(k, L)]) by rw [jC8, List.append_assoc]; rfl]
    exact Rt.cut (Nat.le_refl _) ⟨rfl, rfl, rfl, rfl, rfl, rfl, trivial⟩ (by simp [lowB, low, lowL, qK _ (hclv _), zn]) rfl
end Go.AM
