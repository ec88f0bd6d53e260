import Derived.Test.YtoaialdcgmkbgaaGreatRK29

set_option linter.all false
namespace Go.AM
open Go Go.Proofs
/-! ### Cut into triangles, and in two -/
theorem ins_snoc (X Y : Int) (a : Pt) (m : List Pt) (z w : Pt) : insB (a :: (m ++ [z]) ++ [w]) X Y = (insB (a :: (m ++ [z])) X Y != insB [a, z, w] X Y) := by
 unfold insB
 have e1 : a :: (m ++ [z]) ++ [w] ++ [a] = (a :: m) ++ z :: [w, a] := by simp
 have e2 : a :: (m ++ [z]) ++ [a] = (a :: m) ++ z :: [a] := by simp
 rw [show a :: (m ++ [z]) ++ [w] = a :: (m ++ [z] ++ [w]) from rfl, zh, zh, zh, show a :: (m ++ [z] ++ [w]) ++ [a] = a :: (m ++ [z]) ++ [w] ++ [a] from rfl, e1, e2, xt, xt (eB X Y) (a :: m) z [a]]
 simp only [List.cons_append, List.nil_append, vM, x9]
 rw [eB_sym (a := z) (b := a)]
 cases pX (eB X Y) (a :: (m ++ [z])) <;> cases eB X Y a z <;> cases eB X Y z w <;> cases eB X Y w a <;> rfl
theorem ins_take {p : List Pt} {i : Nat} (h1 : 1 ≤ i) (h2 : i + 1 < p.length) (X Y : Int) : insB (p.take (i + 2)) X Y = (insB (p.take (i + 1)) X Y != insB [p.getD 0 (0, 0), p.getD i (0, 0), p.getD (i + 1) (0, 0)] X Y) := by
 obtain ⟨a, r, rfl⟩ : ∃ a r, p = a :: r := by
  cases p with
  | nil => simp at h2
  | cons a r => exact ⟨a, r, rfl⟩
 obtain ⟨j, rfl⟩ : ∃ j, i = j + 1 := ⟨i - 1, by omega⟩
 have hl : j + 1 < r.length := by simp at h2; omega
 have g1 : r[j]? = some (r.getD j (0, 0)) := kX (by omega)
 have g2 : r[j + 1]? = some (r.getD (j + 1) (0, 0)) := kX hl
 have e1 : (a :: r).take (j + 1 + 1) = a :: (r.take j ++ [r.getD j (0, 0)]) := by rw [List.take_succ_cons, List.take_add_one, g1]; rfl
 have e2 : (a :: r).take (j + 1 + 2) = a :: (r.take j ++ [r.getD j (0, 0)]) ++ [r.getD (j + 1) (0, 0)] := by
  rw [List.take_succ_cons, List.take_add_one, List.take_add_one, g1, g2]; simp
 rw [e1, e2, ins_snoc]
 simp only [List.getD_cons_zero, List.getD_cons_succ]
theorem ins_cut1 (X Y : Int) (A : List Pt) (x : Pt) (C : List Pt) : insB (A ++ x :: C) X Y = (insB [x] X Y != insB (x :: C ++ (A ++ [x])) X Y) := by
 unfold insB
 have e0 : cyX (eB X Y) [x] = false := by rw [zh]; simp [vM, x9, Y5]
 rw [e0]
 have hb : cyX (eB X Y) (x :: C ++ (A ++ [x])) = pX (eB X Y) (x :: C ++ (A ++ [x])) := by
  rw [show x :: C ++ (A ++ [x]) = x :: (C ++ (A ++ [x])) from rfl, zh]
  have e : x :: (C ++ (A ++ [x])) ++ [x] = (x :: C ++ A) ++ x :: [x] := by simp
  have e' : x :: (C ++ (A ++ [x])) = (x :: C ++ A) ++ [x] := by simp
  rw [e, xt, e', vM, x9, Y5]
  cases pX (eB X Y) (x :: C ++ A ++ [x]) <;> rfl
 rw [hb]
 cases A with
 | nil =>
   rw [List.nil_append, zh, List.nil_append]
   cases pX (eB X Y) (x :: C ++ [x]) <;> rfl
 | cons h A =>
   rw [List.cons_append, zh, show h :: (A ++ x :: C) ++ [h] = (h :: A) ++ x :: (C ++ [h]) by simp, xt]
   rw [show x :: C ++ (h :: A ++ [x]) = (x :: C) ++ h :: (A ++ [x]) by simp, xt (eB X Y) (x :: C) h (A ++ [x])]
   simp only [List.cons_append]
   cases pX (eB X Y) (h :: (A ++ [x])) <;> cases pX (eB X Y) (x :: (C ++ [h])) <;> rfl
theorem ins_cut2 (X Y : Int) (A : List Pt) (x : Pt) (B : List Pt) (y : Pt) (C : List Pt) : insB (A ++ x :: (B ++ y :: C)) X Y = (insB (x :: B ++ [y]) X Y != insB (y :: C ++ (A ++ [x])) X Y) := by
 unfold insB
 have ha : cyX (eB X Y) (x :: B ++ [y]) = (pX (eB X Y) (x :: B ++ [y]) != eB X Y x y) := by
  rw [show x :: B ++ [y] = x :: (B ++ [y]) from rfl, zh, show x :: (B ++ [y]) ++ [x] = (x :: B) ++ y :: [x] by simp, xt, vM, x9, eB_sym (a := y) (b := x)]
  simp only [List.cons_append]
  cases pX (eB X Y) (x :: (B ++ [y])) <;> cases eB X Y x y <;> rfl
 have hb : cyX (eB X Y) (y :: C ++ (A ++ [x])) = (pX (eB X Y) (y :: C ++ (A ++ [x])) != eB X Y x y) := by
  rw [show y :: C ++ (A ++ [x]) = y :: (C ++ (A ++ [x])) from rfl, zh]
  have e : y :: (C ++ (A ++ [x])) ++ [y] = (y :: C ++ A) ++ x :: [y] := by simp
  have e' : y :: (C ++ (A ++ [x])) = (y :: C ++ A) ++ [x] := by simp
  rw [e, xt, e', vM, x9]
  cases pX (eB X Y) (y :: C ++ A ++ [x]) <;> cases eB X Y x y <;> rfl
 rw [ha, hb]
 cases A with
 | nil =>
   rw [List.nil_append, zh, List.nil_append, show x :: (B ++ y :: C) ++ [x] = (x :: B) ++ y :: (C ++ [x]) by simp, xt]
   simp only [List.cons_append]
   cases pX (eB X Y) (x :: (B ++ [y])) <;> cases pX (eB X Y) (y :: (C ++ [x])) <;> cases eB X Y x y <;> rfl
 | cons h A =>
   rw [List.cons_append, zh, show h :: (A ++ x :: (B ++ y :: C)) ++ [h] = (h :: A) ++ x :: (B ++ y :: (C ++ [h])) by simp, xt,
    show x :: (B ++ y :: (C ++ [h])) = (x :: B) ++ y :: (C ++ [h]) from rfl, xt (eB X Y) (x :: B) y (C ++ [h])]
   rw [show y :: C ++ (h :: A ++ [x]) = (y :: C) ++ h :: (A ++ [x]) by simp, xt (eB X Y) (y :: C) h (A ++ [x])]
   simp only [List.cons_append]
   cases pX (eB X Y) (h :: (A ++ [x])) <;> cases pX (eB X Y) (y :: (C ++ [h])) <;> cases pX (eB X Y) (x :: (B ++ [y])) <;> cases eB X Y x y <;> rfl
theorem ins_cut {p : List Pt} {i k : Nat} (hik : i ≤ k) (hk : k < p.length) (X Y : Int) : insB p X Y = (insB ((p.take (k + 1)).drop i) X Y != insB (p.drop k ++ p.take (i + 1)) X Y) := by
 have gi : p[i]? = some (p.getD i (0, 0)) := kX (by omega)
 have gk : p[k]? = some (p.getD k (0, 0)) := kX hk
 have hti : p.take (i + 1) = p.take i ++ [p.getD i (0, 0)] := by rw [List.take_add_one, gi]; rfl
 have hdk : p.drop k = p.getD k (0, 0) :: p.drop (k + 1) := by
  rw [List.drop_eq_getElem_cons hk]
  congr 1
  rw [List.getElem?_eq_getElem hk] at gk
  exact Option.some.inj gk
 have hdi : p.drop i = p.getD i (0, 0) :: p.drop (i + 1) := by
  rw [List.drop_eq_getElem_cons (by omega)]
  congr 1
  rw [List.getElem?_eq_getElem (by omega)] at gi
  exact Option.some.inj gi
 have hp : p = p.take i ++ p.getD i (0, 0) :: p.drop (i + 1) := by rw [← hdi, List.take_append_drop]
 rw [hti, hdk]
 rcases Nat.lt_or_ge i k with h | h
 ·have hB : p.drop (i + 1) = (p.drop (i + 1)).take (k - (i + 1)) ++ p.getD k (0, 0) :: p.drop (k + 1) := by
   have h1 := (List.take_append_drop (k - (i + 1)) (p.drop (i + 1))).symm
   rw [List.drop_drop, show i + 1 + (k - (i + 1)) = k by omega, hdk] at h1
   exact h1
  have hA : (p.take (k + 1)).drop i = p.getD i (0, 0) :: (p.drop (i + 1)).take (k - (i + 1)) ++ [p.getD k (0, 0)] := by
   rw [List.drop_take, hdi, show k + 1 - i = (k - (i + 1) + 1) + 1 by omega, List.take_succ_cons, List.take_add_one, List.getElem?_drop, show i + 1 + (k - (i + 1)) = k by omega, gk]
   rfl
  rw [hA]
  have h2 := ins_cut2 X Y (p.take i) (p.getD i (0, 0)) ((p.drop (i + 1)).take (k - (i + 1))) (p.getD k (0, 0)) (p.drop (k + 1))
  rw [← hB, ← hp] at h2
  exact h2
 ·have hik' : i = k := by omega
  subst hik'
  have hA : (p.take (i + 1)).drop i = [p.getD i (0, 0)] := by
   rw [List.drop_take, hdi, show i + 1 - i = 0 + 1 by omega, List.take_succ_cons, List.take_zero]
  rw [hA]
  have h2 := ins_cut1 X Y (p.take i) (p.getD i (0, 0)) (p.drop (i + 1))
  rw [← hp] at h2
  exact h2
theorem Yr {a b c : Bool} (h : a = (b != c)) : a = true ↔ (b = true ∧ ¬ c = true) ∨ (c = true ∧ ¬ b = true) := by
 cases a <;> cases b <;> cases c <;> simp_all
/-! ### How many places -/
open Classical in
noncomputable def cntP (P : Int → Int → Prop) : Nat := ((List.range 64).map fun (y : Nat) => (List.range 64).countP fun (x : Nat) => decide (P (x : Int) (y : Int))).sum
theorem count_rg (a w : Nat) : ∀ N, (List.range N).countP (fun x => decide (a ≤ x ∧ x < a + w)) = min N (a + w) - min N a
 | 0 => by simp
 | N + 1 => by
   rw [List.range_succ, List.countP_append, count_rg a w N]
   simp only [List.countP_cons, List.countP_nil, decide_eq_true_eq]
   split <;> omega
theorem sum_if (c : Nat) (a w : Nat) : ∀ N, ((List.range N).map fun y => if a ≤ y ∧ y < a + w then c else 0).sum = (min N (a + w) - min N a) * c
 | 0 => by simp
 | N + 1 => by
   rw [List.range_succ, List.map_append, List.sum_append, sum_if c a w N]
   simp only [List.map_cons, List.map_nil, List.sum_cons, List.sum_nil]
   by_cases h : a ≤ N ∧ N < a + w
   ·rw [if_pos h, show min (N + 1) (a + w) - min (N + 1) a = (min N (a + w) - min N a) + 1 by omega, Nat.add_mul]; omega
   ·rw [if_neg h, show min (N + 1) (a + w) - min (N + 1) a = min N (a + w) - min N a by omega]; omega
theorem sum_add {f g h : Nat → Nat} (N : Nat) (e : ∀ y, y < N → f y = g y + h y) : ((List.range N).map f).sum = ((List.range N).map g).sum + ((List.range N).map h).sum := by
 induction N with
 | zero => rfl
 | succ N ih =>
   rw [List.range_succ, List.map_append, List.map_append, List.map_append, List.sum_append, List.sum_append, List.sum_append, ih fun y hy => e y (by omega)]
   simp only [List.map_cons, List.map_nil, List.sum_cons, List.sum_nil]
   rw [e N (by omega)]; omega
theorem Xa {p q r : Nat → Bool} : ∀ (l : List Nat), (∀ x ∈ l, p x = (q x || r x) ∧ (q x && r x) = false) → l.countP p = l.countP q + l.countP r
 | [], _ => rfl
 | x :: l, h => by
   have ih := Xa l fun y hy => h y (by simp [hy])
   have hx := h x (by simp)
   rw [List.countP_cons, List.countP_cons, List.countP_cons, ih, hx.1]
   cases hq : q x <;> cases hr : r x <;> rw [hq, hr] at hx <;> simp at hx ⊢ <;> omega
theorem ja3 {P Q R : Int → Int → Prop} (h : ∀ x y, P x y ↔ Q x y ∨ R x y) (hd : ∀ x y, ¬ (Q x y ∧ R x y)) : cntP P = cntP Q + cntP R := by
 unfold cntP
 refine sum_add 64 fun y _ => Xa _ fun x _ => ?_
 have h1 := h x y
 have h2 := hd x y
 by_cases hq : Q x y <;> by_cases hr : R x y
 ·exact absurd ⟨hq, hr⟩ h2
 ·simp [h1, hq, hr]
 ·simp [h1, hq, hr]
 ·simp [h1, hq, hr]
theorem cnt_no {P : Int → Int → Prop} (h : ∀ x y, ¬ P x y) : cntP P = 0 := by
 have := ja3 (P := P) (Q := P) (R := P) (fun x y => by simp) (fun x y hp => h x y hp.1)
 omega
theorem cnt_has {r : Rc} (hx : 0 ≤ r.x ∧ r.x + r.w ≤ 64) (hy : 0 ≤ r.y ∧ r.y + r.h ≤ 64) (hw : 0 ≤ r.w) (hh : 0 ≤ r.h) : (cntP r.has : Int) = r.w * r.h := by
 obtain ⟨x, y, w, h⟩ := r
 dsimp only at *
 obtain ⟨x, rfl⟩ : ∃ n : Nat, x = n := ⟨x.toNat, by omega⟩
 obtain ⟨y, rfl⟩ : ∃ n : Nat, y = n := ⟨y.toNat, by omega⟩
 obtain ⟨w, rfl⟩ : ∃ n : Nat, w = n := ⟨w.toNat, by omega⟩
 obtain ⟨h, rfl⟩ : ∃ n : Nat, h = n := ⟨h.toNat, by omega⟩
 have key : cntP (Rc.has ⟨x, y, w, h⟩) = ((List.range 64).map fun Y => if y ≤ Y ∧ Y < y + h then w else 0).sum := by
  unfold cntP
  congr 1
  refine List.map_congr_left fun Y _ => ?_
  by_cases hY : y ≤ Y ∧ Y < y + h
  ·rw [if_pos hY]
   have := count_rg x w 64
   rw [show min 64 (x + w) - min 64 x = w by omega] at this
   rw [← this]
   refine List.countP_congr fun X _ => ?_
   unfold Rc.has
   simp only [decide_eq_true_eq]
   omega
  ·rw [if_neg hY, List.countP_eq_zero]
   intro X _
   unfold Rc.has
   simp only [decide_eq_true_eq]
   omega
 rw [key, sum_if, show min 64 (y + h) - min 64 y = h by omega]
 rw [Int.natCast_mul, Int.mul_comm]
theorem cnt_area : ∀ {l : List Rc}, (∀ r ∈ l, (0 ≤ r.x ∧ r.x + r.w ≤ 64) ∧ (0 ≤ r.y ∧ r.y + r.h ≤ 64) ∧ 0 ≤ r.w ∧ 0 ≤ r.h) → l.Pairwise Bfr → area l = cntP (pts l)
 | [], _, _ => by rw [cnt_no (fun x y h => by simp [pts] at h)]; rfl
 | r :: l, hb, hd => by
   have ih := cnt_area (l := l) (fun q hq => hb q (by simp [hq])) (List.pairwise_cons.1 hd).2
   have hr := hb r (by simp)
   have c : ∀ x y, pts (r :: l) x y ↔ r.has x y ∨ pts l x y := fun x y => by simp [pts]
   rw [ja3 c fun x y ⟨h1, q, hq, h2⟩ => by
    have := (List.pairwise_cons.1 hd).1 q hq
    unfold Bfr at this
    unfold Rc.has at h1 h2
    omega]
   rw [Int.natCast_add, cnt_has hr.1 hr.2.1 hr.2.2.1 hr.2.2.2, ← ih]
   simp [area]
theorem reg_box {P : Int → Int → Prop} (hP : ∀ x y, P x y → (0 ≤ x ∧ x < 64) ∧ 0 ≤ y ∧ y < 64) : ∀ r ∈ reg P, (0 ≤ r.x ∧ r.x + r.w ≤ 64) ∧ (0 ≤ r.y ∧ r.y + r.h ≤ 64) ∧ 0 ≤ r.w ∧ 0 ≤ r.h := fun r hr => by
 have hb : Bdd P := fun x y h => by have := hP x y h; omega
 have hv := vm hb r hr
 unfold Vr at hv
 have h1 := hP r.x r.y ((yE hb _ _).1 ⟨r, hr, by unfold Rc.has; omega⟩)
 have h2 := hP (r.x + r.w - 1) (r.y + r.h - 1) ((yE hb _ _).1 ⟨r, hr, by unfold Rc.has; omega⟩)
 omega
theorem VF {P : Int → Int → Prop} (hP : ∀ x y, P x y → (0 ≤ x ∧ x < 64) ∧ 0 ≤ y ∧ y < 64) : area (reg P) = cntP P := by
 have hb : Bdd P := fun x y h => by have := hP x y h; omega
 rw [cnt_area (reg_box hP) (xT (JY (yD hb))).1]
 rw [show pts (reg P) = P from zb fun x y => yE hb x y]
theorem area_two {A B : Int → Int → Prop} (hA : ∀ x y, A x y → (0 ≤ x ∧ x < 64) ∧ 0 ≤ y ∧ y < 64) (hB : ∀ x y, B x y → (0 ≤ x ∧ x < 64) ∧ 0 ≤ y ∧ y < 64) (hno : ∀ x y, ¬ (A x y ∧ B x y)) : area (reg A) + area (reg B) = area (reg (XorP A B)) := by
 have hX : ∀ x y, XorP A B x y → (0 ≤ x ∧ x < 64) ∧ 0 ≤ y ∧ y < 64 := fun x y h => h.elim (fun h => hA x y h.1) fun h => hB x y h.1
 have e : cntP (XorP A B) = cntP A + cntP B := ja3 (fun x y => by
  unfold XorP
  have := hno x y
  by_cases hx : A x y <;> by_cases hy : B x y
  ·exact absurd ⟨hx, hy⟩ this
  ·simp [hx, hy]
  ·simp [hx, hy]
  ·simp [hx, hy]) hno
 rw [VF hA, VF hB, VF hX, e, Int.natCast_add]
/-! ### Corners of bytes -/
def u2D (q : Int × Int) : D := .agg [.int .u8 q.1, .int .u8 q.2]
def ptsE (l : List (Int × Int)) : List Pt := l.map fun q => (q.1 % 17, q.2 % 17)
theorem Vt {l : List (Int × Int)} (hl : l.length ≤ 12) (hb : ∀ q ∈ l, (0 ≤ q.1 ∧ q.1 ≤ 255) ∧ 0 ≤ q.2 ∧ q.2 ≤ 255) : TSp 25 [.ls 2 (l.map u2D)] (.ls 2 (pds (ptsE l))) := by
 refine J5 (by rfl) ?_
 dsimp only [c_top_edgesPoints, qz, jo,jK,jT,jr,jI,jM,jq,jJ,jL,iteR,regK,ji,jc,jl,jk,jb,jj,blkK,kt,kh,jd,ja,jy,fpOk,foot,kq,allN,memN,jN,jm,js,jw,jv,jt,ju,jg,jh,jf,je,newN,jx,jS,jU,jX,jO,jP,jQ,jz,jA,jE,jB,jC,jn,jD,jF,jG,j7,evX,evL,evB,rd,get,subG,memG,jY,jW,hyps,gob,impP,allP,j5,j2,j4,kp,nth,ke,km,jZ,lenB,kj,jV,entN,setE,j0,addE,setL,setN,putE,env0,eqCs,j9,eqC,bA,bO,bN,bE,negB,kEq,ki,j8,lend,frz,frzL,zRow,kg,kd,closed,jH,j1,binI,remP,remI,retK,retG,kr,retD,ko,resL,resD,oneD,renD,renL,renE,j3,rho,jR,j6,List.append,List.nil_append,List.cons_append,List.append_nil,cond,Nat.reduceBEq,Nat.reduceAdd,Nat.beq]
 rw [List.length_map]
 refine kH (α := {i : Nat // i ≤ l.length})
  (fun i => ⟨[(3, [], .own 1 i.1), (6, [], .ls 2 (l.map u2D)), (7, [], .int .i64 l.length), (8, [], .int .i64 i.1)], [.arr 75 2 0 [], .arr 75 2 i.1 (pds (ptsE (l.take i.1)))]⟩)
  (fun i => l.length - i.1) ?_ ⟨0, Nat.zero_le _⟩ (by simp [pds, ptsE])
 rintro ⟨i, hi⟩ I ih
 dsimp only at hi ⊢
 dsimp only [c_top_edgesPoints, qz, jo,jK,jT,jr,jI,jM,jq,jJ,jL,iteR,regK,ji,jc,jl,jk,jb,jj,blkK,kt,kh,jd,ja,jy,fpOk,foot,kq,allN,memN,jN,jm,js,jw,jv,jt,ju,jg,jh,jf,je,newN,jx,jS,jU,jX,jO,jP,jQ,jz,jA,jE,jB,jC,jn,jD,jF,jG,j7,evX,evL,evB,rd,get,subG,memG,jY,jW,hyps,gob,impP,allP,j5,j2,j4,kp,nth,ke,km,jZ,lenB,kj,jV,entN,setE,j0,addE,setL,setN,putE,env0,eqCs,j9,eqC,bA,bO,bN,bE,negB,kEq,ki,j8,lend,frz,frzL,zRow,kg,kd,closed,jH,j1,binI,remP,remI,retK,retG,kr,retD,ko,resL,resD,oneD,renD,renL,renE,j3,rho,jR,j6,List.append,List.nil_append,List.cons_append,List.append_nil,cond,Nat.reduceBEq,Nat.reduceAdd,Nat.beq]
 refine ⟨fun hlt => ?_, fun hge => ?_⟩
 ·have hil : i < l.length := by simpa using hlt
  obtain ⟨q, hq⟩ : ∃ q, l[i]? = some q := ⟨_, List.getElem?_eq_getElem hil⟩
  have hqb := hb q (List.mem_of_getElem? hq)
  refine ⟨⟨rfl, by omega, by rw [List.length_map]; omega⟩, kB (u2D q) (u2D q) (by rw [Int.toNat_natCast, List.getElem?_map, hq]; rfl) rfl ?_⟩
  dsimp only [c_top_edgesPoints, qz, u2D, jo,jK,jT,jr,jI,jM,jq,jJ,jL,iteR,regK,ji,jc,jl,jk,jb,jj,blkK,kt,kh,jd,ja,jy,fpOk,foot,kq,allN,memN,jN,jm,js,jw,jv,jt,ju,jg,jh,jf,je,newN,jx,jS,jU,jX,jO,jP,jQ,jz,jA,jE,jB,jC,jn,jD,jF,jG,j7,evX,evL,evB,rd,get,subG,memG,jY,jW,hyps,gob,impP,allP,j5,j2,j4,kp,nth,ke,km,jZ,lenB,kj,jV,entN,setE,j0,addE,setL,setN,putE,env0,eqCs,j9,eqC,bA,bO,bN,bE,negB,kEq,ki,j8,lend,frz,frzL,zRow,kg,kd,closed,jH,j1,binI,remP,remI,retK,retG,kr,retD,ko,resL,resD,oneD,renD,renL,renE,j3,rho,jR,j6,List.append,List.nil_append,List.cons_append,List.append_nil,cond,Nat.reduceBEq,Nat.reduceAdd,Nat.beq]
  refine ⟨⟨by omega, by decide⟩, yw (.int .u8 q.1) rfl ?_⟩
  dsimp only [c_top_edgesPoints, qz, u2D, jo,jK,jT,jr,jI,jM,jq,jJ,jL,iteR,regK,ji,jc,jl,jk,jb,jj,blkK,kt,kh,jd,ja,jy,fpOk,foot,kq,allN,memN,jN,jm,js,jw,jv,jt,ju,jg,jh,jf,je,newN,jx,jS,jU,jX,jO,jP,jQ,jz,jA,jE,jB,jC,jn,jD,jF,jG,j7,evX,evL,evB,rd,get,subG,memG,jY,jW,hyps,gob,impP,allP,j5,j2,j4,kp,nth,ke,km,jZ,lenB,kj,jV,entN,setE,j0,addE,setL,setN,putE,env0,eqCs,j9,eqC,bA,bO,bN,bE,negB,kEq,ki,j8,lend,frz,frzL,zRow,kg,kd,closed,jH,j1,binI,remP,remI,retK,retG,kr,retD,ko,resL,resD,oneD,renD,renL,renE,j3,rho,jR,j6,List.append,List.nil_append,List.cons_append,List.append_nil,cond,Nat.reduceBEq,Nat.reduceAdd,Nat.beq]
  refine ⟨⟨by omega, by omega⟩, by simp only [fits]; omega, ⟨by omega, by decide⟩, yw (.int .u8 q.2) rfl ?_⟩
  dsimp only [c_top_edgesPoints, qz, u2D, jo,jK,jT,jr,jI,jM,jq,jJ,jL,iteR,regK,ji,jc,jl,jk,jb,jj,blkK,kt,kh,jd,ja,jy,fpOk,foot,kq,allN,memN,jN,jm,js,jw,jv,jt,ju,jg,jh,jf,je,newN,jx,jS,jU,jX,jO,jP,jQ,jz,jA,jE,jB,jC,jn,jD,jF,jG,j7,evX,evL,evB,rd,get,subG,memG,jY,jW,hyps,gob,impP,allP,j5,j2,j4,kp,nth,ke,km,jZ,lenB,kj,jV,entN,setE,j0,addE,setL,setN,putE,env0,eqCs,j9,eqC,bA,bO,bN,bE,negB,kEq,ki,j8,lend,frz,frzL,zRow,kg,kd,closed,jH,j1,binI,remP,remI,retK,retG,kr,retD,ko,resL,resD,oneD,renD,renL,renE,j3,rho,jR,j6,List.append,List.nil_append,List.cons_append,List.append_nil,cond,Nat.reduceBEq,Nat.reduceAdd,Nat.beq]
  have hll : (pds (ptsE (l.take i))).length ≤ 12 := by rw [kV, ptsE, List.length_map, List.length_take]; omega
  refine ⟨⟨by omega, by omega⟩, by simp only [fits]; omega, ⟨rfl, rfl, rfl, rfl, by simp only [List.length_cons, List.length_nil]; omega, by simp only [List.length_cons, List.length_nil]; omega⟩, by simp only [fits]; omega, ?_⟩
  refine k9 (ih ⟨i + 1, hil⟩ (by dsimp only; omega)) ⟨rfl, rfl, rfl, by simp [get], trivial⟩ ⟨rfl, ?_, trivial⟩ rfl rfl
  have htk : l.take (i + 1) = l.take i ++ [q] := by rw [List.take_add_one, hq]; rfl
  dsimp only
  rw [htk]
  simp [pds, ptsE, pD]
 ·have hil : i = l.length := by have : ¬ i < l.length := by simpa using hge
                                omega
  subst hil
  rw [List.take_length]
  exact ⟨rfl, rfl⟩
theorem vy {l : List Pt} (hl : l.length ≤ 64) (hp : ∀ q ∈ l, Pok2 q) : TSp 26 [.ls 2 (pds l)] (.tup [.agg [.ls 4 (rcs (reg (Ins l)))], .bool true]) := by
 refine QO (by rfl) ?_
 dsimp only [c_top_edgesOdd, vH, jo,jK,jT,jr,jI,jM,jq,jJ,jL,iteR,regK,ji,jc,jl,jk,jb,jj,blkK,kt,kh,jd,ja,jy,fpOk,foot,kq,allN,memN,jN,jm,js,jw,jv,jt,ju,jg,jh,jf,je,newN,jx,jS,jU,jX,jO,jP,jQ,jz,jA,jE,jB,jC,jn,jD,jF,jG,j7,evX,evL,evB,rd,get,subG,memG,jY,jW,hyps,gob,impP,allP,j5,j2,j4,kp,nth,ke,km,jZ,lenB,kj,jV,entN,setE,j0,addE,setL,setN,putE,env0,eqCs,j9,eqC,bA,bO,bN,bE,negB,kEq,ki,j8,lend,frz,frzL,zRow,kg,kd,closed,jH,j1,binI,remP,remI,retK,retG,kr,retD,ko,resL,resD,oneD,renD,renL,renE,j3,rho,jR,j6,List.append,List.nil_append,List.cons_append,List.append_nil,cond,Nat.reduceBEq,Nat.reduceAdd,Nat.beq]
 refine kx (Xx hl hp) ?_
 dsimp only [c_top_edgesOdd, vH, jo,jK,jT,jr,jI,jM,jq,jJ,jL,iteR,regK,ji,jc,jl,jk,jb,jj,blkK,kt,kh,jd,ja,jy,fpOk,foot,kq,allN,memN,jN,jm,js,jw,jv,jt,ju,jg,jh,jf,je,newN,jx,jS,jU,jX,jO,jP,jQ,jz,jA,jE,jB,jC,jn,jD,jF,jG,j7,evX,evL,evB,rd,get,subG,memG,jY,jW,hyps,gob,impP,allP,j5,j2,j4,kp,nth,ke,km,jZ,lenB,kj,jV,entN,setE,j0,addE,setL,setN,putE,env0,eqCs,j9,eqC,bA,bO,bN,bE,negB,kEq,ki,j8,lend,frz,frzL,zRow,kg,kd,closed,jH,j1,binI,remP,remI,retK,retG,kr,retD,ko,resL,resD,oneD,renD,renL,renE,j3,rho,jR,j6,List.append,List.nil_append,List.cons_append,List.append_nil,cond,Nat.reduceBEq,Nat.reduceAdd,Nat.beq]
 rfl
end Go.AM

