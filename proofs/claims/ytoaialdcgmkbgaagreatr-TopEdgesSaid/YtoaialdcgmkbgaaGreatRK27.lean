import Derived.Test.YtoaialdcgmkbgaaGreatRK26

set_option linter.all false
namespace Go.AM
open Go Go.Proofs
/-! ### One edge -/
theorem ceil_in {dx dy k : Int} (hd : 0 < dy) (hk : 0 ≤ k ∧ k < dy) : (min 0 dx ≤ yX (dx * (2 * k + 1) - dy) (2 * dy)) ∧ yX (dx * (2 * k + 1) - dy) (2 * dy) ≤ max 0 dx := by
 obtain ⟨h1, h2⟩ := ceilD_spec (u := dx * (2 * k + 1) - dy) (d := 2 * dy) (by omega)
 generalize yX (dx * (2 * k + 1) - dy) (2 * dy) = c at *
 obtain ⟨P, hP⟩ : ∃ P, dx * (2 * k + 1) = P := ⟨_, rfl⟩
 rw [hP] at h1 h2
 have e1 : dx * (2 * dy - 1) = 2 * dy * dx - dx := by rw [Int.mul_sub, Int.mul_one, Int.mul_comm]
 have lt_of : ∀ {x y : Int}, 2 * dy * x < 2 * dy * y → x < y := fun {x y} h => Int.lt_of_mul_lt_mul_left h (by omega)
 rcases Int.le_total 0 dx with h | h
 ·have a1 : 0 ≤ P := by rw [← hP]; exact Int.mul_nonneg h (by omega)
  have a2 : P ≤ dx * (2 * dy - 1) := by rw [← hP]; exact Int.mul_le_mul_of_nonneg_left (by omega) h
  rw [e1] at a2
  have b1 : c - 1 < dx := lt_of (by omega)
  have b2 : -1 < c := lt_of (by rw [show 2 * dy * -1 = -(2 * dy) by omega]; omega)
  omega
 ·have a1 : P ≤ 0 := by rw [← hP]; exact Int.mul_nonpos_of_nonpos_of_nonneg h (by omega)
  have a2 : dx * (2 * dy - 1) ≤ P := by rw [← hP]; exact Int.mul_le_mul_of_nonpos_left h (by omega)
  rw [e1] at a2
  have b1 : c - 1 < 0 := lt_of (by rw [Int.mul_zero]; omega)
  have b2 : dx - 1 < c := lt_of (by rw [Int.mul_sub, Int.mul_one]; omega)
  omega
theorem passX_in {a b p : Pt} {y : Int} (h : ze a b y = some p) : (p.2 = 1 ∨ p.2 = -1) ∧ min a.1 b.1 ≤ p.1 ∧ p.1 ≤ max a.1 b.1 := by
 unfold ze at h
 split at h
 ·split at h
  ·rename_i h1 h2
   have := ceil_in (dx := a.1 - b.1) (dy := a.2 - b.2) (k := y - b.2) (by omega) (by omega)
   cases h
   dsimp only
   omega
  ·cases h
 ·split at h
  ·rename_i h1 h2
   have := ceil_in (dx := b.1 - a.1) (dy := b.2 - a.2) (k := y - a.2) (by omega) (by omega)
   cases h
   dsimp only
   omega
  ·cases h
theorem Ky {a b : Pt} {y : Int} : (ze a b y).isSome = (decide (a.2 ≤ y) != decide (b.2 ≤ y)) := by
 unfold ze
 by_cases h0 : a.2 > b.2
 ·rw [if_pos h0]
  by_cases h1 : b.2 ≤ y ∧ y < a.2
  ·rw [if_pos h1, decide_eq_false (show ¬ a.2 ≤ y by omega), decide_eq_true h1.1]; rfl
  ·rw [if_neg h1]
   by_cases h2 : b.2 ≤ y
   ·rw [decide_eq_true (show a.2 ≤ y by omega), decide_eq_true h2]; rfl
   ·rw [decide_eq_false (show ¬ a.2 ≤ y by omega), decide_eq_false h2]; rfl
 ·rw [if_neg h0]
  by_cases h1 : a.2 ≤ y ∧ y < b.2
  ·rw [if_pos h1, decide_eq_true h1.1, decide_eq_false (show ¬ b.2 ≤ y by omega)]; rfl
  ·rw [if_neg h1]
   by_cases h2 : a.2 ≤ y
   ·rw [decide_eq_true h2, decide_eq_true (show b.2 ≤ y by omega)]; rfl
   ·rw [decide_eq_false h2, decide_eq_false (show ¬ b.2 ≤ y by omega)]; rfl
theorem passX_sym {a b : Pt} {y : Int} : (ze a b y).map Prod.fst = (ze b a y).map Prod.fst := by
 unfold ze
 rcases Int.lt_trichotomy a.2 b.2 with h | h | h
 ·rw [if_neg (show ¬ a.2 > b.2 by omega), if_pos (show b.2 > a.2 by omega)]
  by_cases h1 : a.2 ≤ y ∧ y < b.2
  ·rw [if_pos h1, if_pos h1]; rfl
  ·rw [if_neg h1, if_neg h1]
 ·rw [if_neg (show ¬ a.2 > b.2 by omega), if_neg (show ¬ b.2 > a.2 by omega), if_neg (show ¬ (a.2 ≤ y ∧ y < b.2) by omega), if_neg (show ¬ (b.2 ≤ y ∧ y < a.2) by omega)]
 ·rw [if_pos (show a.2 > b.2 by omega), if_neg (show ¬ b.2 > a.2 by omega)]
  by_cases h1 : b.2 ≤ y ∧ y < a.2
  ·rw [if_pos h1, if_pos h1]; rfl
  ·rw [if_neg h1, if_neg h1]
def eB (X Y : Int) (a b : Pt) : Bool := ((ze a b Y).map fun p => decide (p.1 ≤ X)).getD false
theorem eB_sym {X Y : Int} {a b : Pt} : eB X Y a b = eB X Y b a := by
 have h := passX_sym (a := a) (b := b) (y := Y)
 unfold eB
 cases h1 : ze a b Y <;> cases h2 : ze b a Y <;> rw [h1, h2] at h <;> simp at h ⊢
 rw [h]
theorem Y5 {X Y : Int} {a : Pt} : eB X Y a a = false := by
 unfold eB ze
 rw [if_neg (by omega), if_neg (by omega)]
 rfl
/-! ### Odd or even -/
def xorL : List Bool → Bool
 | [] => false
 | b :: l => b != xorL l
theorem xH : ∀ l : List Bool, xorL l = decide (l.count true % 2 = 1)
 | [] => rfl
 | b :: l => by
   rw [xorL, xH l, List.count_cons]
   cases b
   ·simp
   ·simp only [beq_self_eq_true, if_true]
    rcases Nat.mod_two_eq_zero_or_one (l.count true) with h | h
    ·rw [h, show (l.count true + 1) % 2 = 1 by omega]; rfl
    ·rw [h, show (l.count true + 1) % 2 = 0 by omega]; rfl
/-! ### Paths -/
def Zw : List Pt → List (Pt × Pt)
 | a :: b :: r => (a, b) :: Zw (b :: r)
 | _ => []
theorem X5 : ∀ (m : List Pt) (i : Nat), (Zw m)[i]? = if i + 1 < m.length then some (m.getD i (0, 0), m.getD (i + 1) (0, 0)) else none
 | [], i => by simp [Zw]
 | [a], i => by simp [Zw]
 | a :: b :: r, 0 => by simp [Zw]
 | a :: b :: r, i + 1 => by
   rw [Zw, List.getElem?_cons_succ, X5 (b :: r) i]
   simp only [List.length_cons, List.getD_cons_succ]
   by_cases h : i + 1 < r.length + 1
   ·rw [if_pos h, if_pos (by omega)]
   ·rw [if_neg h, if_neg (by omega)]
theorem edgL_pairs (a : Pt) (r : List Pt) : edgL (a :: r) = Zw (a :: r ++ [a]) := by
 refine List.ext_getElem? fun i => ?_
 rw [X5]
 by_cases h : i < (a :: r).length
 ·rw [edgL_get h, if_pos (by simp only [List.length_append, List.length_cons, List.length_nil] at h ⊢; omega)]
  have e1 : (a :: r ++ [a]).getD i (0, 0) = (a :: r).getD i (0, 0) := by
   rw [List.getD_eq_getElem?_getD, List.getD_eq_getElem?_getD, List.getElem?_append_left h]
  have e2 : (a :: r ++ [a]).getD (i + 1) (0, 0) = (a :: r).getD ((i + 1) % (a :: r).length) (0, 0) := by
   by_cases h2 : i + 1 < (a :: r).length
   ·rw [Nat.mod_eq_of_lt h2, List.getD_eq_getElem?_getD, List.getD_eq_getElem?_getD, List.getElem?_append_left h2]
   ·have h3 : i + 1 = (a :: r).length := by omega
    rw [h3, Nat.mod_self, List.getD_eq_getElem?_getD, List.getElem?_append_right (Nat.le_refl _), Nat.sub_self]
    rfl
  rw [e1, e2]
 ·rw [if_neg (by simp only [List.length_append, List.length_cons, List.length_nil] at h ⊢; omega), List.getElem?_eq_none (by rw [JI]; omega)]
def pX (e : Pt → Pt → Bool) (m : List Pt) : Bool := xorL ((Zw m).map fun q => e q.1 q.2)
theorem vM (e : Pt → Pt → Bool) (a b : Pt) (r : List Pt) : pX e (a :: b :: r) = (e a b != pX e (b :: r)) := rfl
theorem x9 (e : Pt → Pt → Bool) (a : Pt) : pX e [a] = false := rfl
theorem xt (e : Pt → Pt → Bool) : ∀ (m : List Pt) (c : Pt) (r : List Pt), pX e (m ++ c :: r) = (pX e (m ++ [c]) != pX e (c :: r))
 | [], c, r => by simp [x9]
 | [a], c, r => by simp only [List.cons_append, List.nil_append, vM, x9]; cases e a c <;> cases pX e (c :: r) <;> rfl
 | a :: b :: m, c, r => by
   have ih := xt e (b :: m) c r
   simp only [List.cons_append, vM] at ih ⊢
   rw [ih]
   cases e a b <;> cases pX e (b :: (m ++ [c])) <;> cases pX e (c :: r) <;> rfl
theorem pX_tel (s : Pt → Bool) : ∀ (m : List Pt) (a z : Pt), pX (fun a b => s a != s b) (a :: (m ++ [z])) = (s a != s z)
 | [], a, z => by simp [vM, x9]
 | b :: m, a, z => by
   rw [List.cons_append, vM, pX_tel s m b z]
   cases s a <;> cases s b <;> cases s z <;> rfl
def cyX (e : Pt → Pt → Bool) (l : List Pt) : Bool := xorL ((edgL l).map fun q => e q.1 q.2)
theorem cyX_nil (e : Pt → Pt → Bool) : cyX e [] = false := rfl
theorem zh (e : Pt → Pt → Bool) (a : Pt) (r : List Pt) : cyX e (a :: r) = pX e (a :: r ++ [a]) := by unfold cyX; rw [edgL_pairs]; rfl
theorem cyX_tel (s : Pt → Bool) (l : List Pt) : cyX (fun a b => s a != s b) l = false := by
 cases l with
 | nil => rfl
 | cons a r => rw [zh, List.cons_append, pX_tel]; simp
def insB (l : List Pt) (X Y : Int) : Bool := cyX (eB X Y) l
def Ins (l : List Pt) : Int → Int → Prop := fun X Y => insB l X Y = true
theorem Q3 (E : List (Pt × Pt)) (X y : Int) : ((psL E y).filter fun p => decide (p.1 ≤ X)).length = (E.map fun q => eB X y q.1 q.2).count true := by
 induction E with
 | nil => rfl
 | cons e E ih =>
   rw [List.map_cons, List.count_cons, ← ih]
   unfold psL eB
   rw [List.filterMap_cons]
   cases h : ze e.1 e.2 y with
   | none => simp
   | some p =>
     by_cases hp : p.1 ≤ X
     ·simp [hp]
     ·simp [hp]
theorem psL_total (E : List (Pt × Pt)) (y : Int) : (psL E y).length = (E.map fun q => (decide (q.1.2 ≤ y) != decide (q.2.2 ≤ y))).count true := by
 induction E with
 | nil => rfl
 | cons e E ih =>
   rw [List.map_cons, List.count_cons, ← ih, ← Ky]
   unfold psL
   rw [List.filterMap_cons]
   cases h : ze e.1 e.2 y <;> simp
theorem psL_even (l : List Pt) (y : Int) : (psL (edgL l) y).length % 2 = 0 := by
 have h := cyX_tel (fun a => decide (a.2 ≤ y)) l
 unfold cyX at h
 rw [xH] at h
 rw [psL_total]
 simp only [decide_eq_false_iff_not] at h
 omega
theorem psL_in {l : List Pt} {y : Int} {p : Pt} (h : p ∈ psL (edgL l) y) {M : Int} (hl : ∀ q ∈ l, 0 ≤ q.1 ∧ q.1 ≤ M) : (0 ≤ p.1 ∧ p.1 ≤ M) ∧ (p.2 = 1 ∨ p.2 = -1) := by
 obtain ⟨e, he, hp⟩ := List.mem_filterMap.1 h
 obtain ⟨i, hi, rfl⟩ := List.mem_map.1 he
 have hi := List.mem_range.1 hi
 have hm : (i + 1) % l.length < l.length := Nat.mod_lt _ (by omega)
 have h1 := hl _ (List.mem_of_getElem? (kX hi))
 have h2 := hl _ (List.mem_of_getElem? (kX hm))
 have := passX_in hp
 dsimp only at this
 omega
theorem Yt {l : List Pt} {y : Int} (hl : ∀ q ∈ l, Pok2 q) : SrtOk (psS l y) := by
 obtain ⟨h1, h2, h3⟩ := JU (psL (edgL l) y)
 refine ⟨fun p hp => psL_in (h2.mem_iff.1 hp) fun q hq => (hl q hq).1, fun i j hij hj => ?_⟩
 have hj' : j < (srtP (psL (edgL l) y)).length := hj
 have := List.pairwise_iff_getElem.1 h3 i j (by omega) hj' hij
 unfold ptA psS
 rw [List.getD_eq_getElem?_getD, List.getD_eq_getElem?_getD, List.getElem?_eq_getElem (by omega), List.getElem?_eq_getElem hj']
 exact this
theorem srt_cut {A : List Pt} (hs : ∀ i j, i < j → j < A.length → (ptA A i).1 ≤ (ptA A j).1) (X : Int) : ∀ j, j < A.length → (j < (A.filter fun p => decide (p.1 ≤ X)).length ↔ (ptA A j).1 ≤ X) := by
 induction A with
 | nil => intro j hj; simp at hj
 | cons a A ih =>
   have hs' : ∀ i j, i < j → j < A.length → (ptA A i).1 ≤ (ptA A j).1 := fun i j h1 h2 => by
    have := hs (i + 1) (j + 1) (by omega) (by simp; omega)
    simpa [ptA] using this
   intro j hj
   by_cases ha : a.1 ≤ X
   ·rw [List.filter_cons_of_pos (by simpa using ha)]
    cases j with
    | zero => simp [ptA, ha]
    | succ j =>
      have := ih hs' j (by simp at hj; omega)
      simp only [List.length_cons]
      have e : ptA (a :: A) (j + 1) = ptA A j := by simp [ptA]
      rw [e, ← this]
      omega
   ·rw [List.filter_cons_of_neg (by simpa using ha)]
    have hgt : ∀ j, j < (a :: A).length → X < (ptA (a :: A) j).1 := fun j hj => by
     cases j with
     | zero => simp [ptA]; omega
     | succ j =>
       have := hs 0 (j + 1) (by omega) hj
       have e : ptA (a :: A) 0 = a := rfl
       rw [e] at this; omega
    have hnil : (A.filter fun p => decide (p.1 ≤ X)) = [] := by
     rw [List.filter_eq_nil_iff]
     intro p hp
     obtain ⟨i, hi⟩ := List.getElem?_of_mem hp
     have hil : i < A.length := (List.getElem?_eq_some_iff.1 hi).1
     have := hgt (i + 1) (by simp; omega)
     have e : ptA (a :: A) (i + 1) = p := by simp [ptA, hi]
     rw [e] at this
     simp; omega
    rw [hnil]
    have := hgt j hj
    simp; omega
theorem row_pts {l : List Pt} {y X : Int} (hl : ∀ q ∈ l, Pok2 q) : pts (rowR l y).1 X y ↔ Ins l X y := by
 have hA := Yt (y := y) hl
 have hro := (VA (y := y) hA (psS l y).length (Nat.le_refl _)).p X
 unfold rowR
 rw [hro]
 obtain ⟨h1, h2, h3⟩ := JU (psL (edgL l) y)
 have hev : (psS l y).length % 2 = 0 := by unfold psS; rw [h1]; exact psL_even l y
 have hc : ((psS l y).filter fun p => decide (p.1 ≤ X)).length = ((edgL l).map fun q => eB X y q.1 q.2).count true := by
  rw [← Q3]
  exact (h2.filter _).length_eq
 have hcut := srt_cut hA.s X
 have hle : ((psS l y).filter fun p => decide (p.1 ≤ X)).length ≤ (psS l y).length := List.length_filter_le _ _
 unfold Ins insB cyX
 rw [xH, decide_eq_true_iff, ← hc]
 generalize ((psS l y).filter fun p => decide (p.1 ≤ X)).length = c at *
 generalize psS l y = A at *
 constructor
 ·rintro ⟨j, g1, g2, g3, g4, g5⟩
  have e1 := (hcut j g1).2 g4
  have e2 := mt (hcut (j + 1) g2).1 (by omega)
  omega
 ·intro g
  refine ⟨c - 1, by omega, by omega, by omega, (hcut (c - 1) (by omega)).1 (by omega), ?_⟩
  have := mt (hcut (c - 1 + 1) (by omega)).2 (by omega)
  omega
theorem row_b {l : List Pt} {y : Int} (hl : ∀ q ∈ l, Pok2 q) : ∀ r ∈ (rowR l y).1, (0 ≤ r.x ∧ r.x + r.w ≤ 64) ∧ 1 ≤ r.w ∧ r.y = y ∧ r.h = 1 := (VA (y := y) (Yt (y := y) hl) (psS l y).length (Nat.le_refl _)).b
theorem row_len {l : List Pt} {y : Int} (hl : ∀ q ∈ l, Pok2 q) : (rowR l y).1.length ≤ l.length := by
 have h1 := (VA (y := y) (Yt (y := y) hl) (psS l y).length (Nat.le_refl _)).n
 have h2 : (psS l y).length ≤ l.length := by unfold psS; rw [(JU _).1]; have := Z2 (edgL l) y; rw [JI] at this; exact this
 exact Nat.le_trans h1 h2
theorem ins_in {l : List Pt} {M : Int} (hl : ∀ q ∈ l, (0 ≤ q.1 ∧ q.1 ≤ M) ∧ 0 ≤ q.2 ∧ q.2 ≤ M) {X Y : Int} (h : Ins l X Y) : (0 ≤ X ∧ X < M) ∧ 0 ≤ Y ∧ Y < M := by
 unfold Ins insB cyX at h
 rw [xH, decide_eq_true_iff, ← Q3] at h
 have hne : 0 < ((psL (edgL l) Y).filter fun p => decide (p.1 ≤ X)).length := by omega
 obtain ⟨p, hp⟩ := List.exists_mem_of_length_pos hne
 obtain ⟨hp1, hp2⟩ := List.mem_filter.1 hp
 have hb := psL_in hp1 (M := M) fun q hq => (hl q hq).1
 have hp2 : p.1 ≤ X := by simpa using hp2
 have hX : X < M := by
  rcases Int.lt_or_le X M with h1 | h1
  ·exact h1
  ·exfalso
   have e : ((psL (edgL l) Y).filter fun p => decide (p.1 ≤ X)) = psL (edgL l) Y := List.filter_eq_self.2 fun q hq => by
    have := psL_in hq (M := M) fun q hq => (hl q hq).1
    simp; omega
   rw [e] at h
   have := psL_even l Y
   omega
 refine ⟨⟨by omega, hX⟩, ?_⟩
 obtain ⟨e, he, hpe⟩ := List.mem_filterMap.1 hp1
 obtain ⟨i, hi, rfl⟩ := List.mem_map.1 he
 have hi := List.mem_range.1 hi
 have hm : (i + 1) % l.length < l.length := Nat.mod_lt _ (by omega)
 have h1 := hl _ (List.mem_of_getElem? (kX hi))
 have h2 := hl _ (List.mem_of_getElem? (kX hm))
 have hsm := Ky (a := l.getD i (0, 0)) (b := l.getD ((i + 1) % l.length) (0, 0)) (y := Y)
 rw [show ze (l.getD i (0, 0)) (l.getD ((i + 1) % l.length) (0, 0)) Y = some p from hpe] at hsm
 simp only [Option.isSome_some] at hsm
 by_cases c1 : (l.getD i (0, 0)).2 ≤ Y <;> by_cases c2 : (l.getD ((i + 1) % l.length) (0, 0)).2 ≤ Y <;> simp only [c1, c2, decide_true, decide_false] at hsm <;> first | (simp at hsm; done) | omega
end Go.AM

