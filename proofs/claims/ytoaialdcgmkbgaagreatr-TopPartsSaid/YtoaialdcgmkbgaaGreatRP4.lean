import Derived.Test.YtoaialdcgmkbgaaGreatRP3

set_option linter.all false
namespace Go.AM
theorem jF0 {l m : List Rc} (h : ∀ r, r ∈ l ↔ r ∈ m) {x y : Int} : pts l x y ↔ pts m x y := by
 unfold pts; simp only [h]
theorem jI4 : ∀ (l : List (Int × Int)), (zq l).length <= l.length := by
 have h : ∀ (l : List (Int × Int)) (s : Int × Int), (z7 s l).length <= l.length + 1 := by
  intro l
  induction l with
  | nil => intro s; exact Nat.le_refl _
  | cons t l ih =>
    intro s
    unfold z7
    split
    ·have := ih (s.1, max s.2 t.2); simp only [List.length_cons]; omega
    ·have := ih t; simp only [List.length_cons]; omega
 intro l
 cases l with
 | nil => exact Nat.le_refl _
 | cons s l => exact h l s
theorem jL4 (l : List Rc) : (kQ l).length <= 2 * l.length := by
 refine Nat.le_trans (QZ _) ?_
 rw [srtI, List.length_mergeSort, X4]
 exact Nat.le_refl _
theorem jW0 {all : List Rc} (hsort : all.Pairwise fun a b => a.y <= b.y) (hV : ∀ r ∈ all, Vr r) : ∀ i, i = 0 \/ i < (kQ all).length -> ∃ row next above B, BInv all (kQ all) i row next above B /\ (qr B.reverse).length <= i * all.length
 | 0, _ => ⟨[], 0, 0, [], jw5 hV, by simp [qr]⟩
 | i + 1, hi => by
   have hi' : i + 1 < (kQ all).length := by rcases hi with h | h; omega; exact h
   obtain ⟨row, next, above, B, hB, hl⟩ := jW0 hsort hV i (.inr (by omega))
   obtain ⟨y, hy⟩ : ∃ y, (kQ all)[i]? = some y := ⟨_, List.getElem?_eq_getElem (by omega)⟩
   obtain ⟨b, hb⟩ : ∃ b, (kQ all)[i + 1]? = some b := ⟨_, List.getElem?_eq_getElem hi'⟩
   obtain ⟨cm, hcm⟩ : ∃ cm, ((all.drop next).takeWhile fun r => decide (r.y = y)) = cm := ⟨_, rfl⟩
   obtain ⟨row3, h3⟩ : ∃ row3, row3 = (vL y row ++ cm).mergeSort (fun a b => decide (a.x <= b.x)) := ⟨_, rfl⟩
   have hp : row3.Perm (vL y row ++ cm) := by rw [h3]; exact List.mergeSort_perm _ _
   have hs : row3.Pairwise fun a b => a.x <= b.x := by
    rw [h3]
    have := List.pairwise_mergeSort (le := fun (a b : Rc) => decide (a.x <= b.x)) (fun a b c h1 h2 => by simp only [decide_eq_true_eq] at *; omega) (fun a b => by simp only [Bool.or_eq_true, decide_eq_true_eq]; omega) (vL y row ++ cm)
    exact this.imp fun h => by simpa using h
   have hI := hB.at' y hy
   obtain ⟨c1, _⟩ := V6 hsort hI.nx hI.hi hcm
   have hr3 : row3.length <= all.length := by
    rw [hp.length_eq, List.length_append]
    have := List.length_filter_le (fun r => !qv y r) row
    have := hI.rl
    unfold vL; omega
   have hSl : (zq (row3.map sp1)).length <= all.length := Nat.le_trans (jI4 _) (by rw [List.length_map]; exact hr3)
   by_cases hg : Goes B y (zq (row3.map sp1))
   ·refine ⟨_, _, _, _, jo2 hsort hV hB hy hb hcm hp hs (.inl ⟨hg, rfl⟩), ?_⟩
    obtain ⟨d, r, rfl, _, e⟩ := yB (h := b - y) hg
    rw [e]
    rw [vY, List.length_append] at hl
    rw [List.length_append, List.length_map, Nat.succ_mul]
    exact Nat.le_trans hl (Nat.le_add_right _ _)
   ·refine ⟨_, _, _, _, jo2 hsort hV hB hy hb hcm hp hs (.inr ⟨hg, rfl⟩), ?_⟩
    rw [(Kk hg).1, List.length_append, qF, List.length_map, Nat.succ_mul]
    exact Nat.add_le_add hl hSl
theorem jP4 {l : List Rc} (hV : ∀ r ∈ l, Vr r) : Reg (pts l) /\ (reg (pts l)).length <= 2 * l.length * l.length := by
 obtain ⟨all, ha⟩ : ∃ all, all = l.mergeSort (fun a b => decide (a.y <= b.y)) := ⟨_, rfl⟩
 have hp : all.Perm l := by rw [ha]; exact List.mergeSort_perm _ _
 have hs : all.Pairwise fun a b => a.y <= b.y := by
  rw [ha]
  have := List.pairwise_mergeSort (le := fun (a b : Rc) => decide (a.y <= b.y)) (fun a b c h1 h2 => by simp only [decide_eq_true_eq] at *; omega) (fun a b => by simp only [Bool.or_eq_true, decide_eq_true_eq]; omega) l
  exact this.imp fun h => by simpa using h
 have hV' : ∀ r ∈ all, Vr r := fun r hr => hV r (hp.mem_iff.1 hr)
 obtain ⟨i, hi, hi2⟩ : ∃ i, (i = 0 \/ i < (kQ all).length) /\ ¬ i + 1 < (kQ all).length := by
  refine ⟨(kQ all).length - 1, ?_, by omega⟩
  rcases Nat.eq_zero_or_pos (kQ all).length with h | h
  ·exact .inl (by omega)
  ·exact .inr (by omega)
 obtain ⟨row, next, above, B, hB, hl⟩ := jW0 hs hV' i hi
 obtain ⟨h1, h2⟩ := jC2 hB hi2
 have h3 : ∀ x y, pts (qr B.reverse) x y ↔ pts l x y := fun x y => (h2 x y).trans (jF0 fun r => hp.mem_iff)
 refine ⟨⟨_, h1, h3⟩, ?_⟩
 rw [Yv h1 h3]
 have hil : i <= 2 * all.length := by
  have := jL4 all
  rcases hi with h | h <;> omega
 have := Nat.le_trans hl (Nat.mul_le_mul_right all.length hil)
 rw [hp.length_eq] at this
 exact this
theorem jf0 {P : Int -> Int -> Prop} (h : Reg P) : JF (reg P) := (Ka h).1
theorem jE6 {P : Int -> Int -> Prop} (h : Reg P) (x y : Int) : pts (reg P) x y ↔ P x y := (Ka h).2 x y
def Bdd (P : Int -> Int -> Prop) : Prop := ∀ x y, P x y -> (-1048576 <= x /\ x < 1048576) /\ -1048576 <= y /\ y < 1048576
theorem jV3 {l : List Rc} (h : JF l) (hb : Bdd (pts l)) : ∀ r ∈ l, Vr r := fun r hr => by
 have hp := (Jo h).2 r hr
 unfold Pos at hp
 have h1 := hb r.x r.y ⟨r, hr, ⟨by omega, by omega⟩, by omega, by omega⟩
 have h2 := hb (r.x + r.w - 1) (r.y + r.h - 1) ⟨r, hr, ⟨by omega, by omega⟩, by omega, by omega⟩
 unfold Vr; omega
theorem vr_bdd {l : List Rc} (h : ∀ r ∈ l, Vr r) : Bdd (pts l) := fun x y ⟨r, hr, h1, h2⟩ => by
 have := h r hr
 unfold Vr at this; omega
theorem reg_vr {P : Int -> Int -> Prop} (h : Reg P) (hb : Bdd P) : ∀ r ∈ reg P, Vr r :=
 jV3 (jf0 h) fun x y hp => hb x y ((jE6 h x y).1 hp)
theorem jv1 : ∀ {bs : List Bnd} {x0 x1 y0 y1 : Int}, okB bs -> (∀ x y, inB bs x y -> (x0 <= x /\ x < x1) /\ y0 <= y /\ y < y1) -> ((qr bs).length : Int) <= max (y1 - y0) 0 * max (x1 - x0) 0
 | [], x0, x1, y0, y1, _, _ => by
   have : (0 : Int) <= max (y1 - y0) 0 * max (x1 - x0) 0 := Int.mul_nonneg (by omega) (by omega)
   simpa [qr] using this
 | b :: bs, x0, x1, y0, y1, h, hb => by
   obtain ⟨h1, h2, h3, _⟩ := z6 h
   obtain ⟨x, hx⟩ := yC h2.2.2 h2.2.1
   have hy := (hb x b.y ⟨b, by simp, ⟨by omega, by omega⟩, hx⟩).2
   have hy2 := (hb x (b.y + b.h - 1) ⟨b, by simp, ⟨by omega, by omega⟩, hx⟩).2
   have ih := jv1 (bs := bs) (x0 := x0) (x1 := x1) (y0 := b.y + b.h) (y1 := y1) h1 fun x y ⟨c, hc, h4, h5⟩ => by
    have := h3 c hc
    have := hb x y ⟨c, by simp [hc], h4, h5⟩
    omega
   have hS := jl4 (a := x0) (c := x1) h2.2.2 fun s hs => by
    have g := VA hs h2.2.2
    have g1 := (hb s.1 b.y ⟨b, by simp, ⟨by omega, by omega⟩, s, hs, by omega, g⟩).1
    have g2 := (hb (s.2 - 1) b.y ⟨b, by simp, ⟨by omega, by omega⟩, s, hs, by omega, by omega⟩).1
    omega
   have hxx := (hb x b.y ⟨b, by simp, ⟨by omega, by omega⟩, hx⟩).1
   have e : ((qr (b :: bs)).length : Int) = b.s.length + (qr bs).length := by
    simp [qr]
   rw [e]
   have hm : max (x1 - x0) 0 = x1 - x0 := by omega
   have hm2 : max (y1 - y0) 0 = y1 - y0 := by omega
   have hm3 : max (y1 - (b.y + b.h)) 0 = y1 - (b.y + b.h) := by omega
   rw [hm, hm3] at ih
   rw [hm, hm2]
   have hle : (b.s.length : Int) <= x1 - x0 := by omega
   have : (y1 - y0) * (x1 - x0) = (y1 - (b.y + b.h)) * (x1 - x0) + (b.y + b.h - y0) * (x1 - x0) := by rw [<- Int.add_mul]; congr 1; omega
   have h6 : 1 * (x1 - x0) <= (b.y + b.h - y0) * (x1 - x0) := Int.mul_le_mul_of_nonneg_right (by omega) (by omega)
   omega
theorem reg_few {P : Int -> Int -> Prop} (h : Reg P) {x0 x1 y0 y1 : Int} (hb : ∀ x y, P x y -> (x0 <= x /\ x < x1) /\ y0 <= y /\ y < y1) : ((reg P).length : Int) <= max (y1 - y0) 0 * max (x1 - x0) 0 := by
 obtain ⟨⟨bs, h1, h2⟩, h3⟩ := Ka h
 rw [h2]
 refine jv1 h1 fun x y hxy => hb x y ((h3 x y).1 ?_)
 rw [h2, ZW]; exact hxy
end Go.AM
