import Derived.Test.YtoaialdcgmkbgaaGreatRP3

set_option linter.all false
namespace Go.AM
theorem kh4 {l m : List Rc} (h : ∀ r, r ∈ l ↔ r ∈ m) {x y : Int} : qL l x y ↔ qL m x y := by
 unfold qL; simp only [h]
theorem kl8 : ∀ (l : List (Int × Int)), (z7 l).length <= l.length := by
 have h : ∀ (l : List (Int × Int)) (s : Int × Int), (vP s l).length <= l.length + 1 := by
  intro l
  induction l with
  | nil => intro s; exact Nat.le_refl _
  | cons t l ih =>
    intro s
    unfold vP
    split
    ·have := ih (s.1, max s.2 t.2); simp only [List.length_cons]; omega
    ·have := ih t; simp only [List.length_cons]; omega
 intro l
 cases l with
 | nil => exact Nat.le_refl _
 | cons s l => exact h l s
theorem kp8 (l : List Rc) : (k9 l).length <= 2 * l.length := by
 refine Nat.le_trans (Xz _) ?_
 rw [QG, List.length_mergeSort, jm4]
 exact Nat.le_refl _
theorem kC6 {all : List Rc} (hsort : all.Pairwise fun a b => a.y <= b.y) (hV : ∀ r ∈ all, Vr r) : ∀ i, i = 0 \/ i < (k9 all).length -> ∃ row next above B, BInv all (k9 all) i row next above B /\ (qG B.reverse).length <= i * all.length
 | 0, _ => ⟨[], 0, 0, [], jX0 hV, by simp [qG]⟩
 | i + 1, hi => by
   have hi' : i + 1 < (k9 all).length := by rcases hi with h | h; omega; exact h
   obtain ⟨row, next, above, B, hB, hl⟩ := kC6 hsort hV i (.inr (by omega))
   obtain ⟨y, hy⟩ : ∃ y, (k9 all)[i]? = some y := ⟨_, List.getElem?_eq_getElem (by omega)⟩
   obtain ⟨b, hb⟩ : ∃ b, (k9 all)[i + 1]? = some b := ⟨_, List.getElem?_eq_getElem hi'⟩
   obtain ⟨cm, hcm⟩ : ∃ cm, ((all.drop next).takeWhile fun r => decide (r.y = y)) = cm := ⟨_, rfl⟩
   obtain ⟨row3, h3⟩ : ∃ row3, row3 = (xA y row ++ cm).mergeSort (fun a b => decide (a.x <= b.x)) := ⟨_, rfl⟩
   have hp : row3.Perm (xA y row ++ cm) := by rw [h3]; exact List.mergeSort_perm _ _
   have hs : row3.Pairwise fun a b => a.x <= b.x := by
    rw [h3]
    have := List.pairwise_mergeSort (le := fun (a b : Rc) => decide (a.x <= b.x)) (fun a b c h1 h2 => by simp only [decide_eq_true_eq] at *; omega) (fun a b => by simp only [Bool.or_eq_true, decide_eq_true_eq]; omega) (xA y row ++ cm)
    exact this.imp fun h => by simpa using h
   have hI := hB.at' y hy
   obtain ⟨c1, _⟩ := je8 hsort hI.nx hI.hi hcm
   have hr3 : row3.length <= all.length := by
    rw [hp.length_eq, List.length_append]
    have := List.length_filter_le (fun r => !qN y r) row
    have := hI.rl
    unfold xA; omega
   have hSl : (z7 (row3.map KR)).length <= all.length := Nat.le_trans (kl8 _) (by rw [List.length_map]; exact hr3)
   by_cases hg : jy5 B y (z7 (row3.map KR))
   ·refine ⟨_, _, _, _, jM9 hsort hV hB hy hb hcm hp hs (.inl ⟨hg, rfl⟩), ?_⟩
    obtain ⟨d, r, rfl, _, e⟩ := Kd (h := b - y) hg
    rw [e]
    rw [xP, List.length_append] at hl
    rw [List.length_append, List.length_map, Nat.succ_mul]
    exact Nat.le_trans hl (Nat.le_add_right _ _)
   ·refine ⟨_, _, _, _, jM9 hsort hV hB hy hb hcm hp hs (.inr ⟨hg, rfl⟩), ?_⟩
    rw [(Zs hg).1, List.length_append, ze, List.length_map, Nat.succ_mul]
    exact Nat.add_le_add hl hSl
theorem ka9 {l : List Rc} (hV : ∀ r ∈ l, Vr r) : kE4 (qL l) /\ (reg (qL l)).length <= 2 * l.length * l.length := by
 obtain ⟨all, ha⟩ : ∃ all, all = l.mergeSort (fun a b => decide (a.y <= b.y)) := ⟨_, rfl⟩
 have hp : all.Perm l := by rw [ha]; exact List.mergeSort_perm _ _
 have hs : all.Pairwise fun a b => a.y <= b.y := by
  rw [ha]
  have := List.pairwise_mergeSort (le := fun (a b : Rc) => decide (a.y <= b.y)) (fun a b c h1 h2 => by simp only [decide_eq_true_eq] at *; omega) (fun a b => by simp only [Bool.or_eq_true, decide_eq_true_eq]; omega) l
  exact this.imp fun h => by simpa using h
 have hV' : ∀ r ∈ all, Vr r := fun r hr => hV r (hp.mem_iff.1 hr)
 obtain ⟨i, hi, hi2⟩ : ∃ i, (i = 0 \/ i < (k9 all).length) /\ ¬ i + 1 < (k9 all).length := by
  refine ⟨(k9 all).length - 1, ?_, by omega⟩
  rcases Nat.eq_zero_or_pos (k9 all).length with h | h
  ·exact .inl (by omega)
  ·exact .inr (by omega)
 obtain ⟨row, next, above, B, hB, hl⟩ := kC6 hs hV' i hi
 obtain ⟨h1, h2⟩ := ke5 hB hi2
 have h3 : ∀ x y, qL (qG B.reverse) x y ↔ qL l x y := fun x y => (h2 x y).trans (kh4 fun r => hp.mem_iff)
 refine ⟨⟨_, h1, h3⟩, ?_⟩
 rw [jp7 h1 h3]
 have hil : i <= 2 * all.length := by
  have := kp8 all
  rcases hi with h | h <;> omega
 have := Nat.le_trans hl (Nat.mul_le_mul_right all.length hil)
 rw [hp.length_eq] at this
 exact this
theorem jA4 {P : Int -> Int -> Prop} (h : kE4 P) : Jy (reg P) := (Zg h).1
theorem kh1 {P : Int -> Int -> Prop} (h : kE4 P) (x y : Int) : qL (reg P) x y ↔ P x y := (Zg h).2 x y
def XT (P : Int -> Int -> Prop) : Prop := ∀ x y, P x y -> (-1048576 <= x /\ x < 1048576) /\ -1048576 <= y /\ y < 1048576
theorem kB7 {l : List Rc} (h : Jy l) (hb : XT (qL l)) : ∀ r ∈ l, Vr r := fun r hr => by
 have hp := (Qh h).2 r hr
 unfold kD4 at hp
 have h1 := hb r.x r.y ⟨r, hr, ⟨by omega, by omega⟩, by omega, by omega⟩
 have h2 := hb (r.x + r.w - 1) (r.y + r.h - 1) ⟨r, hr, ⟨by omega, by omega⟩, by omega, by omega⟩
 unfold Vr; omega
theorem kr7 {l : List Rc} (h : ∀ r ∈ l, Vr r) : XT (qL l) := fun x y ⟨r, hr, h1, h2⟩ => by
 have := h r hr
 unfold Vr at this; omega
theorem kP7 {P : Int -> Int -> Prop} (h : kE4 P) (hb : XT P) : ∀ r ∈ reg P, Vr r :=
 kB7 (jA4 h) fun x y hp => hb x y ((kh1 h x y).1 hp)
theorem jV1 : ∀ {bs : List Bnd} {x0 x1 y0 y1 : Int}, ki3 bs -> (∀ x y, jD0 bs x y -> (x0 <= x /\ x < x1) /\ y0 <= y /\ y < y1) -> ((qG bs).length : Int) <= max (y1 - y0) 0 * max (x1 - x0) 0
 | [], x0, x1, y0, y1, _, _ => by
   have : (0 : Int) <= max (y1 - y0) 0 * max (x1 - x0) 0 := Int.mul_nonneg (by omega) (by omega)
   simpa [qG] using this
 | b :: bs, x0, x1, y0, y1, h, hb => by
   obtain ⟨h1, h2, h3, _⟩ := vy h
   obtain ⟨x, hx⟩ := Ke h2.2.2 h2.2.1
   have hy := (hb x b.y ⟨b, by simp, ⟨by omega, by omega⟩, hx⟩).2
   have hy2 := (hb x (b.y + b.h - 1) ⟨b, by simp, ⟨by omega, by omega⟩, hx⟩).2
   have ih := jV1 (bs := bs) (x0 := x0) (x1 := x1) (y0 := b.y + b.h) (y1 := y1) h1 fun x y ⟨c, hc, h4, h5⟩ => by
    have := h3 c hc
    have := hb x y ⟨c, by simp [hc], h4, h5⟩
    omega
   have hS := jI8 (a := x0) (c := x1) h2.2.2 fun s hs => by
    have g := ja9 hs h2.2.2
    have g1 := (hb s.1 b.y ⟨b, by simp, ⟨by omega, by omega⟩, s, hs, by omega, g⟩).1
    have g2 := (hb (s.2 - 1) b.y ⟨b, by simp, ⟨by omega, by omega⟩, s, hs, by omega, by omega⟩).1
    omega
   have hxx := (hb x b.y ⟨b, by simp, ⟨by omega, by omega⟩, hx⟩).1
   have e : ((qG (b :: bs)).length : Int) = b.s.length + (qG bs).length := by
    simp [qG]
   rw [e]
   have hm : max (x1 - x0) 0 = x1 - x0 := by omega
   have hm2 : max (y1 - y0) 0 = y1 - y0 := by omega
   have hm3 : max (y1 - (b.y + b.h)) 0 = y1 - (b.y + b.h) := by omega
   rw [hm, hm3] at ih
   rw [hm, hm2]
   have hle : (b.s.length : Int) <= x1 - x0 := by omega
   have : (y1 - y0) * (x1 - x0) = (y1 - (b.y + b.h)) * (x1 - x0) + (b.y + b.h - y0) * (x1 - x0) := by rw [<- Int.add_mul]; congr 1; omega
   have h6 : 1 * (x1 - x0) <= (b.y + b.h - y0) * (x1 - x0) := Int.mul_le_mul_of_nonneg_right (by omega) (by omega)
   omega
theorem kG7 {P : Int -> Int -> Prop} (h : kE4 P) {x0 x1 y0 y1 : Int} (hb : ∀ x y, P x y -> (x0 <= x /\ x < x1) /\ y0 <= y /\ y < y1) : ((reg P).length : Int) <= max (y1 - y0) 0 * max (x1 - x0) 0 := by
 obtain ⟨⟨bs, h1, h2⟩, h3⟩ := Zg h
 rw [h2]
 refine jV1 h1 fun x y hxy => hb x y ((h3 x y).1 ?_)
 rw [h2, YK]; exact hxy
end Go.AM
