import Derived.Test.YtoaialdcgmkbgaaGreatRP5

set_option linter.all false
namespace Go.AM
open Classical in
theorem kv1 {P : Int -> Int -> Prop} (N : Nat) (hN : N <= 1048576) (h : ∀ x y, P x y -> (-(N : Int) <= x /\ x < N) /\ -(N : Int) <= y /\ y < N) : kE4 P := by
 obtain ⟨l, hl⟩ : ∃ l : List Rc, l = ((List.range (2 * N)).flatMap fun (i : Nat) => (List.range (2 * N)).map fun (j : Nat) => (⟨(i : Int) - N, (j : Int) - N, 1, 1⟩ : Rc)).filter fun r => decide (P r.x r.y) := ⟨_, rfl⟩
 have hm : ∀ r, r ∈ l ↔ (∃ i j : Nat, (i < 2 * N /\ j < 2 * N) /\ r = ⟨(i : Int) - N, (j : Int) - N, 1, 1⟩) /\ P r.x r.y := fun r => by
  rw [hl, List.mem_filter, List.mem_flatMap, decide_eq_true_eq]
  constructor
  ·rintro ⟨⟨i, hi, hr⟩, hp⟩
   obtain ⟨j, hj, rfl⟩ := List.mem_map.1 hr
   exact ⟨⟨i, j, ⟨List.mem_range.1 hi, List.mem_range.1 hj⟩, rfl⟩, hp⟩
  ·rintro ⟨⟨i, j, ⟨hi, hj⟩, rfl⟩, hp⟩
   exact ⟨⟨i, List.mem_range.2 hi, List.mem_map.2 ⟨j, List.mem_range.2 hj, rfl⟩⟩, hp⟩
 have hV : ∀ r ∈ l, Vr r := fun r hr => by
  obtain ⟨⟨i, j, hij, rfl⟩, _⟩ := (hm r).1 hr
  unfold Vr; dsimp only; omega
 have hp : ∀ x y, qL l x y ↔ P x y := fun x y => by
  constructor
  ·rintro ⟨r, hr, h1, h2⟩
   obtain ⟨⟨i, j, hij, rfl⟩, h3⟩ := (hm r).1 hr
   dsimp only at h1 h2 h3
   have e1 : x = (i : Int) - N := by omega
   have e2 : y = (j : Int) - N := by omega
   rw [e1, e2]; exact h3
  ·intro hp
   obtain ⟨h1, h2⟩ := h x y hp
   refine ⟨⟨x, y, 1, 1⟩, (hm _).2 ⟨⟨(x + N).toNat, (y + N).toNat, by omega, ?_⟩, hp⟩, by unfold Rc.has; dsimp only; omega⟩
   congr 1 <;> omega
 obtain ⟨h1, _⟩ := ka9 hV
 obtain ⟨h2, h3⟩ := Zg h1
 exact ⟨_, h2, fun x y => (h3 x y).trans (hp x y)⟩
theorem jl6 {P : Int -> Int -> Prop} (h : XT P) : kE4 P := kv1 1048576 (Nat.le_refl _) fun x y hp => by have := h x y hp; omega
def Win (x0 x1 y0 y1 : Int) (P : Int -> Int -> Prop) : Prop := ∀ x y, P x y -> (x0 <= x /\ x < x1) /\ y0 <= y /\ y < y1
theorem Win.bdd {x0 x1 y0 y1 : Int} {P : Int -> Int -> Prop} (h : Win x0 x1 y0 y1 P) (h0 : -1048576 <= x0 /\ x1 <= 1048576) (h1 : -1048576 <= y0 /\ y1 <= 1048576) : XT P := fun x y hp => by have := h x y hp; omega
theorem yU {P : Int -> Int -> Prop} (hb : XT P) : ∀ r ∈ reg P, Vr r := kP7 (jl6 hb) hb
theorem yV {P : Int -> Int -> Prop} (hb : XT P) (x y : Int) : qL (reg P) x y ↔ P x y := kh1 (jl6 hb) x y
theorem jH6 {P : Int -> Int -> Prop} (hb : XT P) : Jy (reg P) := jA4 (jl6 hb)
theorem KT {P : Int -> Int -> Prop} (hb : XT P) : reg P = [] ↔ ∀ x y, ¬ P x y := by
 constructor
 ·intro h x y hp
  have := (yV hb x y).2 hp
  rw [h] at this
  obtain ⟨_, h, _⟩ := this; cases h
 ·intro h
  refine jp7 ⟨[], trivial, rfl⟩ fun x y => ⟨fun ⟨_, h, _⟩ => (by cases h), fun hp => absurd hp (h x y)⟩
end Go.AM
