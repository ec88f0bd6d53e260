
/- Chapter 52: small, and all reached. -/
import Derived.Test.YtnjmjiajbgdnlaaN19
set_option linter.all false
namespace Go.AM
open Go Go.Proofs

theorem foldl_al {a : Int → Int} : ∀ {l : List Int} {g : Int}, l.foldl (fun al k => al + a k) g = g + (l.map a).sum
  | [], g => by simp
  | x :: l, g => by simp only [List.foldl_cons, List.map_cons, List.sum_cons]; rw [foldl_al]; omega
theorem foldl_ot {o : Int → Int} : ∀ {l : List Int} {g : Int}, (∀ k ∈ l, 0 ≤ o k) → 0 ≤ g → g ≤ l.foldl (fun ot k => max ot (o k)) g ∧ l.foldl (fun ot k => max ot (o k)) g ≤ g + (l.map o).sum
  | [], g, _, _ => by simp
  | x :: l, g, h, hg => by
    have h1 := h x (by simp)
    have := foldl_ot (l := l) (g := max g (o x)) (fun k hk => h k (by simp [hk])) (by omega)
    simp only [List.foldl_cons, List.map_cons, List.sum_cons]; omega
theorem map_nonneg {a : Int → Int} {l : List Int} (h : ∀ k ∈ l, 0 ≤ a k) : 0 ≤ (l.map a).sum := sum_nonneg fun x hx => by obtain ⟨k, hk, rfl⟩ := List.mem_map.1 hx; exact h k hk
theorem map_add {a b : Int → Int} : ∀ {l : List Int}, (l.map fun k => a k + b k).sum = (l.map a).sum + (l.map b).sum
  | [] => by simp
  | x :: l => by simp only [List.map_cons, List.sum_cons]; rw [map_add]; omega

theorem siz_none {L : List Nd} {i : Nat} (h : L.length ≤ i) : siz L i = (0, 0) := by
  have hl : ∀ (r : List Nd) (i : Nat), (szL i r).length = r.length := by
    intro r
    induction r with
    | nil => intro i; rfl
    | cons x r ih => intro i; simp only [szL, List.length_cons]; rw [ih]
  unfold siz
  rw [List.getD_eq_getElem?_getD, List.getElem?_eq_none (by rw [hl]; exact h)]; rfl
theorem turn_sum (nd : Nd) (w h : Int) : (turnP nd w h).1 + (turnP nd w h).2 = w + h := by unfold turnP; split <;> dsimp only <;> omega
theorem turn_nonneg {nd : Nd} {w h : Int} (hw : 0 ≤ w) (hh : 0 ≤ h) : 0 ≤ (turnP nd w h).1 ∧ 0 ≤ (turnP nd w h).2 := by unfold turnP; split <;> dsimp only <;> omega

def sI (L : List Nd) (i : Nat) : Int := (siz L i).1 + (siz L i).2
theorem siz_step {L : List Nd} (t : Tree L) {i : Nat} {nd : Nd} (h : L[i]? = some nd) (hk : ∀ k ∈ nd.kids, 0 ≤ (siz L k.toNat).1 ∧ 0 ≤ (siz L k.toNat).2) :
    (0 ≤ (siz L i).1 ∧ 0 ≤ (siz L i).2) ∧ sI L i ≤ 66000 + (nd.kids.map fun k => sI L k.toNat).sum := by
  have hmem : nd ∈ L := List.mem_of_getElem? h
  obtain ⟨b1, b2, b3, b4⟩ := t.small nd hmem
  simp only [bad1, Bool.or_eq_false_iff, decide_eq_false_iff_not] at b1 b2 b3 b4
  have hkl := kids_len t h
  have ho : 0 ≤ (ownP nd).1 ∧ (ownP nd).1 ≤ 1000 ∧ 0 ≤ (ownP nd).2 ∧ (ownP nd).2 ≤ 1000 := by unfold ownP; split <;> dsimp only <;> omega
  have hg : 0 ≤ gapsI nd ∧ gapsI nd ≤ 64000 := by
    unfold gapsI
    split
    · omega
    · have hm := Int.mul_le_mul (b := (nd.kids.length : Int) - 1) (d := 64) (by omega : nd.gap ≤ 1000) (by omega) (by omega) (by omega)
      have hp := Int.mul_nonneg (b := (nd.kids.length : Int) - 1) (by omega : 0 ≤ nd.gap) (by omega)
      omega
  have htn := fun k hk' => turn_nonneg (nd := nd) (hk k hk').1 (hk k hk').2
  have h1 := map_nonneg (l := nd.kids) (a := fun k => (turnP nd (siz L k.toNat).1 (siz L k.toNat).2).1) fun k hk' => (htn k hk').1
  have h2 := foldl_ot (l := nd.kids) (o := fun k => (turnP nd (siz L k.toNat).1 (siz L k.toNat).2).2) (g := (ownP nd).2) (fun k hk' => (htn k hk').2) ho.2.2.1
  have h3 := map_add (l := nd.kids) (a := fun k => (turnP nd (siz L k.toNat).1 (siz L k.toNat).2).1) (b := fun k => (turnP nd (siz L k.toNat).1 (siz L k.toNat).2).2)
  have h4 : (nd.kids.map fun k => (turnP nd (siz L k.toNat).1 (siz L k.toNat).2).1 + (turnP nd (siz L k.toNat).1 (siz L k.toNat).2).2) = nd.kids.map fun k => sI L k.toNat := List.map_congr_left fun k _ => turn_sum _ _ _
  rw [h4] at h3
  have e := siz_eq t.behind h
  have e2 : sI L i = (siz L i).1 + (siz L i).2 := rfl
  unfold oneS at e
  rw [foldl_al] at e
  rw [e2, e]
  generalize List.foldl (fun ot k => max ot (turnP nd (siz L k.toNat).1 (siz L k.toNat).2).2) (ownP nd).2 nd.kids = ot at *
  refine ⟨turn_nonneg (by omega) (by omega), ?_⟩
  rw [turn_sum]; omega

theorem siz_nonneg {L : List Nd} (t : Tree L) : ∀ (m i : Nat), L.length ≤ i + m → 0 ≤ (siz L i).1 ∧ 0 ≤ (siz L i).2
  | 0, i, h => by rw [siz_none (by omega)]; decide
  | m + 1, i, h => by
    by_cases hi : i < L.length
    · have hnd : L[i]? = some L[i] := List.getElem?_eq_getElem hi
      exact (siz_step t hnd fun k hk => siz_nonneg t m k.toNat (by have := t.behind i _ hnd k hk; omega)).1
    · rw [siz_none (by omega)]; decide
theorem siz_nn {L : List Nd} (t : Tree L) (i : Nat) : 0 ≤ (siz L i).1 ∧ 0 ≤ (siz L i).2 := siz_nonneg t L.length i (by omega)
theorem top_bd {L : List Nd} (t : Tree L) : ∀ (m i : Nat), i + m = L.length → topS L (sI L) i ≤ m * 66000
  | 0, i, h => by
    unfold topS
    rw [rsum_zero fun j hj => by rw [if_neg (by omega)]]; omega
  | m + 1, i, h => by
    have hnd : L[i]? = some (L[i]'(by omega)) := List.getElem?_eq_getElem (by omega)
    have h1 := top_bd t m (i + 1) (by omega)
    have h2 := (siz_step t hnd fun k _ => siz_nn t _).2
    rw [top_step t _ hnd]
    have : ((m + 1 : Nat) : Int) * 66000 = m * 66000 + 66000 := by omega
    omega
theorem sI_bd {L : List Nd} (t : Tree L) (i : Nat) : sI L i ≤ 64 * 66000 := by
  by_cases hi : i < L.length
  · have h1 := top_bd t (L.length - i) i (by omega)
    have h2 := t.len.2
    have hs : ∀ j, 0 ≤ sI L j := fun j => by have := siz_nn t j; unfold sI; omega
    have h3 : sI L i ≤ topS L (sI L) i := by
      unfold topS
      have := rsum_ge (f := fun j => if i ≤ j ∧ (j : Int) ∉ allK (L.drop i) then sI L j else 0) (i := i) (n := L.length) (fun j _ => by split; exact hs j; omega) hi
      rwa [if_pos ⟨Nat.le_refl _, fun h => by have := allK_drop t h; omega⟩] at this
    omega
  · unfold sI; rw [siz_none (by omega)]; decide
theorem small_of {L : List Nd} (t : Tree L) : Small L := by
  refine ⟨t.len.2, t.behind, fun nd h => ?_, fun nd h => ?_, fun i => ?_, fun nd h => ?_⟩
  · have := (t.small nd h).1
    simp only [bad1, Bool.or_eq_false_iff, decide_eq_false_iff_not] at this; omega
  · obtain ⟨i, hi⟩ := List.getElem?_of_mem h
    exact kids_len t hi
  · have h1 := siz_nn t i
    have h2 := sI_bd t i
    unfold sI at h2
    omega
  · obtain ⟨b1, b2, b3, b4⟩ := t.small nd h
    simp only [bad1, Bool.or_eq_false_iff, decide_eq_false_iff_not] at b1 b2 b3 b4; omega
end Go.AM
