
/- Chapter 52: nodes that are right are small. -/
import Derived.Test.YtnjmjiajbgdnlaaN18
set_option linter.all false
namespace Go.AM
open Go Go.Proofs

theorem rsum_le {f g : Nat → Int} : ∀ {n : Nat}, (∀ j, j < n → f j ≤ g j) → rsum f n ≤ rsum g n
  | 0, _ => Int.le_refl _
  | n + 1, h => by simp only [rsum]; have := rsum_le (n := n) fun j hj => h j (by omega); have := h n (by omega); omega
theorem rsum_const {c : Int} : ∀ {n : Nat}, rsum (fun _ => c) n = n * c
  | 0 => by simp [rsum]
  | n + 1 => by simp only [rsum]; rw [rsum_const]; rw [show ((n + 1 : Nat) : Int) = n + 1 by omega, Int.add_mul]; omega
theorem nodup_len {ks : List Int} {n : Nat} (hn : ks.Nodup) (hk : ∀ k ∈ ks, 0 ≤ k ∧ k < n) : ks.length ≤ n := by
  have h1 := rsum_mem (s := fun _ => 1) hn hk
  have h2 := rsum_le (n := n) (f := fun j => if (j : Int) ∈ ks then 1 else 0) (g := fun _ => 1) fun j _ => by split <;> omega
  rw [rsum_const] at h2
  have h3 : (ks.map fun _ => (1 : Int)).sum = ks.length := by
    clear h1 h2 hn hk
    induction ks with
    | nil => rfl
    | cons x l ih => simp only [List.map_cons, List.sum_cons, List.length_cons]; omega
  rw [h3] at h1; omega

section
variable {L : List Nd}
theorem allK_mem {k : Int} : ∀ {r : List Nd}, k ∈ allK r → ∃ (j : Nat) (nd : Nd), r[j]? = some nd ∧ k ∈ nd.kids
  | [], h => by simp [allK] at h
  | x :: r, h => by
    rw [allK_cons, List.mem_append] at h
    rcases h with h | h
    · exact ⟨0, x, rfl, h⟩
    · obtain ⟨j, nd, h1, h2⟩ := allK_mem h; exact ⟨j + 1, nd, by simpa using h1, h2⟩
theorem allK_drop (t : Tree L) {i : Nat} {k : Int} (h : k ∈ allK (L.drop i)) : (i : Int) < k ∧ k < L.length := by
  obtain ⟨j, nd, h1, h2⟩ := allK_mem h
  rw [List.getElem?_drop] at h1
  have := t.behind _ nd h1 k h2
  omega
theorem nd_drop (t : Tree L) (i : Nat) : (allK (L.drop i)).Nodup := by
  have e : allK L = allK (L.take i) ++ allK (L.drop i) := by unfold allK; rw [← List.flatMap_append, List.take_append_drop]
  have := t.nd
  rw [e, List.nodup_append] at this
  exact this.2.1
theorem drop_kids {i : Nat} {nd : Nd} (h : L[i]? = some nd) : allK (L.drop i) = nd.kids ++ allK (L.drop (i + 1)) := by
  obtain ⟨hi, rfl⟩ := List.getElem?_eq_some_iff.1 h
  rw [List.drop_eq_getElem_cons hi, allK_cons]
theorem kids_nd (t : Tree L) {i : Nat} {nd : Nd} (h : L[i]? = some nd) : nd.kids.Nodup ∧ ∀ k ∈ nd.kids, k ∉ allK (L.drop (i + 1)) := by
  have := nd_drop t i
  rw [drop_kids h, List.nodup_append] at this
  exact ⟨this.1, fun k hk hk2 => this.2.2 k hk k hk2 rfl⟩
theorem kids_len (t : Tree L) {i : Nat} {nd : Nd} (h : L[i]? = some nd) : nd.kids.length ≤ 64 := by
  have := nodup_len (n := L.length) (kids_nd t h).1 fun k hk => by have := t.behind i nd h k hk; omega
  have := t.len.2
  omega

/-- What stands below nobody, from i on. -/
def topS (L : List Nd) (s : Nat → Int) (i : Nat) : Int := rsum (fun j => if i ≤ j ∧ (j : Int) ∉ allK (L.drop i) then s j else 0) L.length
theorem top_step (t : Tree L) (s : Nat → Int) {i : Nat} {nd : Nd} (h : L[i]? = some nd) : topS L s i = topS L s (i + 1) + s i - (nd.kids.map fun k => s k.toNat).sum := by
  have hi := (List.getElem?_eq_some_iff.1 h).1
  have hb := t.behind i nd h
  obtain ⟨h1, h2⟩ := kids_nd t h
  unfold topS
  rw [← rsum_one (s := s) hi, ← rsum_mem (n := L.length) h1 (fun k hk => by have := hb k hk; omega), ← rsum_add, ← rsum_sub]
  refine rsum_congr fun j hj => ?_
  rw [drop_kids h]
  have ha : ∀ x : Int, x ∈ allK (L.drop (i + 1)) → (i : Int) + 1 < x := fun x hx => by have := allK_drop t hx; omega
  by_cases hk : (j : Int) ∈ nd.kids
  · have := hb _ hk
    rw [if_neg (by rintro ⟨_, h4⟩; exact h4 (by simp [hk])), if_pos ⟨by omega, h2 _ hk⟩, if_neg (by omega), if_pos hk]; omega
  · rw [if_neg hk]
    by_cases he : j = i
    · subst he
      rw [if_pos ⟨Nat.le_refl _, fun h4 => by rcases List.mem_append.1 h4 with h4 | h4; exact hk h4; have := ha _ h4; omega⟩, if_neg (by omega), if_pos rfl]; omega
    · rw [if_neg he]
      by_cases hle : i ≤ j
      · by_cases hm : (j : Int) ∈ allK (L.drop (i + 1))
        · rw [if_neg (by rintro ⟨_, h4⟩; exact h4 (by simp [hm])), if_neg (by rintro ⟨_, h4⟩; exact h4 hm)]; rfl
        · rw [if_pos ⟨hle, by simp [hk, hm]⟩, if_pos ⟨by omega, hm⟩]; omega
      · rw [if_neg (by omega), if_neg (by omega)]; rfl
end
end Go.AM
