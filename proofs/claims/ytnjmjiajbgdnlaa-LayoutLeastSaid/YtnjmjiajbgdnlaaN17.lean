
/- Chapter 52: nodes that are right are good. -/
import Derived.Test.YtnjmjiajbgdnlaaN15
set_option linter.all false
namespace Go.AM
open Go Go.Proofs

def mark (kid : List Bool) (ks : List Int) : List Bool := ks.foldl (fun kid k => kid.set k.toNat true) kid
theorem mark_len : ∀ {ks : List Int} {kid : List Bool}, (mark kid ks).length = kid.length
  | [], _ => rfl
  | k :: ks, kid => by show (mark (kid.set k.toNat true) ks).length = _; rw [mark_len, List.length_set]

structure KOk (n i : Nat) (kid : List Bool) (ks : List Int) : Prop where
  lt : ∀ k ∈ ks, (i : Int) < k ∧ k < n
  no : ∀ k ∈ ks, kid.getD k.toNat false = false
  nd : ks.Nodup

theorem getD_set {kid : List Bool} {m j : Nat} {b : Bool} (h : m < kid.length) : (kid.set m b).getD j false = if j = m then b else kid.getD j false := by
  simp only [List.getD_eq_getElem?_getD, List.getElem?_set]
  by_cases hj : m = j
  · subst hj; simp [h]
  · simp [hj, Ne.symm hj]

theorem kidsChk_ok {n i : Nat} (hn : n ≤ 64) : ∀ {ks : List Int} {kid kid' : List Bool}, kid.length = 64 → kidsChk n i kid ks = .ok kid' → KOk n i kid ks ∧ kid'.length = 64 ∧ ∀ j, kid'.getD j false = true ↔ kid.getD j false = true ∨ (j : Int) ∈ ks
  | [], kid, kid', hl, h => by
    simp only [kidsChk] at h; cases h
    exact ⟨⟨fun k hk => by simp at hk, fun k hk => by simp at hk, by simp⟩, hl, fun j => by simp⟩
  | k :: ks, kid, kid', hl, h => by
    simp only [kidsChk] at h
    split at h
    · cases h
    rename_i h1
    split at h
    · cases h
    rename_i h2
    simp only [Bool.or_eq_true, decide_eq_true_eq] at h1
    have hk : k.toNat < kid.length := by omega
    obtain ⟨h3, h4, h5⟩ := kidsChk_ok hn (by simpa using hl) h
    have h2' : kid.getD k.toNat false = false := by simpa using h2
    refine ⟨⟨fun x hx => ?_, fun x hx => ?_, ?_⟩, h4, fun j => ?_⟩
    · rcases List.mem_cons.1 hx with rfl | hx
      · omega
      · exact h3.lt x hx
    · rcases List.mem_cons.1 hx with rfl | hx
      · exact h2'
      · have := h3.no x hx
        rw [getD_set hk] at this
        split at this
        · cases this
        · exact this
    · refine List.nodup_cons.2 ⟨fun hx => ?_, h3.nd⟩
      have := h3.no k hx
      rw [getD_set hk, if_pos rfl] at this
      cases this
    · rw [h5, getD_set hk, List.mem_cons]
      by_cases hj : j = k.toNat
      · rw [if_pos hj]; simp; right; left; omega
      · rw [if_neg hj]
        have : ¬ (j : Int) = k := by omega
        simp [this]

def allK (r : List Nd) : List Int := r.flatMap (·.kids)
theorem allK_cons (nd : Nd) (r : List Nd) : allK (nd :: r) = nd.kids ++ allK r := by simp [allK]

structure NOk (n i : Nat) (kid : List Bool) (r : List Nd) : Prop where
  small : ∀ nd ∈ r, bad1 nd.gap = false ∧ bad1 nd.w = false ∧ bad1 nd.h = false ∧ bad1 nd.grow = false
  lt : ∀ (j : Nat) (nd : Nd), r[j]? = some nd → ∀ k ∈ nd.kids, ((i + j : Nat) : Int) < k ∧ k < n
  no : ∀ k ∈ allK r, kid.getD k.toNat false = false
  nd : (allK r).Nodup
theorem nodesChk_ok {n : Nat} (hn : n ≤ 64) : ∀ {r : List Nd} {i : Nat} {kid kid' : List Bool}, kid.length = 64 → nodesChk n i kid r = .ok kid' → NOk n i kid r ∧ kid'.length = 64 ∧ ∀ j, kid'.getD j false = true ↔ kid.getD j false = true ∨ (j : Int) ∈ allK r
  | [], i, kid, kid', hl, h => by
    simp only [nodesChk] at h; cases h
    exact ⟨⟨fun k hk => by simp at hk, fun j k hk => by simp at hk, fun k hk => by simp [allK] at hk, by simp [allK]⟩, hl, fun j => by simp [allK]⟩
  | x :: r, i, kid, kid', hl, h => by
    simp only [nodesChk] at h
    split at h
    · cases h
    rename_i h1
    split at h
    · cases h
    rename_i kid1 h2
    obtain ⟨a1, a2, a3⟩ := kidsChk_ok hn hl h2
    obtain ⟨b1, b2, b3⟩ := nodesChk_ok hn a2 h
    simp only [Bool.or_eq_true, not_or, Bool.not_eq_true] at h1
    refine ⟨⟨fun nd hnd => ?_, fun j nd hj k hk => ?_, fun k hk => ?_, ?_⟩, b2, fun j => ?_⟩
    · rcases List.mem_cons.1 hnd with rfl | hnd
      · exact ⟨h1.1.1.1, h1.1.1.2, h1.1.2, h1.2⟩
      · exact b1.small nd hnd
    · cases j with
      | zero => simp at hj; subst hj; exact a1.lt k hk
      | succ j =>
        have := b1.lt j nd (by simpa using hj) k hk
        rw [show i + (j + 1) = i + 1 + j by omega]; exact this
    · rw [allK_cons, List.mem_append] at hk
      rcases hk with hk | hk
      · exact a1.no k hk
      · have := b1.no k hk
        cases hkid : kid.getD k.toNat false with
        | false => rfl
        | true => rw [(a3 k.toNat).2 (.inl hkid)] at this; cases this
    · rw [allK_cons, List.nodup_append]
      refine ⟨a1.nd, b1.nd, fun a ha b hb he => ?_⟩
      subst he
      have h3 := b1.no a hb
      have h4 := (a1.lt a ha).1
      rw [(a3 a.toNat).2 (.inr (by rw [show ((a.toNat : Nat) : Int) = a by omega]; exact ha))] at h3
      cases h3
    · rw [b3, a3, allK_cons, List.mem_append, or_assoc]

theorem restK_ok {kid : List Bool} : ∀ {m i : Nat}, restK kid m i = true → ∀ j, i ≤ j → j < i + m → kid.getD j false = true
  | 0, _, _, j, h1, h2 => by omega
  | m + 1, i, h, j, h1, h2 => by
    simp only [restK, Bool.and_eq_true] at h
    by_cases hj : j = i
    · subst hj; exact h.1
    · exact restK_ok h.2 j (by omega) (by omega)

/-- What Check finds right. -/
structure Tree (L : List Nd) : Prop where
  len : 0 < L.length ∧ L.length ≤ 64
  small : ∀ nd ∈ L, bad1 nd.gap = false ∧ bad1 nd.w = false ∧ bad1 nd.h = false ∧ bad1 nd.grow = false
  behind : Behind L
  nd : (allK L).Nodup
  all : ∀ j : Nat, 1 ≤ j → j < L.length → (j : Int) ∈ allK L
theorem tree_of {L : List Nd} (h : chkN L = 0) : Tree L := by
  unfold chkN at h
  split at h
  · simp at h
  split at h
  · simp at h
  rename_i h0 h64
  split at h
  · rename_i e he
    exfalso
    subst h
    have key : ∀ {r : List Nd} {i : Nat} {kid : List Bool}, nodesChk L.length i kid r ≠ .error 0 := by
      intro r
      induction r with
      | nil => intro i kid hh; simp [nodesChk] at hh
      | cons x r ih =>
        intro i kid hh
        simp only [nodesChk] at hh
        split at hh
        · simp at hh
        split at hh
        · rename_i e he
          have hk : ∀ {ks : List Int} {kid : List Bool}, kidsChk L.length i kid ks ≠ .error 0 := by
            intro ks
            induction ks with
            | nil => intro kid hh; simp [kidsChk] at hh
            | cons k ks ih2 =>
              intro kid hh
              simp only [kidsChk] at hh
              split at hh
              · simp at hh
              split at hh
              · simp at hh
              · exact ih2 hh
          injection hh with hh
          subst hh
          exact hk he
        · exact ih hh
    exact key he
  · rename_i kid hk
    split at h
    case isFalse => simp at h
    rename_i hr
    obtain ⟨b1, b2, b3⟩ := nodesChk_ok (by omega) (by simp) hk
    refine ⟨⟨by omega, by omega⟩, b1.small, fun i nd hi k hk => by have := b1.lt i nd hi k hk; simpa using this, b1.nd, fun j h1 h2 => ?_⟩
    have := (b3 j).1 (restK_ok hr j h1 (by omega))
    rcases this with h3 | h3
    · exfalso
      rw [List.getD_eq_getElem?_getD, List.getElem?_replicate] at h3
      split at h3 <;> simp at h3
    · exact h3
end Go.AM
