
/- Chapter 52: all are reached. -/
import Derived.Test.YtnjmjiajbgdnlaaN20
set_option linter.all false
namespace Go.AM
open Go Go.Proofs

inductive Rch (L : List Nd) : Nat → Nat → Prop
  | self (i : Nat) : Rch L i i
  | kid {i k m : Nat} : (k : Int) ∈ kidsOf L i → Rch L k m → Rch L i m
theorem Rch.step {L : List Nd} {i m k : Nat} (h : Rch L i m) (hk : (k : Int) ∈ kidsOf L m) : Rch L i k := by
  induction h with
  | self i => exact .kid hk (.self _)
  | kid h1 _ ih => exact .kid h1 (ih hk)

theorem fold_keep {L : List Nd} {f m : Nat} (ih : ∀ i S, S[m]? = some (siz L m) → (reck L f i S)[m]? = some (siz L m)) : ∀ (l : List Int) (S : List (Int × Int)), S[m]? = some (siz L m) → (l.foldl (fun S k => reck L f k.toNat S) S)[m]? = some (siz L m)
  | [], S, h => h
  | k :: l, S, h => by rw [List.foldl_cons]; exact fold_keep ih l _ (ih _ _ h)
theorem reck_keep {L : List Nd} {m : Nat} : ∀ (f i : Nat) (S : List (Int × Int)), S[m]? = some (siz L m) → (reck L f i S)[m]? = some (siz L m)
  | 0, _, _, h => h
  | f + 1, i, S, h => by
    simp only [reck]
    have h1 := fold_keep (reck_keep f) (kidsOf L i) S h
    rw [List.getElem?_set]
    split
    · rename_i he
      subst he
      have hlt := (List.getElem?_eq_some_iff.1 h1).1
      rw [if_pos hlt]
    · exact h1
theorem kidsOf_mem {L : List Nd} {i : Nat} {k : Int} (h : k ∈ kidsOf L i) : ∃ nd, L[i]? = some nd ∧ k ∈ nd.kids := by
  unfold kidsOf at h
  split at h
  · rename_i nd hnd; exact ⟨nd, hnd, h⟩
  · simp at h
theorem fold_mark {L : List Nd} {f m : Nat} {kn : Nat} (hm : ∀ S : List (Int × Int), S.length = L.length → (reck L f kn S)[m]? = some (siz L m)) : ∀ (l : List Int) (S : List (Int × Int)), S.length = L.length → (kn : Int) ∈ l → (l.foldl (fun S k => reck L f k.toNat S) S)[m]? = some (siz L m)
  | [], S, _, h => by simp at h
  | k :: l, S, hl, h => by
    rw [List.foldl_cons]
    by_cases hk : k = kn
    · subst hk
      exact fold_keep (reck_keep f) l _ (by rw [Int.toNat_natCast]; exact hm S hl)
    · rcases List.mem_cons.1 h with h | h
      · exact absurd h.symm hk
      · exact fold_mark hm l _ (by rw [reck_len]; exact hl) h
theorem reck_mark {L : List Nd} (hb : Behind L) {i m : Nat} (h : Rch L i m) : ∀ (f : Nat) (S : List (Int × Int)), L.length ≤ i + f → i < L.length → S.length = L.length → (reck L f i S)[m]? = some (siz L m) := by
  induction h with
  | self i =>
    intro f S h1 h2 h3
    obtain ⟨f', rfl⟩ : ∃ f', f = f' + 1 := ⟨f - 1, by omega⟩
    exact reck_self (by omega)
  | @kid i k m hk hr ih =>
    intro f S h1 h2 h3
    obtain ⟨f', rfl⟩ : ∃ f', f = f' + 1 := ⟨f - 1, by omega⟩
    obtain ⟨nd, hnd, hkn⟩ := kidsOf_mem hk
    have hb' := hb i nd hnd k hkn
    have h4 := fold_mark (kn := k) (fun S hS => ih f' S (by omega) (by omega) hS) (kidsOf L i) S h3 hk
    simp only [reck]
    rw [List.getElem?_set]
    split
    · rename_i he
      subst he
      have hlt := (List.getElem?_eq_some_iff.1 h4).1
      rw [if_pos hlt]
    · exact h4
theorem all_reached {L : List Nd} (t : Tree L) : ∀ (n j : Nat), j ≤ n → j < L.length → Rch L 0 j
  | 0, j, h, _ => by
    have : j = 0 := by omega
    subst this; exact .self _
  | n + 1, j, h, hj => by
    by_cases h0 : j = 0
    · subst h0; exact .self _
    · obtain ⟨m, nd, h1, h2⟩ := allK_mem (t.all j (by omega) hj)
      have := t.behind m nd h1 j h2
      exact (all_reached t n m (by omega) (by omega)).step (by unfold kidsOf; rw [h1]; exact h2)
theorem good_of_chk {L : List Nd} (h : chkN L = 0) : Good L := by
  have t := tree_of h
  refine ⟨small_of t, t.len.1, ?_⟩
  apply List.ext_getElem?
  intro j
  by_cases hj : j < L.length
  · rw [List.getElem?_map, List.getElem?_range hj]
    exact reck_mark t.behind (all_reached t j j (Nat.le_refl _) hj) L.length _ (by omega) t.len.1 (by simp)
  · rw [List.getElem?_eq_none (by unfold allS; rw [reck_len]; simp; omega), List.getElem?_eq_none (by simp; omega)]
end Go.AM
