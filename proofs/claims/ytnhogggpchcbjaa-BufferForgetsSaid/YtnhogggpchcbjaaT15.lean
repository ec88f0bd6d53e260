
/- Chapter 54: strings.Join, strings.Repeat. -/
import Derived.Test.YtnhogggpchcbjaaT14
import Derived.Test.YtnhogggpchcbjaaShelf
set_option linter.all false
namespace Go.AM
open Go Go.Proofs Go.RowKit

theorem Sp_of_below {P : Program} {gt : Nat → Option (List D)} {f : Nat} {ds : List D} {d : D} (hok : okFn P f)
    (h : ∀ (K : Kn) (pl : Pl) (w : World) (vs : Array Value), (∀ b o, K b = some o → w.heap[b]? = some o) → RepL K pl ds vs.toList → Calls P f vs w fun e w' => ∃ v, e = .returned v ∧ Below w.heap.size w w' ∧ Rep K pl d v) : Sp P gt f ds d := by
  refine ⟨hok, fun K pl w vs hmod hglob htab hrep => (h K pl w vs hmod hrep).mono ?_⟩
  rintro e w' ⟨v, rfl, hw, hr⟩
  refine ⟨v, K, pl, rfl, ⟨⟨hw.os, hw.tape, hw.output, hw.size, fun k hk _ => hw.block k hk⟩, fun b o hb => ?_, KLe.refl _, fun b o hb => .inl hb, htab.move (KLe.refl _) fun b h1 h2 _ => ⟨hw.block b h1, h2⟩, fun k e b hk hb => .inl ⟨k, e, hk, hb⟩, Nat.le_refl _, fun k ver x _ h => h, hglob⟩, hr⟩
  have hb' := hmod b o hb
  rw [hw.block b (Array.getElem?_eq_some_iff.1 hb').1]; exact hb'

theorem repl_strs {K : Kn} {pl : Pl} : ∀ {l : List Bs} {vs : List Value}, RepL K pl (sL l) vs → vs = l.map fun s => Value.string ⟨s.toArray⟩
  | [], vs, h => by simp [sL, RepL] at h; exact h
  | s :: l, vs, h => by
    simp only [sL, List.map_cons, RepL, Rep] at h
    obtain ⟨v, r, rfl, rfl, h2⟩ := h
    rw [repl_strs (l := l) h2]; rfl
theorem flat_strs (l : List Bs) : flat (l.map fun s => Value.string ⟨s.toArray⟩) = l.map fun s => Value.string ⟨s.toArray⟩ := by
  unfold flat
  induction l with
  | nil => rfl
  | cons s l ih => simp only [List.map_cons, List.flatMap_cons, ih]; rfl
theorem sp_strings_Join {l : List Bs} (hne : l ≠ []) (hN : l.length ≤ 140737488355328) (hlen : (Lib.join l [10]).length ≤ 140737488355328) : TSp 30 [.ls 1 (sL l), .str [10]] (.str (Lib.join l [10])) := by
  refine Sp_of_below ⟨Try.f30, by kernel_rfl, by kernel_rfl, by kernel_rfl⟩ fun K pl w vs hmod h => ?_
  obtain ⟨x, y, hv, h1, h2⟩ := repl2 h
  simp only [Rep] at h1 h2
  subst h2
  obtain ⟨a, n, cap, rfl, rfl, h3, h4, h5⟩ := h1
  rcases h5 with h5 | ⟨b, off, us, rfl, h6, cs, T, fz, hK, hsz, hpre⟩
  · exact absurd (List.map_eq_nil_iff.1 h5) hne
  have hus := repl_strs h6
  subst hus
  rw [flat_strs] at hpre
  have hb := hmod b _ hK
  have : vs = #[.slice (some ⟨b, off, none⟩) (l.map fun s => (⟨s.toArray⟩ : ByteArray)).length cap, .string ⟨#[10]⟩] := by rw [← Array.toArray_toList (xs := vs), hv]; simp [sL]
  subst this
  have hcell : ∀ (j : Nat) x, (l.map fun s => (⟨s.toArray⟩ : ByteArray))[j]? = some x → w.cell? ⟨b, off + j, none⟩ = some (.string x) := fun j x hx => by
    rw [List.getElem?_map] at hx
    obtain ⟨s, hs, rfl⟩ := Option.map_eq_some_iff.1 hx
    have hj := (List.getElem?_eq_some_iff.1 hs).1
    have e := List.prefix_iff_getElem?.1 hpre j (by simpa using hj)
    rw [List.getElem?_drop] at e
    unfold World.cell?
    rw [hb]
    simp only [Option.isSome_none, Bool.false_eq_true, if_false]
    rw [← Array.getElem?_toList, e]
    simp [List.getElem?_eq_some_iff.1 hs |>.2]
  have hmap : (l.map fun s => (⟨s.toArray⟩ : ByteArray)).map (·.data.toList) = l := by rw [List.map_map]; simp [Function.comp_def]
  have hN' : (l.map fun s => (⟨s.toArray⟩ : ByteArray)).length ≤ 140737488355328 := by rw [List.length_map]; exact hN
  have h3' : (l.map fun s => (⟨s.toArray⟩ : ByteArray)).length ≤ cap := by rw [List.length_map]; rw [sL_len] at h3; exact h3
  have hlen' : (Lib.join ((l.map fun s => (⟨s.toArray⟩ : ByteArray)).map (·.data.toList)) (⟨#[10]⟩ : ByteArray).data.toList).length ≤ 140737488355328 := by rw [hmap]; exact hlen
  have key := Any.strings_Join Try.lays156 Try.Builder_Extra_156 b off cap (l.map fun s => (⟨s.toArray⟩ : ByteArray)) ⟨#[10]⟩ w hcell (Array.getElem?_eq_some_iff.1 hb).1 hN' h3' hlen'
  rw [hmap] at key
  refine key.mono ?_
  rintro e w' ⟨rfl, hw⟩
  exact ⟨_, rfl, hw, by simp only [Rep]⟩
theorem sp_strings_Repeat {s : Bs} {c : Nat} (hc : c ≤ 9223372036854775807) (hlen : s.length * c ≤ 140737488355328) : TSp 31 [.str s, .int .i64 c] (.str (Lib.repeatL s c)) := by
  refine Sp_of_below ⟨Try.f31, by kernel_rfl, by kernel_rfl, by kernel_rfl⟩ fun K pl w vs hmod h => ?_
  obtain ⟨x, y, hv, h1, h2⟩ := repl2 h
  simp only [Rep] at h1 h2
  subst h1 h2
  have : vs = #[.string ⟨s.toArray⟩, .int .i64 c] := by rw [← Array.toArray_toList (xs := vs), hv]
  subst this
  refine (Any.strings_Repeat Try.lays105 Try.Builder_Extra_105 ⟨s.toArray⟩ c w hc (by simpa [ByteArray.size] using hlen)).mono ?_
  rintro e w' ⟨rfl, hw⟩
  exact ⟨_, rfl, hw, by simp only [Rep]⟩
theorem join_lines (t : Bs) : Lib.join (lnL t) [10] = t := by
  unfold Lib.join
  have key : ∀ (n : Nat) (t : Bs), t.length ≤ n → [10].intercalate (lnL t) = t := by
    intro n
    induction n with
    | zero =>
      intro t h
      have : t = [] := List.eq_nil_of_length_eq_zero (by omega)
      subst this; simp [lnL, List.intercalate]
    | succ n ih =>
      intro t h
      rcases cut_or t with h1 | ⟨p, q, rfl, h1⟩
      · rw [lnL_no h1]; simp [List.intercalate]
      · rw [lnL_cut h1]
        have hq := ih q (by simp at h; omega)
        cases hl : lnL q with
        | nil => exact absurd hl (lnL_ne q)
        | cons x r =>
          rw [hl] at hq
          have : [10].intercalate (p :: x :: r) = p ++ ([10] ++ [10].intercalate (x :: r)) := by simp [List.intercalate, List.intersperse]
          rw [this, hq]; simp
  exact key t.length t (Nat.le_refl _)
end Go.AM
