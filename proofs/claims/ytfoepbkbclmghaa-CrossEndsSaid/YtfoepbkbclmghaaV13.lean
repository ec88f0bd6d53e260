
/- Chapter 36: the ways up in made trees. -/
import Derived.Test.YtfoepbkbclmghaaV12
set_option linter.all false
namespace Go.AM
open Go Go.Proofs

/-- The way up from a window, and what is known of it. -/
structure Way (x : TT × Nodes) (n : Nat) (id : Int) (l : List Int) : Prop where
  path : PathT x.1 id l
  up : UpP x.2 id l
  len : l.length ≤ n + 1
  nz : ∀ y ∈ l, y ≠ 0
  nd : l.Nodup
  mem : ∀ y ∈ l, ∃ m : Int, 0 ≤ m ∧ m ≤ n ∧ y = idN m
theorem lk_snoc {α : Type} {L : List (Int × α)} {k m : Int} {d : α} (h : lk L k = none) : lk (L ++ [(k, d)]) m = if k = m then some d else lk L m := by
  rw [← put_absent h, lk_put]
theorem PathT.mono {t t' : TT} (h : ∀ a u, lk t.up a = some u → lk t'.up a = some u) : ∀ {l : List Int} {id : Int}, PathT t id l → PathT t' id l
  | [], _, hp => hp
  | x :: r, id, hp => by
    obtain ⟨h1, h2⟩ := hp
    refine ⟨h1, ?_⟩
    split
    · rename_i e; rw [if_pos e] at h2; exact h2
    · rename_i e
      rw [if_neg e] at h2
      obtain ⟨u, h3, h4⟩ := h2
      exact ⟨u, h _ _ h3, h4.mono h⟩
theorem UpP.mono {L L' : Nodes} : ∀ {l : List Int} {id : Int}, UpP L id l → (∀ y ∈ l, parL L' y = parL L y) → UpP L' id l
  | [], _, hp, _ => hp
  | x :: r, id, ⟨h1, h2, h3⟩, h => by
    refine ⟨h1, h2, ?_⟩
    have e := h x (by simp)
    rw [h2] at e
    rw [e]
    exact h3.mono fun y hy => h y (by simp [hy])

theorem way_root (x : TT × Nodes) (n : Nat) (h : lk x.2 1 = none) : Way x n (idN 0) [1] :=
  ⟨⟨rfl, rfl⟩, ⟨by decide, rfl, by unfold UpP parL; rw [show idN 0 = 1 from rfl, h]; rfl⟩, by simp, by simp, by simp, fun y hy => ⟨0, by omega, by omega, by simp at hy; rw [hy]; rfl⟩⟩

theorem mok_fresh {x : TT × Nodes} {n : Nat} (h : Mok x n) {m : Int} (hm : (n : Int) < m) : lk x.2 (idN m) = none := by
  rw [lk_none, h.ids]
  intro hmem
  obtain ⟨i, hi, e⟩ := List.mem_map.1 hmem
  have := idN_inj (by omega) (by omega) e
  have := List.mem_range.1 hi
  omega
theorem mok_root {x : TT × Nodes} {n : Nat} (h : Mok x n) : lk x.2 1 = none := by
  rw [lk_none, h.ids]
  intro hmem
  obtain ⟨i, hi, e⟩ := List.mem_map.1 hmem
  unfold idN at e
  split at e <;> omega
/-- An elder way is a way still. -/
theorem way_old {x : TT × Nodes} {n : Nat} (h : Mok x n) {p id : Int} {l : List Int} (hw : Way x n id l) : Way (putT x.1 (idN (n + 1)) p, x.2 ++ [(idN (n + 1), p)]) (n + 1) id l := by
  have hfr := mok_fresh h (m := n + 1) (by omega)
  have hup : (putT x.1 (idN (n + 1)) p).up = x.2 ++ [(idN (n + 1), p)] := by
    unfold putT
    simp only
    rw [h.up, put_absent hfr]
  refine ⟨hw.path.mono fun a u hu => ?_, hw.up.mono fun y hy => ?_, by have := hw.len; omega, hw.nz, hw.nd, fun y hy => ?_⟩
  · rw [hup, lk_snoc hfr]
    rw [h.up] at hu
    rw [if_neg (fun e => by rw [e, hu] at hfr; cases hfr)]
    exact hu
  · obtain ⟨m, m0, m1, rfl⟩ := hw.mem y hy
    unfold parL
    rw [lk_snoc hfr, if_neg (fun e => by have := idN_inj (by omega) m0 e; omega)]
  · obtain ⟨m, m0, m1, e⟩ := hw.mem y hy
    exact ⟨m, m0, by omega, e⟩

/-- The way of the window that is new. -/
theorem way_new {x : TT × Nodes} {n : Nat} (h : Mok x n) {p : Int} {l : List Int} (hw : Way x n p l) (hp : p ≠ 0) : Way (putT x.1 (idN (n + 1)) p, x.2 ++ [(idN (n + 1), p)]) (n + 1) (idN (n + 1)) (idN (n + 1) :: l) := by
  have hfr := mok_fresh h (m := n + 1) (by omega)
  have ho := way_old h (p := p) hw
  have hup : (putT x.1 (idN (n + 1)) p).up = x.2 ++ [(idN (n + 1), p)] := by
    unfold putT
    simp only
    rw [h.up, put_absent hfr]
  have hne : idN (n + 1) ≠ 1 := by unfold idN; rw [if_neg (by omega)]; omega
  have hnz : idN (n + 1) ≠ 0 := by unfold idN; rw [if_neg (by omega)]; omega
  refine ⟨⟨rfl, ?_⟩, ⟨hnz, rfl, ?_⟩, by have := hw.len; simp; omega, fun y hy => ?_, ?_, fun y hy => ?_⟩
  · rw [if_neg hne]
    exact ⟨p, by rw [hup, lk_snoc hfr, if_pos rfl], ho.path⟩
  · have : parL (x.2 ++ [(idN (n + 1), p)]) (idN (n + 1)) = p := by unfold parL; rw [lk_snoc hfr, if_pos rfl]; rfl
    rw [this]; exact ho.up
  · rcases List.mem_cons.1 hy with rfl | hy
    · exact hnz
    · exact hw.nz y hy
  · refine List.nodup_cons.2 ⟨fun hm => ?_, hw.nd⟩
    obtain ⟨m, m0, m1, e⟩ := hw.mem _ hm
    have := idN_inj (by omega) m0 e
    omega
  · rcases List.mem_cons.1 hy with rfl | hy
    · exact ⟨n + 1, by omega, by omega, rfl⟩
    · obtain ⟨m, m0, m1, e⟩ := hw.mem y hy
      exact ⟨m, m0, by omega, e⟩

theorem idN_nz {m : Int} (h : 0 ≤ m) : idN m ≠ 0 := by unfold idN; split <;> omega
theorem ways_made : ∀ {ps : List Int}, ps.length ≤ 60 → (∀ p ∈ ps, 0 ≤ p) → ∀ m : Int, 0 ≤ m → m ≤ ps.length → ∃ l, Way (madeT ps) ps.length (idN m) l := by
  intro ps
  generalize hn : ps.length = n
  induction n generalizing ps with
  | zero =>
    have := List.eq_nil_of_length_eq_zero hn
    subst this
    intro _ _ m h0 h1
    have : m = 0 := by omega
    subst this
    exact ⟨_, way_root _ _ rfl⟩
  | succ n ih =>
    intro h hb m h0 h1
    have hne : ps ≠ [] := fun e => by subst e; simp at hn
    obtain ⟨qs, p, rfl⟩ : ∃ qs p, ps = qs ++ [p] := ⟨ps.dropLast, ps.getLast hne, (List.dropLast_concat_getLast hne).symm⟩
    have hq : qs.length = n := by simpa using hn
    have hmok : Mok (madeT qs) n := by rw [← hq]; exact mok_made (by omega)
    have hq0 := ih hq (by omega) (fun x hx => hb x (by simp [hx]))
    have hp0 : 0 ≤ p := hb p (by simp)
    have e0 : 0 ≤ p % ((n : Int) + 1) := Int.emod_nonneg _ (by omega)
    have e1 : p % ((n : Int) + 1) < (n : Int) + 1 := Int.emod_lt_of_pos _ (by omega)
    rw [madeT_snoc, hq]
    by_cases hm : m = n + 1
    · subst hm
      obtain ⟨l, hl⟩ := hq0 _ e0 (by omega)
      exact ⟨_, way_new hmok hl (idN_nz e0)⟩
    · obtain ⟨l, hl⟩ := hq0 m h0 (by omega)
      exact ⟨l, way_old hmok hl⟩
end Go.AM
