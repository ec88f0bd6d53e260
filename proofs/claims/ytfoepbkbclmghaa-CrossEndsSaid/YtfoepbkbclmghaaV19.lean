
/- Chapter 36: the way's shape. -/
import Derived.Test.YtfoepbkbclmghaaV17
set_option linter.all false
namespace Go.AM
open Go Go.Proofs

theorem meet_of {m : Int} {r a : List Int} : ∀ {B : List Int}, (∀ x ∈ B, x ∉ a) → m ∈ a → meetF (B ++ m :: r) a = (m, true)
  | [], _, h => by simp [meetF, h]
  | x :: B, h1, h2 => by
    simp only [List.cons_append, meetF, if_neg (h1 x (by simp))]
    exact meet_of (fun y hy => h1 y (by simp [hy])) h2
theorem meet_no {a : List Int} : ∀ {b : List Int}, (∀ x ∈ b, x ∉ a) → meetF b a = (0, false)
  | [], _ => rfl
  | x :: b, h => by
    simp only [meetF, if_neg (h x (by simp))]
    exact meet_no fun y hy => h y (by simp [hy])

/-- What a way between two windows of a tree is. -/
structure CM (a b : List Int) (f g : Int) (A B : List Int) (m : Int) (r : List Int) : Prop where
  ea : a = A ++ m :: r
  eb : b = B ++ m :: r
  na : a.Nodup
  nb : b.Nodup
  dA : ∀ x ∈ A, x ∉ b
  dB : ∀ x ∈ B, x ∉ a
  sh : (A = [] ∧ f = m ∧ ∃ B', B = g :: B' ∧ crossS a b f g = ⟨f, false, 2⟩ :: (B'.reverse.map (mkS true 1) ++ [⟨g, true, 0⟩]) ∧ crossS b a g f = ⟨g, false, 0⟩ :: (B'.map (mkS false 1) ++ [⟨f, true, 2⟩])) ∨
    (B = [] ∧ g = m ∧ ∃ A', A = f :: A' ∧ crossS a b f g = ⟨f, false, 0⟩ :: (A'.map (mkS false 1) ++ [⟨g, true, 2⟩]) ∧ crossS b a g f = ⟨g, false, 2⟩ :: (A'.reverse.map (mkS true 1) ++ [⟨f, true, 0⟩])) ∨
    (∃ A' B', A = f :: A' ∧ B = g :: B' ∧ crossS a b f g = ⟨f, false, 3⟩ :: (A'.map (mkS false 4) ++ B'.reverse.map (mkS true 4) ++ [⟨g, true, 3⟩]) ∧ crossS b a g f = ⟨g, false, 3⟩ :: (B'.map (mkS false 4) ++ A'.reverse.map (mkS true 4) ++ [⟨f, true, 3⟩]))
theorem cross_meet {L : Nodes} {f g : Int} {a b : List Int} (ha : PW L f a) (hb : PW L g b) (hfg : f ≠ g) (han : a ≠ []) (hbn : b ≠ []) : ∃ A B m r, CM a b f g A B m r := by
  have h1a := ha.one.resolve_left han
  have h1b := hb.one.resolve_left hbn
  have hm : (meetF a b).2 = true := by
    cases h : (meetF a b).2 with
    | true => rfl
    | false => exact absurd h1b (meet_none h 1 h1a)
  have hma := meet_in hm
  obtain ⟨ra, ea, ua⟩ := ha.cons han
  obtain ⟨rb, eb, ub⟩ := hb.cons hbn
  obtain ⟨A, B, r, e1, e2, hA, hB⟩ := meet_both ua ub hb.nd hm
  generalize hmm : (meetF a b).1 = m at *
  have hm2 : meetF b a = (m, true) := by
    have := meet_of (r := r) hB hma.1
    rw [← e2] at this
    exact this
  have hmA : m ∉ A := fun h => hA m h hma.2
  have hmB : m ∉ B := fun h => hB m h hma.1
  refine ⟨A, B, m, r, ⟨e1, e2, ha.nd, hb.nd, hA, hB, ?_⟩⟩
  have gf : g ≠ f := Ne.symm hfg
  unfold crossS
  rw [if_neg hfg, if_neg gf, hm, hm2, hmm, if_neg (show ¬ (true = false) by decide), if_neg (show ¬ (true = false) by decide)]
  dsimp only
  cases A with
  | nil =>
    have e3 : m = f := by
      rw [ea] at e1
      injection e1 with h _
      exact h.symm
    subst e3
    cases B with
    | nil =>
      rw [eb] at e2
      injection e2 with h _
      exact absurd h.symm hfg
    | cons y B =>
      have e4 : y = g := by
        rw [eb] at e2
        injection e2 with h _
        exact h.symm
      subst e4
      refine .inl ⟨rfl, rfl, B, rfl, ?_⟩
      have hab : aboveL b m = B := by rw [e2]; exact above_to fun h => hmB (by simp [h])
      rw [if_pos rfl, if_neg hfg, if_pos rfl, hab]
      exact ⟨rfl, rfl⟩
  | cons x A =>
    have e3 : x = f := by
      rw [ea] at e1
      injection e1 with h _
      exact h.symm
    subst e3
    have hmx : ¬ m = x := fun e => hmA (by simp [e])
    have haa : aboveL a m = A := by rw [e1]; exact above_to fun h => hmA (by simp [h])
    rw [if_neg hmx]
    cases B with
    | nil =>
      have e4 : m = g := by
        rw [eb] at e2
        injection e2 with h _
        exact h.symm
      subst e4
      refine .inr (.inl ⟨rfl, rfl, A, rfl, ?_⟩)
      rw [if_pos rfl, if_pos rfl, haa]
      exact ⟨rfl, rfl⟩
    | cons y B =>
      have e4 : y = g := by
        rw [eb] at e2
        injection e2 with h _
        exact h.symm
      subst e4
      have hmy : ¬ m = y := fun e => hmB (by simp [e])
      have hab : aboveL b m = B := by rw [e2]; exact above_to fun h => hmB (by simp [h])
      refine .inr (.inr ⟨A, B, rfl, rfl, ?_⟩)
      rw [if_neg hmy, if_neg hmy, if_neg hmx, haa, hab]
      exact ⟨by simp, by simp⟩

theorem cross_in {b : List Int} {f g : Int} {r : List Int} (hfg : f ≠ g) (hb : b = g :: r) (h0 : 0 ∉ r) : crossS [] b f g = r.reverse.map (mkS true 4) ++ [⟨g, true, 3⟩] := by
  unfold crossS
  rw [if_neg hfg, show meetF [] b = (0, false) from rfl, if_pos rfl, if_pos rfl, if_neg (by rw [hb]; simp), hb, above_all h0]
  rfl
theorem cross_out {a : List Int} {f g : Int} {r : List Int} (hfg : f ≠ g) (ha : a = f :: r) (h0 : 0 ∉ r) : crossS a [] f g = ⟨f, false, 3⟩ :: r.map (mkS false 4) := by
  unfold crossS
  rw [if_neg hfg, show meetF a [] = (0, false) from meet_no fun x _ => by simp, if_pos rfl, if_pos rfl, if_neg (by rw [ha]; simp), ha, above_all h0]
  simp
theorem cross_no {f g : Int} : crossS [] [] f g = [] := by
  unfold crossS
  simp [meetF]
theorem cross_same {a b : List Int} {f : Int} : crossS a b f f = [] := by
  unfold crossS
  simp

theorem flip_map (l : List Int) (en : Bool) (k : Int) : (l.map (mkS en k)).map flipS = l.map (mkS (!en) k) := by
  rw [List.map_map]; rfl
/-- The way back. -/
theorem cross_back {L : Nodes} {f g : Int} {a b : List Int} (ha : PW L f a) (hb : PW L g b) : backS (crossS b a g f) = crossS a b f g := by
  by_cases hfg : f = g
  · subst hfg
    rw [cross_same, cross_same]; rfl
  by_cases han : a = []
  · by_cases hbn : b = []
    · subst han hbn
      rw [cross_no, cross_no]; rfl
    · subst han
      obtain ⟨r, e, _⟩ := hb.cons hbn
      have h0 : 0 ∉ r := fun h => hb.nz 0 (by rw [e]; simp [h]) rfl
      rw [cross_in hfg e h0, cross_out (Ne.symm hfg) e h0]
      simp [backS, flipS, mkS]
  · obtain ⟨r, e, _⟩ := ha.cons han
    have h0 : 0 ∉ r := fun h => ha.nz 0 (by rw [e]; simp [h]) rfl
    by_cases hbn : b = []
    · subst hbn
      rw [cross_out hfg e h0, cross_in (Ne.symm hfg) e h0]
      simp [backS, flipS, mkS]
    · obtain ⟨A, B, m, s, h⟩ := cross_meet ha hb hfg han hbn
      unfold backS
      rcases h.sh with ⟨_, _, B', _, e1, e2⟩ | ⟨_, _, A', _, e1, e2⟩ | ⟨A', B', _, _, e1, e2⟩
      · rw [e1, e2]; simp [flipS, mkS]
      · rw [e1, e2]; simp [flipS, mkS]
      · rw [e1, e2]; simp [flipS, mkS]; rfl
/-- No window is in it twice. -/
theorem ids_map (l : List Int) (en : Bool) (k : Int) : (l.map (mkS en k)).map (·.id) = l := by
  rw [List.map_map]; simp [Function.comp_def, mkS]
theorem cross_ids {L : Nodes} {f g : Int} {a b : List Int} (ha : PW L f a) (hb : PW L g b) : ((crossS a b f g).map (·.id)).Nodup := by
  by_cases hfg : f = g
  · subst hfg; rw [cross_same]; simp
  by_cases han : a = []
  · by_cases hbn : b = []
    · subst han hbn; rw [cross_no]; simp
    · subst han
      obtain ⟨r, e, _⟩ := hb.cons hbn
      have h0 : 0 ∉ r := fun h => hb.nz 0 (by rw [e]; simp [h]) rfl
      rw [cross_in hfg e h0, List.map_append, ids_map]
      have := hb.nd
      rw [e] at this
      have h := List.reverse_perm (g :: r)
      rw [List.reverse_cons] at h
      exact h.nodup_iff.2 this
  · obtain ⟨r, e, _⟩ := ha.cons han
    have h0 : 0 ∉ r := fun h => ha.nz 0 (by rw [e]; simp [h]) rfl
    by_cases hbn : b = []
    · subst hbn
      rw [cross_out hfg e h0, List.map_cons, ids_map]
      have := ha.nd
      rw [e] at this
      exact this
    · obtain ⟨A, B, m, s, h⟩ := cross_meet ha hb hfg han hbn
      have na := h.na
      have nb := h.nb
      rw [h.ea] at na
      rw [h.eb] at nb
      rw [List.nodup_append] at na nb
      have mA : m ∉ A := fun h' => na.2.2 m h' m (by simp) rfl
      have mB : m ∉ B := fun h' => nb.2.2 m h' m (by simp) rfl
      have key : (A ++ m :: B.reverse).Nodup := by
        refine List.nodup_append.2 ⟨na.1, List.nodup_cons.2 ⟨by simpa using mB, (List.reverse_perm B).nodup_iff.2 nb.1⟩, fun x hx y hy e' => ?_⟩
        subst e'
        rcases List.mem_cons.1 hy with rfl | hy
        · exact mA hx
        · exact h.dA x hx (by rw [h.eb]; exact List.mem_append_left _ (by simpa using hy))
      rcases h.sh with ⟨e0, em, B', eB, e1, _⟩ | ⟨e0, em, A', eA, e1, _⟩ | ⟨A', B', eA, eB, e1, _⟩
      · rw [e1, List.map_cons, List.map_append, ids_map]
        rw [e0, eB, ← em] at key
        simpa using key
      · rw [e1, List.map_cons, List.map_append, ids_map]
        rw [e0, eA, ← em] at key
        simpa using key
      · rw [e1, List.map_cons, List.map_append, List.map_append, ids_map, ids_map]
        have k2 : (A ++ B.reverse).Nodup := key.sublist (List.Sublist.append (List.Sublist.refl _) (List.sublist_cons_self _ _))
        rw [eA, eB] at k2
        simpa using k2
end Go.AM
