
/- Chapter 28: trees, plainly: Place and Remove. -/
import Derived.Test.YtpbmbpahjdeahaaW15
set_option linter.all false
namespace Go.AM
open Go Go.Proofs

theorem plF_past (up id : Int) (i : Nat) : ∀ (L : Nodes) (m : Nat), i < m → plF up id i m L = L
  | [], m, hm => by simp only [plF]; rw [if_neg (by omega)]
  | x :: s, m, hm => by
    simp only [plF]
    split
    · rw [if_neg (by omega), plF_past up id i s (m + 1) (by omega)]; rfl
    · rw [plF_past up id i s m hm]
theorem kidsN_cons (x : Int × Int) (r : Nodes) (q : Int) : kidsN (x :: r) q = (if x.2 = q then [x.1] else []) ++ kidsN r q := by
  unfold kidsN
  by_cases e : x.2 = q <;> simp [e]
theorem plF_perm (up id : Int) (i : Nat) : ∀ (L : Nodes) (n : Nat), n ≤ i → i ≤ n + (kidsN L up).length → (plF up id i n L).Perm ((id, up) :: L)
  | [], n, h1, h2 => by
    have : n = i := by simp [kidsN] at h2; omega
    simp only [plF, if_pos this]; exact List.Perm.refl _
  | x :: r, n, h1, h2 => by
    rw [kidsN_cons] at h2
    simp only [plF]
    by_cases e : x.2 = up
    · rw [if_pos e] at h2 ⊢
      by_cases en : n = i
      · rw [if_pos en, plF_past up id i r (n + 1) (by omega)]; exact List.Perm.refl _
      · rw [if_neg en, List.nil_append]
        exact ((plF_perm up id i r (n + 1) (by omega) (by simp at h2; omega)).cons x).trans (List.Perm.swap _ _ _)
    · rw [if_neg e] at h2 ⊢
      exact ((plF_perm up id i r n h1 (by simpa using h2)).cons x).trans (List.Perm.swap _ _ _)
theorem plF_kids (up id : Int) (i : Nat) (q : Int) : ∀ (L : Nodes) (n : Nat), n ≤ i → i ≤ n + (kidsN L up).length → kidsN (plF up id i n L) q = if q = up then ins (kidsN L up) (i - n) id else kidsN L q
  | [], n, h1, h2 => by
    have hn : n = i := by simp [kidsN] at h2; omega
    simp only [plF, if_pos hn]
    rw [kidsN_cons, show i - n = 0 by omega]
    by_cases e : q = up
    · rw [if_pos e, if_pos e.symm]; rfl
    · rw [if_neg e, if_neg (Ne.symm e)]; rfl
  | x :: r, n, h1, h2 => by
    rw [kidsN_cons] at h2
    simp only [plF]
    by_cases e : x.2 = up
    · rw [if_pos e] at h2 ⊢
      by_cases en : n = i
      · rw [if_pos en, plF_past up id i r (n + 1) (by omega), show i - n = 0 by omega]
        rw [List.cons_append, List.nil_append, kidsN_cons]
        by_cases eq : q = up
        · rw [if_pos eq, if_pos eq.symm, eq]; rfl
        · rw [if_neg eq, if_neg (Ne.symm eq)]; rfl
      · rw [if_neg en, List.nil_append, kidsN_cons, plF_kids up id i q r (n + 1) (by omega) (by simp at h2; omega)]
        by_cases eq : q = up
        · rw [if_pos eq, if_pos eq, if_pos (by rw [e, eq]), kidsN_cons, if_pos e, show i - n = (i - (n + 1)) + 1 by omega]; rfl
        · rw [if_neg eq, if_neg eq, kidsN_cons]
    · rw [if_neg e] at h2 ⊢
      rw [kidsN_cons, plF_kids up id i q r n h1 (by simpa using h2)]
      by_cases eq : q = up
      · rw [if_pos eq, if_pos eq, if_neg (by rw [eq]; exact e), kidsN_cons, if_neg e]; rfl
      · rw [if_neg eq, if_neg eq, kidsN_cons]

theorem place_lk {L : Nodes} (hw : WF L) {id up : Int} (hu : lk L id = some up) {a : Nat} (ha : a ≤ (kidsN (withoutN L id) up).length) : NdK (plF up id a 0 (withoutN L id)) ∧ ∀ m, lk (plF up id a 0 (withoutN L id)) m = lk L m := by
  have hf : lk (withoutN L id) id = none := by rw [lk_without, if_pos rfl]
  have hp := plF_perm up id a (withoutN L id) 0 (by omega) (by omega)
  have hs : NdK (withoutN L id) := (hw.nd : (L.map (·.1)).Nodup).sublist (List.filter_sublist.map _)
  have hk : NdK ((id, up) :: withoutN L id) := List.nodup_cons.2 ⟨lk_none.1 hf, hs⟩
  have hn : NdK (plF up id a 0 (withoutN L id)) := (hp.map (·.1)).nodup_iff.2 hk
  refine ⟨hn, fun m => ?_⟩
  rw [lk_perm hp hn]
  simp only [lk]
  by_cases e : id = m
  · rw [if_pos e, ← e, hu]
  · rw [if_neg e, lk_without, if_neg e]
theorem wf_lk {L L' : Nodes} (hw : WF L) (hn : NdK L') (hl : ∀ m, lk L' m = lk L m) : WF L' := by
  refine ⟨hn, ?_, by rw [hl]; exact hw.root, by rw [hl]; exact hw.zero, fun x hx => ?_⟩
  · have := nodup_sub hn (m := L.map (·.1)) fun y hy => by
      cases h : lk L y with
      | none => rw [← hl] at h; exact absurd hy (lk_none.1 h)
      | some u => exact List.mem_map.2 ⟨_, mem_of_lk h, rfl⟩
    simp at this
    have := hw.len
    omega
  · have hx' : hasW L x = true := by unfold hasW at *; rwa [hl] at hx
    obtain ⟨l, hp⟩ := hw.path x hx'
    exact ⟨l, hp.mono fun y _ _ => hl y⟩
theorem rel_place {t : TT} {L : Nodes} (h : Rel t L) (hw : WF L) {id up : Int} (hu : lk L id = some up) {a : Nat} (ha : a ≤ (kidsN (withoutN L id) up).length) : Rel (placeT t id a) (plF up id a 0 (withoutN L id)) := by
  have hlk := place_lk hw hu ha
  refine ⟨put_nd (put_nd h.kn), h.un, fun x => by rw [hlk.2]; exact h.up x, fun q => ?_⟩
  unfold placeT
  rw [h.up, hu]
  dsimp only [Option.getD]
  rw [kidsT_put, plF_kids up id a q _ 0 (by omega) (by omega), h.kids, kids_without, kids_without]
  by_cases e : up = q
  · rw [if_pos e, if_pos e.symm]; rfl
  · rw [if_neg e, if_neg (Ne.symm e)]
    exact take_kids h hw hu q

/-! ### Remove -/
theorem lk_gone (L : Nodes) (g : List Int) (x : Int) : lk (goneN L g) x = if x ∈ g then none else lk L x := by
  unfold goneN
  rw [lk_filt (P := fun y => !decide (y ∈ g))]
  by_cases e : x ∈ g <;> simp [e]
theorem kids_gone (L : Nodes) (g : List Int) (q : Int) : kidsN (goneN L g) q = (kidsN L q).filter fun x => !decide (x ∈ g) := by
  unfold kidsN goneN
  rw [List.filter_map, List.filter_filter, List.filter_filter]
  congr 1
  refine List.filter_congr fun x _ => ?_
  simp [Function.comp, Bool.and_comm]
/-- Of one that is below, and isn't the one, the parent is below. -/
theorem below_up {L : Nodes} (hw : WF L) {id x u : Int} (h : hasW L id = true) (hx : x ∈ belowF (kidsN L) 64 id) (hne : x ≠ id) (hu : lk L x = some u) : u ∈ belowF (kidsN L) 64 id := by
  obtain ⟨l, hl⟩ := hw.path x (below_has hw h hx)
  have hm := (below_iff hw h hl).1 hx
  obtain ⟨r, rfl⟩ := hl.head
  obtain ⟨_, h2⟩ := hl
  rw [if_neg (fun e => by rw [e, hw.root] at hu; cases hu)] at h2
  obtain ⟨u', hu', hp⟩ := h2
  rw [hu] at hu'
  injection hu' with hu'
  subst hu'
  rcases List.mem_cons.1 hm with e | hm
  · exact absurd e.symm hne
  · exact (below_iff hw h hp).2 hm
theorem below_self {L : Nodes} (id : Int) : id ∈ belowF (kidsN L) 64 id := by
  show id ∈ belowF (kidsN L) (63 + 1) id
  rw [belowF]; exact List.mem_cons_self
/-- The parent isn't below. -/
theorem up_not_below {L : Nodes} (hw : WF L) {id u : Int} (hu : lk L id = some u) : u ∉ belowF (kidsN L) 64 id := by
  intro hm
  have h := has_lk hu
  obtain ⟨l, hl⟩ := hw.path id h
  have hl0 := hl
  obtain ⟨r, rfl⟩ := hl.head
  obtain ⟨_, h2⟩ := hl
  rw [if_neg (fun e => by rw [e, hw.root] at hu; cases hu)] at h2
  obtain ⟨u', hu', hp⟩ := h2
  rw [hu] at hu'
  injection hu' with hu'
  subst hu'
  have := (below_iff hw h hp).1 hm
  exact (List.nodup_cons.1 hl0.nodup).1 this
theorem wf_gone {L : Nodes} (hw : WF L) {id : Int} (h : hasW L id = true) (g : List Int) (hg : ∀ x, x ∈ g ↔ x ∈ belowF (kidsN L) 64 id) (h1 : id ≠ 1) : WF (goneN L g) := by
  refine ⟨(hw.nd : (L.map (·.1)).Nodup).sublist (List.filter_sublist.map _), Nat.le_trans (gone_len L g) hw.len, ?_, ?_, fun x hx => ?_⟩
  · rw [lk_gone, hw.root]; split <;> rfl
  · rw [lk_gone, hw.zero]; split <;> rfl
  · have hx' : hasW L x = true ∧ x ∉ g := by
      rcases has_cases hx with rfl | ⟨u, hu⟩
      · refine ⟨has_one L, fun hm => ?_⟩
        have := (below_iff hw h (l := [1]) ⟨rfl, rfl⟩).1 ((hg 1).1 hm)
        simp at this; exact h1 this
      · rw [lk_gone] at hu
        by_cases e : x ∈ g
        · rw [if_pos e] at hu; cases hu
        · rw [if_neg e] at hu; exact ⟨has_lk hu, e⟩
    obtain ⟨l, hl⟩ := hw.path x hx'.1
    refine ⟨l, hl.mono fun y hy _ => ?_⟩
    rw [lk_gone, if_neg]
    intro hyg
    obtain ⟨A, r, rfl⟩ := List.append_of_mem hy
    have := (below_iff hw h hl.suffix).1 ((hg y).1 hyg)
    exact hx'.2 ((hg x).2 ((below_iff hw h hl).2 (List.mem_append_right _ this)))
theorem rel_gone {t : TT} {L : Nodes} (h : Rel t L) (hw : WF L) {id u0 : Int} (hu : lk L id = some u0) (g : List Int) (hg : ∀ x, x ∈ g ↔ x ∈ belowF (kidsN L) 64 id) : Rel (removeT t id g) (goneN L g) := by
  have hid := has_lk hu
  refine ⟨delA_nd (put_nd h.kn), delA_nd h.un, fun x => ?_, fun q => ?_⟩
  · unfold removeT
    dsimp only
    rw [lk_delA h.un, lk_gone, h.up]
  · rw [kids_gone]
    have e1 : kidsT (removeT t id g) q = if q ∈ g then [] else kidsT (takeT t id) q := by
      unfold removeT kidsT
      dsimp only
      rw [lk_delA (show NdK (takeT t id).kids from put_nd h.kn)]
      split <;> rfl
    rw [e1]
    by_cases hq : q ∈ g
    · rw [if_pos hq, List.filter_eq_nil_iff.2]
      intro x hx
      have := below_kid 64 ((hg q).1 hq) hx
      rw [below_more 64 (hg64 hw hid)] at this
      simp [(hg x).2 this]
    · rw [if_neg hq, take_kids h hw hu]
      unfold offL
      refine List.filter_congr fun x hx => ?_
      have hxu := (kid_iff hw.nd).1 hx
      congr 1
      by_cases e : x = id
      · subst e
        rw [decide_eq_true rfl, decide_eq_true ((hg x).2 (below_self x))]
      · rw [decide_eq_false e, decide_eq_false]
        intro hm
        exact hq ((hg q).2 (below_up hw hid ((hg x).1 hm) e hxu))
end Go.AM
