
/- Chapter 28: trees, plainly: what is done to them. -/
import Derived.Test.YtpbmbpahjdeahaaW14
set_option linter.all false
namespace Go.AM
open Go Go.Proofs

structure Rel (t : TT) (L : Nodes) : Prop where
  kn : NdK t.kids
  un : NdK t.up
  up : ∀ id, lk t.up id = lk L id
  kids : ∀ p, kidsT t p = kidsN L p
theorem Rel.fn {t : TT} {L : Nodes} (h : Rel t L) : kidsT t = kidsN L := funext h.kids
theorem Rel.upLen {t : TT} {L : Nodes} (h : Rel t L) (hn : NdK L) : t.up.length = L.length := by
  have h1 : (t.up.map (·.1)).Perm (L.map (·.1)) := by
    rw [List.perm_ext_iff_of_nodup h.un hn]
    intro x
    have e := h.up x
    constructor
    · intro hx
      cases hl : lk L x with
      | none => rw [hl, lk_none] at e; exact absurd hx e
      | some u => exact List.mem_map.2 ⟨_, mem_of_lk hl, rfl⟩
    · intro hx
      cases hl : lk t.up x with
      | none => rw [hl] at e; have := lk_none.1 e.symm; exact absurd hx this
      | some u => exact List.mem_map.2 ⟨_, mem_of_lk hl, rfl⟩
  have := h1.length_eq
  simpa using this
theorem Rel.ok {t : TT} {L : Nodes} (h : Rel t L) (hw : WF L) : t.Ok :=
  ⟨h.kn, h.un, fun id => by rw [h.kids]; have := kidsN_len L id; have := hw.len; omega, by rw [h.upLen hw.nd]; exact hw.len⟩
theorem Rel.has {t : TT} {L : Nodes} (h : Rel t L) (id : Int) : hasT t id = hasW L id := by unfold hasT hasW; rw [h.up]
theorem Rel.path {t : TT} {L : Nodes} (h : Rel t L) : ∀ {l : List Int} {id : Int}, PathN L id l → PathT t id l
  | [], _, hp => hp
  | x :: r, id, hp => by
    obtain ⟨h1, h2⟩ := hp
    refine ⟨h1, ?_⟩
    by_cases e : id = 1
    · rw [if_pos e] at h2 ⊢; exact h2
    · rw [if_neg e] at h2 ⊢
      obtain ⟨u, hu, hp⟩ := h2
      exact ⟨u, by rw [h.up]; exact hu, h.path hp⟩
theorem Rel.other {t : TT} {L : Nodes} (h : Rel t L) (id : Int) : otherC t id = otherN L id := by unfold otherC otherN; rw [h.has]

theorem lk_filt {α : Type} {P : Int → Bool} {x : Int} : ∀ {L : List (Int × α)}, lk (L.filter fun p => P p.1) x = if P x then lk L x else none
  | [] => by simp [lk]
  | y :: r => by
    by_cases hy : P y.1
    · rw [List.filter_cons, if_pos hy]
      simp only [lk]
      rw [lk_filt (L := r)]
      by_cases e : y.1 = x
      · rw [if_pos e, if_pos e, ← e, if_pos hy]
      · rw [if_neg e, if_neg e]
    · rw [List.filter_cons, if_neg hy]
      rw [lk_filt (L := r)]
      simp only [lk]
      by_cases e : y.1 = x
      · rw [if_pos e, ← e, if_neg hy, if_neg hy]
      · rw [if_neg e]
theorem lk_snocN {α : Type} {L : List (Int × α)} {k m : Int} {d : α} (h : lk L k = none) : lk (L ++ [(k, d)]) m = if k = m then some d else lk L m := by
  rw [← put_absent h, lk_put]

/-! ### Add -/
theorem wf_new : WF [] := ⟨by simp [NdK], by simp, rfl, rfl, fun id h => ⟨[1], by
  rcases has_cases h with rfl | ⟨u, hu⟩
  · exact ⟨rfl, rfl⟩
  · cases hu⟩⟩
theorem rel_new : Rel ⟨[], []⟩ [] := ⟨by simp [NdK], by simp [NdK], fun _ => rfl, fun _ => rfl⟩
theorem wf_snoc {L : Nodes} (hw : WF L) {id p : Int} (h1 : hasW L id = false) (h0 : id ≠ 0) (hp : hasW L p = true) (hl : L.length < 63) : WF (L ++ [(id, p)]) := by
  have hf : lk L id = none := by
    unfold hasW at h1
    cases hx : lk L id with
    | none => rfl
    | some u => rw [hx] at h1; simp at h1
  have hi1 : id ≠ 1 := fun e => by rw [e, has_one] at h1; cases h1
  have hlk := fun m => lk_snocN (m := m) (d := p) hf
  refine ⟨?_, by simp; omega, by rw [hlk, if_neg hi1]; exact hw.root, by rw [hlk, if_neg h0]; exact hw.zero, fun x hx => ?_⟩
  · have := put_nd (n := id) (d := p) hw.nd
    rwa [put_absent hf] at this
  · have mono : ∀ {y : Int} {l : List Int}, PathN L y l → PathN (L ++ [(id, p)]) y l := fun hpth => hpth.mono fun z hz hz1 => by
      rw [hlk, if_neg]
      intro e
      have := hpth.memhas hz
      rw [← e, h1] at this; cases this
    by_cases e : id = x
    · subst e
      obtain ⟨l, hpl⟩ := hw.path p hp
      exact ⟨id :: l, rfl, by rw [if_neg hi1]; exact ⟨p, by rw [hlk, if_pos rfl], mono hpl⟩⟩
    · have : hasW L x = true := by
        unfold hasW at hx ⊢
        rwa [hlk, if_neg e] at hx
      obtain ⟨l, hpl⟩ := hw.path x this
      exact ⟨l, mono hpl⟩
theorem kidsN_snoc (L : Nodes) (id p q : Int) : kidsN (L ++ [(id, p)]) q = kidsN L q ++ (if p = q then [id] else []) := by
  unfold kidsN
  rw [List.filter_append, List.map_append]
  congr 1
  by_cases e : p = q <;> simp [e]
theorem kidsT_put (k : Kids) (u : Ups) (p q : Int) (l : List Int) : kidsT ⟨put k p l, u⟩ q = if p = q then l else kidsT ⟨k, u⟩ q := by
  unfold kidsT
  dsimp only
  rw [lk_put]
  split <;> rfl
theorem rel_snoc {t : TT} {L : Nodes} (h : Rel t L) {id p : Int} (hf : lk L id = none) : Rel (putT t id p) (L ++ [(id, p)]) := by
  refine ⟨put_nd h.kn, put_nd h.un, fun x => ?_, fun q => ?_⟩
  · unfold putT
    dsimp only
    rw [lk_put, lk_snocN hf, h.up]
  · unfold putT
    rw [kidsT_put, kidsN_snoc, ← h.kids q]
    by_cases e : p = q
    · rw [if_pos e, if_pos e, e]
    · rw [if_neg e, if_neg e, List.append_nil]; rfl

/-! ### Without one -/
theorem kids_without (L : Nodes) (id q : Int) : kidsN (withoutN L id) q = offL (kidsN L q) id := by
  unfold kidsN withoutN offL
  rw [List.filter_map, List.filter_filter, List.filter_filter]
  congr 1
  refine List.filter_congr fun x _ => ?_
  simp [Function.comp, Bool.and_comm]
theorem lk_without (L : Nodes) (id x : Int) : lk (withoutN L id) x = if id = x then none else lk L x := by
  unfold withoutN
  rw [lk_filt (P := fun y => !decide (y = id))]
  by_cases e : id = x
  · subst e; simp
  · simp [e, Ne.symm e]
theorem offL_self {l : List Int} {id : Int} (h : id ∉ l) : offL l id = l := List.filter_eq_self.2 fun x hx => by
  have : x ≠ id := fun e => h (e ▸ hx)
  simpa using this
theorem offL_one {l : List Int} {id : Int} (hn : l.Nodup) (h : id ∈ l) : (offL l id).length + 1 = l.length := by
  induction l with
  | nil => cases h
  | cons x l ih =>
    have hn := List.nodup_cons.1 hn
    unfold offL
    by_cases e : x = id
    · rw [List.filter_cons, if_neg (by simp [e])]
      have := offL_self (l := l) (id := id) (fun h => hn.1 (e ▸ h))
      unfold offL at this
      rw [this]; rfl
    · rw [List.filter_cons, if_pos (by simp [e])]
      rcases List.mem_cons.1 h with h | h
      · exact absurd h.symm e
      · have := ih hn.2 h
        unfold offL at this
        simp; omega
/-- The kids of all, in the tree without one. -/
theorem take_kids {t : TT} {L : Nodes} (h : Rel t L) (hw : WF L) {id p0 : Int} (hu : lk L id = some p0) (q : Int) : kidsT (takeT t id) q = offL (kidsN L q) id := by
  have e : takeT t id = ⟨put t.kids p0 (offL (kidsT t p0) id), t.up⟩ := by unfold takeT; rw [h.up, hu]; rfl
  rw [e, kidsT_put]
  by_cases eq : p0 = q
  · rw [if_pos eq, ← eq, h.kids]
  · rw [if_neg eq, show kidsT ⟨t.kids, t.up⟩ q = kidsN L q from h.kids q, offL_self]
    intro hm
    have := (kid_iff hw.nd).1 hm
    rw [hu] at this
    injection this with this
    exact eq this

/-! ### Move -/
theorem wf_move {L : Nodes} (hw : WF L) {id p u0 : Int} (hu : lk L id = some u0) {lp : List Int} (hp : PathN L p lp) (hi : id ∉ lp) : WF (withoutN L id ++ [(id, p)]) := by
  have hf : lk (withoutN L id) id = none := by rw [lk_without, if_pos rfl]
  have hlk : ∀ m, lk (withoutN L id ++ [(id, p)]) m = if id = m then some p else lk L m := fun m => by
    rw [lk_snocN hf, lk_without]
    split <;> rfl
  have hi1 : id ≠ 1 := fun e => by rw [e, hw.root] at hu; cases hu
  have hi0 : id ≠ 0 := fun e => by rw [e, hw.zero] at hu; cases hu
  have hkeys : ((withoutN L id ++ [(id, p)]).map (·.1)).Nodup := by
    have hs : NdK (withoutN L id) := (hw.nd : (L.map (·.1)).Nodup).sublist (List.filter_sublist.map _)
    have := put_nd (n := id) (d := p) hs
    rwa [put_absent hf] at this
  have hpp : PathN (withoutN L id ++ [(id, p)]) p lp := hp.mono fun z hz _ => by rw [hlk, if_neg (fun e => hi (by rw [e]; exact hz))]
  refine ⟨hkeys, ?_, by rw [hlk, if_neg hi1]; exact hw.root, by rw [hlk, if_neg hi0]; exact hw.zero, fun x hx => ?_⟩
  · have h1 := nodup_sub hkeys (m := L.map (·.1)) fun y hy => by
      obtain ⟨z, hz, rfl⟩ := List.mem_map.1 hy
      rcases List.mem_append.1 hz with hz | hz
      · exact List.mem_map_of_mem (List.mem_filter.1 hz).1
      · simp at hz; rw [hz]; exact List.mem_map.2 ⟨_, mem_of_lk hu, rfl⟩
    simp only [List.length_map] at h1
    have := hw.len
    omega
  · have hx' : hasW L x = true := by
      rcases has_cases hx with rfl | ⟨u, hu'⟩
      · exact has_one L
      · rw [hlk] at hu'
        by_cases e : id = x
        · rw [← e]; exact has_lk hu
        · rw [if_neg e] at hu'; exact has_lk hu'
    obtain ⟨l, hl⟩ := hw.path x hx'
    clear hx hx'
    induction l generalizing x with
    | nil => exact hl.elim
    | cons y r ih =>
      have hy := hl.1
      subst hy
      by_cases e1 : y = 1
      · exact ⟨[y], rfl, by rw [if_pos e1]⟩
      · by_cases e : id = y
        · subst e
          exact ⟨id :: lp, rfl, by rw [if_neg e1]; exact ⟨p, by rw [hlk, if_pos rfl], hpp⟩⟩
        · obtain ⟨_, h2⟩ := hl
          rw [if_neg e1] at h2
          obtain ⟨u, hu2, hp2⟩ := h2
          obtain ⟨l2, hl2⟩ := ih _ hp2
          exact ⟨y :: l2, rfl, by rw [if_neg e1]; exact ⟨u, by rw [hlk, if_neg e]; exact hu2, hl2⟩⟩
theorem rel_move {t : TT} {L : Nodes} (h : Rel t L) (hw : WF L) {id p u0 : Int} (hu : lk L id = some u0) : Rel (moveT t id p) (withoutN L id ++ [(id, p)]) := by
  have hf : lk (withoutN L id) id = none := by rw [lk_without, if_pos rfl]
  refine ⟨put_nd (put_nd h.kn), put_nd h.un, fun x => ?_, fun q => ?_⟩
  · unfold moveT putT takeT
    dsimp only
    rw [lk_put, lk_snocN hf, lk_without, h.up]
    split <;> rfl
  · unfold moveT putT
    rw [kidsT_put, kidsN_snoc, kids_without, show kidsT ⟨(takeT t id).kids, put (takeT t id).up id p⟩ q = kidsT (takeT t id) q from rfl, take_kids h hw hu, take_kids h hw hu]
    by_cases e : p = q
    · rw [if_pos e, if_pos e, e]
    · rw [if_neg e, if_neg e, List.append_nil]
end Go.AM
