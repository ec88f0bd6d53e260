
/- Chapter 28: trees, plainly: paths and what is below. -/
import Derived.Test.YtpbmbpahjdeahaaW13
set_option linter.all false
namespace Go.AM
open Go Go.Proofs

theorem nodup_sub : ∀ {l m : List Int}, l.Nodup → (∀ x ∈ l, x ∈ m) → l.length ≤ m.length
  | [], _, _, _ => Nat.zero_le _
  | x :: l, m, hn, h => by
    have hn := List.nodup_cons.1 hn
    have hx := h x (by simp)
    have := nodup_sub (l := l) (m := m.erase x) hn.2 fun y hy => (List.mem_erase_of_ne (fun e => hn.1 (by rw [← e]; exact hy))).2 (h y (by simp [hy]))
    rw [List.length_erase_of_mem hx] at this
    have : 0 < m.length := List.length_pos_iff.2 fun e => by rw [e] at hx; cases hx
    simp; omega

structure WF (L : Nodes) : Prop where
  nd : NdK L
  len : L.length ≤ 63
  root : lk L 1 = none
  zero : lk L 0 = none
  path : ∀ id, hasW L id = true → ∃ l, PathN L id l
theorem has_lk {L : Nodes} {id u : Int} (h : lk L id = some u) : hasW L id = true := by unfold hasW; rw [h]; rfl
theorem has_one (L : Nodes) : hasW L 1 = true := by unfold hasW; simp
theorem has_cases {L : Nodes} {id : Int} (h : hasW L id = true) : id = 1 ∨ ∃ u, lk L id = some u := by
  unfold hasW at h
  cases hl : lk L id with
  | none => rw [hl] at h; left; simpa using h
  | some u => exact .inr ⟨u, rfl⟩
theorem has_mem {L : Nodes} {id : Int} (h : hasW L id = true) : id ∈ 1 :: L.map (·.1) := by
  rcases has_cases h with rfl | ⟨u, hu⟩
  · simp
  · exact List.mem_cons_of_mem _ (List.mem_map.2 ⟨_, mem_of_lk hu, rfl⟩)
theorem PathN.has {L : Nodes} : ∀ {l : List Int} {id : Int}, PathN L id l → hasW L id = true
  | [], _, h => h.elim
  | x :: r, id, h => by
    obtain ⟨_, h2⟩ := h
    by_cases e : id = 1
    · rw [e]; exact has_one L
    · rw [if_neg e] at h2
      obtain ⟨u, hu, _⟩ := h2
      exact has_lk hu
theorem PathN.det {L : Nodes} : ∀ {l l' : List Int} {id : Int}, PathN L id l → PathN L id l' → l = l'
  | [], _, _, h, _ => h.elim
  | _ :: _, [], _, _, h => h.elim
  | x :: r, y :: s, id, h, h' => by
    obtain ⟨h1, h2⟩ := h
    obtain ⟨h3, h4⟩ := h'
    by_cases e : id = 1
    · rw [if_pos e] at h2 h4
      rw [h1, h3, h2, h4]
    · rw [if_neg e] at h2 h4
      obtain ⟨u, hu, hp⟩ := h2
      obtain ⟨u', hu', hp'⟩ := h4
      rw [hu] at hu'
      injection hu' with hu'
      subst hu'
      rw [h1, h3, hp.det hp']
theorem PathN.suffix {L : Nodes} {m : Int} {r : List Int} : ∀ {A : List Int} {id : Int}, PathN L id (A ++ m :: r) → PathN L m (m :: r)
  | [], id, h => by
    have e := h.1
    subst e
    exact h
  | x :: A, id, h => by
    obtain ⟨h1, h2⟩ := h
    by_cases e : id = 1
    · rw [if_pos e] at h2; simp at h2
    · rw [if_neg e] at h2
      obtain ⟨u, _, hp⟩ := h2
      exact PathN.suffix (A := A) hp
theorem PathN.head {L : Nodes} {l : List Int} {id : Int} (h : PathN L id l) : ∃ r, l = id :: r := by
  cases l with
  | nil => exact h.elim
  | cons x r => exact ⟨r, by rw [h.1]⟩
theorem PathN.nodup {L : Nodes} : ∀ {l : List Int} {id : Int}, PathN L id l → l.Nodup
  | [], _, _ => by simp
  | x :: r, id, h => by
    have h0 := h
    obtain ⟨h1, h2⟩ := h
    subst h1
    refine List.nodup_cons.2 ⟨fun hm => ?_, ?_⟩
    · obtain ⟨B, C, e⟩ := List.append_of_mem hm
      have hs : PathN L x (x :: C) := by
        rw [e] at h0
        exact PathN.suffix (A := x :: B) h0
      have := h0.det hs
      have := congrArg List.length this
      rw [e] at this
      simp at this; omega
    · by_cases e : x = 1
      · rw [if_pos e] at h2; rw [h2]; simp
      · rw [if_neg e] at h2
        obtain ⟨u, _, hp⟩ := h2
        exact hp.nodup
theorem PathN.memhas {L : Nodes} {l : List Int} {id y : Int} (h : PathN L id l) (hy : y ∈ l) : hasW L y = true := by
  obtain ⟨A, r, rfl⟩ := List.append_of_mem hy
  exact h.suffix.has
theorem PathN.len {L : Nodes} (hw : WF L) {l : List Int} {id : Int} (h : PathN L id l) : l.length ≤ 64 := by
  have := nodup_sub h.nodup (m := 1 :: L.map (·.1)) fun y hy => has_mem (h.memhas hy)
  have := hw.len
  simp at *; omega
theorem PathN.one {L : Nodes} : ∀ {l : List Int} {id : Int}, PathN L id l → 1 ∈ l
  | [], _, h => h.elim
  | x :: r, id, h => by
    obtain ⟨h1, h2⟩ := h
    by_cases e : id = 1
    · rw [h1, e]; simp
    · rw [if_neg e] at h2
      obtain ⟨u, _, h3⟩ := h2
      exact List.mem_cons_of_mem _ h3.one
/-- Trees of the same lookups have the same paths. -/
theorem PathN.mono {L L' : Nodes} : ∀ {l : List Int} {id : Int}, (∀ y ∈ l, y ≠ 1 → lk L' y = lk L y) → PathN L id l → PathN L' id l
  | [], _, _, h => h
  | x :: r, id, hy, h => by
    obtain ⟨h1, h2⟩ := h
    refine ⟨h1, ?_⟩
    by_cases e : id = 1
    · rw [if_pos e] at h2 ⊢; exact h2
    · rw [if_neg e] at h2 ⊢
      obtain ⟨u, hu, hp⟩ := h2
      exact ⟨u, by rw [← h1, hy x (by simp) (by rw [h1]; exact e), h1]; exact hu, hp.mono fun y hy' => hy y (by simp [hy'])⟩

theorem kid_iff {L : Nodes} (hn : NdK L) {k id : Int} : k ∈ kidsN L id ↔ lk L k = some id := by
  unfold kidsN
  constructor
  · intro h
    obtain ⟨p, hp, rfl⟩ := List.mem_map.1 h
    obtain ⟨hm, he⟩ := List.mem_filter.1 hp
    have : p.2 = id := by simpa using he
    exact lk_mem hn (by rw [← this]; exact hm)
  · intro h
    exact List.mem_map.2 ⟨(k, id), List.mem_filter.2 ⟨mem_of_lk h, by simp⟩, rfl⟩
theorem kids_nd {L : Nodes} (hn : NdK L) (id : Int) : (kidsN L id).Nodup := (hn : (L.map (·.1)).Nodup).sublist (List.filter_sublist.map _)
theorem kid_path {L : Nodes} (hw : WF L) {k id : Int} {l : List Int} (hk : k ∈ kidsN L id) (hp : PathN L id l) : PathN L k (k :: l) := by
  have := (kid_iff hw.nd).1 hk
  refine ⟨rfl, ?_⟩
  rw [if_neg (fun e => by rw [e, hw.root] at this; cases this)]
  exact ⟨id, this, hp⟩

theorem hg_of {L : Nodes} (hw : WF L) : ∀ (n : Nat) {id : Int} {l : List Int}, PathN L id l → 65 ≤ l.length + n → Hg (kidsN L) n id
  | 0, id, l, hp, h => by have := hp.len hw; omega
  | n + 1, id, l, hp, h => fun k hk => hg_of hw n (kid_path hw hk hp) (by simp; omega)
theorem hg64 {L : Nodes} (hw : WF L) {id : Int} (h : hasW L id = true) : Hg (kidsN L) 64 id := by
  obtain ⟨l, hp⟩ := hw.path id h
  obtain ⟨r, rfl⟩ := hp.head
  exact hg_of hw 64 hp (by simp only [List.length_cons]; omega)

theorem below_path {L : Nodes} (hw : WF L) : ∀ (n : Nat) {id x : Int} {l : List Int}, PathN L id l → x ∈ belowF (kidsN L) n id → ∃ A, PathN L x (A ++ l)
  | 0, _, _, _, _, h => by cases h
  | n + 1, id, x, l, hp, h => by
    simp only [belowF, List.mem_cons, List.mem_flatMap] at h
    rcases h with rfl | ⟨k, hk, hx⟩
    · exact ⟨[], hp⟩
    · obtain ⟨A, hA⟩ := below_path hw n (kid_path hw hk hp) hx
      exact ⟨A ++ [k], by simpa using hA⟩
theorem flatMap_nodup {f : Int → List Int} : ∀ {l : List Int}, l.Nodup → (∀ k ∈ l, (f k).Nodup) → (∀ k ∈ l, ∀ k' ∈ l, ∀ x, x ∈ f k → x ∈ f k' → k = k') → (l.flatMap f).Nodup
  | [], _, _, _ => by simp
  | k :: l, hn, h1, h2 => by
    have hn := List.nodup_cons.1 hn
    rw [List.flatMap_cons, List.nodup_append]
    refine ⟨h1 k (by simp), flatMap_nodup hn.2 (fun k' hk' => h1 k' (by simp [hk'])) (fun a ha b hb => h2 a (by simp [ha]) b (by simp [hb])), fun x hx y hy e => ?_⟩
    subst e
    obtain ⟨k', hk', hx'⟩ := List.mem_flatMap.1 hy
    have := h2 k (by simp) k' (by simp [hk']) x hx hx'
    subst this
    exact hn.1 hk'
theorem below_nodup {L : Nodes} (hw : WF L) : ∀ (n : Nat) {id : Int} {l : List Int}, PathN L id l → (belowF (kidsN L) n id).Nodup
  | 0, _, _, _ => by simp [belowF]
  | n + 1, id, l, hp => by
    simp only [belowF]
    refine List.nodup_cons.2 ⟨fun hm => ?_, flatMap_nodup (kids_nd hw.nd id) (fun k hk => below_nodup hw n (kid_path hw hk hp)) fun k hk k' hk' x hx hx' => ?_⟩
    · obtain ⟨k, hk, hx⟩ := List.mem_flatMap.1 hm
      obtain ⟨A, hA⟩ := below_path hw n (kid_path hw hk hp) hx
      have := congrArg List.length (hp.det hA)
      simp at this; omega
    · obtain ⟨A, hA⟩ := below_path hw n (kid_path hw hk hp) hx
      obtain ⟨A', hA'⟩ := below_path hw n (kid_path hw hk' hp) hx'
      have e := hA.det hA'
      have hlen := congrArg List.length e
      simp at hlen
      have := (List.append_inj e (by omega)).2
      injection this
theorem below_has {L : Nodes} (hw : WF L) {n : Nat} {id x : Int} (h : hasW L id = true) (hx : x ∈ belowF (kidsN L) n id) : hasW L x = true := by
  obtain ⟨l, hp⟩ := hw.path id h
  obtain ⟨A, hA⟩ := below_path hw n hp hx
  exact hA.has
theorem below_len {L : Nodes} (hw : WF L) {n : Nat} {id : Int} (h : hasW L id = true) : (belowF (kidsN L) n id).length ≤ 64 := by
  obtain ⟨l, hp⟩ := hw.path id h
  have := nodup_sub (below_nodup hw n hp) (m := 1 :: L.map (·.1)) fun y hy => has_mem (below_has hw h hy)
  have := hw.len
  simp at *; omega
theorem below_kid {K : Int → List Int} : ∀ (n : Nat) {id u p : Int}, u ∈ belowF K n id → p ∈ K u → p ∈ belowF K (n + 1) id
  | 0, _, _, _, h, _ => by cases h
  | n + 1, id, u, p, h, hp => by
    simp only [belowF, List.mem_cons, List.mem_flatMap] at h
    rw [belowF, List.mem_cons, List.mem_flatMap]
    right
    rcases h with rfl | ⟨k, hk, hx⟩
    · exact ⟨p, hp, by simp [belowF]⟩
    · exact ⟨k, hk, below_kid n hx hp⟩
theorem below_more {K : Int → List Int} : ∀ (n : Nat) {id : Int}, Hg K n id → belowF K (n + 1) id = belowF K n id
  | 0, _, h => h.elim
  | n + 1, id, h => by
    rw [belowF, belowF]
    congr 1
    have : ∀ l : List Int, (∀ k ∈ l, Hg K n k) → l.flatMap (belowF K (n + 1)) = l.flatMap (belowF K n) := fun l hl => by
      induction l with
      | nil => rfl
      | cons k l ih => rw [List.flatMap_cons, List.flatMap_cons, below_more n (hl k (by simp)), ih fun x hx => hl x (by simp [hx])]
    exact this _ h
/-- Who is below. -/
theorem below_iff {L : Nodes} (hw : WF L) {id x : Int} {l : List Int} (h : hasW L id = true) (hx : PathN L x l) : x ∈ belowF (kidsN L) 64 id ↔ id ∈ l := by
  have hg := hg64 hw h
  constructor
  · intro hb
    obtain ⟨li, hp⟩ := hw.path id h
    obtain ⟨A, hA⟩ := below_path hw 64 hp hb
    rw [hx.det hA]
    obtain ⟨r, rfl⟩ := hp.head
    simp
  · intro hm
    induction l generalizing x with
    | nil => cases hm
    | cons y r ih =>
      have hxy := hx.1
      subst hxy
      rcases List.mem_cons.1 hm with rfl | hm
      · show id ∈ belowF (kidsN L) (63 + 1) id
        rw [belowF]; exact List.mem_cons_self
      · obtain ⟨_, h2⟩ := hx
        by_cases e : y = 1
        · rw [if_pos e] at h2; rw [h2] at hm; cases hm
        · rw [if_neg e] at h2
          obtain ⟨u, hu, hp⟩ := h2
          have := below_kid 64 (ih hp hm) ((kid_iff hw.nd).2 hu)
          rwa [below_more 64 hg] at this
theorem after_iff {K : Int → List Int} {x : Int} : ∀ (n : Nat) {id : Int}, x ∈ afterF K n id ↔ x ∈ belowF K n id
  | 0, _ => by simp [afterF, belowF]
  | n + 1, id => by
    simp only [afterF, belowF, List.mem_append, List.mem_flatMap, List.mem_cons, List.not_mem_nil, or_false]
    constructor
    · rintro (⟨k, hk, h⟩ | h)
      · exact .inr ⟨k, hk, (after_iff n).1 h⟩
      · exact .inl h
    · rintro (h | ⟨k, hk, h⟩)
      · exact .inr h
      · exact .inl ⟨k, hk, (after_iff n).2 h⟩
end Go.AM
