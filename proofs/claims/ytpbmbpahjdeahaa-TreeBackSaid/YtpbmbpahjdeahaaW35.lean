
/- Chapter 28: there and back, plainly. -/
import Derived.Test.YtpbmbpahjdeahaaW21
set_option linter.all false
namespace Go.AM
open Go Go.Proofs

theorem up_has {L : Nodes} (hw : WF L) {a p : Int} (h : lk L a = some p) : hasW L p = true := by
  obtain ⟨l, hl⟩ := hw.path a (has_lk h)
  obtain ⟨r, rfl⟩ := hl.head
  obtain ⟨_, h2⟩ := hl
  rw [if_neg (fun e => by rw [e, hw.root] at h; cases h)] at h2
  obtain ⟨u, hu, hp⟩ := h2
  rw [h] at hu
  injection hu with hu
  subst hu
  exact hp.has
theorem move_sib {L : Nodes} (hw : WF L) {a p : Int} (h : lk L a = some p) : moveN L a p = (withoutN L a ++ [(a, p)], 0) := by
  have h1 : a ≠ 1 := fun e => by rw [e, hw.root] at h; cases h
  have ho : otherN L a = 0 := by
    unfold otherN
    rw [if_neg h1, if_neg (by simp [has_lk h])]
  unfold moveN
  rw [if_neg (by simp [ho]), if_neg (by simp [up_has hw h]), if_neg (up_not_below hw h)]
theorem offL_app (l m : List Int) (id : Int) : offL (l ++ m) id = offL l id ++ offL m id := by simp [offL]

/-- Added, and removed. -/
theorem add_rem {L : Nodes} (hw : WF L) {id p : Int} (h : (addN L id p).2 = 0) : ∃ L'', remN (addN L id p).1 id = (L'', [id], 0) ∧ kidsN L'' = kidsN L := by
  unfold addN at *
  by_cases h1 : checkI id = 0
  case neg => rw [if_pos h1] at h; exact absurd h h1
  rw [if_neg (by simp [h1])] at h ⊢
  by_cases h2 : hasW L id = true
  case pos => rw [if_pos h2] at h; cases h
  rw [if_neg h2] at h ⊢
  have h2 : hasW L id = false := by simpa using h2
  by_cases h3 : hasW L p = true
  case neg => rw [if_pos (by simpa using h3)] at h; cases h
  rw [if_neg (by simp [h3])] at h ⊢
  by_cases h4 : 63 ≤ L.length
  case pos => rw [if_pos h4] at h; cases h
  rw [if_neg h4]
  dsimp only
  have hid : lk L id = none := by
    unfold hasW at h2
    cases hx : lk L id with
    | none => rfl
    | some u => rw [hx] at h2; simp at h2
  have hne : id ≠ 1 := fun e => by rw [e, has_one] at h2; cases h2
  have hpi : p ≠ id := fun e => by rw [e, h2] at h3; cases h3
  have hk : kidsN L id = [] := by
    rw [List.eq_nil_iff_forall_not_mem]
    intro k hk
    have := up_has hw ((kid_iff hw.nd).1 hk)
    rw [h2] at this; cases this
  have hni : ∀ q, id ∉ kidsN L q := fun q hq => by
    have := (kid_iff hw.nd).1 hq
    rw [hid] at this; cases this
  have hk' : kidsN (L ++ [(id, p)]) id = [] := by rw [kidsN_snoc, hk, if_neg hpi]; rfl
  have ho : otherN (L ++ [(id, p)]) id = 0 := by
    unfold otherN
    rw [if_neg hne, if_neg]
    rw [has_lk (u := p) (by rw [lk_snocN hid, if_pos rfl])]; simp
  have ha : afterF (kidsN (L ++ [(id, p)])) 64 id = [id] := by simp [afterF, hk']
  refine ⟨_, by unfold remN; rw [if_neg (by simp [ho]), ha], funext fun q => ?_⟩
  rw [kids_gone, kidsN_snoc, List.filter_append]
  have e1 : (kidsN L q).filter (fun x => !decide (x ∈ [id])) = kidsN L q := List.filter_eq_self.2 fun x hx => by
    have : x ≠ id := fun e => hni q (e ▸ hx)
    simpa using this
  rw [e1]
  split <;> simp

/-- Where one is placed. -/
theorem place_at {L : Nodes} (hw : WF L) {id u : Int} (hu : lk L id = some u) {a : Nat} (ha : a < (kidsN L u).length) : ∃ L', placeN L id (a : Int) = (L', 0) ∧ lk L' id = some u ∧ (∀ q, kidsN L' q = if q = u then ins (offL (kidsN L u) id) a id else offL (kidsN L q) id) := by
  have h1 : id ≠ 1 := fun e => by rw [e, hw.root] at hu; cases hu
  have ho : otherN L id = 0 := by
    unfold otherN
    rw [if_neg h1, if_neg (by simp [has_lk hu])]
  have hup : upN L id = u := by unfold upN; rw [hu]; rfl
  have hm : id ∈ kidsN L u := (kid_iff hw.nd).2 hu
  have hlen := offL_one (kids_nd hw.nd u) hm
  have hle : a ≤ (kidsN (withoutN L id) u).length := by rw [kids_without]; omega
  refine ⟨plF u id a 0 (withoutN L id), ?_, ?_, fun q => ?_⟩
  · unfold placeN
    rw [if_neg (by simp [ho]), hup, if_neg (by rintro (h | h) <;> omega)]
    simp
  · rw [(place_lk hw hu hle).2, hu]
  · rw [plF_kids u id a q _ 0 (by omega) (by omega), kids_without, kids_without]; rfl
theorem offL_ins {l : List Int} {id : Int} (h : id ∉ l) (a : Nat) : offL (ins l a id) id = l := by
  unfold ins
  rw [offL_app, show id :: l.drop a = [id] ++ l.drop a from rfl, offL_app, offL_self (fun e => h (List.mem_of_mem_take e)), offL_self (fun e => h (List.mem_of_mem_drop e))]
  simp [offL]
theorem offL_not (l : List Int) (id : Int) : id ∉ offL l id := by simp [offL]
theorem ins_at_it {A C : List Int} {id : Int} : ins (A ++ C) A.length id = A ++ id :: C := by simp [ins]
theorem offL_mid {A C : List Int} {id : Int} (h1 : id ∉ A) (h2 : id ∉ C) : offL (A ++ id :: C) id = A ++ C := by
  rw [offL_app, show id :: C = [id] ++ C from rfl, offL_app, offL_self h1, offL_self h2]
  simp [offL]
theorem place_back {L : Nodes} (hw : WF L) {id u : Int} (hu : lk L id = some u) {A C : List Int} (hk : kidsN L u = A ++ id :: C) {L1 : Nodes} (hw1 : WF L1) (hu1 : lk L1 id = some u) {a : Nat}
    (h1 : ∀ q, kidsN L1 q = if q = u then ins (offL (kidsN L u) id) a id else offL (kidsN L q) id) (hl : (kidsN L1 u).length = (kidsN L u).length) : ∃ L2, placeN L1 id (A.length : Int) = (L2, 0) ∧ kidsN L2 = kidsN L := by
  obtain ⟨L2, e1, _, e3⟩ := place_at hw1 hu1 (a := A.length) (by rw [hl, hk]; simp)
  refine ⟨L2, e1, funext fun q => ?_⟩
  have hnd := kids_nd hw.nd u
  rw [hk] at hnd
  have hA : id ∉ A := fun h => (List.nodup_append.1 hnd).2.2 _ h _ (by simp) rfl
  have hC : id ∉ C := (List.nodup_cons.1 (List.nodup_append.1 hnd).2.1).1
  rw [e3]
  by_cases hq : q = u
  · rw [if_pos hq, h1, if_pos rfl, offL_ins (offL_not _ _), hk, offL_mid hA hC, ins_at_it, hq, hk]
  · rw [if_neg hq, h1, if_neg hq, offL_self (offL_not _ _), offL_self]
    intro h
    have := (kid_iff hw.nd).1 h
    rw [hu] at this
    injection this with this
    exact hq this.symm
theorem move_top {L : Nodes} (hw : WF L) {id u : Int} (hu : lk L id = some u) {L3 : Nodes} (h3 : ∀ q, kidsN L3 q = if q = u then ins (offL (kidsN L u) id) ((kidsN L u).length - 1) id else offL (kidsN L q) id) : kidsN (withoutN L id ++ [(id, u)]) = kidsN L3 := by
  funext q
  rw [kidsN_snoc, kids_without, h3]
  by_cases hq : q = u
  · have hm : id ∈ kidsN L u := (kid_iff hw.nd).2 hu
    have hlen := offL_one (kids_nd hw.nd u) hm
    rw [if_pos hq.symm, if_pos hq, hq]
    unfold ins
    rw [List.take_of_length_le (by omega), List.drop_eq_nil_of_le (by omega)]
  · rw [if_neg (Ne.symm hq), if_neg hq]; simp
end Go.AM
